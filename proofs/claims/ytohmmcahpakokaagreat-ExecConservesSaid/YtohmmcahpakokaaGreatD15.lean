/- encode, Encode (the program's). -/
import Derived.DeepKeys4
import Derived.Maps.Own
import Derived.Lib.LazyBuf
import Derived.Test.YtohmmcahpakokaaGreatD10
import Derived.Test.YtohmmcahpakokaaGreatD12
import Derived.Test.YtohmmcahpakokaaGreatD14
import Derived.Test.YtohmmcahpakokaaGreatLay
set_option maxRecDepth 100000
set_option maxHeartbeats 8000000
set_option linter.unusedSectionVars false
set_option linter.unusedVariables false
set_option linter.unusedSimpArgs false
namespace Go.Proofs.YtohmmcahpakokaaGreat
section
open Go.RowKit
attribute [local go_sem ↓] Go.wp_at_zero Go.wp_at_succ
def encOps (L:List OpR):List UInt8:=L.flatMap encOp
theorem encOps_append (a b:List OpR):encOps (a ++ b)=encOps a ++ encOps b:=by simp [encOps]
def encTx (ac sq:Int) (L:List OpR):List UInt8:=[toB ac,toB sq,toB (L.length:Int)] ++ encOps L
theorem encOp_len {R:OpR} {w:World} (hv:vOp R=true) (hR:R.ok w):(encOp R).length≤3000:=by
 have h1:=hR.pre.len
 have h2:=hR.prf.len
 have b1:=vOp_pre hv
 have b2:=vOp_prf hv
 rcases kind_cases R.k with h | h | h | h | h | h | h
 ·rw [encOp_1 h];simp [beI_length]
 ·rw [encOp_2 h];simp [beI_length,nL]
 ·rw [encOp_3 h];simp [beI_length,nL,blob_length];omega
 ·rw [encOp_4 h];simp [beI_length,nL]
 ·rw [encOp_5 h];simp [beI_length]
 ·rw [encOp_6 h];simp [blob_length];omega
 exact absurd (vOp_kind hv) h
theorem OwnB.len {w:World} {base:Nat} {e:TypeId} {A:Option Addr} {n c:Nat} {l:List UInt8} (h:OwnB w base e A n c l):l.length=n:=h.sl.len
theorem own_lit3 (w:World) (base:Nat) (e:TypeId) (x y z:Int) (g:Nat) (hg:w.heap.size=g) (hb:base≤g) (x' y' z':Int) (hx:x'=((toB x).toNat:Int)) (hy:y'=((toB y).toNat:Int)) (hz:z'=((toB z).toNat:Int)):OwnB (w.alloc (.cells #[.int .u8 x',.int .u8 y',.int .u8 z'] e)) base e (some ⟨g,0,none⟩) 3 3 [toB x,toB y,toB z]:=by
 subst hg;subst hx;subst hy;subst hz
 exact own_cells (heap_alloc_new w _) hb rfl (Nat.le_refl _) (by omega) rfl rfl
theorem toB_wrapped (z:Int):IntKind.u8.wrap z=((toB z).toNat:Int):=toB_wrap z
theorem encode_any (ac sq:Int) (A:Option Addr) (n c:Nat) (L:List OpR) (w:World) (hS:SlO w A n c L) (hv:vTx ac sq L=true) :
  Calls Tryz.prog 110 #[.agg (txA ac sq A n c)] w fun e w'=>∃ A' n' c',e=.returned (.slice A' n' c')∧OwnB w' w.heap.size 5 A' n' c' (encTx ac sq L)∧n'≤13000∧Ext w w':=by
 obtain ⟨⟨h1,h2,h3,h4,h5,h6⟩,hops⟩:=vTx_of hv
 have hlen:=hS.len
 rw [hlen] at h5 h6
 have hle:=hS.le
 have hcap:=hS.cap
 have hE:=(Ext.refl w).alloc' (.cells (txA ac sq A n c) 24)
 obtain ⟨b,o,rfl,hr0,hb0⟩:=hS.at (by omega)
 have HSW:=zh (hS.ext hE)
 have HLEN:=zh hlen
 have HR0:=zh hr0
 have HBL:=zh hb0
 have HOPS:=zh hops
 have HE:=zh hE
 obtain ⟨w1,hw1⟩:∃ w1,w1=w.alloc (.cells (txA ac sq (some ⟨b,o,none⟩) n c) 24):=⟨_,rfl⟩
 have HW1:=zh hw1
 have HT1:=zh (toB_wrapped (n:Int))
 clear hS hE hr0 hb0 hops hlen hv hw1
 go_enter Tryz.func110,Tryz.ntmps110
 go_wp2_with fail
 go_loopw [20,3] (fun i v wr=>∃ (k:Nat) (A4:Option Addr) (n4 c4:Nat),k≤n∧i=.int .i64 (k:Int)∧v=.slice A4 n4 c4∧n4≤3+3000 * k∧OwnB wr w1.heap.size 5 A4 n4 c4 ([toB ac,toB sq,toB (n:Int)] ++ encOps (L.take k))∧Ext w1 wr) (fun i _ _=>n - (intOf i).toNat)
 case atStart =>
  refine ⟨0,_,3,3,Nat.zero_le _,rfl,rfl,Nat.le_refl _,?_,?_⟩
  ·rw [HW1.out]
   simp only [encOps,List.take_zero,List.flatMap_nil,List.append_nil]
   exact own_lit3 _ _ _ _ _ _ _ (by simp) (by simp) _ _ _ (by first | exact toB_eq _ | (rw [← toB_eq];omega)) (by first | exact toB_eq _ | (rw [← toB_eq];omega)) (by first | exact toB_eq _ | (rw [← toB_eq];omega))
  rw [HW1.out];exact (Ext.refl _).alloc' _
 case round =>
  obtain ⟨k,A4,n4,c4,hk,rfl,rfl,hn4,hO,hX⟩:=hrel
  have HO:=zh hO
  have HX:=zh hX
  clear hO hX
  by_cases hlt:k < n
  ·have HE2 := zh (show Ext w wr from by rw [HW1.out] at HX; exact HE.out.trans HX.out)
   have hr:=op_at (rangeAt_keep HR0.out (HE2.out.block b HBL.out)) (k:=k) (by rw [HLEN.out];exact hlt)
   have HTK:=zh (take_nthO (L:=L) (k:=k) (by rw [HLEN.out];exact hlt))
   have HOK:=zh (show (nthO L k).ok w1 by rw [HW1.out];exact HSW.out.nth hlt)
   have HV:=zh (HOPS.out k (by rw [HLEN.out];exact hlt))
   have i0:(0:Int)≤(k:Int):=by omega
   have i1:(k:Int) < (n:Int):=by omega
   obtain ⟨R,hR⟩:∃ R,nthO L k=R:=⟨_,rfl⟩
   rw [hR] at hr HTK HOK HV
   clear hR
   have hnew:=new_op wr R
   go_wp2_with (first | (with_reducible refine wpList_loadO rfl (.tmp 22) rfl b (o+k * 23) rfl R hr ?_) | (with_reducible refine wpList_newO rfl (.tmp 5) (.tmp 23) rfl _ rfl R rfl rfl ?_) | (with_reducible refine wpList_loadO rfl (.tmp 5) rfl wr.heap.size 0 rfl R hnew ?_))
   refine (appendOp_any R HV.out w1 A4 n4 c4 _ _ HOK.out (HX.out.alloc' _) (HO.out.alloc _) (by omega)).mono ?_
   rintro e w2 ⟨A5,n5,c5,rfl,hO5,hX5⟩
   have HO7:=zh (show OwnB w2 w1.heap.size 5 A5 n5 c5 ([toB ac,toB sq,toB (n:Int)] ++ encOps (L.take (k+1))) by
    rw [HTK.out,encOps_append]
    simpa [encOps] using hO5)
   have hn5:n5≤3+3000 * (k+1):=by
    have a1:=hO5.len
    have a2:=HO.out.len
    have a3:=encOp_len HV.out HOK.out
    rw [List.length_append,a2] at a1
    omega
   have HX5:=zh hX5
   clear hO5 hX5 hr hnew HO HTK
   go_wp2_with fail
   go_roundw
   case rel=>exact ⟨k+1,A5,n5,c5,by omega,by go_num,rfl,hn5,HO7.out,HX5.out⟩
   case measure=>simp [intOf];omega
  obtain rfl:k=n:=by omega
  go_wp2_with fail
  go_ret
  refine ⟨A4,n4,c4,rfl,own_mono (base:=w1.heap.size) ?_ (by rw [HW1.out];simp),by omega,by rw [HW1.out] at HX;exact HE.out.trans HX.out⟩
  have:=HO.out
  unfold encTx
  rw [List.take_of_length_le (Nat.le_of_eq HLEN.out)] at this
  rw [HLEN.out]
  exact this
theorem st_facts {w:World} {g:Nat} {t:TypeId} {ac sq:Int} {A:Option Addr} {n c:Nat} {S:Option Addr} {m d:Nat} (h:Blk w g t (stA ac sq A n c S m d)):w.cell? ⟨g,0,none⟩=some (.int .i64 ac)∧w.cell? ⟨g,1,none⟩=some (.int .i64 sq)∧w.cell? ⟨g,2,none⟩=some (.slice A n c)∧w.cell? ⟨g,3,none⟩=some (.slice S m d) :=
 ⟨h.cell 0,h.cell 1,h.cell 2,h.cell 3⟩
theorem hLess_any (x y:UInt64) (w:World):Calls Tryz.prog 245 #[.agg (nmc x),.agg (nmc y)] w fun e w'=>e=.returned (.bool (decide (un x < un y)))∧Ext w w':=by
 have hE:=((Ext.refl w).alloc' (.cells (nmc x) 30)).alloc' (.cells (nmc y) 30)
 have HB1:=zh ((Blk.new w 30 (nmc x)).alloc (.cells (nmc y) 30))
 have HB2:=zh (show Blk ((w.alloc (.cells (nmc x) 30)).alloc (.cells (nmc y) 30)) (w.heap.size+1) 30 (nmc y) from Blk.newAt _ _ _ _ (by simp))
 have HE:=zh hE
 obtain ⟨W0,hW0⟩:∃ W0,(w.alloc (.cells (nmc x) 30)).alloc (.cells (nmc y) 30)=W0:=⟨_,rfl⟩
 rw [hW0] at HB1 HB2 HE
 have HC:=zh (fun (W:World) (h:Ext W0 W)=>And.intro (cells8 (HB1.out.ext h)) (cells8 (HB2.out.ext h)))
 clear hE
 have hq:=fun W=>run_eqN x y W
 obtain ⟨c1,c2⟩:=HC.out W0 (Ext.refl _)
 by_cases hxy:x=y
 ·have HV := zh (show decide (un x < un y) = false by rw [hxy]; simp)
  rw [decide_eq_true hxy] at hq
  clear hxy
  go_enter Tryz.func245,Tryz.ntmps245
  go_wp2_with fail
  go_ret
  exact ⟨by rw [HV.out];rfl,HE.out⟩
 rw [decide_eq_false hxy] at hq
 clear hxy
 go_enter Tryz.func245,Tryz.ntmps245
 go_wp2_with fail
 clear c1 c2 hq
 refine wp_region_plan (S:=fun W=>Ext W0 W) (by kernel_rfl) (by kernel_rfl) ((Ext.refl W0).drew') ?_
 (refine zzx 0 ?_ (hy:=by intro W jS;obtain ⟨c1,c2⟩:=HC.out W jS;go_simp <;> with_reducible rfl))
 (refine plan_take (i:=1) (oi:=⟨some 9,.call { callee:=.value (.func 167),args:=#[.tmp 8],argTypes:=#[30] },148,"hash.go:47",#[⟨0,.data⟩],none⟩) (v:=?_) rfl (by kernel_rfl) (by kernel_rfl) (fx_call (by rfl) (fun W jS K hK=>?hy1)) ?_;case hy1=>(go_simp;go_at_call 167;(with_reducible refine (number_any x W).mono ?_);rintro e w1 ⟨rfl,he1⟩;exact hK.out _ (jS.trans he1)))
 try simp only [lays]
 (refine zzx 2 ?_ (hy:=by intro W jS;obtain ⟨c1,c2⟩:=HC.out W jS;go_simp <;> with_reducible rfl))
 (refine plan_take (i:=3) (oi:=⟨some 11,.call { callee:=.value (.func 167),args:=#[.tmp 10],argTypes:=#[30] },148,"hash.go:47",#[⟨2,.data⟩,⟨1,.chain⟩],none⟩) (v:=?_) rfl (by kernel_rfl) (by kernel_rfl) (fx_call (by rfl) (fun W jS K hK=>?hy3)) ?_;case hy3=>(go_simp;go_at_call 167;(with_reducible refine (number_any y W).mono ?_);rintro e w1 ⟨rfl,he1⟩;exact hK.out _ (jS.trans he1)))
 try simp only [lays]
 (refine zzx 4 ?_)
 (refine zzx 5 ?_)
 refine Plan.done (by kernel_rfl) (fun W jS=>?_)
 have HX:=zh (HE.out.trans jS)
 clear jS
 go_wp2_with fail
 go_ret
 exact ⟨rfl,HX.out⟩
end
section
open Go.RowKit
def partU (seed:UInt64) (a t:Int) (j:Nat) (m:UInt64):List UInt64:=oneSig (keyU seed a t (j:Int)) m ++ pathU (leavesU seed a t) j
theorem partU_length (seed:UInt64) (a t:Int) (j:Nat) (m:UInt64) (h:j < 32):(partU seed a t j m).length=23:=by
 have h1:=dep32 j h
 simp only [partU,oneSig,List.length_append,List.length_map,List.length_range,pathU_length,leavesU_length,h1]
@[go_sem] theorem fold_nmc10 (n:UInt64):Array.foldl (fun (cs:Array Value) (x:Value × Nat)=>cs.setIfInBounds x.snd x.fst) #[.int .u8 0,.int .u8 0,.int .u8 0,.int .u8 0,.int .u8 0,.int .u8 0,.int .u8 0,.int .u8 0,.int .i64 0,.map none] (nmc n).zipIdx 0 8=#[.int .u8 (nb8 n 0),.int .u8 (nb8 n 1),.int .u8 (nb8 n 2),.int .u8 (nb8 n 3),.int .u8 (nb8 n 4),.int .u8 (nb8 n 5),.int .u8 (nb8 n 6),.int .u8 (nb8 n 7),.int .i64 0,.map none]:=by
 rw [← nmc_nb8 n]
 kernel_rfl
theorem sigU_one (seed m:UInt64) (leaf t r:Nat) (h:leaf=32 * t+r) (hl:leaf < 32):sigU seed 1 (leaf:Int) m=some ([toB ((leaf:Int) / 256),toB (leaf:Int)] ++ (partU seed 1 (t:Int) r m).flatMap nmb):=by
 obtain rfl:t=0:=by omega
 obtain rfl:leaf=r:=by omega
 unfold sigU
 rw [if_pos ⟨rfl,by omega,by omega⟩,Int.toNat_natCast]
 congr 1
 simp only [sig1,partU,List.flatMap_append,List.append_assoc]
 rw [show (leaf:Int) / 256=0 from by omega]
 rfl
theorem sigU_two (seed m:UInt64) (leaf t r:Nat) (h:leaf=32 * t+r) (hr:r < 32) (hl:leaf < 1024):sigU seed 2 (leaf:Int) m=some ([toB ((leaf:Int) / 256),toB (leaf:Int)] ++ (partU seed 1 (t:Int) r m).flatMap nmb ++ (partU seed 2 0 t (rootU (leavesU seed 1 (t:Int)))).flatMap nmb):=by
 unfold sigU
 rw [if_neg (by omega),if_pos ⟨rfl,by omega,by omega⟩,Int.toNat_natCast,← sig2_eq seed m leaf t r hr h]
 have e3:(leaf:Int).tmod 32=(r:Int):=by
  rw [Int.tmod_eq_emod_of_nonneg (by omega)];omega
 rw [e3]
 simp only [partU,List.flatMap_append,List.append_assoc]
section
variable {β:Type} [DecidableEq β]
structure STO (lt:β→β→Bool):Prop where
 irrefl:∀ x,lt x x=false
 trans:∀ x y z,lt x y=true→lt y z=true→lt x z=true
 total:∀ x y,lt x y=false→lt y x=false→x=y
variable {lt:β→β→Bool}
theorem STO.asymm (h:STO lt) {x y:β} (hxy:lt x y=true):lt y x=false:=by
 cases hyx:lt y x with
 | false=>rfl
 | true=>have:=h.trans x y x hxy hyx;rw [h.irrefl] at this;cases this
theorem STO.ntrans (h:STO lt) {x y z:β} (h1:lt x y=false) (h2:lt y z=false):lt x z=false:=by
 cases hxz:lt x z with
 | false=>rfl
 | true =>
  cases hyx:lt y x with
  | true=>have:=h.trans y x z hyx hxz;rw [h2] at this;cases this
  | false =>
   obtain rfl:=h.total x y h1 hyx
   rw [h2] at hxz;cases hxz
def Asc (lt:β→β→Bool) (L:List β):Prop:=L.Pairwise fun x y=>lt x y=true
def insO (lt:β→β→Bool) (x:β):List β→List β
 | []=>[x]
 | y :: r=>if lt y x=true then y :: insO lt x r else if y=x then y :: r else x :: y :: r
def insAll (lt:β→β→Bool) (acc L:List β):List β:=L.foldl (fun acc x=>insO lt x acc) acc
def canonO (lt:β→β→Bool) (L:List β):List β:=insAll lt [] L
theorem mem_insO (h:STO lt) (x y:β) (L:List β):y ∈ insO lt x L ↔ y=x ∨ y ∈ L:=by
 induction L with
 | nil=>simp [insO]
 | cons z r ih =>
  unfold insO
  split
  ·simp only [List.mem_cons, ih]
   constructor
   ·rintro (h | h | h) <;> simp [h]
   rintro (h | h | h) <;> simp [h]
  split
  ·rename_i h1 h2; subst h2; simp only [List.mem_cons]
   constructor
   ·rintro (h | h) <;> simp [h]
   rintro (h | h | h) <;> simp [h]
  simp only [List.mem_cons]
theorem asc_insO (h:STO lt) (x:β) (L:List β) (hL:Asc lt L):Asc lt (insO lt x L):=by
 induction L with
 | nil=>simp [insO,Asc]
 | cons z r ih =>
  unfold Asc at hL ih ⊢
  obtain ⟨h1,h2⟩:=List.pairwise_cons.1 hL
  unfold insO
  split
  ·rename_i hz
   refine List.pairwise_cons.2 ⟨fun y hy=>?_,ih h2⟩
   rcases (mem_insO h x y r).1 hy with rfl | hy
   ·exact hz
   exact h1 y hy
  rename_i hz
  split
  ·exact hL
  rename_i hne
  have hxz:lt x z=true:=by
   cases hh:lt x z with
   | true=>rfl
   | false=>exact absurd (h.total z x (by simpa using hz) hh) hne
  refine List.pairwise_cons.2 ⟨fun y hy=>?_,hL⟩
  rcases List.mem_cons.1 hy with rfl | hy
  ·exact hxz
  exact h.trans _ _ _ hxz (h1 y hy)
theorem mem_insAll (h:STO lt) (y:β) (L acc:List β):y ∈ insAll lt acc L ↔ y ∈ acc ∨ y ∈ L:=by
 induction L generalizing acc with
 | nil=>simp [insAll]
 | cons x r ih =>
  show y ∈ insAll lt (insO lt x acc) r ↔ _
  rw [ih,mem_insO h,List.mem_cons]
  constructor
  ·rintro ((h | h) | h) <;> simp [h]
  rintro (h | h | h) <;> simp [h]
theorem asc_insAll (h:STO lt) (L acc:List β) (ha:Asc lt acc):Asc lt (insAll lt acc L):=by
 induction L generalizing acc with
 | nil=>exact ha
 | cons x r ih=>exact ih _ (asc_insO h x acc ha)
theorem mem_canonO (h:STO lt) (y:β) (L:List β):y ∈ canonO lt L ↔ y ∈ L:=by
 unfold canonO;rw [mem_insAll h];simp
theorem asc_canonO (h:STO lt) (L:List β):Asc lt (canonO lt L):=asc_insAll h L [] List.Pairwise.nil
theorem asc_uniq (h:STO lt):∀ (L M:List β),Asc lt L→Asc lt M→(∀ y,y ∈ L ↔ y ∈ M)→L=M
 | [],[],_,_,_=>rfl
 | [],y :: s,_,_,he=>by have:=(he y).2 (by simp);simp at this
 | x :: r,[],_,_,he=>by have:=(he x).1 (by simp);simp at this
 | x :: r,y :: s,hL,hM,he=>by
  unfold Asc at hL hM
  obtain ⟨a1,a2⟩:=List.pairwise_cons.1 hL
  obtain ⟨b1,b2⟩:=List.pairwise_cons.1 hM
  have hxy:x=y:=by
   rcases List.mem_cons.1 ((he x).1 (by simp)) with e | e
   ·exact e
   rcases List.mem_cons.1 ((he y).2 (by simp)) with e' | e'
   ·exact e'.symm
   have h1:=b1 x e
   have h2:=a1 y e'
   rw [h.asymm h1] at h2;cases h2
  subst hxy
  rw [asc_uniq h r s a2 b2 (fun z=>by
   have hz:=he z
   simp only [List.mem_cons] at hz
   constructor
   ·intro hr
    rcases hz.1 (Or.inr hr) with e | e
    ·subst e;have:=a1 z hr;rw [h.irrefl] at this;cases this
    exact e
   intro hs
   rcases hz.2 (Or.inr hs) with e | e
   ·subst e;have:=b1 z hs;rw [h.irrefl] at this;cases this
   exact e)]
def compA:β→List β→List β
 | _,[]=>[]
 | p,y :: r=>if y=p then compA p r else y :: compA y r
def compO:List β→List β
 | []=>[]
 | x :: r=>x :: compA x r
theorem mem_compA (y:β):∀ (L:List β) (p:β),y ∈ p :: compA p L ↔ y ∈ p :: L:=by
 intro L
 induction L with
 | nil=>intro p;rfl
 | cons x r ih =>
  intro p
  unfold compA
  split
  ·rename_i e; subst e
   rw [ih x];simp
  rename_i e
  rw [List.mem_cons,ih x,List.mem_cons,List.mem_cons,List.mem_cons]
theorem mem_compO (y:β) (L:List β):y ∈ compO L ↔ y ∈ L:=by
 cases L with
 | nil=>rfl
 | cons x r=>exact mem_compA y r x
def Wsc (lt:β→β→Bool) (L:List β):Prop:=L.Pairwise fun x y=>lt y x=false
theorem asc_compA (h:STO lt):∀ (L:List β) (p:β),Wsc lt (p :: L)→Asc lt (p :: compA p L):=by
 intro L
 induction L with
 | nil=>intro p _;exact List.pairwise_singleton _ _
 | cons x r ih =>
  intro p hW
  unfold Wsc at hW
  obtain ⟨h1,h2⟩:=List.pairwise_cons.1 hW
  obtain ⟨h3,h4⟩:=List.pairwise_cons.1 h2
  unfold compA
  split
  ·rename_i e;subst e;exact ih x h2
  rename_i e
  have hx:=ih x h2
  have hpx:lt p x=true:=by
   cases hh:lt p x with
   | true=>rfl
   | false=>exact absurd (h.total x p (h1 x (by simp)) hh) e
  refine List.pairwise_cons.2 ⟨fun y hy=>?_,hx⟩
  rcases List.mem_cons.1 hy with rfl | hy
  ·exact hpx
  exact h.trans _ _ _ hpx ((List.pairwise_cons.1 hx).1 y hy)
theorem asc_compO (h:STO lt) {L:List β} (hW:Wsc lt L):Asc lt (compO L):=by
 cases L with
 | nil=>exact List.Pairwise.nil
 | cons x r=>exact asc_compA h r x hW
theorem compO_canon (h:STO lt) {L M:List β} (hW:Wsc lt M) (he:∀ y,y ∈ M ↔ y ∈ L):compO M=canonO lt L :=
 asc_uniq h _ _ (asc_compO h hW) (asc_canonO h L) (fun y=>by rw [mem_compO,mem_canonO h,he])
theorem compO_snoc (L:List β) (x y:β):compO (L ++ [x,y])=if y=x then compO (L ++ [x]) else compO (L ++ [x]) ++ [y]:=by
 have key:∀ (L:List β) (p x:β),compA p (L ++ [x,y])=if y=x then compA p (L ++ [x]) else compA p (L ++ [x]) ++ [y]:=by
  intro L
  induction L with
  | nil =>
   intro p x
   simp only [List.nil_append,compA]
   by_cases h1:x=p
   ·subst h1;by_cases h2:y=x <;> simp [h2]
   by_cases h2:y=x <;> simp [h1,h2]
  | cons z r ih =>
   intro p x
   simp only [List.cons_append,compA]
   split
   ·exact ih p x
   rw [ih z x];split <;> simp
 cases L with
 | nil=>simp only [List.nil_append,compO,compA];split <;> simp
 | cons z r =>
  simp only [List.cons_append,compO]
  rw [key];split <;> simp
end
theorem chain_add (v:UInt64) (c p:Int) (a b:Nat):chainTo (chainTo v c p a) c (p+a) b=chainTo v c p (a+b):=by
 induction b with
 | zero=>rfl
 | succ b ih =>
  show tagU 33 (nmb (chainTo (chainTo v c p a) c (p+a) b) ++ [toB c,toB (p+a+b)])=tagU 33 (nmb (chainTo v c p (a+b)) ++ [toB c,toB (p+((a+b:Nat):Int))])
  rw [ih,show p+(a:Int)+(b:Int)=p+((a+b:Nat):Int) from by omega]
theorem nthN_map (F:Nat→UInt64) (n c:Nat) (h:c < n):nthN ((List.range n).map F) c=F c:=by
 unfold nthN;simp [List.getD,h]
theorem rec_sig (seed m:UInt64):oneRec m (oneSig seed m)=onePub seed:=by
 unfold oneRec onePub
 have key:(List.range 18).map (recF m (oneSig seed m))=(List.range 18).map (pubF seed):=?_
 ·rw [key]
 refine List.map_congr_left fun c hc=>?_
 have hc:c < 18:=List.mem_range.1 hc
 have hd:=dig_bd m c hc
 unfold recF oneSig pubF
 rw [nthN_map _ _ _ hc]
 unfold sigF
 have h:=chain_add (startU seed c) (c:Int) 0 (dig m c).toNat (15 - dig m c).toNat
 rw [show (0:Int)+((dig m c).toNat:Int)=dig m c from by omega,show (dig m c).toNat+(15 - dig m c).toNat=15 from by omega] at h
 exact h
theorem flat_len (ns:List UInt64):(ns.flatMap nmb).length=8 * ns.length:=by
 induction ns with
 | nil=>rfl
 | cons x r ih=>rw [List.flatMap_cons,List.length_append,nL,ih,List.length_cons];omega
theorem nmAt_flat (pre rest:List UInt8) (ns:List UInt64) (k at_:Nat) (hp:pre.length=at_) (hk:k < ns.length):nmAt (pre ++ (ns.flatMap nmb ++ rest)) at_ k=nthN ns k:=by
 have hs:ns=ns.take k ++ (nthN ns k :: ns.drop (k+1)):=by
  conv=>lhs;rw [← List.take_append_drop k ns]
  rw [List.drop_eq_getElem_cons hk];simp [nthN,List.getD,hk]
 have e:(pre ++ (ns.flatMap nmb ++ rest)).drop (at_+k * 8)=nmb (nthN ns k) ++ ((ns.drop (k+1)).flatMap nmb ++ rest):=by
  conv=>lhs;rw [hs]
  rw [List.flatMap_append,List.flatMap_cons]
  have hl:(pre ++ (ns.take k).flatMap nmb).length=at_+k * 8:=by
   rw [List.length_append,flat_len,List.length_take,hp,Nat.min_eq_left (by omega)];omega
  rw [show pre ++ ((ns.take k).flatMap nmb ++ (nmb (nthN ns k) ++ (ns.drop (k+1)).flatMap nmb) ++ rest)=(pre ++ (ns.take k).flatMap nmb) ++ (nmb (nthN ns k) ++ ((ns.drop (k+1)).flatMap nmb ++ rest)) from by simp only [List.append_assoc]]
  rw [← hl,List.drop_left]
 unfold nmAt
 rw [e]
 have hl8:=nL (nthN ns k)
 rw [show (8:Nat)=(nmb (nthN ns k)).length from hl8.symm,List.take_left,ofNm_nmb]
theorem names_flat (pre rest:List UInt8) (ns:List UInt64) (at_ n:Nat) (hp:pre.length=at_) (hn:ns.length=n):namesU (pre ++ (ns.flatMap nmb ++ rest)) at_ n=ns:=by
 subst hn
 refine List.ext_getElem (by simp [namesU]) fun k h1 h2=>?_
 simp only [namesU,List.getElem_map,List.getElem_range]
 rw [nmAt_flat pre rest ns k at_ hp h2]
 simp [nthN,List.getD,h2]
theorem climb_part (pre rest:List UInt8) (seed m:UInt64) (a t:Int) (j at_:Nat) (hp:pre.length=at_) (hj:j < 32):climbU (pre ++ ((partU seed a t j m).flatMap nmb ++ rest)) at_ j m=rootU (leavesU seed a t):=by
 have hl:=leavesU_length seed a t
 have h1:(oneSig (keyU seed a t (j:Int)) m).length=18:=by simp [oneSig]
 have h2:(pathU (leavesU seed a t) j).length=5:=by rw [pathU_length,hl,dep32 j hj]
 unfold climbU partU
 rw [List.flatMap_append,List.append_assoc,names_flat pre _ _ at_ 18 hp h1,rec_sig]
 rw [show pre ++ ((oneSig (keyU seed a t (j:Int)) m).flatMap nmb ++ ((pathU (leavesU seed a t) j).flatMap nmb ++ rest))=(pre ++ (oneSig (keyU seed a t (j:Int)) m).flatMap nmb) ++ ((pathU (leavesU seed a t) j).flatMap nmb ++ rest) from by simp only [List.append_assoc]]
 rw [names_flat _ _ _ (at_+144) 5 (by rw [List.length_append,flat_len,h1,hp]) h2]
 have h:=compU_pathU (leavesU seed a t) j (by omega)
 rw [hl] at h
 rw [← h]
 congr 1
 simp [leavesU,leavesF,List.getD,hj]
theorem num_leaf (leaf:Nat) (h:leaf < 1024) (rest:List UInt8):numAt ([toB ((leaf:Int) / 256),toB (leaf:Int)] ++ rest) 0 2=leaf:=by
 have e1:=toB_eq ((leaf:Int) / 256)
 have e2:=toB_eq (leaf:Int)
 simp only [numAt,List.drop_zero,List.cons_append,List.nil_append,List.take_succ_cons,List.take_zero,beNat,List.length_cons,List.length_nil]
 omega
theorem sig_right (seed m:UInt64) (lv:Int) (leaf:Nat) (h:(lv=1∧leaf < 32) ∨ (lv=2∧leaf < 1024)):∃ s,sigU seed lv leaf m=some s∧(s.length:Int)=sizeZ lv∧numAt s 0 2=leaf∧verU (pubV seed lv) lv m s=true∧verU (pubV seed lv) (3 - lv) m s=false:=by
 have hp1:∀ (a t:Int) (j:Nat) (m:UInt64),j < 32→((partU seed a t j m).flatMap nmb).length=184:=fun a t j m hj=>by rw [flat_len,partU_length _ _ _ _ _ hj]
 rcases h with ⟨rfl,hl⟩ | ⟨rfl,hl⟩
 ·have e := sigU_one seed m leaf 0 leaf (by omega) hl
  refine ⟨_,e,?_,?_,?_,?_⟩
  ·rw [List.length_append,hp1 _ _ _ _ hl];rfl
  ·exact num_leaf leaf (by omega) _
  ·unfold verU
   rw [if_pos rfl,num_leaf leaf (by omega) _,Nat.mod_eq_of_lt hl]
   have hc:=climb_part [toB ((leaf:Int) / 256),toB (leaf:Int)] [] seed m 1 ((0:Nat):Int) leaf 2 rfl hl
   rw [List.append_nil] at hc
   rw [hc,List.length_append,hp1 _ _ _ _ hl]
   have hpv:pubV seed 1=rootU (leavesU seed 1 ((0:Nat):Int)):=by unfold pubV;rw [if_pos (by omega)];rfl
   rw [hpv]
   simp [hl]
  refine verU_short _ _ _ _ ?_
  rw [List.length_append,hp1 _ _ _ _ hl,show [toB ((leaf:Int) / 256),toB (leaf:Int)].length=2 from rfl];decide
 have e:=sigU_two seed m leaf (leaf / 32) (leaf % 32) (by omega) (by omega) hl
 have hr:leaf % 32 < 32:=by omega
 have ht:leaf / 32 < 32:=by omega
 refine ⟨_,e,?_,?_,?_,?_⟩
 ·rw [List.length_append,List.length_append,hp1 _ _ _ _ hr,hp1 _ _ _ _ ht];rfl
 ·rw [List.append_assoc];exact num_leaf leaf (by omega) _
 ·unfold verU
  rw [if_neg (by omega),if_pos rfl]
  have hn:=num_leaf leaf hl ((partU seed 1 ((leaf / 32:Nat):Int) (leaf % 32) m).flatMap nmb ++ (partU seed 2 0 (leaf / 32) (rootU (leavesU seed 1 ((leaf / 32:Nat):Int)))).flatMap nmb)
  rw [← List.append_assoc] at hn
  rw [hn]
  have hc:=climb_part [toB ((leaf:Int) / 256),toB (leaf:Int)] ((partU seed 2 0 (leaf / 32) (rootU (leavesU seed 1 ((leaf / 32:Nat):Int)))).flatMap nmb) seed m 1 ((leaf / 32:Nat):Int) (leaf % 32) 2 rfl hr
  rw [← List.append_assoc] at hc
  have hc2:=climb_part ([toB ((leaf:Int) / 256),toB (leaf:Int)] ++ (partU seed 1 ((leaf / 32:Nat):Int) (leaf % 32) m).flatMap nmb) [] seed (rootU (leavesU seed 1 ((leaf / 32:Nat):Int))) 2 0 (leaf / 32) 186 (by rw [List.length_append,hp1 _ _ _ _ hr];rfl) ht
  rw [List.append_nil] at hc2
  rw [hc,hc2,List.length_append,List.length_append,hp1 _ _ _ _ hr,hp1 _ _ _ _ ht]
  have hpv:pubV seed 2=rootU (leavesU seed 2 0):=by unfold pubV;rw [if_pos (by omega)];rfl
  rw [hpv]
  simp [hl]
 refine verU_short _ _ _ _ ?_
 rw [List.length_append,List.length_append,hp1 _ _ _ _ hr,hp1 _ _ _ _ ht,show [toB ((leaf:Int) / 256),toB (leaf:Int)].length=2 from rfl];decide
end
end Go.Proofs.YtohmmcahpakokaaGreat
