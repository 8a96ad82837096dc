/- encode, Encode (the program's). -/
import Derived.DeepKeys4
import Derived.Maps.Own
import Derived.Lib.LazyBuf
import Derived.Test.YtohmmcahpakokaaGreatJ11
import Derived.Test.YtohmmcahpakokaaGreatJ14
import Derived.Test.YtohmmcahpakokaaGreatJ15
set_option maxRecDepth 100000
set_option maxHeartbeats 8000000
set_option linter.unusedSectionVars false
set_option linter.unusedVariables false
set_option linter.unusedSimpArgs false
namespace Go.Proofs.YtohmmcahpakokaaGreat
section
open Go.RowKit
attribute [local go_sem ↓] Go.wp_at_zero Go.wp_at_succ
def fA (L:List OpR):List UInt8:=L.flatMap dF
theorem nW (a b:List OpR):fA (a ++ b)=fA a ++ fA b:=by simp [fA]
def lW (ac sq:Int) (L:List OpR):List UInt8:=[toB ac,toB sq,toB (L.length:Int)] ++ fA L
theorem yJ {R:OpR} {w:World} (hv:vOp R=true) (hR:R.ok w):(dF R).length≤3000:=by
 have h1:=hR.pre.len
 have h2:=hR.prf.len
 have b1:=yW hv
 have b2:=yV hv
 rcases iC R.k with h | h | h | h | h | h | h
 ·rw [aAz h];simp [iF]
 ·rw [aAy h];simp [iF,aG]
 ·rw [aAx h];simp [iF,aG,sH];omega
 ·rw [aAw h];simp [iF,aG]
 ·rw [aAv h];simp [iF]
 ·rw [aAu h];simp [sH];omega
 exact absurd (tG hv) h
theorem OwnB.len {w:World} {base:Nat} {e:TypeId} {A:Option Addr} {n c:Nat} {l:List UInt8} (h:OwnB w base e A n c l):l.length=n:=h.sl.len
theorem aGI (w:World) (base:Nat) (e:TypeId) (x y z:Int) (g:Nat) (hg:w.heap.size=g) (hb:base≤g) (x' y' z':Int) (hx:x'=((toB x).toNat:Int)) (hy:y'=((toB y).toNat:Int)) (hz:z'=((toB z).toNat:Int)):OwnB (w.alloc (.cells #[.int .u8 x',.int .u8 y',.int .u8 z'] e)) base e (some ⟨g,0,none⟩) 3 3 [toB x,toB y,toB z]:=by
 subst hg;subst hx;subst hy;subst hz
 exact xU (heap_alloc_new w _) hb rfl (Nat.le_refl _) (by omega) rfl rfl
theorem aBb (z:Int):IntKind.u8.wrap z=((toB z).toNat:Int):=dY z
theorem aDC (ac sq:Int) (A:Option Addr) (n c:Nat) (L:List OpR) (w:World) (hS:SlO w A n c L) (hv:vTx ac sq L=true) :
  Calls Tryz.prog 110 #[.agg (txA ac sq A n c)] w fun e w'=>∃ A' n' c',e=.returned (.slice A' n' c')∧OwnB w' w.heap.size 5 A' n' c' (lW ac sq L)∧n'≤13000∧Ext w w':=by
 obtain ⟨⟨h1,h2,h3,h4,h5,h6⟩,hops⟩:=eO hv
 have hlen:=hS.len
 rw [hlen] at h5 h6
 have hle:=hS.le
 have hcap:=hS.cap
 have hE:=(Ext.refl w).alloc' (.cells (txA ac sq A n c) 24)
 obtain ⟨b,o,rfl,hr0,hb0⟩:=hS.at (by omega)
 have HSW:=zh (hS.ext hE)
 have HLEN:=zh hlen
 have HR0:=zh hr0
 have HBL:=zh hb0
 have HOPS:=zh hops
 have HE:=zh hE
 obtain ⟨w1,hw1⟩:∃ w1,w1=w.alloc (.cells (txA ac sq (some ⟨b,o,none⟩) n c) 24):=⟨_,rfl⟩
 have HW1:=zh hw1
 have HT1:=zh (aBb (n:Int))
 clear hS hE hr0 hb0 hops hlen hv hw1
 go_enter Tryz.func110,Tryz.ntmps110
 go_wp2_with fail
 go_loopw [20,3] (fun i v wr=>∃ (k:Nat) (A4:Option Addr) (n4 c4:Nat),k≤n∧i=.int .i64 (k:Int)∧v=.slice A4 n4 c4∧n4≤3+3000 * k∧OwnB wr w1.heap.size 5 A4 n4 c4 ([toB ac,toB sq,toB (n:Int)] ++ fA (L.take k))∧Ext w1 wr) (fun i _ _=>n - (intOf i).toNat)
 case atStart =>
  refine ⟨0,_,3,3,Nat.zero_le _,rfl,rfl,Nat.le_refl _,?_,?_⟩
  ·rw [HW1.out]
   simp only [fA,List.take_zero,List.flatMap_nil,List.append_nil]
   exact aGI _ _ _ _ _ _ _ (by simp) (by simp) _ _ _ (by first | exact bT _ | (rw [← bT];omega)) (by first | exact bT _ | (rw [← bT];omega)) (by first | exact bT _ | (rw [← bT];omega))
  rw [HW1.out];exact (Ext.refl _).alloc' _
 case round =>
  obtain ⟨k,A4,n4,c4,hk,rfl,rfl,hn4,hO,hX⟩:=hrel
  have HO:=zh hO
  have HX:=zh hX
  clear hO hX
  by_cases hlt:k < n
  ·have HE2 := zh (show Ext w wr from by rw [HW1.out] at HX; exact HE.out.trans HX.out)
   have hr:=kW (aX HR0.out (HE2.out.block b HBL.out)) (k:=k) (by rw [HLEN.out];exact hlt)
   have HTK:=zh (mZ (L:=L) (k:=k) (by rw [HLEN.out];exact hlt))
   have HOK:=zh (show (aY L k).ok w1 by rw [HW1.out];exact HSW.out.nth hlt)
   have HV:=zh (HOPS.out k (by rw [HLEN.out];exact hlt))
   have i0:(0:Int)≤(k:Int):=by omega
   have i1:(k:Int) < (n:Int):=by omega
   obtain ⟨R,hR⟩:∃ R,aY L k=R:=⟨_,rfl⟩
   rw [hR] at hr HTK HOK HV
   clear hR
   have hnew:=aHd wr R
   go_wp2_with (first | (with_reducible refine fC rfl (.tmp 22) rfl b (o+k * 23) rfl R hr ?_) | (with_reducible refine rM rfl (.tmp 5) (.tmp 23) rfl _ rfl R rfl rfl ?_) | (with_reducible refine fC rfl (.tmp 5) rfl wr.heap.size 0 rfl R hnew ?_))
   refine (aAM R HV.out w1 A4 n4 c4 _ _ HOK.out (HX.out.alloc' _) (HO.out.alloc _) (by omega)).mono ?_
   rintro e w2 ⟨A5,n5,c5,rfl,hO5,hX5⟩
   have HO7:=zh (show OwnB w2 w1.heap.size 5 A5 n5 c5 ([toB ac,toB sq,toB (n:Int)] ++ fA (L.take (k+1))) by
    rw [HTK.out,nW]
    simpa [fA] using hO5)
   have hn5:n5≤3+3000 * (k+1):=by
    have a1:=hO5.len
    have a2:=HO.out.len
    have a3:=yJ HV.out HOK.out
    rw [List.length_append,a2] at a1
    omega
   have HX5:=zh hX5
   clear hO5 hX5 hr hnew HO HTK
   go_wp2_with fail
   go_roundw
   case rel=>exact ⟨k+1,A5,n5,c5,by omega,by go_num,rfl,hn5,HO7.out,HX5.out⟩
   case measure=>simp [intOf];omega
  obtain rfl:k=n:=by omega
  go_wp2_with fail
  go_ret
  refine ⟨A4,n4,c4,rfl,bB (base:=w1.heap.size) ?_ (by rw [HW1.out];simp),by omega,by rw [HW1.out] at HX;exact HE.out.trans HX.out⟩
  have:=HO.out
  unfold lW
  rw [List.take_of_length_le (Nat.le_of_eq HLEN.out)] at this
  rw [HLEN.out]
  exact this
theorem kR {w:World} {g:Nat} {t:TypeId} {ac sq:Int} {A:Option Addr} {n c:Nat} {S:Option Addr} {m d:Nat} (h:Blk w g t (stA ac sq A n c S m d)):w.cell? ⟨g,0,none⟩=some (.int .i64 ac)∧w.cell? ⟨g,1,none⟩=some (.int .i64 sq)∧w.cell? ⟨g,2,none⟩=some (.slice A n c)∧w.cell? ⟨g,3,none⟩=some (.slice S m d) :=
 ⟨h.cell 0,h.cell 1,h.cell 2,h.cell 3⟩
end
section
open Go.RowKit
def kC (seed:UInt64) (a t:Int) (j:Nat) (m:UInt64):List UInt64:=fI (sQ seed a t (j:Int)) m ++ fG (bY seed a t) j
theorem zZ (seed:UInt64) (a t:Int) (j:Nat) (m:UInt64) (h:j < 32):(kC seed a t j m).length=23:=by
 have h1:=yK j h
 simp only [kC,fI,List.length_append,List.length_map,List.length_range,pP,mS,h1]
theorem aLs (w:World):Calls Tryz.prog 201 #[.int .i64 1] w fun e w'=>e=.returned (.int .i64 32)∧w=w':=gM 1 w
@[go_sem] theorem aKi (n:UInt64):Array.foldl (fun (cs:Array Value) (x:Value × Nat)=>cs.setIfInBounds x.snd x.fst) #[.int .u8 0,.int .u8 0,.int .u8 0,.int .u8 0,.int .u8 0,.int .u8 0,.int .u8 0,.int .u8 0,.int .i64 0,.map none] (nmc n).zipIdx 0 8=#[.int .u8 (nb8 n 0),.int .u8 (nb8 n 1),.int .u8 (nb8 n 2),.int .u8 (nb8 n 3),.int .u8 (nb8 n 4),.int .u8 (nb8 n 5),.int .u8 (nb8 n 6),.int .u8 (nb8 n 7),.int .i64 0,.map none]:=by
 rw [← gH n]
 kernel_rfl
theorem aGw (seed m:UInt64) (leaf t r:Nat) (h:leaf=32 * t+r) (hl:leaf < 32):mI seed 1 (leaf:Int) m=some ([toB ((leaf:Int) / 256),toB (leaf:Int)] ++ (kC seed 1 (t:Int) r m).flatMap nmb):=by
 obtain rfl:t=0:=by omega
 obtain rfl:leaf=r:=by omega
 unfold mI
 rw [if_pos ⟨rfl,by omega,by omega⟩,Int.toNat_natCast]
 congr 1
 simp only [wF,kC,List.flatMap_append,List.append_assoc]
 rw [show (leaf:Int) / 256=0 from by omega]
 rfl
theorem aGv (seed m:UInt64) (leaf t r:Nat) (h:leaf=32 * t+r) (hr:r < 32) (hl:leaf < 1024):mI seed 2 (leaf:Int) m=some ([toB ((leaf:Int) / 256),toB (leaf:Int)] ++ (kC seed 1 (t:Int) r m).flatMap nmb ++ (kC seed 2 0 t (dE (bY seed 1 (t:Int)))).flatMap nmb):=by
 unfold mI
 rw [if_neg (by omega),if_pos ⟨rfl,by omega,by omega⟩,Int.toNat_natCast,← aEc seed m leaf t r hr h]
 have e3:(leaf:Int).tmod 32=(r:Int):=by
  rw [Int.tmod_eq_emod_of_nonneg (by omega)];omega
 rw [e3]
 simp only [kC,List.flatMap_append,List.append_assoc]
end
section
open Go.RowKit
attribute [local go_sem ↓] Go.wp_at_zero Go.wp_at_succ
theorem aJa (z:Int):beI 1 z=[toB z]:=by
 unfold beI cH cH toB
 simp only [List.nil_append]
 congr 2
 omega
theorem bV (A:Option Addr) (n c:Nat) (l:List UInt8) (z:Int) (w:World) (h:SlB w A n c l) (hn:n≤140737488351232) :
  Calls Tryz.prog 86 #[.slice A n c,.int .i64 z,.int .i64 1] w fun e w'=>∃ A' c',e=.returned (.slice A' (n+1) c')∧OwnB w' w.heap.size 5 A' (n+1) c' (l ++ [toB z])∧Ext w w':=by
 rw [← aJa];exact oI A n c l z 1 (by omega) (by omega) w h hn
end
section
open Go.RowKit
def ofV (v:OpV):OpR:=⟨v.k,v.tO,v.am,v.ul,v.va,v.lk,v.hs,none,v.pre.length,0,v.pre,none,v.prf.length,0,v.prf⟩
theorem aIE {R Q:OpR} (h:R.v=Q.v):dF R=dF Q:=by
 unfold OpR.v at h
 injection h with h1 h2 h3 h4 h5 h6 h7 h8 h9
 unfold dF
 rw [h1,h2,h3,h4,h5,h6,h7,h8,h9]
theorem aHs {L M:List OpR} (h:L.map OpR.v=M.map OpR.v):fA L=fA M:=by
 have e:∀ K:List OpR,fA K=((K.map OpR.v).map ofV).flatMap dF:=fun K=>by
  unfold fA
  induction K with
  | nil=>rfl
  | cons R r ih =>
   rw [List.flatMap_cons,ih]
   simp only [List.map_cons,List.flatMap_cons]
   rw [show dF (ofV R.v)=dF R from aIE rfl]
 rw [e L,e M,h]
section
variable {β:Type} [DecidableEq β]
structure STO (lt:β→β→Bool):Prop where
 irrefl:∀ x,lt x x=false
 trans:∀ x y z,lt x y=true→lt y z=true→lt x z=true
 total:∀ x y,lt x y=false→lt y x=false→x=y
variable {lt:β→β→Bool}
theorem STO.asymm (h:STO lt) {x y:β} (hxy:lt x y=true):lt y x=false:=by
 cases hyx:lt y x with
 | false=>rfl
 | true=>have:=h.trans x y x hxy hyx;rw [h.irrefl] at this;cases this
theorem STO.ntrans (h:STO lt) {x y z:β} (h1:lt x y=false) (h2:lt y z=false):lt x z=false:=by
 cases hxz:lt x z with
 | false=>rfl
 | true =>
  cases hyx:lt y x with
  | true=>have:=h.trans y x z hyx hxz;rw [h2] at this;cases this
  | false =>
   obtain rfl:=h.total x y h1 hyx
   rw [h2] at hxz;cases hxz
def Asc (lt:β→β→Bool) (L:List β):Prop:=L.Pairwise fun x y=>lt x y=true
def qB (lt:β→β→Bool) (x:β):List β→List β
 | []=>[x]
 | y :: r=>if lt y x=true then y :: qB lt x r else if y=x then y :: r else x :: y :: r
def vA (lt:β→β→Bool) (acc L:List β):List β:=L.foldl (fun acc x=>qB lt x acc) acc
def oX (lt:β→β→Bool) (L:List β):List β:=vA lt [] L
theorem aBG (h:STO lt) (x y:β) (L:List β):y ∈ qB lt x L ↔ y=x ∨ y ∈ L:=by
 induction L with
 | nil=>simp [qB]
 | cons z r ih =>
  unfold qB
  split
  ·simp only [List.mem_cons, ih]
   constructor
   ·rintro (h | h | h) <;> simp [h]
   rintro (h | h | h) <;> simp [h]
  split
  ·rename_i h1 h2; subst h2; simp only [List.mem_cons]
   constructor
   ·rintro (h | h) <;> simp [h]
   rintro (h | h | h) <;> simp [h]
  simp only [List.mem_cons]
theorem vZ (h:STO lt) (x:β) (L:List β) (hL:Asc lt L):Asc lt (qB lt x L):=by
 induction L with
 | nil=>simp [qB,Asc]
 | cons z r ih =>
  unfold Asc at hL ih ⊢
  obtain ⟨h1,h2⟩:=List.pairwise_cons.1 hL
  unfold qB
  split
  ·rename_i hz
   refine List.pairwise_cons.2 ⟨fun y hy=>?_,ih h2⟩
   rcases (aBG h x y r).1 hy with rfl | hy
   ·exact hz
   exact h1 y hy
  rename_i hz
  split
  ·exact hL
  rename_i hne
  have hxz:lt x z=true:=by
   cases hh:lt x z with
   | true=>rfl
   | false=>exact absurd (h.total z x (by simpa using hz) hh) hne
  refine List.pairwise_cons.2 ⟨fun y hy=>?_,hL⟩
  rcases List.mem_cons.1 hy with rfl | hy
  ·exact hxz
  exact h.trans _ _ _ hxz (h1 y hy)
theorem aDn (h:STO lt) (y:β) (L acc:List β):y ∈ vA lt acc L ↔ y ∈ acc ∨ y ∈ L:=by
 induction L generalizing acc with
 | nil=>simp [vA]
 | cons x r ih =>
  show y ∈ vA lt (qB lt x acc) r ↔ _
  rw [ih,aBG h,List.mem_cons]
  constructor
  ·rintro ((h | h) | h) <;> simp [h]
  rintro (h | h | h) <;> simp [h]
theorem aDJ (h:STO lt) (L acc:List β) (ha:Asc lt acc):Asc lt (vA lt acc L):=by
 induction L generalizing acc with
 | nil=>exact ha
 | cons x r ih=>exact ih _ (vZ h x acc ha)
theorem aDo (h:STO lt) (y:β) (L:List β):y ∈ oX lt L ↔ y ∈ L:=by
 unfold oX;rw [aDn h];simp
theorem aDK (h:STO lt) (L:List β):Asc lt (oX lt L):=aDJ h L [] List.Pairwise.nil
theorem qN (h:STO lt):∀ (L M:List β),Asc lt L→Asc lt M→(∀ y,y ∈ L ↔ y ∈ M)→L=M
 | [],[],_,_,_=>rfl
 | [],y :: s,_,_,he=>by have:=(he y).2 (by simp);simp at this
 | x :: r,[],_,_,he=>by have:=(he x).1 (by simp);simp at this
 | x :: r,y :: s,hL,hM,he=>by
  unfold Asc at hL hM
  obtain ⟨a1,a2⟩:=List.pairwise_cons.1 hL
  obtain ⟨b1,b2⟩:=List.pairwise_cons.1 hM
  have hxy:x=y:=by
   rcases List.mem_cons.1 ((he x).1 (by simp)) with e | e
   ·exact e
   rcases List.mem_cons.1 ((he y).2 (by simp)) with e' | e'
   ·exact e'.symm
   have h1:=b1 x e
   have h2:=a1 y e'
   rw [h.asymm h1] at h2;cases h2
  subst hxy
  rw [qN h r s a2 b2 (fun z=>by
   have hz:=he z
   simp only [List.mem_cons] at hz
   constructor
   ·intro hr
    rcases hz.1 (Or.inr hr) with e | e
    ·subst e;have:=a1 z hr;rw [h.irrefl] at this;cases this
    exact e
   intro hs
   rcases hz.2 (Or.inr hs) with e | e
   ·subst e;have:=b1 z hs;rw [h.irrefl] at this;cases this
   exact e)]
def lB:β→List β→List β
 | _,[]=>[]
 | p,y :: r=>if y=p then lB p r else y :: lB y r
def compO:List β→List β
 | []=>[]
 | x :: r=>x :: lB x r
theorem aFv (y:β):∀ (L:List β) (p:β),y ∈ p :: lB p L ↔ y ∈ p :: L:=by
 intro L
 induction L with
 | nil=>intro p;rfl
 | cons x r ih =>
  intro p
  unfold lB
  split
  ·rename_i e; subst e
   rw [ih x];simp
  rename_i e
  rw [List.mem_cons,ih x,List.mem_cons,List.mem_cons,List.mem_cons]
theorem aFu (y:β) (L:List β):y ∈ compO L ↔ y ∈ L:=by
 cases L with
 | nil=>rfl
 | cons x r=>exact aFv y r x
def Wsc (lt:β→β→Bool) (L:List β):Prop:=L.Pairwise fun x y=>lt y x=false
theorem aFT (h:STO lt):∀ (L:List β) (p:β),Wsc lt (p :: L)→Asc lt (p :: lB p L):=by
 intro L
 induction L with
 | nil=>intro p _;exact List.pairwise_singleton _ _
 | cons x r ih =>
  intro p hW
  unfold Wsc at hW
  obtain ⟨h1,h2⟩:=List.pairwise_cons.1 hW
  obtain ⟨h3,h4⟩:=List.pairwise_cons.1 h2
  unfold lB
  split
  ·rename_i e;subst e;exact ih x h2
  rename_i e
  have hx:=ih x h2
  have hpx:lt p x=true:=by
   cases hh:lt p x with
   | true=>rfl
   | false=>exact absurd (h.total x p (h1 x (by simp)) hh) e
  refine List.pairwise_cons.2 ⟨fun y hy=>?_,hx⟩
  rcases List.mem_cons.1 hy with rfl | hy
  ·exact hpx
  exact h.trans _ _ _ hpx ((List.pairwise_cons.1 hx).1 y hy)
theorem aFS (h:STO lt) {L:List β} (hW:Wsc lt L):Asc lt (compO L):=by
 cases L with
 | nil=>exact List.Pairwise.nil
 | cons x r=>exact aFT h r x hW
theorem aCj (h:STO lt) {L M:List β} (hW:Wsc lt M) (he:∀ y,y ∈ M ↔ y ∈ L):compO M=oX lt L :=
 qN h _ _ (aFS h hW) (aDK h L) (fun y=>by rw [aFu,aDo h,he])
theorem aDF (L:List β) (x y:β):compO (L ++ [x,y])=if y=x then compO (L ++ [x]) else compO (L ++ [x]) ++ [y]:=by
 have key:∀ (L:List β) (p x:β),lB p (L ++ [x,y])=if y=x then lB p (L ++ [x]) else lB p (L ++ [x]) ++ [y]:=by
  intro L
  induction L with
  | nil =>
   intro p x
   simp only [List.nil_append,lB]
   by_cases h1:x=p
   ·subst h1;by_cases h2:y=x <;> simp [h2]
   by_cases h2:y=x <;> simp [h1,h2]
  | cons z r ih =>
   intro p x
   simp only [List.cons_append,lB]
   split
   ·exact ih p x
   rw [ih z x];split <;> simp
 cases L with
 | nil=>simp only [List.nil_append,compO,lB];split <;> simp
 | cons z r =>
  simp only [List.cons_append,compO]
  rw [key];split <;> simp
end
theorem aFP (v:UInt64) (c p:Int) (a b:Nat):cE (cE v c p a) c (p+a) b=cE v c p (a+b):=by
 induction b with
 | zero=>rfl
 | succ b ih =>
  show dM 33 (nmb (cE (cE v c p a) c (p+a) b) ++ [toB c,toB (p+a+b)])=dM 33 (nmb (cE v c p (a+b)) ++ [toB c,toB (p+((a+b:Nat):Int))])
  rw [ih,show p+(a:Int)+(b:Int)=p+((a+b:Nat):Int) from by omega]
theorem aHa (F:Nat→UInt64) (n c:Nat) (h:c < n):gC ((List.range n).map F) c=F c:=by
 unfold gC;simp [List.getD,h]
theorem aHU (seed m:UInt64):cS m (fI seed m)=uH seed:=by
 unfold cS uH
 have key:(List.range 18).map (zV m (fI seed m))=(List.range 18).map (zX seed):=?_
 ·rw [key]
 refine List.map_congr_left fun c hc=>?_
 have hc:c < 18:=List.mem_range.1 hc
 have hd:=aDE m c hc
 unfold zV fI zX
 rw [aHa _ _ _ hc]
 unfold oF
 have h:=aFP (oD seed c) (c:Int) 0 (dig m c).toNat (15 - dig m c).toNat
 rw [show (0:Int)+((dig m c).toNat:Int)=dig m c from by omega,show (dig m c).toNat+(15 - dig m c).toNat=15 from by omega] at h
 exact h
theorem vF (ns:List UInt64):(ns.flatMap nmb).length=8 * ns.length:=by
 induction ns with
 | nil=>rfl
 | cons x r ih=>rw [List.flatMap_cons,List.length_append,aG,ih,List.length_cons];omega
theorem aFr (pre rest:List UInt8) (ns:List UInt64) (k at_:Nat) (hp:pre.length=at_) (hk:k < ns.length):nN (pre ++ (ns.flatMap nmb ++ rest)) at_ k=gC ns k:=by
 have hs:ns=ns.take k ++ (gC ns k :: ns.drop (k+1)):=by
  conv=>lhs;rw [← List.take_append_drop k ns]
  rw [List.drop_eq_getElem_cons hk];simp [gC,List.getD,hk]
 have e:(pre ++ (ns.flatMap nmb ++ rest)).drop (at_+k * 8)=nmb (gC ns k) ++ ((ns.drop (k+1)).flatMap nmb ++ rest):=by
  conv=>lhs;rw [hs]
  rw [List.flatMap_append,List.flatMap_cons]
  have hl:(pre ++ (ns.take k).flatMap nmb).length=at_+k * 8:=by
   rw [List.length_append,vF,List.length_take,hp,Nat.min_eq_left (by omega)];omega
  rw [show pre ++ ((ns.take k).flatMap nmb ++ (nmb (gC ns k) ++ (ns.drop (k+1)).flatMap nmb) ++ rest)=(pre ++ (ns.take k).flatMap nmb) ++ (nmb (gC ns k) ++ ((ns.drop (k+1)).flatMap nmb ++ rest)) from by simp only [List.append_assoc]]
  rw [← hl,List.drop_left]
 unfold nN
 rw [e]
 have hl8:=aG (gC ns k)
 rw [show (8:Nat)=(nmb (gC ns k)).length from hl8.symm,List.take_left,uJ]
theorem uQ (pre rest:List UInt8) (ns:List UInt64) (at_ n:Nat) (hp:pre.length=at_) (hn:ns.length=n):bG (pre ++ (ns.flatMap nmb ++ rest)) at_ n=ns:=by
 subst hn
 refine List.ext_getElem (by simp [bG]) fun k h1 h2=>?_
 simp only [bG,List.getElem_map,List.getElem_range]
 rw [aFr pre rest ns k at_ hp h2]
 simp [gC,List.getD,h2]
theorem oW (pre rest:List UInt8) (seed m:UInt64) (a t:Int) (j at_:Nat) (hp:pre.length=at_) (hj:j < 32):fB (pre ++ ((kC seed a t j m).flatMap nmb ++ rest)) at_ j m=dE (bY seed a t):=by
 have hl:=mS seed a t
 have h1:(fI (sQ seed a t (j:Int)) m).length=18:=by simp [fI]
 have h2:(fG (bY seed a t) j).length=5:=by rw [pP,hl,yK j hj]
 unfold fB kC
 rw [List.flatMap_append,List.append_assoc,uQ pre _ _ at_ 18 hp h1,aHU]
 rw [show pre ++ ((fI (sQ seed a t (j:Int)) m).flatMap nmb ++ ((fG (bY seed a t) j).flatMap nmb ++ rest))=(pre ++ (fI (sQ seed a t (j:Int)) m).flatMap nmb) ++ ((fG (bY seed a t) j).flatMap nmb ++ rest) from by simp only [List.append_assoc]]
 rw [uQ _ _ _ (at_+144) 5 (by rw [List.length_append,vF,h1,hp]) h2]
 have h:=aCi (bY seed a t) j (by omega)
 rw [hl] at h
 rw [← h]
 congr 1
 simp [bY,kG,List.getD,hj]
theorem pQ (leaf:Nat) (h:leaf < 1024) (rest:List UInt8):bX ([toB ((leaf:Int) / 256),toB (leaf:Int)] ++ rest) 0 2=leaf:=by
 have e1:=bT ((leaf:Int) / 256)
 have e2:=bT (leaf:Int)
 simp only [bX,List.drop_zero,List.cons_append,List.nil_append,List.take_succ_cons,List.take_zero,bH,List.length_cons,List.length_nil]
 omega
theorem aER (seed m:UInt64) (lv:Int) (leaf:Nat) (h:(lv=1∧leaf < 32) ∨ (lv=2∧leaf < 1024)):∃ s,mI seed lv leaf m=some s∧(s.length:Int)=jX lv∧bX s 0 2=leaf∧mA (kK seed lv) lv m s=true∧mA (kK seed lv) (3 - lv) m s=false:=by
 have hp1:∀ (a t:Int) (j:Nat) (m:UInt64),j < 32→((kC seed a t j m).flatMap nmb).length=184:=fun a t j m hj=>by rw [vF,zZ _ _ _ _ _ hj]
 rcases h with ⟨rfl,hl⟩ | ⟨rfl,hl⟩
 ·have e := aGw seed m leaf 0 leaf (by omega) hl
  refine ⟨_,e,?_,?_,?_,?_⟩
  ·rw [List.length_append,hp1 _ _ _ _ hl];rfl
  ·exact pQ leaf (by omega) _
  ·unfold mA
   rw [if_pos rfl,pQ leaf (by omega) _,Nat.mod_eq_of_lt hl]
   have hc:=oW [toB ((leaf:Int) / 256),toB (leaf:Int)] [] seed m 1 ((0:Nat):Int) leaf 2 rfl hl
   rw [List.append_nil] at hc
   rw [hc,List.length_append,hp1 _ _ _ _ hl]
   have hpv:kK seed 1=dE (bY seed 1 ((0:Nat):Int)):=by unfold kK;rw [if_pos (by omega)];rfl
   rw [hpv]
   simp [hl]
  refine oB _ _ _ _ ?_
  rw [List.length_append,hp1 _ _ _ _ hl,show [toB ((leaf:Int) / 256),toB (leaf:Int)].length=2 from rfl];decide
 have e:=aGv seed m leaf (leaf / 32) (leaf % 32) (by omega) (by omega) hl
 have hr:leaf % 32 < 32:=by omega
 have ht:leaf / 32 < 32:=by omega
 refine ⟨_,e,?_,?_,?_,?_⟩
 ·rw [List.length_append,List.length_append,hp1 _ _ _ _ hr,hp1 _ _ _ _ ht];rfl
 ·rw [List.append_assoc];exact pQ leaf (by omega) _
 ·unfold mA
  rw [if_neg (by omega),if_pos rfl]
  have hn:=pQ leaf hl ((kC seed 1 ((leaf / 32:Nat):Int) (leaf % 32) m).flatMap nmb ++ (kC seed 2 0 (leaf / 32) (dE (bY seed 1 ((leaf / 32:Nat):Int)))).flatMap nmb)
  rw [← List.append_assoc] at hn
  rw [hn]
  have hc:=oW [toB ((leaf:Int) / 256),toB (leaf:Int)] ((kC seed 2 0 (leaf / 32) (dE (bY seed 1 ((leaf / 32:Nat):Int)))).flatMap nmb) seed m 1 ((leaf / 32:Nat):Int) (leaf % 32) 2 rfl hr
  rw [← List.append_assoc] at hc
  have hc2:=oW ([toB ((leaf:Int) / 256),toB (leaf:Int)] ++ (kC seed 1 ((leaf / 32:Nat):Int) (leaf % 32) m).flatMap nmb) [] seed (dE (bY seed 1 ((leaf / 32:Nat):Int))) 2 0 (leaf / 32) 186 (by rw [List.length_append,hp1 _ _ _ _ hr];rfl) ht
  rw [List.append_nil] at hc2
  rw [hc,hc2,List.length_append,List.length_append,hp1 _ _ _ _ hr,hp1 _ _ _ _ ht]
  have hpv:kK seed 2=dE (bY seed 2 0):=by unfold kK;rw [if_pos (by omega)];rfl
  rw [hpv]
  simp [hl]
 refine oB _ _ _ _ ?_
 rw [List.length_append,List.length_append,hp1 _ _ _ _ hr,hp1 _ _ _ _ ht,show [toB ((leaf:Int) / 256),toB (leaf:Int)].length=2 from rfl];decide
end
end Go.Proofs.YtohmmcahpakokaaGreat
