/- Votes: which are valid, their bytes, their order. Plain: no program in sight. -/
import Derived.DeepKeys4
import Derived.Maps.Own
import Derived.Lib.LazyBuf
import Derived.Test.YtohmmcahpakokaaGreatK14
import Derived.Test.YtohmmcahpakokaaGreatK15
set_option maxRecDepth 100000
set_option maxHeartbeats 8000000
set_option linter.unusedSectionVars false
set_option linter.unusedVariables false
set_option linter.unusedSimpArgs false
namespace Go.Proofs.YtohmmcahpakokaaGreat
open Go.RowKit
def lexI:List Int→List Int→Bool
 | x :: r,y :: s=>if x=y then lexI r s else decide (x < y)
 | _,_=>false
theorem lexI_irrefl (l:List Int):lexI l l=false:=by
 induction l with
 | nil=>rfl
 | cons x r ih=>simp [lexI,ih]
theorem lexI_trans:∀ (a b c:List Int),lexI a b=true→lexI b c=true→lexI a c=true
 | [],_,_,h,_=>by simp [lexI] at h
 | _ :: _,[],_,h,_=>by simp [lexI] at h
 | _ :: _,_ :: _,[],_,h=>by simp [lexI] at h
 | x :: r,y :: s,z :: t,h1,h2=>by
  unfold lexI at h1 h2 ⊢
  have ih:=lexI_trans r s t
  by_cases c1:x=y
  ·subst c1
   rw [if_pos rfl] at h1
   by_cases c2:x=z
   ·subst c2;rw [if_pos rfl] at h2 ⊢;exact ih h1 h2
   ·rw [if_neg c2] at h2 ⊢;exact h2
  ·rw [if_neg c1] at h1
   have h1':=of_decide_eq_true h1
   by_cases c2:y=z
   ·subst c2;rw [if_neg c1];exact h1
   ·rw [if_neg c2] at h2
    have h2':=of_decide_eq_true h2
    rw [if_neg (by omega)];exact decide_eq_true (by omega)
theorem lexI_total:∀ (a b:List Int),a.length=b.length→lexI a b=false→lexI b a=false→a=b
 | [],[],_,_,_=>rfl
 | [],_ :: _,h,_,_=>by simp at h
 | _ :: _,[],h,_,_=>by simp at h
 | x :: r,y :: s,h,h1,h2=>by
  unfold lexI at h1 h2
  have ih:=lexI_total r s (by simpa using h)
  by_cases e:x=y
  ·subst e;simp at h1 h2;rw [ih h1 h2]
  ·rw [if_neg e] at h1;rw [if_neg (fun h=>e h.symm)] at h2;simp at h1 h2;omega
end Go.Proofs.YtohmmcahpakokaaGreat
namespace Go.Proofs.YtohmmcahpakokaaGreat
open Go.RowKit
attribute [local go_sem ↓] Go.wp_at_zero Go.wp_at_succ
end Go.Proofs.YtohmmcahpakokaaGreat
namespace Go.Proofs.YtohmmcahpakokaaGreat
open Go.RowKit
attribute [local go_sem ↓] Go.wp_at_zero Go.wp_at_succ
theorem beI_one (z:Int):beI 1 z=[toB z]:=by
 unfold beI beBytes beBytes toB
 simp only [List.nil_append]
 congr 2
 omega
theorem refNum1_any (A:Option Addr) (n c:Nat) (l:List UInt8) (z:Int) (w:World) (h:SlB w A n c l) (hn:n≤140737488351232) :
  Calls Tryz.prog 86 #[.slice A n c,.int .i64 z,.int .i64 1] w fun e w'=>∃ A' c',e=.returned (.slice A' (n+1) c')∧OwnB w' w.heap.size 5 A' (n+1) c' (l ++ [toB z])∧Ext w w':=by
 rw [← beI_one];exact refNum_any A n c l z 1 (by omega) (by omega) w h hn
end Go.Proofs.YtohmmcahpakokaaGreat
namespace Go.Proofs.YtohmmcahpakokaaGreat
open Go.RowKit
def ofV (v:OpV):OpR:=⟨v.k,v.tO,v.am,v.ul,v.va,v.lk,v.hs,none,v.pre.length,0,v.pre,none,v.prf.length,0,v.prf⟩
theorem encOp_v {R Q:OpR} (h:R.v=Q.v):encOp R=encOp Q:=by
 unfold OpR.v at h
 injection h with h1 h2 h3 h4 h5 h6 h7 h8 h9
 unfold encOp
 rw [h1,h2,h3,h4,h5,h6,h7,h8,h9]
theorem encOps_v {L M:List OpR} (h:L.map OpR.v=M.map OpR.v):encOps L=encOps M:=by
 have e:∀ K:List OpR,encOps K=((K.map OpR.v).map ofV).flatMap encOp:=fun K=>by
  unfold encOps
  induction K with
  | nil=>rfl
  | cons R r ih =>
   rw [List.flatMap_cons,ih]
   simp only [List.map_cons,List.flatMap_cons]
   rw [show encOp (ofV R.v)=encOp R from encOp_v rfl]
 rw [e L,e M,h]
end Go.Proofs.YtohmmcahpakokaaGreat
namespace Go.Proofs.YtohmmcahpakokaaGreat
open Go.RowKit
end Go.Proofs.YtohmmcahpakokaaGreat
namespace Go.Proofs.YtohmmcahpakokaaGreat
open Go.RowKit
end Go.Proofs.YtohmmcahpakokaaGreat
namespace Go.Proofs.YtohmmcahpakokaaGreat
open Go.RowKit
def partU (seed:UInt64) (a t:Int) (j:Nat) (m:UInt64):List UInt64:=oneSig (keyU seed a t (j:Int)) m ++ pathU (leavesU seed a t) j
theorem partU_length (seed:UInt64) (a t:Int) (j:Nat) (m:UInt64) (h:j < 32):(partU seed a t j m).length=23:=by
 have h1:=dep32 j h
 simp only [partU,oneSig,List.length_append,List.length_map,List.length_range,pathU_length,leavesU_length,h1]
end Go.Proofs.YtohmmcahpakokaaGreat
namespace Go.Proofs.YtohmmcahpakokaaGreat
open Go.RowKit
@[go_sem] theorem fold_nmc10 (n:UInt64):Array.foldl (fun (cs:Array Value) (x:Value × Nat)=>cs.setIfInBounds x.snd x.fst) #[.int .u8 0,.int .u8 0,.int .u8 0,.int .u8 0,.int .u8 0,.int .u8 0,.int .u8 0,.int .u8 0,.int .i64 0,.map none] (nmc n).zipIdx 0 8=#[.int .u8 (nb8 n 0),.int .u8 (nb8 n 1),.int .u8 (nb8 n 2),.int .u8 (nb8 n 3),.int .u8 (nb8 n 4),.int .u8 (nb8 n 5),.int .u8 (nb8 n 6),.int .u8 (nb8 n 7),.int .i64 0,.map none]:=by
 rw [← nmc_nb8 n]
 kernel_rfl
end Go.Proofs.YtohmmcahpakokaaGreat
namespace Go.Proofs.YtohmmcahpakokaaGreat
open Go.RowKit
theorem sigU_one (seed m:UInt64) (leaf t r:Nat) (h:leaf=32 * t+r) (hl:leaf < 32):sigU seed 1 (leaf:Int) m=some ([toB ((leaf:Int) / 256),toB (leaf:Int)] ++ (partU seed 1 (t:Int) r m).flatMap nmb):=by
 obtain rfl:t=0:=by omega
 obtain rfl:leaf=r:=by omega
 unfold sigU
 rw [if_pos ⟨rfl,by omega,by omega⟩,Int.toNat_natCast]
 congr 1
 simp only [sig1,partU,List.flatMap_append,List.append_assoc]
 rw [show (leaf:Int) / 256=0 from by omega]
 rfl
theorem sigU_two (seed m:UInt64) (leaf t r:Nat) (h:leaf=32 * t+r) (hr:r < 32) (hl:leaf < 1024):sigU seed 2 (leaf:Int) m=some ([toB ((leaf:Int) / 256),toB (leaf:Int)] ++ (partU seed 1 (t:Int) r m).flatMap nmb ++ (partU seed 2 0 t (rootU (leavesU seed 1 (t:Int)))).flatMap nmb):=by
 unfold sigU
 rw [if_neg (by omega),if_pos ⟨rfl,by omega,by omega⟩,Int.toNat_natCast,← sig2_eq seed m leaf t r hr h]
 have e3:(leaf:Int).tmod 32=(r:Int):=by
  rw [Int.tmod_eq_emod_of_nonneg (by omega)];omega
 rw [e3]
 simp only [partU,List.flatMap_append,List.append_assoc]
theorem chain_add (v:UInt64) (c p:Int) (a b:Nat):chainTo (chainTo v c p a) c (p+a) b=chainTo v c p (a+b):=by
 induction b with
 | zero=>rfl
 | succ b ih =>
  show tagU 33 (nmb (chainTo (chainTo v c p a) c (p+a) b) ++ [toB c,toB (p+a+b)])=tagU 33 (nmb (chainTo v c p (a+b)) ++ [toB c,toB (p+((a+b:Nat):Int))])
  rw [ih,show p+(a:Int)+(b:Int)=p+((a+b:Nat):Int) from by omega]
theorem nthN_map (F:Nat→UInt64) (n c:Nat) (h:c < n):nthN ((List.range n).map F) c=F c:=by
 unfold nthN;simp [List.getD,h]
theorem rec_sig (seed m:UInt64):oneRec m (oneSig seed m)=onePub seed:=by
 unfold oneRec onePub
 have key:(List.range 18).map (recF m (oneSig seed m))=(List.range 18).map (pubF seed):=?_
 ·rw [key]
 refine List.map_congr_left fun c hc=>?_
 have hc:c < 18:=List.mem_range.1 hc
 have hd:=dig_bd m c hc
 unfold recF oneSig pubF
 rw [nthN_map _ _ _ hc]
 unfold sigF
 have h:=chain_add (startU seed c) (c:Int) 0 (dig m c).toNat (15 - dig m c).toNat
 rw [show (0:Int)+((dig m c).toNat:Int)=dig m c from by omega,show (dig m c).toNat+(15 - dig m c).toNat=15 from by omega] at h
 exact h
theorem flat_len (ns:List UInt64):(ns.flatMap nmb).length=8 * ns.length:=by
 induction ns with
 | nil=>rfl
 | cons x r ih=>rw [List.flatMap_cons,List.length_append,nmb_length,ih,List.length_cons];omega
theorem nmAt_flat (pre rest:List UInt8) (ns:List UInt64) (k at_:Nat) (hp:pre.length=at_) (hk:k < ns.length):nmAt (pre ++ (ns.flatMap nmb ++ rest)) at_ k=nthN ns k:=by
 have hs:ns=ns.take k ++ (nthN ns k :: ns.drop (k+1)):=by
  conv=>lhs;rw [← List.take_append_drop k ns]
  rw [List.drop_eq_getElem_cons hk];simp [nthN,List.getD,hk]
 have e:(pre ++ (ns.flatMap nmb ++ rest)).drop (at_+k * 8)=nmb (nthN ns k) ++ ((ns.drop (k+1)).flatMap nmb ++ rest):=by
  conv=>lhs;rw [hs]
  rw [List.flatMap_append,List.flatMap_cons]
  have hl:(pre ++ (ns.take k).flatMap nmb).length=at_+k * 8:=by
   rw [List.length_append,flat_len,List.length_take,hp,Nat.min_eq_left (by omega)];omega
  rw [show pre ++ ((ns.take k).flatMap nmb ++ (nmb (nthN ns k) ++ (ns.drop (k+1)).flatMap nmb) ++ rest)=(pre ++ (ns.take k).flatMap nmb) ++ (nmb (nthN ns k) ++ ((ns.drop (k+1)).flatMap nmb ++ rest)) from by simp only [List.append_assoc]]
  rw [← hl,List.drop_left]
 unfold nmAt
 rw [e]
 have hl8:=nmb_length (nthN ns k)
 rw [show (8:Nat)=(nmb (nthN ns k)).length from hl8.symm,List.take_left,ofNm_nmb]
theorem names_flat (pre rest:List UInt8) (ns:List UInt64) (at_ n:Nat) (hp:pre.length=at_) (hn:ns.length=n):namesU (pre ++ (ns.flatMap nmb ++ rest)) at_ n=ns:=by
 subst hn
 refine List.ext_getElem (by simp [namesU]) fun k h1 h2=>?_
 simp only [namesU,List.getElem_map,List.getElem_range]
 rw [nmAt_flat pre rest ns k at_ hp h2]
 simp [nthN,List.getD,h2]
theorem climb_part (pre rest:List UInt8) (seed m:UInt64) (a t:Int) (j at_:Nat) (hp:pre.length=at_) (hj:j < 32):climbU (pre ++ ((partU seed a t j m).flatMap nmb ++ rest)) at_ j m=rootU (leavesU seed a t):=by
 have hl:=leavesU_length seed a t
 have h1:(oneSig (keyU seed a t (j:Int)) m).length=18:=by simp [oneSig]
 have h2:(pathU (leavesU seed a t) j).length=5:=by rw [pathU_length,hl,dep32 j hj]
 unfold climbU partU
 rw [List.flatMap_append,List.append_assoc,names_flat pre _ _ at_ 18 hp h1,rec_sig]
 rw [show pre ++ ((oneSig (keyU seed a t (j:Int)) m).flatMap nmb ++ ((pathU (leavesU seed a t) j).flatMap nmb ++ rest))=(pre ++ (oneSig (keyU seed a t (j:Int)) m).flatMap nmb) ++ ((pathU (leavesU seed a t) j).flatMap nmb ++ rest) from by simp only [List.append_assoc]]
 rw [names_flat _ _ _ (at_+144) 5 (by rw [List.length_append,flat_len,h1,hp]) h2]
 have h:=compU_pathU (leavesU seed a t) j (by omega)
 rw [hl] at h
 rw [← h]
 congr 1
 simp [leavesU,leavesF,List.getD,hj]
theorem num_leaf (leaf:Nat) (h:leaf < 1024) (rest:List UInt8):numAt ([toB ((leaf:Int) / 256),toB (leaf:Int)] ++ rest) 0 2=leaf:=by
 have e1:=toB_eq ((leaf:Int) / 256)
 have e2:=toB_eq (leaf:Int)
 simp only [numAt,List.drop_zero,List.cons_append,List.nil_append,List.take_succ_cons,List.take_zero,beNat,List.length_cons,List.length_nil]
 omega
theorem sig_right (seed m:UInt64) (lv:Int) (leaf:Nat) (h:(lv=1∧leaf < 32) ∨ (lv=2∧leaf < 1024)):∃ s,sigU seed lv leaf m=some s∧(s.length:Int)=sizeZ lv∧numAt s 0 2=leaf∧verU (pubV seed lv) lv m s=true∧verU (pubV seed lv) (3 - lv) m s=false:=by
 have hp1:∀ (a t:Int) (j:Nat) (m:UInt64),j < 32→((partU seed a t j m).flatMap nmb).length=184:=fun a t j m hj=>by rw [flat_len,partU_length _ _ _ _ _ hj]
 rcases h with ⟨rfl,hl⟩ | ⟨rfl,hl⟩
 ·have e := sigU_one seed m leaf 0 leaf (by omega) hl
  refine ⟨_,e,?_,?_,?_,?_⟩
  ·rw [List.length_append,hp1 _ _ _ _ hl];rfl
  ·exact num_leaf leaf (by omega) _
  ·unfold verU
   rw [if_pos rfl,num_leaf leaf (by omega) _,Nat.mod_eq_of_lt hl]
   have hc:=climb_part [toB ((leaf:Int) / 256),toB (leaf:Int)] [] seed m 1 ((0:Nat):Int) leaf 2 rfl hl
   rw [List.append_nil] at hc
   rw [hc,List.length_append,hp1 _ _ _ _ hl]
   have hpv:pubV seed 1=rootU (leavesU seed 1 ((0:Nat):Int)):=by unfold pubV;rw [if_pos (by omega)];rfl
   rw [hpv]
   simp [hl]
  ·refine verU_short _ _ _ _ ?_
   rw [List.length_append,hp1 _ _ _ _ hl,show [toB ((leaf:Int) / 256),toB (leaf:Int)].length=2 from rfl];decide
 ·have e := sigU_two seed m leaf (leaf / 32) (leaf % 32) (by omega) (by omega) hl
  have hr:leaf % 32 < 32:=by omega
  have ht:leaf / 32 < 32:=by omega
  refine ⟨_,e,?_,?_,?_,?_⟩
  ·rw [List.length_append,List.length_append,hp1 _ _ _ _ hr,hp1 _ _ _ _ ht];rfl
  ·rw [List.append_assoc];exact num_leaf leaf (by omega) _
  ·unfold verU
   rw [if_neg (by omega),if_pos rfl]
   have hn:=num_leaf leaf hl ((partU seed 1 ((leaf / 32:Nat):Int) (leaf % 32) m).flatMap nmb ++ (partU seed 2 0 (leaf / 32) (rootU (leavesU seed 1 ((leaf / 32:Nat):Int)))).flatMap nmb)
   rw [← List.append_assoc] at hn
   rw [hn]
   have hc:=climb_part [toB ((leaf:Int) / 256),toB (leaf:Int)] ((partU seed 2 0 (leaf / 32) (rootU (leavesU seed 1 ((leaf / 32:Nat):Int)))).flatMap nmb) seed m 1 ((leaf / 32:Nat):Int) (leaf % 32) 2 rfl hr
   rw [← List.append_assoc] at hc
   have hc2:=climb_part ([toB ((leaf:Int) / 256),toB (leaf:Int)] ++ (partU seed 1 ((leaf / 32:Nat):Int) (leaf % 32) m).flatMap nmb) [] seed (rootU (leavesU seed 1 ((leaf / 32:Nat):Int))) 2 0 (leaf / 32) 186 (by rw [List.length_append,hp1 _ _ _ _ hr];rfl) ht
   rw [List.append_nil] at hc2
   rw [hc,hc2,List.length_append,List.length_append,hp1 _ _ _ _ hr,hp1 _ _ _ _ ht]
   have hpv:pubV seed 2=rootU (leavesU seed 2 0):=by unfold pubV;rw [if_pos (by omega)];rfl
   rw [hpv]
   simp [hl]
  ·refine verU_short _ _ _ _ ?_
   rw [List.length_append,List.length_append,hp1 _ _ _ _ hr,hp1 _ _ _ _ ht,show [toB ((leaf:Int) / 256),toB (leaf:Int)].length=2 from rfl];decide
section
variable {β:Type} [DecidableEq β]
structure STO (lt:β→β→Bool):Prop where
 irrefl:∀ x,lt x x=false
 trans:∀ x y z,lt x y=true→lt y z=true→lt x z=true
 total:∀ x y,lt x y=false→lt y x=false→x=y
variable {lt:β→β→Bool}
theorem STO.asymm (h:STO lt) {x y:β} (hxy:lt x y=true):lt y x=false:=by
 cases hyx:lt y x with
 | false=>rfl
 | true=>have:=h.trans x y x hxy hyx;rw [h.irrefl] at this;cases this
theorem STO.ntrans (h:STO lt) {x y z:β} (h1:lt x y=false) (h2:lt y z=false):lt x z=false:=by
 cases hxz:lt x z with
 | false=>rfl
 | true =>
  cases hyx:lt y x with
  | true=>have:=h.trans y x z hyx hxz;rw [h2] at this;cases this
  | false =>
   obtain rfl:=h.total x y h1 hyx
   rw [h2] at hxz;cases hxz
def Asc (lt:β→β→Bool) (L:List β):Prop:=L.Pairwise fun x y=>lt x y=true
def insO (lt:β→β→Bool) (x:β):List β→List β
 | []=>[x]
 | y :: r=>if lt y x=true then y :: insO lt x r else if y=x then y :: r else x :: y :: r
def insAll (lt:β→β→Bool) (acc L:List β):List β:=L.foldl (fun acc x=>insO lt x acc) acc
def canonO (lt:β→β→Bool) (L:List β):List β:=insAll lt [] L
theorem mem_insO (h:STO lt) (x y:β) (L:List β):y ∈ insO lt x L ↔ y=x ∨ y ∈ L:=by
 induction L with
 | nil=>simp [insO]
 | cons z r ih =>
  unfold insO
  split
  ·simp only [List.mem_cons, ih]
   constructor
   ·rintro (h | h | h) <;> simp [h]
   ·rintro (h | h | h) <;> simp [h]
  ·split
   ·rename_i h1 h2; subst h2; simp only [List.mem_cons]
    constructor
    ·rintro (h | h) <;> simp [h]
    ·rintro (h | h | h) <;> simp [h]
   ·simp only [List.mem_cons]
theorem asc_insO (h:STO lt) (x:β) (L:List β) (hL:Asc lt L):Asc lt (insO lt x L):=by
 induction L with
 | nil=>simp [insO,Asc]
 | cons z r ih =>
  unfold Asc at hL ih ⊢
  obtain ⟨h1,h2⟩:=List.pairwise_cons.1 hL
  unfold insO
  split
  ·rename_i hz
   refine List.pairwise_cons.2 ⟨fun y hy=>?_,ih h2⟩
   rcases (mem_insO h x y r).1 hy with rfl | hy
   ·exact hz
   ·exact h1 y hy
  ·rename_i hz
   split
   ·exact hL
   ·rename_i hne
    have hxz:lt x z=true:=by
     cases hh:lt x z with
     | true=>rfl
     | false=>exact absurd (h.total z x (by simpa using hz) hh) hne
    refine List.pairwise_cons.2 ⟨fun y hy=>?_,hL⟩
    rcases List.mem_cons.1 hy with rfl | hy
    ·exact hxz
    ·exact h.trans _ _ _ hxz (h1 y hy)
theorem mem_insAll (h:STO lt) (y:β) (L acc:List β):y ∈ insAll lt acc L ↔ y ∈ acc ∨ y ∈ L:=by
 induction L generalizing acc with
 | nil=>simp [insAll]
 | cons x r ih =>
  show y ∈ insAll lt (insO lt x acc) r ↔ _
  rw [ih,mem_insO h,List.mem_cons]
  constructor
  ·rintro ((h | h) | h) <;> simp [h]
  ·rintro (h | h | h) <;> simp [h]
theorem asc_insAll (h:STO lt) (L acc:List β) (ha:Asc lt acc):Asc lt (insAll lt acc L):=by
 induction L generalizing acc with
 | nil=>exact ha
 | cons x r ih=>exact ih _ (asc_insO h x acc ha)
theorem mem_canonO (h:STO lt) (y:β) (L:List β):y ∈ canonO lt L ↔ y ∈ L:=by
 unfold canonO;rw [mem_insAll h];simp
theorem asc_canonO (h:STO lt) (L:List β):Asc lt (canonO lt L):=asc_insAll h L [] List.Pairwise.nil
theorem asc_uniq (h:STO lt):∀ (L M:List β),Asc lt L→Asc lt M→(∀ y,y ∈ L ↔ y ∈ M)→L=M
 | [],[],_,_,_=>rfl
 | [],y :: s,_,_,he=>by have:=(he y).2 (by simp);simp at this
 | x :: r,[],_,_,he=>by have:=(he x).1 (by simp);simp at this
 | x :: r,y :: s,hL,hM,he=>by
  unfold Asc at hL hM
  obtain ⟨a1,a2⟩:=List.pairwise_cons.1 hL
  obtain ⟨b1,b2⟩:=List.pairwise_cons.1 hM
  have hxy:x=y:=by
   rcases List.mem_cons.1 ((he x).1 (by simp)) with e | e
   ·exact e
   ·rcases List.mem_cons.1 ((he y).2 (by simp)) with e' | e'
    ·exact e'.symm
    ·have h1 := b1 x e
     have h2:=a1 y e'
     rw [h.asymm h1] at h2;cases h2
  subst hxy
  rw [asc_uniq h r s a2 b2 (fun z=>by
   have hz:=he z
   simp only [List.mem_cons] at hz
   constructor
   ·intro hr
    rcases hz.1 (Or.inr hr) with e | e
    ·subst e;have:=a1 z hr;rw [h.irrefl] at this;cases this
    ·exact e
   ·intro hs
    rcases hz.2 (Or.inr hs) with e | e
    ·subst e;have:=b1 z hs;rw [h.irrefl] at this;cases this
    ·exact e)]
def compA:β→List β→List β
 | _,[]=>[]
 | p,y :: r=>if y=p then compA p r else y :: compA y r
def compO:List β→List β
 | []=>[]
 | x :: r=>x :: compA x r
theorem mem_compA (y:β):∀ (L:List β) (p:β),y ∈ p :: compA p L ↔ y ∈ p :: L:=by
 intro L
 induction L with
 | nil=>intro p;rfl
 | cons x r ih =>
  intro p
  unfold compA
  split
  ·rename_i e; subst e
   rw [ih x];simp
  ·rename_i e
   rw [List.mem_cons,ih x,List.mem_cons,List.mem_cons,List.mem_cons]
theorem mem_compO (y:β) (L:List β):y ∈ compO L ↔ y ∈ L:=by
 cases L with
 | nil=>rfl
 | cons x r=>exact mem_compA y r x
def Wsc (lt:β→β→Bool) (L:List β):Prop:=L.Pairwise fun x y=>lt y x=false
theorem asc_compA (h:STO lt):∀ (L:List β) (p:β),Wsc lt (p :: L)→Asc lt (p :: compA p L):=by
 intro L
 induction L with
 | nil=>intro p _;exact List.pairwise_singleton _ _
 | cons x r ih =>
  intro p hW
  unfold Wsc at hW
  obtain ⟨h1,h2⟩:=List.pairwise_cons.1 hW
  obtain ⟨h3,h4⟩:=List.pairwise_cons.1 h2
  unfold compA
  split
  ·rename_i e;subst e;exact ih x h2
  ·rename_i e
   have hx:=ih x h2
   have hpx:lt p x=true:=by
    cases hh:lt p x with
    | true=>rfl
    | false=>exact absurd (h.total x p (h1 x (by simp)) hh) e
   refine List.pairwise_cons.2 ⟨fun y hy=>?_,hx⟩
   rcases List.mem_cons.1 hy with rfl | hy
   ·exact hpx
   ·exact h.trans _ _ _ hpx ((List.pairwise_cons.1 hx).1 y hy)
theorem asc_compO (h:STO lt) {L:List β} (hW:Wsc lt L):Asc lt (compO L):=by
 cases L with
 | nil=>exact List.Pairwise.nil
 | cons x r=>exact asc_compA h r x hW
theorem compO_canon (h:STO lt) {L M:List β} (hW:Wsc lt M) (he:∀ y,y ∈ M ↔ y ∈ L):compO M=canonO lt L :=
 asc_uniq h _ _ (asc_compO h hW) (asc_canonO h L) (fun y=>by rw [mem_compO,mem_canonO h,he])
theorem compO_snoc (L:List β) (x y:β):compO (L ++ [x,y])=if y=x then compO (L ++ [x]) else compO (L ++ [x]) ++ [y]:=by
 have key:∀ (L:List β) (p x:β),compA p (L ++ [x,y])=if y=x then compA p (L ++ [x]) else compA p (L ++ [x]) ++ [y]:=by
  intro L
  induction L with
  | nil =>
   intro p x
   simp only [List.nil_append,compA]
   by_cases h1:x=p
   ·subst h1;by_cases h2:y=x <;> simp [h2]
   ·by_cases h2:y=x <;> simp [h1,h2]
  | cons z r ih =>
   intro p x
   simp only [List.cons_append,compA]
   split
   ·exact ih p x
   ·rw [ih z x];split <;> simp
 cases L with
 | nil=>simp only [List.nil_append,compO,compA];split <;> simp
 | cons z r =>
  simp only [List.cons_append,compO]
  rw [key];split <;> simp
end
theorem run_storeOver {w:World} {g:Nat} {t:TypeId} {n:UInt64} (h:Blk w g t (nmc n)) (r:UInt64):(storeCells ⟨g,0,none⟩ (nmc r).toList).run Tryz.prog w=.ok () (w.setCells g 0 (nmc r).toList):=by
 have hl:(nmc r).toList.length=8:=by rw [nmc_toList,bcs_length,nmb_length]
 have:=run_storeCells_cells (P:=Tryz.prog) g 0 (nmc r).toList 0 w (fun j hj=>by rw [Nat.add_zero,Nat.zero_add,h.cell j,Array.getElem?_eq_getElem (by rw [nmc_size];omega)];rfl) (fun j hj=>h.frozen _) (by rw [nmc_toList];exact bcs_one _)
 exact this
theorem verify_one (pub m:UInt64) (A:Option Addr) (n c:Nat) (l:List UInt8) (w:World) (h:SlB w A n c l) (hn:n=186) (hlf:numAt l 0 2 < 32) :
  Calls Tryz.prog 145 #[.agg (nmc pub),.int .i64 1,.agg (nmc m),.slice A n c] w fun e w'=>e=.returned (.bool (decide (climbU l 2 (numAt l 0 2 % 32) m=pub)))∧Ext w w':=by
 subst hn
 have hE:=((Ext.refl w).alloc' (.cells (nmc pub) 30)).alloc' (.cells (nmc m) 30)
 have hbp:=(Blk.new w 30 (nmc pub)).alloc (.cells (nmc m) 30)
 have hbm:Blk ((w.alloc (.cells (nmc pub) 30)).alloc (.cells (nmc m) 30)) (w.heap.size+1) 30 (nmc m):=Blk.newAt _ _ _ _ (by simp)
 have HE:=zh hE
 have HP:=zh hbp
 have hrm:=rangeN hbm
 have HL:=zh (leaf_yes A 186 c l _ (h.ext HE.out) (by omega))
 have HH:=zh (h.ext HE.out)
 have hcap:=h.cap
 clear h hE hbp hbm
 generalize hx:numAt l 0 2=x at *
 clear hx
 have hq:=fun w=>run_eqN (climbU l 2 (x % 32) m) pub w
 go_enter Tryz.func145,Tryz.ntmps145
 go_wp2_with fail
 refine HL.out.mono ?_
 rintro e w1 ⟨rfl,rfl⟩
 go_wp2_with (first | (go_at_call 200;refine (size_any 1 _).mono ?_;rintro e w1 ⟨rfl,rfl⟩;rw [show sizeZ 1=186 from rfl]) | (go_at_call 201;refine (capacity_any 1 _).mono ?_;rintro e w1 ⟨rfl,rfl⟩;rw [show capZ 1=32 from rfl]) | (with_reducible refine wpList_loadN rfl (.tmp 6) rfl (w.heap.size+1) 0 rfl m hrm ?_))
 refine (climbed_at A 186 c l 2 (x % 32) _ _ rfl (by omega) m _ HH.out (by omega) (by omega) (by omega)).mono ?_
 rintro e w2 ⟨rfl,he2⟩
 have HP2:=zh (HP.out.ext he2)
 have HE2:=zh (HE.out.trans he2)
 clear hrm he2
 generalize hr0:climbU l 2 (x % 32) m=r at *
 have HR0:=zh hr0
 clear hr0
 have hst:=run_storeNewN w2 w2.heap.size rfl r
 have hr:=rangeN (Blk.new w2 30 (nmc r))
 have hp:=rangeN (HP2.out.alloc (.cells (nmc r) 30))
 go_wp2_with (first | (with_reducible refine wpList_loadN rfl (.tmp 11) rfl w2.heap.size 0 rfl r hr ?_) | (with_reducible refine wpList_loadN rfl (.tmp 4) rfl w.heap.size 0 rfl pub hp ?_))
 go_ret
 exact ⟨by rw [HR0.out];rfl,HE2.out.alloc' _⟩
theorem verify_two (pub m:UInt64) (A:Option Addr) (n c:Nat) (l:List UInt8) (w:World) (h:SlB w A n c l) (hn:n=370) (hlf:numAt l 0 2 < 1024) :
  Calls Tryz.prog 145 #[.agg (nmc pub),.int .i64 2,.agg (nmc m),.slice A n c] w fun e w'=>e=.returned (.bool (decide (climbU l 186 (numAt l 0 2 / 32) (climbU l 2 (numAt l 0 2 % 32) m)=pub)))∧Ext w w':=by
 subst hn
 have hE:=((Ext.refl w).alloc' (.cells (nmc pub) 30)).alloc' (.cells (nmc m) 30)
 have hbp:=(Blk.new w 30 (nmc pub)).alloc (.cells (nmc m) 30)
 have hbm:Blk ((w.alloc (.cells (nmc pub) 30)).alloc (.cells (nmc m) 30)) (w.heap.size+1) 30 (nmc m):=Blk.newAt _ _ _ _ (by simp)
 have HE:=zh hE
 have HP:=zh hbp
 have hrm:=rangeN hbm
 have HL:=zh (leaf_yes A 370 c l _ (h.ext HE.out) (by omega))
 have HH:=zh (h.ext HE.out)
 have hcap:=h.cap
 clear h hE hbp hbm
 generalize hx:numAt l 0 2=x at *
 clear hx
 go_enter Tryz.func145,Tryz.ntmps145
 go_wp2_with fail
 refine HL.out.mono ?_
 rintro e w1 ⟨rfl,rfl⟩
 go_wp2_with (first | (go_at_call 200;refine (size_any 2 _).mono ?_;rintro e w1 ⟨rfl,rfl⟩;rw [show sizeZ 2=370 from rfl]) | (go_at_call 201;refine (capacity_any 2 _).mono ?_;rintro e w1 ⟨rfl,rfl⟩;rw [show capZ 2=1024 from rfl]) | (with_reducible refine wpList_loadN rfl (.tmp 6) rfl (w.heap.size+1) 0 rfl m hrm ?_))
 refine (climbed_at A 370 c l 2 (x % 32) _ _ rfl (by omega) m _ HH.out (by omega) (by omega) (by omega)).mono ?_
 rintro e w2 ⟨rfl,he2⟩
 have HP2:=zh (HP.out.ext he2)
 have HE2:=zh (HE.out.trans he2)
 have HH2:=zh (HH.out.ext he2)
 clear hrm he2
 generalize hr0:climbU l 2 (x % 32) m=r at *
 have HR0:=zh hr0
 clear hr0
 have hst:=run_storeNewN w2 w2.heap.size rfl r
 have hA:=(Ext.refl w2).alloc' (.cells (nmc r) 30)
 have HB:=zh (Blk.new w2 30 (nmc r))
 have hr:=rangeN HB.out
 have HH3:=zh (HH2.out.ext hA)
 have HP3:=zh (HP2.out.ext hA)
 have HE3:=zh (HE2.out.trans hA)
 clear hA
 go_wp2_with (with_reducible refine wpList_loadN rfl (.tmp 11) rfl w2.heap.size 0 rfl r hr ?_)
 clear hr hst
 generalize w2.alloc (.cells (nmc r) 30)=W2 at *
 refine (climbed_at A 370 c l 186 (x / 32) _ _ rfl (by omega) r _ HH3.out (by omega) (by omega) (by omega)).mono ?_
 rintro e w3 ⟨rfl,he3⟩
 have HB3:=zh (HB.out.ext he3)
 have HP4:=zh (HP3.out.ext he3)
 have HE4:=zh (HE3.out.trans he3)
 have hlt:=HP.out.lt
 have hne:w.heap.size ≠ w2.heap.size:=by have:=HE2.out.size;have:=HP2.out.lt;omega
 clear he3
 generalize hr1:climbU l 186 (x / 32) r=r2 at *
 have HR1:=zh hr1
 clear hr1
 have hq:=fun w=>run_eqN r2 pub w
 have hst:=run_storeOver HB3.out r2
 have hr2:=rangeN (blkN' HB3.out r2)
 have hp2:=rangeN (HP4.out.setCells_far hne (nmc r2).toList 0)
 go_wp2_with (first | (with_reducible refine wpList_loadN rfl (.tmp 11) rfl w2.heap.size 0 rfl r2 hr2 ?_) | (with_reducible refine wpList_loadN rfl (.tmp 4) rfl w.heap.size 0 rfl pub hp2 ?_))
 go_ret
 exact ⟨by rw [HR0.out,HR1.out];rfl,Below.setCells' HE4.out HE2.out.size _ _⟩
theorem verify_any (pub m:UInt64) (lv:Int) (A:Option Addr) (n c:Nat) (l:List UInt8) (w:World) (h:SlB w A n c l) :
  Calls Tryz.prog 145 #[.agg (nmc pub),.int .i64 lv,.agg (nmc m),.slice A n c] w fun e w'=>e=.returned (.bool (verU pub lv m l))∧Ext w w':=by
 have hlen:=h.len
 by_cases hs:sizeZ lv=(n:Int)
 ·by_cases hc : capZ lv ≤ (numAt l 0 2 : Int)
  ·rw [verU_far pub lv m l hc]
   exact verify_no pub m lv A n c l w h (.inr (.inr hc))
  ·by_cases h1 : lv = 1
   ·subst h1
    have hn:n=186:=by have:(186:Int)=(n:Int):=hs;omega
    have hlf:numAt l 0 2 < 32:=by have:¬ (32:Int)≤(numAt l 0 2:Int):=hc;omega
    have hv:verU pub 1 m l=decide (climbU l 2 (numAt l 0 2 % 32) m=pub):=by
     unfold verU;rw [if_pos rfl,decide_eq_true (show l.length=186 by omega),decide_eq_true hlf];rfl
    rw [hv]
    exact verify_one pub m A n c l w h hn hlf
   ·by_cases h2 : lv = 2
    ·subst h2
     have hn:n=370:=by have:(370:Int)=(n:Int):=hs;omega
     have hlf:numAt l 0 2 < 1024:=by have:¬ (1024:Int)≤(numAt l 0 2:Int):=hc;omega
     have hv:verU pub 2 m l=decide (climbU l 186 (numAt l 0 2 / 32) (climbU l 2 (numAt l 0 2 % 32) m)=pub):=by
      unfold verU;rw [if_neg (by decide),if_pos rfl,decide_eq_true (show l.length=370 by omega),decide_eq_true hlf];rfl
     rw [hv]
     exact verify_two pub m A n c l w h hn hlf
    ·exact absurd (show capZ lv≤(numAt l 0 2:Int) by rw [show capZ lv=0 from by simp [capZ,h1,h2]];omega) hc
 ·rw [verU_short pub lv m l (by rw [hlen]; exact hs)]
  exact verify_no pub m lv A n c l w h (.inr (.inl hs))
end Go.Proofs.YtohmmcahpakokaaGreat
