/- seedOf (the program's): the seed of a key of a tree. -/
import Derived.DeepKeys4
import Derived.Maps.Own
import Derived.Lib.LazyBuf
import Derived.WalkMore
import Derived.Test.YtohmmcahpakokaaGreatC15
import Derived.Test.YtohmmcahpakokaaGreatC16
set_option maxRecDepth 100000
set_option maxHeartbeats 8000000
set_option linter.unusedVariables false
set_option linter.unusedSimpArgs false
namespace Go.Proofs.YtohmmcahpakokaaGreat
open Go.RowKit
end Go.Proofs.YtohmmcahpakokaaGreat
namespace Go.Proofs.YtohmmcahpakokaaGreat
open Go.RowKit
end Go.Proofs.YtohmmcahpakokaaGreat
namespace Go.Proofs.YtohmmcahpakokaaGreat
open Go.RowKit
end Go.Proofs.YtohmmcahpakokaaGreat
namespace Go.Proofs.YtohmmcahpakokaaGreat
open Go.RowKit
def partU (seed:UInt64) (a t:Int) (j:Nat) (m:UInt64):List UInt64:=oneSig (keyU seed a t (j:Int)) m ++ pathU (leavesU seed a t) j
theorem partU_length (seed:UInt64) (a t:Int) (j:Nat) (m:UInt64) (h:j < 32):(partU seed a t j m).length=23:=by
 have h1:=dep32 j h
 simp only [partU,oneSig,List.length_append,List.length_map,List.length_range,pathU_length,leavesU_length,h1]
end Go.Proofs.YtohmmcahpakokaaGreat
namespace Go.Proofs.YtohmmcahpakokaaGreat
open Go.RowKit
@[go_sem] theorem fold_nmc10 (n:UInt64):Array.foldl (fun (cs:Array Value) (x:Value × Nat)=>cs.setIfInBounds x.snd x.fst) #[.int .u8 0,.int .u8 0,.int .u8 0,.int .u8 0,.int .u8 0,.int .u8 0,.int .u8 0,.int .u8 0,.int .i64 0,.map none] (nmc n).zipIdx 0 8=#[.int .u8 (nb8 n 0),.int .u8 (nb8 n 1),.int .u8 (nb8 n 2),.int .u8 (nb8 n 3),.int .u8 (nb8 n 4),.int .u8 (nb8 n 5),.int .u8 (nb8 n 6),.int .u8 (nb8 n 7),.int .i64 0,.map none]:=by
 rw [← nmc_nb8 n]
 kernel_rfl
end Go.Proofs.YtohmmcahpakokaaGreat
namespace Go.Proofs.YtohmmcahpakokaaGreat
open Go.RowKit
theorem sigU_one (seed m:UInt64) (leaf t r:Nat) (h:leaf=32 * t+r) (hl:leaf < 32):sigU seed 1 (leaf:Int) m=some ([toB ((leaf:Int) / 256),toB (leaf:Int)] ++ (partU seed 1 (t:Int) r m).flatMap nmb):=by
 obtain rfl:t=0:=by omega
 obtain rfl:leaf=r:=by omega
 unfold sigU
 rw [if_pos ⟨rfl,by omega,by omega⟩,Int.toNat_natCast]
 congr 1
 simp only [sig1,partU,List.flatMap_append,List.append_assoc]
 rw [show (leaf:Int) / 256=0 from by omega]
 rfl
theorem sigU_two (seed m:UInt64) (leaf t r:Nat) (h:leaf=32 * t+r) (hr:r < 32) (hl:leaf < 1024):sigU seed 2 (leaf:Int) m=some ([toB ((leaf:Int) / 256),toB (leaf:Int)] ++ (partU seed 1 (t:Int) r m).flatMap nmb ++ (partU seed 2 0 t (rootU (leavesU seed 1 (t:Int)))).flatMap nmb):=by
 unfold sigU
 rw [if_neg (by omega),if_pos ⟨rfl,by omega,by omega⟩,Int.toNat_natCast,← sig2_eq seed m leaf t r hr h]
 have e3:(leaf:Int).tmod 32=(r:Int):=by
  rw [Int.tmod_eq_emod_of_nonneg (by omega)];omega
 rw [e3]
 simp only [partU,List.flatMap_append,List.append_assoc]
def ltN (a b:UInt64):Bool:=decide (un a < un b)
theorem ltN_sto:STO ltN:=⟨fun x=>by simp [ltN],fun x y z h1 h2=>by simp only [ltN,decide_eq_true_eq] at *;omega,fun x y h1 h2=>by simp only [ltN,decide_eq_false_iff_not] at *;exact un_inj (by omega)⟩
def hasM (G:Int) (i:Nat):Bool:=decide (G / 2 ^ i % 2=1)
def addM (G:Int) (i:Nat):Int:=if hasM G i=true then G else G+2 ^ i
end Go.Proofs.YtohmmcahpakokaaGreat
namespace Go.Proofs.YtohmmcahpakokaaGreat
open Go.RowKit
attribute [local go_sem ↓] Go.wp_at_zero Go.wp_at_succ
def seedOne:UInt64:=72057594037927936
theorem seedOne_cells:nmc seedOne=#[.int .u8 1,.int .u8 0,.int .u8 0,.int .u8 0,.int .u8 0,.int .u8 0,.int .u8 0,.int .u8 0]:=by kernel_rfl
end Go.Proofs.YtohmmcahpakokaaGreat
namespace Go.Proofs.YtohmmcahpakokaaGreat
section
variable {β:Type} [DecidableEq β] {lt:β→β→Bool}
theorem insO_at (x:β):∀ (L:List β) (k:Nat),k≤L.length→(∀ j (h:j < k) (hl:j < L.length),lt L[j] x=true)→(∀ (h:k < L.length),lt L[k] x=false∧L[k] ≠ x)→insO lt x L=L.take k ++ x :: L.drop k
 | [],0,_,_,_=>rfl
 | y :: r,0,_,_,h2=>by
  obtain ⟨h3,h4⟩:=h2 (by simp)
  simp only [List.getElem_cons_zero] at h3 h4
  unfold insO
  rw [if_neg (by rw [h3];simp),if_neg h4];rfl
 | y :: r,k+1,hk,h1,h2=>by
  have h0:=h1 0 (by omega) (by simp)
  simp only [List.getElem_cons_zero] at h0
  have ih:=insO_at x r k (by simpa using hk) (fun j hj hl=>h1 (j+1) (by omega) (by simpa using hl)) (fun h=>h2 (by simpa using h))
  unfold insO
  rw [if_pos h0,ih];rfl
theorem canonO_snoc (L:List β) (x:β):canonO lt (L ++ [x])=insO lt x (canonO lt L):=by unfold canonO insAll;rw [List.foldl_append];rfl
end
end Go.Proofs.YtohmmcahpakokaaGreat
namespace Go.Proofs.YtohmmcahpakokaaGreat
open Go.RowKit
def wr (z:Int):Int:=IntKind.i64.wrap z
theorem wr_eq (z:Int):wr z=(z+9223372036854775808) % 18446744073709551616 - 9223372036854775808:=by
 unfold wr;rw [IntKind.wrap_i64]
def in64 (z:Int):Prop:=-9223372036854775808≤z∧z≤9223372036854775807
theorem wr_in (z:Int):in64 (wr z):=by rw [wr_eq];unfold in64;omega
theorem wr_id {z:Int} (h:in64 z):wr z=z:=by rw [wr_eq];unfold in64 at h;omega
theorem wr_add (x y:Int):wr (wr x+y)=wr (x+y):=by rw [wr_eq,wr_eq,wr_eq];omega
theorem wr_add' (x y:Int):wr (x+wr y)=wr (x+y):=by rw [wr_eq,wr_eq,wr_eq];omega
structure CeR where
 k:Int
 id:Int
 lk:UInt64
deriving DecidableEq
structure DeR where
 c:CeR
 a:Int
deriving DecidableEq
structure LkR where
 nm:UInt64
 hs:UInt64
 ow:Int
 tO:Int
 ul:Int
deriving DecidableEq
structure StV where
 C:List DeR
 Q:List Int
 K:List LkR
 P:List UInt64
 G:Int
deriving DecidableEq
def ceKey (c:CeR):List Int:=[c.k,c.id,un c.lk]
def ltCe (a b:CeR):Bool:=lexI (ceKey a) (ceKey b)
theorem ceKey_inj {a b:CeR} (h:ceKey a=ceKey b):a=b:=by
 obtain ⟨k,i,l⟩:=a
 obtain ⟨k',i',l'⟩:=b
 simp only [ceKey,List.cons.injEq,and_true] at h
 obtain ⟨h1,h2,h3⟩:=h
 rw [h1,h2,un_inj h3]
theorem ltCe_sto:STO ltCe:=⟨fun x=>lexI_irrefl _,fun x y z=>lexI_trans _ _ _,fun x y h1 h2=>ceKey_inj (lexI_total _ _ rfl h1 h2)⟩
section
variable {α:Type}
def insB (p:α→Bool) (x:α):List α→List α
 | []=>[x]
 | y :: r=>if p y=true then x :: y :: r else y :: insB p x r
theorem insB_at (p:α→Bool) (x:α):∀ (L:List α) (k:Nat),k≤L.length→(∀ j (h:j < k) (hl:j < L.length),p L[j]=false)→(∀ (h:k < L.length),p L[k]=true)→insB p x L=L.take k ++ x :: L.drop k
 | [],0,_,_,_=>rfl
 | y :: r,0,_,_,h2=>by
  have:=h2 (by simp)
  simp only [List.getElem_cons_zero] at this
  unfold insB;rw [if_pos this];rfl
 | y :: r,k+1,hk,h1,h2=>by
  have h0:=h1 0 (by omega) (by simp)
  simp only [List.getElem_cons_zero] at h0
  have ih:=insB_at p x r k (by simpa using hk) (fun j hj hl=>h1 (j+1) (by omega) (by simpa using hl)) (fun h=>h2 (by simpa using h))
  unfold insB;rw [if_neg (by rw [h0];decide),ih];rfl
theorem mem_insB (p:α→Bool) (x y:α):∀ (L:List α),y ∈ insB p x L ↔ y=x ∨ y ∈ L
 | []=>by simp [insB]
 | z :: r=>by
  unfold insB
  split
  ·simp
  ·rw [List.mem_cons, mem_insB p x y r, List.mem_cons]
   constructor
   ·rintro (h | h | h)
    ·exact .inr (.inl h)
    ·exact .inl h
    ·exact .inr (.inr h)
   ·rintro (h | h | h)
    ·exact .inr (.inl h)
    ·exact .inl h
    ·exact .inr (.inr h)
end
def fdC (C:List DeR) (c:CeR):Option DeR:=C.find? (fun d=>decide (d.c=c))
def amt:Option DeR→Int
 | none=>0
 | some d=>d.a
def getC (C:List DeR) (c:CeR):Int:=amt (fdC C c)
def setC (c:CeR) (n:Int):List DeR→List DeR
 | []=>[]
 | d :: r=>if d.c=c then (if n=0 then r else ⟨d.c,n⟩ :: r) else d :: setC c n r
def addC (C:List DeR) (c:CeR) (a:Int):List DeR:=match fdC C c with
 | none=>if wr a=0 then C else insB (fun y=>ltCe c y.c) ⟨c,wr a⟩ C
 | some d=>setC c (wr (d.a+a)) C
def addL (C:List DeR) (l:List DeR):List DeR:=l.foldl (fun C d=>addC C d.c d.a) C
def sumC (C:List DeR):Int:=(C.map DeR.a).sum
def totC (C:List DeR):Int:=wr (sumC C)
theorem sumC_cons (d:DeR) (r:List DeR):sumC (d :: r)=d.a+sumC r:=by simp [sumC]
theorem sumC_insB (p:DeR→Bool) (x:DeR):∀ (L:List DeR),sumC (insB p x L)=x.a+sumC L
 | []=>by simp [insB,sumC]
 | y :: r=>by
  unfold insB
  split
  ·rw [sumC_cons,sumC_cons]
  ·rw [sumC_cons,sumC_cons,sumC_insB p x r];omega
theorem sumC_setC (c:CeR) (n:Int):∀ (L:List DeR) (d:DeR),fdC L c=some d→sumC (setC c n L)=sumC L - d.a+n
 | [],d,h=>by simp [fdC] at h
 | e :: r,d,h=>by
  unfold fdC at h
  rw [List.find?_cons] at h
  unfold setC
  by_cases hc:e.c=c
  ·rw [decide_eq_true hc] at h
   injection h with h
   subst h
   rw [if_pos hc]
   split
   ·rename_i h0;rw [sumC_cons,h0];omega
   ·rw [sumC_cons,sumC_cons];show n+_=_;omega
  ·rw [decide_eq_false hc] at h
   rw [if_neg hc,sumC_cons,sumC_cons,sumC_setC c n r d h];omega
theorem totC_addC (C:List DeR) (c:CeR) (a:Int):totC (addC C c a)=wr (sumC C+a):=by
 unfold addC totC
 cases h:fdC C c with
 | none =>
  simp only
  split
  ·rename_i h0;rw [wr_eq] at h0 ⊢;rw [wr_eq];omega
  ·rw [sumC_insB];show wr (wr a+sumC C)=_;rw [wr_add];congr 1;omega
 | some d =>
  simp only
  rw [sumC_setC c _ C d h,wr_eq,wr_eq,wr_eq];omega
theorem sum_addL (l:List DeR):∀ (C:List DeR),totC (addL C l)=wr (sumC C+sumC l):=by
 induction l with
 | nil=>intro C;show totC C=_;unfold totC;simp [sumC]
 | cons d r ih =>
  intro C
  show totC (addL (addC C d.c d.a) r)=_
  rw [ih,sumC_cons]
  have:=totC_addC C d.c d.a
  unfold totC at this
  rw [← wr_add,this,wr_add]
  congr 1;omega
def fdK (K:List LkR) (n:UInt64):Option LkR:=K.find? (fun l=>decide (l.nm=n))
def openK (K:List LkR) (l:LkR):List LkR:=match fdK K l.nm with
 | none=>insB (fun y=>decide (un l.nm < un y.nm)) l K
 | some _=>K
def closeK (n:UInt64):List LkR→List LkR
 | []=>[]
 | l :: r=>if l.nm=n then r else l :: closeK n r
def markP (P:List UInt64) (n:UInt64):List UInt64:=if n ∈ P then P else insB (fun y=>decide (un n < un y)) n P
def balC (i:Int):CeR:=⟨1,i,0⟩
def lckC (n:UInt64):CeR:=⟨2,0,n⟩
def stkC (i:Int):CeR:=⟨3,i,0⟩
def polC:CeR:=⟨4,0,0⟩
def movC (x y:CeR) (n:Int):List DeR:=[⟨x,wr (-n)⟩,⟨y,n⟩]
theorem sum_mov (x y:CeR) (n:Int):wr (sumC (movC x y n))=0:=by
 show wr (wr (-n)+(n+0))=0
 rw [wr_add,wr_eq];omega
theorem chain_add (v:UInt64) (c p:Int) (a b:Nat):chainTo (chainTo v c p a) c (p+a) b=chainTo v c p (a+b):=by
 induction b with
 | zero=>rfl
 | succ b ih =>
  show tagU 33 (nmb (chainTo (chainTo v c p a) c (p+a) b) ++ [toB c,toB (p+a+b)])=tagU 33 (nmb (chainTo v c p (a+b)) ++ [toB c,toB (p+((a+b:Nat):Int))])
  rw [ih,show p+(a:Int)+(b:Int)=p+((a+b:Nat):Int) from by omega]
theorem nthN_map (F:Nat→UInt64) (n c:Nat) (h:c < n):nthN ((List.range n).map F) c=F c:=by
 unfold nthN;simp [List.getD,h]
theorem rec_sig (seed m:UInt64):oneRec m (oneSig seed m)=onePub seed:=by
 unfold oneRec onePub
 have key:(List.range 18).map (recF m (oneSig seed m))=(List.range 18).map (pubF seed):=?_
 ·rw [key]
 refine List.map_congr_left fun c hc=>?_
 have hc:c < 18:=List.mem_range.1 hc
 have hd:=dig_bd m c hc
 unfold recF oneSig pubF
 rw [nthN_map _ _ _ hc]
 unfold sigF
 have h:=chain_add (startU seed c) (c:Int) 0 (dig m c).toNat (15 - dig m c).toNat
 rw [show (0:Int)+((dig m c).toNat:Int)=dig m c from by omega,show (dig m c).toNat+(15 - dig m c).toNat=15 from by omega] at h
 exact h
theorem flat_len (ns:List UInt64):(ns.flatMap nmb).length=8 * ns.length:=by
 induction ns with
 | nil=>rfl
 | cons x r ih=>rw [List.flatMap_cons,List.length_append,nmb_length,ih,List.length_cons];omega
theorem nmAt_flat (pre rest:List UInt8) (ns:List UInt64) (k at_:Nat) (hp:pre.length=at_) (hk:k < ns.length):nmAt (pre ++ (ns.flatMap nmb ++ rest)) at_ k=nthN ns k:=by
 have hs:ns=ns.take k ++ (nthN ns k :: ns.drop (k+1)):=by
  conv=>lhs;rw [← List.take_append_drop k ns]
  rw [List.drop_eq_getElem_cons hk];simp [nthN,List.getD,hk]
 have e:(pre ++ (ns.flatMap nmb ++ rest)).drop (at_+k * 8)=nmb (nthN ns k) ++ ((ns.drop (k+1)).flatMap nmb ++ rest):=by
  conv=>lhs;rw [hs]
  rw [List.flatMap_append,List.flatMap_cons]
  have hl:(pre ++ (ns.take k).flatMap nmb).length=at_+k * 8:=by
   rw [List.length_append,flat_len,List.length_take,hp,Nat.min_eq_left (by omega)];omega
  rw [show pre ++ ((ns.take k).flatMap nmb ++ (nmb (nthN ns k) ++ (ns.drop (k+1)).flatMap nmb) ++ rest)=(pre ++ (ns.take k).flatMap nmb) ++ (nmb (nthN ns k) ++ ((ns.drop (k+1)).flatMap nmb ++ rest)) from by simp only [List.append_assoc]]
  rw [← hl,List.drop_left]
 unfold nmAt
 rw [e]
 have hl8:=nmb_length (nthN ns k)
 rw [show (8:Nat)=(nmb (nthN ns k)).length from hl8.symm,List.take_left,ofNm_nmb]
theorem names_flat (pre rest:List UInt8) (ns:List UInt64) (at_ n:Nat) (hp:pre.length=at_) (hn:ns.length=n):namesU (pre ++ (ns.flatMap nmb ++ rest)) at_ n=ns:=by
 subst hn
 refine List.ext_getElem (by simp [namesU]) fun k h1 h2=>?_
 simp only [namesU,List.getElem_map,List.getElem_range]
 rw [nmAt_flat pre rest ns k at_ hp h2]
 simp [nthN,List.getD,h2]
theorem climb_part (pre rest:List UInt8) (seed m:UInt64) (a t:Int) (j at_:Nat) (hp:pre.length=at_) (hj:j < 32):climbU (pre ++ ((partU seed a t j m).flatMap nmb ++ rest)) at_ j m=rootU (leavesU seed a t):=by
 have hl:=leavesU_length seed a t
 have h1:(oneSig (keyU seed a t (j:Int)) m).length=18:=by simp [oneSig]
 have h2:(pathU (leavesU seed a t) j).length=5:=by rw [pathU_length,hl,dep32 j hj]
 unfold climbU partU
 rw [List.flatMap_append,List.append_assoc,names_flat pre _ _ at_ 18 hp h1,rec_sig]
 rw [show pre ++ ((oneSig (keyU seed a t (j:Int)) m).flatMap nmb ++ ((pathU (leavesU seed a t) j).flatMap nmb ++ rest))=(pre ++ (oneSig (keyU seed a t (j:Int)) m).flatMap nmb) ++ ((pathU (leavesU seed a t) j).flatMap nmb ++ rest) from by simp only [List.append_assoc]]
 rw [names_flat _ _ _ (at_+144) 5 (by rw [List.length_append,flat_len,h1,hp]) h2]
 have h:=compU_pathU (leavesU seed a t) j (by omega)
 rw [hl] at h
 rw [← h]
 congr 1
 simp [leavesU,leavesF,List.getD,hj]
theorem num_leaf (leaf:Nat) (h:leaf < 1024) (rest:List UInt8):numAt ([toB ((leaf:Int) / 256),toB (leaf:Int)] ++ rest) 0 2=leaf:=by
 have e1:=toB_eq ((leaf:Int) / 256)
 have e2:=toB_eq (leaf:Int)
 simp only [numAt,List.drop_zero,List.cons_append,List.nil_append,List.take_succ_cons,List.take_zero,beNat,List.length_cons,List.length_nil]
 omega
theorem sig_right (seed m:UInt64) (lv:Int) (leaf:Nat) (h:(lv=1∧leaf < 32) ∨ (lv=2∧leaf < 1024)):∃ s,sigU seed lv leaf m=some s∧(s.length:Int)=sizeZ lv∧numAt s 0 2=leaf∧verU (pubV seed lv) lv m s=true∧verU (pubV seed lv) (3 - lv) m s=false:=by
 have hp1:∀ (a t:Int) (j:Nat) (m:UInt64),j < 32→((partU seed a t j m).flatMap nmb).length=184:=fun a t j m hj=>by rw [flat_len,partU_length _ _ _ _ _ hj]
 rcases h with ⟨rfl,hl⟩ | ⟨rfl,hl⟩
 ·have e := sigU_one seed m leaf 0 leaf (by omega) hl
  refine ⟨_,e,?_,?_,?_,?_⟩
  ·rw [List.length_append,hp1 _ _ _ _ hl];rfl
  ·exact num_leaf leaf (by omega) _
  ·unfold verU
   rw [if_pos rfl,num_leaf leaf (by omega) _,Nat.mod_eq_of_lt hl]
   have hc:=climb_part [toB ((leaf:Int) / 256),toB (leaf:Int)] [] seed m 1 ((0:Nat):Int) leaf 2 rfl hl
   rw [List.append_nil] at hc
   rw [hc,List.length_append,hp1 _ _ _ _ hl]
   have hpv:pubV seed 1=rootU (leavesU seed 1 ((0:Nat):Int)):=by unfold pubV;rw [if_pos (by omega)];rfl
   rw [hpv]
   simp [hl]
  ·refine verU_short _ _ _ _ ?_
   rw [List.length_append,hp1 _ _ _ _ hl,show [toB ((leaf:Int) / 256),toB (leaf:Int)].length=2 from rfl];decide
 ·have e := sigU_two seed m leaf (leaf / 32) (leaf % 32) (by omega) (by omega) hl
  have hr:leaf % 32 < 32:=by omega
  have ht:leaf / 32 < 32:=by omega
  refine ⟨_,e,?_,?_,?_,?_⟩
  ·rw [List.length_append,List.length_append,hp1 _ _ _ _ hr,hp1 _ _ _ _ ht];rfl
  ·rw [List.append_assoc];exact num_leaf leaf (by omega) _
  ·unfold verU
   rw [if_neg (by omega),if_pos rfl]
   have hn:=num_leaf leaf hl ((partU seed 1 ((leaf / 32:Nat):Int) (leaf % 32) m).flatMap nmb ++ (partU seed 2 0 (leaf / 32) (rootU (leavesU seed 1 ((leaf / 32:Nat):Int)))).flatMap nmb)
   rw [← List.append_assoc] at hn
   rw [hn]
   have hc:=climb_part [toB ((leaf:Int) / 256),toB (leaf:Int)] ((partU seed 2 0 (leaf / 32) (rootU (leavesU seed 1 ((leaf / 32:Nat):Int)))).flatMap nmb) seed m 1 ((leaf / 32:Nat):Int) (leaf % 32) 2 rfl hr
   rw [← List.append_assoc] at hc
   have hc2:=climb_part ([toB ((leaf:Int) / 256),toB (leaf:Int)] ++ (partU seed 1 ((leaf / 32:Nat):Int) (leaf % 32) m).flatMap nmb) [] seed (rootU (leavesU seed 1 ((leaf / 32:Nat):Int))) 2 0 (leaf / 32) 186 (by rw [List.length_append,hp1 _ _ _ _ hr];rfl) ht
   rw [List.append_nil] at hc2
   rw [hc,hc2,List.length_append,List.length_append,hp1 _ _ _ _ hr,hp1 _ _ _ _ ht]
   have hpv:pubV seed 2=rootU (leavesU seed 2 0):=by unfold pubV;rw [if_pos (by omega)];rfl
   rw [hpv]
   simp [hl]
  ·refine verU_short _ _ _ _ ?_
   rw [List.length_append,List.length_append,hp1 _ _ _ _ hr,hp1 _ _ _ _ ht,show [toB ((leaf:Int) / 256),toB (leaf:Int)].length=2 from rfl];decide
def AscC (C:List DeR):Prop:=Asc ltCe (C.map DeR.c)
def nzC (C:List DeR):Prop:=∀ d,d ∈ C→d.a ≠ 0∧in64 d.a
theorem fdC_cons (d:DeR) (C:List DeR) (c:CeR):fdC (d :: C) c=if d.c=c then some d else fdC C c:=by
 unfold fdC;rw [List.find?_cons]
 by_cases h:d.c=c
 ·rw [decide_eq_true h,if_pos h]
 ·rw [decide_eq_false h,if_neg h]
theorem fdC_some {C:List DeR} {c:CeR} {d:DeR} (h:fdC C c=some d):d ∈ C∧d.c=c :=
 ⟨List.mem_of_find?_eq_some h,by have:=List.find?_some h;simpa using this⟩
theorem fdC_none {C:List DeR} {c:CeR}:fdC C c=none ↔ ∀ d,d ∈ C→d.c ≠ c:=by
 unfold fdC;rw [List.find?_eq_none];simp
theorem fdC_insB_ne {p:DeR→Bool} {x:DeR} {c:CeR} (h:x.c ≠ c):∀ (L:List DeR),fdC (insB p x L) c=fdC L c
 | []=>by rw [insB,fdC_cons,if_neg h]
 | y :: r=>by
  unfold insB
  split
  ·rw [fdC_cons,if_neg h]
  ·rw [fdC_cons,fdC_cons,fdC_insB_ne h r]
theorem fdC_insB_eq {p:DeR→Bool} {x:DeR}:∀ (L:List DeR),fdC L x.c=none→fdC (insB p x L) x.c=some x
 | [],_=>by rw [insB,fdC_cons,if_pos rfl]
 | y :: r,h=>by
  rw [fdC_cons] at h
  have hy:y.c ≠ x.c:=by intro e;rw [if_pos e] at h;cases h
  rw [if_neg hy] at h
  unfold insB
  split
  ·rw [fdC_cons,if_pos rfl]
  ·rw [fdC_cons,if_neg hy,fdC_insB_eq r h]
theorem fdC_setC_ne {c c':CeR} {n:Int} (h:c ≠ c'):∀ (L:List DeR),fdC (setC c n L) c'=fdC L c'
 | []=>rfl
 | d :: r=>by
  unfold setC
  by_cases hc:d.c=c
  ·have hd : d.c ≠ c' := by rw [hc]; exact h
   rw [if_pos hc,fdC_cons,if_neg hd]
   split
   ·rfl
   ·rw [fdC_cons,if_neg hd]
  ·rw [if_neg hc,fdC_cons,fdC_cons,fdC_setC_ne h r]
theorem fdC_setC_eq {c:CeR} {n:Int}:∀ (L:List DeR),AscC L→fdC L c ≠ none→fdC (setC c n L) c=if n=0 then none else some ⟨c,n⟩
 | [],_,h=>absurd rfl h
 | d :: r,ha,h=>by
  have hp:=List.pairwise_cons.1 (show List.Pairwise _ (d.c :: r.map DeR.c) from ha)
  unfold setC
  by_cases hc:d.c=c
  ·rw [if_pos hc]
   by_cases h0:n=0
   ·rw [if_pos h0, if_pos h0]
    refine fdC_none.2 (fun e he e'=>?_)
    have:=hp.1 e.c (List.mem_map_of_mem he)
    rw [hc,e',ltCe_sto.irrefl] at this
    cases this
   ·rw [if_neg h0,if_neg h0,fdC_cons,if_pos hc,hc]
  ·rw [fdC_cons, if_neg hc] at h
   rw [if_neg hc,fdC_cons,if_neg hc]
   exact fdC_setC_eq r hp.2 h
theorem getC_of {C:List DeR} {c:CeR} {o:Option DeR} (h:fdC C c=o):getC C c=amt o:=by unfold getC;rw [h]
theorem fdC_addC_ne {C:List DeR} {c c':CeR} {a:Int} (h:c ≠ c'):fdC (addC C c a) c'=fdC C c':=by
 unfold addC
 cases hf:fdC C c with
 | none =>
  show fdC (if wr a=0 then C else insB (fun y=>ltCe c y.c) ⟨c,wr a⟩ C) c'=_
  by_cases h0:wr a=0
  ·rw [if_pos h0]
  ·rw [if_neg h0,fdC_insB_ne (x:=⟨c,wr a⟩) h]
 | some d=>exact fdC_setC_ne h C
theorem getC_addC_ne {C:List DeR} {c c':CeR} {a:Int} (h:c ≠ c'):getC (addC C c a) c'=getC C c':=by
 rw [getC_of (fdC_addC_ne h),getC_of rfl]
theorem getC_addC_eq {C:List DeR} (ha:AscC C) (c:CeR) (a:Int):getC (addC C c a) c=wr (getC C c+a):=by
 cases hf:fdC C c with
 | none =>
  rw [getC_of hf]
  show _=wr (0+a)
  rw [Int.zero_add]
  unfold addC
  rw [hf]
  show getC (if wr a=0 then C else insB (fun y=>ltCe c y.c) ⟨c,wr a⟩ C) c=_
  by_cases h0:wr a=0
  ·rw [if_pos h0,getC_of hf,h0];rfl
  ·rw [if_neg h0,getC_of (fdC_insB_eq (x:=⟨c,wr a⟩) C hf)];rfl
 | some d =>
  rw [getC_of hf]
  show _=wr (d.a+a)
  unfold addC
  rw [hf]
  show getC (setC c (wr (d.a+a)) C) c=_
  rw [getC_of (fdC_setC_eq C ha (by rw [hf];simp))]
  by_cases h0:wr (d.a+a)=0
  ·rw [if_pos h0,h0];rfl
  ·rw [if_neg h0];rfl
theorem map_setC_sub (c:CeR) (n:Int):∀ (L:List DeR),((setC c n L).map DeR.c).Sublist (L.map DeR.c)
 | []=>List.Sublist.refl _
 | d :: r=>by
  unfold setC
  by_cases hc:d.c=c
  ·rw [if_pos hc]
   split
   ·exact List.sublist_cons_self _ _
   ·exact List.Sublist.refl _
  ·rw [if_neg hc]
   exact (map_setC_sub c n r).cons_cons d.c
theorem map_insB (x:DeR):∀ (L:List DeR),(∀ d,d ∈ L→d.c ≠ x.c)→(insB (fun y=>ltCe x.c y.c) x L).map DeR.c=insO ltCe x.c (L.map DeR.c)
 | [],_=>rfl
 | y :: r,h=>by
  have hy:=h y (List.mem_cons_self ..)
  rw [List.map_cons]
  unfold insB insO
  by_cases h1:ltCe x.c y.c=true
  ·have h2 := ltCe_sto.asymm h1
   simp [h1,h2,hy,Ne.symm hy]
  ·have h1' : ltCe x.c y.c = false := by simpa using h1
   have h2:ltCe y.c x.c=true:=by
    cases e:ltCe y.c x.c with
    | true=>rfl
    | false=>exact absurd (ltCe_sto.total _ _ e h1') hy
   have:=map_insB x r (fun d hd=>h d (List.mem_cons_of_mem _ hd))
   simp [h1',h2,hy,Ne.symm hy,this]
theorem ascC_addC {C:List DeR} (ha:AscC C) (c:CeR) (a:Int):AscC (addC C c a):=by
 unfold addC
 cases hf:fdC C c with
 | none =>
  simp only
  split
  ·exact ha
  ·unfold AscC
   rw [map_insB ⟨c,wr a⟩ C (fdC_none.1 hf)]
   exact asc_insO ltCe_sto _ _ ha
 | some d=>exact List.Pairwise.sublist (map_setC_sub c _ C) ha
theorem mem_setC {c:CeR} {n:Int} {x:DeR}:∀ {L:List DeR},x ∈ setC c n L→x ∈ L ∨ n ≠ 0∧x.a=n
 | [],h=>by cases h
 | d :: r,h=>by
  unfold setC at h
  by_cases hc:d.c=c
  ·rw [if_pos hc] at h
   split at h
   ·exact .inl (List.mem_cons_of_mem _ h)
   ·rename_i h0
    rcases List.mem_cons.1 h with rfl | h
    ·exact .inr ⟨h0,rfl⟩
    ·exact .inl (List.mem_cons_of_mem _ h)
  ·rw [if_neg hc] at h
   rcases List.mem_cons.1 h with rfl | h
   ·exact .inl (List.mem_cons_self ..)
   ·rcases mem_setC h with h | h
    ·exact .inl (List.mem_cons_of_mem _ h)
    ·exact .inr h
theorem nzC_addC {C:List DeR} (hn:nzC C) (c:CeR) (a:Int):nzC (addC C c a):=by
 unfold addC
 cases hf:fdC C c with
 | none =>
  simp only
  split
  ·exact hn
  ·rename_i h0
   intro d hd
   rcases (mem_insB _ _ _ _).1 hd with rfl | hd
   ·exact ⟨h0,wr_in a⟩
   ·exact hn d hd
 | some e =>
  intro d hd
  rcases mem_setC hd with hd | ⟨h0,h1⟩
  ·exact hn d hd
  ·rw [h1];exact ⟨h0,wr_in _⟩
theorem ascC_addL (l:List DeR):∀ {C:List DeR},AscC C→AscC (addL C l):=by
 induction l with
 | nil=>intro C h;exact h
 | cons d r ih=>intro C h;exact ih (ascC_addC h d.c d.a)
theorem nzC_addL (l:List DeR):∀ {C:List DeR},nzC C→nzC (addL C l):=by
 induction l with
 | nil=>intro C h;exact h
 | cons d r ih=>intro C h;exact ih (nzC_addC h d.c d.a)
theorem getC_in {C:List DeR} (hn:nzC C) (c:CeR):in64 (getC C c):=by
 unfold getC
 cases h:fdC C c with
 | none=>exact ⟨by decide,by decide⟩
 | some d=>exact (hn d (fdC_some h).1).2
theorem getC_mem {C:List DeR} (ha:AscC C):∀ {d:DeR},d ∈ C→getC C d.c=d.a:=by
 induction C with
 | nil=>intro d h;cases h
 | cons e r ih =>
  intro d h
  have hp:=List.pairwise_cons.1 (show List.Pairwise _ (e.c :: r.map DeR.c) from ha)
  unfold getC
  rw [fdC_cons]
  rcases List.mem_cons.1 h with rfl | h
  ·rw [if_pos rfl];rfl
  ·have hne:e.c ≠ d.c:=by
    intro e'
    have:=hp.1 d.c (List.mem_map_of_mem h)
    rw [e',ltCe_sto.irrefl] at this
    cases this
   rw [if_neg hne]
   exact ih hp.2 h
end Go.Proofs.YtohmmcahpakokaaGreat
