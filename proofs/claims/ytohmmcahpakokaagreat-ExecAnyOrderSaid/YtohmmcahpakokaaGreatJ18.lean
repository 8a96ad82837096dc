/- The state of a ledger and what is done tO it (plain: no program in sight). -/
import Derived.Test.YtohmmcahpakokaaGreatJ16
set_option maxRecDepth 100000
set_option maxHeartbeats 8000000
set_option linter.unusedVariables false
set_option linter.unusedSimpArgs false
namespace Go.Proofs.YtohmmcahpakokaaGreat
section
open Go.RowKit
def wr (z:Int):Int:=IntKind.i64.wrap z
theorem aAP (z:Int):wr z=(z+9223372036854775808) % 18446744073709551616 - 9223372036854775808:=by
 unfold wr;rw [IntKind.wrap_i64]
def jS (z:Int):Prop:=-9223372036854775808≤z∧z≤9223372036854775807
theorem aAO (z:Int):jS (wr z):=by rw [aAP];unfold jS;omega
theorem gT {z:Int} (h:jS z):wr z=z:=by rw [aAP];unfold jS at h;omega
theorem aJO (x y:Int):wr (wr x+y)=wr (x+y):=by rw [aAP,aAP,aAP];omega
structure CeR where
 k:Int
 id:Int
 lk:UInt64
deriving DecidableEq
structure DeR where
 c:CeR
 a:Int
deriving DecidableEq
structure LkR where
 nm:UInt64
 hs:UInt64
 ow:Int
 tO:Int
 ul:Int
deriving DecidableEq
structure StV where
 C:List DeR
 Q:List Int
 K:List LkR
 P:List UInt64
 G:Int
deriving DecidableEq
def vW (c:CeR):List Int:=[c.k,c.id,un c.lk]
def eE (a b:CeR):Bool:=gR (vW a) (vW b)
theorem aFQ {a b:CeR} (h:vW a=vW b):a=b:=by
 obtain ⟨k,i,l⟩:=a
 obtain ⟨k',i',l'⟩:=b
 simp only [vW,List.cons.injEq,and_true] at h
 obtain ⟨h1,h2,h3⟩:=h
 rw [h1,h2,aGn h3]
theorem eZ:STO eE:=⟨fun x=>aBJ _,fun x y z=>uW _ _ _,fun x y h1 h2=>aFQ (uX _ _ rfl h1 h2)⟩
section
variable {α:Type}
def eB (p:α→Bool) (x:α):List α→List α
 | []=>[x]
 | y :: r=>if p y=true then x :: y :: r else y :: eB p x r
theorem jA (p:α→Bool) (x:α):∀ (L:List α) (k:Nat),k≤L.length→(∀ j (h:j < k) (hl:j < L.length),p L[j]=false)→(∀ (h:k < L.length),p L[k]=true)→eB p x L=L.take k ++ x :: L.drop k
 | [],0,_,_,_=>rfl
 | y :: r,0,_,_,h2=>by
  have:=h2 (by simp)
  simp only [List.getElem_cons_zero] at this
  unfold eB;rw [if_pos this];rfl
 | y :: r,k+1,hk,h1,h2=>by
  have h0:=h1 0 (by omega) (by simp)
  simp only [List.getElem_cons_zero] at h0
  have ih:=jA p x r k (by simpa using hk) (fun j hj hl=>h1 (j+1) (by omega) (by simpa using hl)) (fun h=>h2 (by simpa using h))
  unfold eB;rw [if_neg (by rw [h0];decide),ih];rfl
theorem mR (p:α→Bool) (x y:α):∀ (L:List α),y ∈ eB p x L ↔ y=x ∨ y ∈ L
 | []=>by simp [eB]
 | z :: r=>by
  unfold eB
  split
  ·simp
  rw [List.mem_cons,mR p x y r,List.mem_cons]
  constructor
  ·rintro (h | h | h)
   ·exact .inr (.inl h)
   ·exact .inl h
   exact .inr (.inr h)
  rintro (h | h | h)
  ·exact .inr (.inl h)
  ·exact .inl h
  exact .inr (.inr h)
end
def fdC (C:List DeR) (c:CeR):Option DeR:=C.find? (fun d=>decide (d.c=c))
def amt:Option DeR→Int
 | none=>0
 | some d=>d.a
def bW (C:List DeR) (c:CeR):Int:=amt (fdC C c)
def lF (c:CeR) (n:Int):List DeR→List DeR
 | []=>[]
 | d :: r=>if d.c=c then (if n=0 then r else ⟨d.c,n⟩ :: r) else d :: lF c n r
def dK (C:List DeR) (c:CeR) (a:Int):List DeR:=match fdC C c with
 | none=>if wr a=0 then C else eB (fun y=>eE c y.c) ⟨c,wr a⟩ C
 | some d=>lF c (wr (d.a+a)) C
def addL (C:List DeR) (l:List DeR):List DeR:=l.foldl (fun C d=>dK C d.c d.a) C
def aHP (C:List DeR):Int:=(C.map DeR.a).sum
def fdK (K:List LkR) (n:UInt64):Option LkR:=K.find? (fun l=>decide (l.nm=n))
def lV (K:List LkR) (l:LkR):List LkR:=match fdK K l.nm with
 | none=>eB (fun y=>decide (un l.nm < un y.nm)) l K
 | some _=>K
def fU (n:UInt64):List LkR→List LkR
 | []=>[]
 | l :: r=>if l.nm=n then r else l :: fU n r
def cM (P:List UInt64) (n:UInt64):List UInt64:=if n ∈ P then P else eB (fun y=>decide (un n < un y)) n P
def aZ (i:Int):CeR:=⟨1,i,0⟩
def dS (n:UInt64):CeR:=⟨2,0,n⟩
def cK (i:Int):CeR:=⟨3,i,0⟩
def bU:CeR:=⟨4,0,0⟩
def dQ (x y:CeR) (n:Int):List DeR:=[⟨x,wr (-n)⟩,⟨y,n⟩]
end
section
open Go.RowKit
attribute [local go_sem ↓] Go.wp_at_zero Go.wp_at_succ
theorem aDZ (p q:List UInt8):((aGq p).toList == (aGq q).toList)=decide (p=q):=by
 rw [Bool.eq_iff_iff]
 simp only [beq_iff_eq,decide_eq_true_eq]
 exact ⟨fun h=>aEQ h,fun h=>by rw [h]⟩
def eqV (a b:OpV):Bool :=
 decide (a.k=b.k) && (decide (a.tO=b.tO) && (decide (a.am=b.am) && (decide (a.ul=b.ul) && (decide (a.va=b.va) && (decide (a.lk=b.lk) && (decide (a.hs=b.hs) && (decide (a.pre=b.pre) && decide (a.prf=b.prf))))))))
theorem aEu (a b:OpV):eqV a b=true ↔ a=b:=by
 cases a;cases b
 unfold eqV
 simp only [Bool.and_eq_true,decide_eq_true_eq,OpV.mk.injEq]
theorem aDc (b1 b2 b3 b4 b5 b6 b7 b8 b9:Bool):b1=false ∨ (b1=true∧b2=false) ∨ (b1=true∧b2=true∧b3=false) ∨ (b1=true∧b2=true∧b3=true∧b4=false) ∨ (b1=true∧b2=true∧b3=true∧b4=true∧b5=false) ∨ (b1=true∧b2=true∧b3=true∧b4=true∧b5=true∧b6=false) ∨ (b1=true∧b2=true∧b3=true∧b4=true∧b5=true∧b6=true∧b7=false) ∨ (b1=true∧b2=true∧b3=true∧b4=true∧b5=true∧b6=true∧b7=true∧b8=false) ∨ (b1=true∧b2=true∧b3=true∧b4=true∧b5=true∧b6=true∧b7=true∧b8=true∧b9=false) ∨ (b1=true∧b2=true∧b3=true∧b4=true∧b5=true∧b6=true∧b7=true∧b8=true∧b9=true):=by
 cases b1 <;> simp
 cases b2 <;> simp
 cases b3 <;> simp
 cases b4 <;> simp
 cases b5 <;> simp
 cases b6 <;> simp
 cases b7 <;> simp
 cases b8 <;> simp
theorem aCX (R Q:OpR) (w:World) (hR:R.ok w) (hQ:Q.ok w) :
  Calls Tryz.prog 132 #[.agg (opA R),.agg (opA Q)] w fun e w'=>e=.returned (.bool (eqV R.v Q.v))∧Ext w w':=by
 have hE:=((Ext.refl w).alloc' (.cells (opA R) 69)).alloc' (.cells (opA Q) 69)
 obtain ⟨b1,e1⟩:∃ b,decide (R.k=Q.k)=b:=⟨_,rfl⟩
 have x1:(R.k == Q.k)=b1:=by rw [← e1];exact (by rw [Bool.eq_iff_iff];simp)
 obtain ⟨b2,e2⟩:∃ b,decide (R.tO=Q.tO)=b:=⟨_,rfl⟩
 have x2:(R.tO == Q.tO)=b2:=by rw [← e2];exact (by rw [Bool.eq_iff_iff];simp)
 obtain ⟨b3,e3⟩:∃ b,decide (R.am=Q.am)=b:=⟨_,rfl⟩
 have x3:(R.am == Q.am)=b3:=by rw [← e3];exact (by rw [Bool.eq_iff_iff];simp)
 obtain ⟨b4,e4⟩:∃ b,decide (R.ul=Q.ul)=b:=⟨_,rfl⟩
 have x4:(R.ul == Q.ul)=b4:=by rw [← e4];exact (by rw [Bool.eq_iff_iff];simp)
 obtain ⟨b5,e5⟩:∃ b,decide (R.va=Q.va)=b:=⟨_,rfl⟩
 have x5:(R.va == Q.va)=b5:=by rw [← e5];exact (by rw [Bool.eq_iff_iff];simp)
 obtain ⟨b6,e6⟩:∃ b,decide (R.lk=Q.lk)=b:=⟨_,rfl⟩
 have x6:=fun W=>cO R.lk Q.lk W
 rw [e6] at x6
 obtain ⟨b7,e7⟩:∃ b,decide (R.hs=Q.hs)=b:=⟨_,rfl⟩
 have x7:=fun W=>cO R.hs Q.hs W
 rw [e7] at x7
 obtain ⟨b8,e8⟩:∃ b,decide (R.pre=Q.pre)=b:=⟨_,rfl⟩
 have x8:=aDZ R.pre Q.pre
 rw [e8] at x8
 have r8:=pH (hR.pre.ext hE)
 have t8:=pH (hQ.pre.ext hE)
 obtain ⟨b9,e9⟩:∃ b,decide (R.prf=Q.prf)=b:=⟨_,rfl⟩
 have x9:=aDZ R.prf Q.prf
 rw [e9] at x9
 have r9:=pH (hR.prf.ext hE)
 have t9:=pH (hQ.prf.ext hE)
 have HV:=zh (show eqV R.v Q.v=(b1 && (b2 && (b3 && (b4 && (b5 && (b6 && (b7 && (b8 && b9)))))))) by rw [← e1,← e2,← e3,← e4,← e5,← e6,← e7,← e8,← e9];rfl)
 have HE:=zh hE
 have hc:=aDc b1 b2 b3 b4 b5 b6 b7 b8 b9
 clear hR hQ hE e6 e7 e8 e9
 rcases hc with rfl | ⟨rfl,rfl⟩ | ⟨rfl,rfl,rfl⟩ | ⟨rfl,rfl,rfl,rfl⟩ | ⟨rfl,rfl,rfl,rfl,rfl⟩ | ⟨rfl,rfl,rfl,rfl,rfl,rfl⟩ | ⟨rfl,rfl,rfl,rfl,rfl,rfl,rfl⟩ | ⟨rfl,rfl,rfl,rfl,rfl,rfl,rfl,rfl⟩ | ⟨rfl,rfl,rfl,rfl,rfl,rfl,rfl,rfl,rfl⟩ | ⟨rfl,rfl,rfl,rfl,rfl,rfl,rfl,rfl,rfl⟩
 all_goals (
  go_enter Tryz.func132,Tryz.ntmps132
  go_wp2_with fail
  go_ret
  exact ⟨by rw [HV.out];rfl,HE.out⟩)
end
section
open Go.RowKit
def AscC (C:List DeR):Prop:=Asc eE (C.map DeR.c)
def nzC (C:List DeR):Prop:=∀ d,d ∈ C→d.a ≠ 0∧jS d.a
theorem cX (d:DeR) (C:List DeR) (c:CeR):fdC (d :: C) c=if d.c=c then some d else fdC C c:=by
 unfold fdC;rw [List.find?_cons]
 by_cases h:d.c=c
 ·rw [decide_eq_true h,if_pos h]
 rw [decide_eq_false h,if_neg h]
theorem vI {C:List DeR} {c:CeR} {d:DeR} (h:fdC C c=some d):d ∈ C∧d.c=c :=
 ⟨List.mem_of_find?_eq_some h,by have:=List.find?_some h;simpa using this⟩
theorem vJ {C:List DeR} {c:CeR}:fdC C c=none ↔ ∀ d,d ∈ C→d.c ≠ c:=by
 unfold fdC;rw [List.find?_eq_none];simp
theorem sB {p:DeR→Bool} {x:DeR} {c:CeR} (h:x.c ≠ c):∀ (L:List DeR),fdC (eB p x L) c=fdC L c
 | []=>by rw [eB,cX,if_neg h]
 | y :: r=>by
  unfold eB
  split
  ·rw [cX,if_neg h]
  rw [cX,cX,sB h r]
theorem sC {p:DeR→Bool} {x:DeR}:∀ (L:List DeR),fdC L x.c=none→fdC (eB p x L) x.c=some x
 | [],_=>by rw [eB,cX,if_pos rfl]
 | y :: r,h=>by
  rw [cX] at h
  have hy:y.c ≠ x.c:=by intro e;rw [if_pos e] at h;cases h
  rw [if_neg hy] at h
  unfold eB
  split
  ·rw [cX,if_pos rfl]
  rw [cX,if_neg hy,sC r h]
theorem rZ {c c':CeR} {n:Int} (h:c ≠ c'):∀ (L:List DeR),fdC (lF c n L) c'=fdC L c'
 | []=>rfl
 | d :: r=>by
  unfold lF
  by_cases hc:d.c=c
  ·have hd : d.c ≠ c' := by rw [hc]; exact h
   rw [if_pos hc,cX,if_neg hd]
   split
   ·rfl
   rw [cX,if_neg hd]
  rw [if_neg hc,cX,cX,rZ h r]
theorem sA {c:CeR} {n:Int}:∀ (L:List DeR),AscC L→fdC L c ≠ none→fdC (lF c n L) c=if n=0 then none else some ⟨c,n⟩
 | [],_,h=>absurd rfl h
 | d :: r,ha,h=>by
  have hp:=List.pairwise_cons.1 (show List.Pairwise _ (d.c :: r.map DeR.c) from ha)
  unfold lF
  by_cases hc:d.c=c
  ·rw [if_pos hc]
   by_cases h0:n=0
   ·rw [if_pos h0, if_pos h0]
    refine vJ.2 (fun e he e'=>?_)
    have:=hp.1 e.c (List.mem_map_of_mem he)
    rw [hc,e',eZ.irrefl] at this
    cases this
   rw [if_neg h0,if_neg h0,cX,if_pos hc,hc]
  rw [cX,if_neg hc] at h
  rw [if_neg hc,cX,if_neg hc]
  exact sA r hp.2 h
theorem dV {C:List DeR} {c:CeR} {o:Option DeR} (h:fdC C c=o):bW C c=amt o:=by unfold bW;rw [h]
theorem aCa {C:List DeR} {c c':CeR} {a:Int} (h:c ≠ c'):fdC (dK C c a) c'=fdC C c':=by
 unfold dK
 cases hf:fdC C c with
 | none =>
  show fdC (if wr a=0 then C else eB (fun y=>eE c y.c) ⟨c,wr a⟩ C) c'=_
  by_cases h0:wr a=0
  ·rw [if_pos h0]
  rw [if_neg h0,sB (x:=⟨c,wr a⟩) h]
 | some d=>exact rZ h C
theorem aAj {C:List DeR} {c c':CeR} {a:Int} (h:c ≠ c'):bW (dK C c a) c'=bW C c':=by
 rw [dV (aCa h),dV rfl]
theorem aAk {C:List DeR} (ha:AscC C) (c:CeR) (a:Int):bW (dK C c a) c=wr (bW C c+a):=by
 cases hf:fdC C c with
 | none =>
  rw [dV hf]
  show _=wr (0+a)
  rw [Int.zero_add]
  unfold dK
  rw [hf]
  show bW (if wr a=0 then C else eB (fun y=>eE c y.c) ⟨c,wr a⟩ C) c=_
  by_cases h0:wr a=0
  ·rw [if_pos h0,dV hf,h0];rfl
  rw [if_neg h0,dV (sC (x:=⟨c,wr a⟩) C hf)];rfl
 | some d =>
  rw [dV hf]
  show _=wr (d.a+a)
  unfold dK
  rw [hf]
  show bW (lF c (wr (d.a+a)) C) c=_
  rw [dV (sA C ha (by rw [hf];simp))]
  by_cases h0:wr (d.a+a)=0
  ·rw [if_pos h0,h0];rfl
  rw [if_neg h0];rfl
theorem pW (c:CeR) (n:Int):∀ (L:List DeR),((lF c n L).map DeR.c).Sublist (L.map DeR.c)
 | []=>List.Sublist.refl _
 | d :: r=>by
  unfold lF
  by_cases hc:d.c=c
  ·rw [if_pos hc]
   split
   ·exact List.sublist_cons_self _ _
   exact List.Sublist.refl _
  rw [if_neg hc]
  exact (pW c n r).cons_cons d.c
theorem aBH (x:DeR):∀ (L:List DeR),(∀ d,d ∈ L→d.c ≠ x.c)→(eB (fun y=>eE x.c y.c) x L).map DeR.c=qB eE x.c (L.map DeR.c)
 | [],_=>rfl
 | y :: r,h=>by
  have hy:=h y (List.mem_cons_self ..)
  rw [List.map_cons]
  unfold eB qB
  by_cases h1:eE x.c y.c=true
  ·have h2 := eZ.asymm h1
   simp [h1,h2,hy,Ne.symm hy]
  have h1':eE x.c y.c=false:=by simpa using h1
  have h2:eE y.c x.c=true:=by
   cases e:eE y.c x.c with
   | true=>rfl
   | false=>exact absurd (eZ.total _ _ e h1') hy
  have:=aBH x r (fun d hd=>h d (List.mem_cons_of_mem _ hd))
  simp [h1',h2,hy,Ne.symm hy,this]
theorem yP {C:List DeR} (ha:AscC C) (c:CeR) (a:Int):AscC (dK C c a):=by
 unfold dK
 cases hf:fdC C c with
 | none =>
  simp only
  split
  ·exact ha
  unfold AscC
  rw [aBH ⟨c,wr a⟩ C (vJ.1 hf)]
  exact vZ eZ _ _ ha
 | some d=>exact List.Pairwise.sublist (pW c _ C) ha
theorem aBE {c:CeR} {n:Int} {x:DeR}:∀ {L:List DeR},x ∈ lF c n L→x ∈ L ∨ n ≠ 0∧x.a=n
 | [],h=>by cases h
 | d :: r,h=>by
  unfold lF at h
  by_cases hc:d.c=c
  ·rw [if_pos hc] at h
   split at h
   ·exact .inl (List.mem_cons_of_mem _ h)
   rename_i h0
   rcases List.mem_cons.1 h with rfl | h
   ·exact .inr ⟨h0,rfl⟩
   exact .inl (List.mem_cons_of_mem _ h)
  rw [if_neg hc] at h
  rcases List.mem_cons.1 h with rfl | h
  ·exact .inl (List.mem_cons_self ..)
  rcases aBE h with h | h
  ·exact .inl (List.mem_cons_of_mem _ h)
  exact .inr h
theorem aBA {C:List DeR} (hn:nzC C) (c:CeR) (a:Int):nzC (dK C c a):=by
 unfold dK
 cases hf:fdC C c with
 | none =>
  simp only
  split
  ·exact hn
  rename_i h0
  intro d hd
  rcases (mR _ _ _ _).1 hd with rfl | hd
  ·exact ⟨h0,aAO a⟩
  exact hn d hd
 | some e =>
  intro d hd
  rcases aBE hd with hd | ⟨h0,h1⟩
  ·exact hn d hd
  rw [h1];exact ⟨h0,aAO _⟩
def atC (l:List DeR) (c:CeR):Int:=(l.map fun d=>if d.c=c then d.a else 0).sum
theorem aJe (c:CeR):atC [] c=0:=rfl
theorem jR (d:DeR) (l:List DeR) (c:CeR):atC (d :: l) c=(if d.c=c then d.a else 0)+atC l c:=by unfold atC;rw [List.map_cons,List.sum_cons]
theorem aHD {l m:List DeR} (h:l.Perm m) (c:CeR):atC l c=atC m c:=by
 induction h with
 | nil=>rfl
 | cons x _ ih=>rw [jR,jR,ih]
 | swap x y l=>rw [jR,jR,jR,jR];omega
 | trans _ _ h1 h2=>rw [h1,h2]
theorem rK (l:List DeR):∀ {C:List DeR},AscC C→AscC (addL C l):=by
 induction l with
 | nil=>intro C h;exact h
 | cons d r ih=>intro C h;exact ih (yP h d.c d.a)
theorem uM (l:List DeR):∀ {C:List DeR},nzC C→nzC (addL C l):=by
 induction l with
 | nil=>intro C h;exact h
 | cons d r ih=>intro C h;exact ih (aBA h d.c d.a)
theorem aIr {C:List DeR} (hn:nzC C) (c:CeR):jS (bW C c):=by
 unfold bW
 cases h:fdC C c with
 | none=>exact ⟨by decide,by decide⟩
 | some d=>exact (hn d (vI h).1).2
theorem yE (l:List DeR):∀ {C:List DeR},AscC C→nzC C→∀ c,bW (addL C l) c=wr (bW C c+atC l c):=by
 induction l with
 | nil=>intro C h hn c;rw [aJe,Int.add_zero,gT (aIr hn c)];rfl
 | cons d r ih =>
  intro C h hn c
  show bW (addL (dK C d.c d.a) r) c=_
  rw [ih (yP h _ _) (aBA hn _ _) c,jR]
  by_cases hc:d.c=c
  ·subst hc
   rw [aAk h,aJO,if_pos rfl,Int.add_assoc]
  rw [aAj hc,if_neg hc,Int.zero_add]
theorem aBX {C:List DeR} (ha:AscC C):∀ {d:DeR},d ∈ C→bW C d.c=d.a:=by
 induction C with
 | nil=>intro d h;cases h
 | cons e r ih =>
  intro d h
  have hp:=List.pairwise_cons.1 (show List.Pairwise _ (e.c :: r.map DeR.c) from ha)
  unfold bW
  rw [cX]
  rcases List.mem_cons.1 h with rfl | h
  ·rw [if_pos rfl];rfl
  have hne:e.c ≠ d.c:=by
   intro e'
   have:=hp.1 d.c (List.mem_map_of_mem h)
   rw [e',eZ.irrefl] at this
   cases this
  rw [if_neg hne]
  exact ih hp.2 h
theorem xY {C:List DeR} (ha:AscC C) (hn:nzC C) (c:CeR):c ∈ C.map DeR.c ↔ bW C c ≠ 0:=by
 constructor
 ·intro h
  obtain ⟨d,hd,rfl⟩:=List.mem_map.1 h
  rw [aBX ha hd];exact (hn d hd).1
 intro h
 unfold bW at h
 cases hf:fdC C c with
 | none=>rw [hf] at h;exact absurd rfl h
 | some d=>obtain ⟨h1,h2⟩:=vI hf;exact List.mem_map.2 ⟨d,h1,h2⟩
theorem aCs {C:List DeR} (ha:AscC C):C=(C.map DeR.c).map fun c=>⟨c,bW C c⟩:=by
 rw [List.map_map]
 conv=>lhs;rw [← List.map_id C]
 refine List.map_congr_left (fun d hd=>?_)
 show d=⟨d.c,bW C d.c⟩
 rw [aBX ha hd]
theorem aDG {C D:List DeR} (hC:AscC C) (hD:AscC D) (nC:nzC C) (nD:nzC D) (h:∀ c,bW C c=bW D c):C=D:=by
 have hm:C.map DeR.c=D.map DeR.c:=qN eZ _ _ hC hD (fun c=>by rw [xY hC nC,xY hD nD,h])
 rw [aCs hC,aCs hD,hm]
 exact List.map_congr_left (fun c _=>by rw [h])
theorem aFV {C:List DeR} {l m:List DeR} (hC:AscC C) (nC:nzC C) (h:l.Perm m):addL C l=addL C m :=
 aDG (rK l hC) (rK m hC) (uM l nC) (uM m nC) (fun c=>by rw [yE l hC nC,yE m hC nC,aHD h])
theorem mX (C l m:List DeR):addL C (l ++ m)=addL (addL C l) m:=by unfold addL;rw [List.foldl_append]
theorem fH {z:Int}:wfI z ↔ jS z:=by
 unfold wfI jS Lit.wf
 simp [IntKind.signed,IntKind.bits]
 intro _
 exact Iff.rfl
structure RowP (α:Type) [RowT α] (ty:TypeId) (arr:α→Array Value):Prop where
 eq:∀ x,(RowT.enc x).toArray=arr x
 info:(Tryz.prog.info? ty).map (·.size)=some (RowT.sz α)
 und:∃ d,Tryz.prog.underlying ty=some d∧d.isRow=true
section
variable {α:Type} [RowT α] {ty:TypeId} {arr:α→Array Value} {o:Oper} {a:Act} {w:World} {ops:Array Oper} {rest:List Oper} {Q:Exit→Act→World→Prop} {K:Act→World→Prop} {X:Prop}
theorem RowP.toL (h:RowP α ty arr) (x:α):(arr x).toList=RowT.enc x:=by rw [← h.eq]
theorem RowP.size (h:RowP α ty arr) (x:α):(arr x).size=RowT.sz α:=by rw [← h.eq];simp [RowT.len]
theorem RowP.all (h:RowP α ty arr) (x:α):(arr x).all (·.oneCell')=true:=by rw [← h.eq];exact all_oneCell_toArray (RowT.one x)
theorem aB (h:RowP α ty arr) (hgd:o.guard=none) (x:Operand) (ho:o.op=.load ty x) (b of:Nat) (hx:a.eval x=.pointer (some ⟨b,of,none⟩)) (R:α) (v:Value) (hv:Value.agg (arr R)=v) (hc:w.rangeAt b of (RowT.enc R))
  (hn:wpList Tryz.prog ops Q rest (a.put o.dst v) w):wpList Tryz.prog ops Q (o :: rest) a w:=by
 obtain ⟨d,h1,h2⟩:=h.und
 refine wpList_load_mid hgd ty x ho b of hx (RowT.enc R) d hc h1 h2 (by rw [h.info,RowT.len]) ?_
 rw [h.eq,hv];exact hn
theorem bK (h:RowP α ty arr) (hgd:o.guard=none) (x y:Operand) (ho:o.op=.store ty x y) (b of:Nat) (hx:a.eval x=.pointer (some ⟨b,of,none⟩)) (R:α) (v:Value) (hv:Value.agg (arr R)=v) (hy:a.eval y=v) (ht:w.there b of (RowT.sz α))
  (hn:wpList Tryz.prog ops Q rest (a.put o.dst undef) (w.setCells b of (RowT.enc R))):wpList Tryz.prog ops Q (o :: rest) a w:=by
 rw [← h.toL R] at hn
 exact wpList_store_mid hgd ty x y ho b of (arr R) hx (by rw [hy,hv]) (by rw [h.size];exact ht) (by rw [h.info,h.size]) (h.all R) hn
theorem aP (h:RowP α ty arr) (hgd:o.guard=none) (x y:Operand) (ho:o.op=.store ty x y) (cs:Array Value) (hcs:cs.size=RowT.sz α) (R:α) (v:Value) (hv:Value.agg (arr R)=v) (hx:a.eval x=.pointer (some ⟨w.heap.size,0,none⟩)) (hy:a.eval y=v)
  (hn:∀ W2,Hid (w.alloc (.cells (arr R) ty)=W2)→wpList Tryz.prog ops Q rest (a.put o.dst undef) W2):wpList Tryz.prog ops Q (o :: rest) a (w.alloc (.cells cs ty)):=by
 refine bK h hgd x y ho w.heap.size 0 hx R v hv hy (by rw [← hcs];exact aT (Blk.new w ty cs)) ?_
 rw [← h.toL,eU w ty cs (arr R) (by rw [hcs,h.size])]
 exact hn _ (zh rfl)
theorem aF {S:World→Prop} (h:RowP α ty arr) (hw:Region.wanted o (yielded ops a.tmps)=true) (x:Operand) (ho:o.op=.load ty x) (b of:Nat) (hx:a.eval x=.pointer (some ⟨b,of,none⟩)) (R:α) (v:Value) (hv:Value.agg (arr R)=v) (hS:∀ w,S w→w.rangeAt b of (RowT.enc R)):YieldsIf Tryz.prog ops S o v a:=by
 obtain ⟨d,h1,h2⟩:=h.und
 have:=yieldsIf_load_mid (P:=Tryz.prog) hw ty x ho b of hx (RowT.enc R) d hS h1 h2 (by rw [h.info,RowT.len])
 rwa [h.eq,hv] at this
theorem iN (h:RowP α ty arr) (x:Operand) (ho:o.op=.load ty x) (b of:Nat) (hx:a.eval x=.pointer (some ⟨b,of,none⟩)) (R:α) (v:Value) (hv:Value.agg (arr R)=v) (hc:w.rangeAt b of (RowT.enc R))
  (hn:K (a.put o.dst v) w):o.wp Tryz.prog a w K Q:=by
 obtain ⟨d,h1,h2⟩:=h.und
 have:=wp_load_mid (P:=Tryz.prog) (Q:=Q) (op:=o) (K:=K) ty x ho b of hx (RowT.enc R) d hc h1 h2 (by rw [h.info,RowT.len])
 rw [h.eq,hv] at this
 exact this hn
theorem aBd (h:RowP α ty arr) (hgd:o.guard=none) (x y:Operand) (ho:o.op=.store ty x y) (b of:Nat) (hx:a.eval x=.pointer (some ⟨b,of,none⟩)) (R:α) (v:Value) (hv:Value.agg (arr R)=v) (hy:a.eval y=v) (ht:w.there b of (RowT.sz α))
  (hn:K (a.put o.dst undef) (w.setCells b of (RowT.enc R))):if Region.wanted o (yielded ops a.tmps)=true then Oper.wp Tryz.prog o a w K Q else X:=by
 have hw:Region.wanted o (yielded ops a.tmps)=true:=by simp [Region.wanted,hgd]
 rw [if_pos hw]
 rw [← h.toL R] at hn
 exact wp_store_mid (P:=Tryz.prog) (Q:=Q) (op:=o) (K:=K) ty x y ho b of (arr R) hx (by rw [hy,hv]) (by rw [h.size];exact ht) (by rw [h.info,h.size]) (h.all R) hn
end
theorem aDB {α:Type} [RowT α] [DecidableEq α] {ty:TypeId} {arr:α→Array Value} (hp:RowP α ty arr) (f:Nat) (hf:f≤9990) (hE:∀ w:World,∀ v v':Value,∀ k k':List Lit,v.formed Tryz.prog ty=true→v'.formed Tryz.prog ty=true→Tryz.prog.keyLits f ty v.cells.toList=some k→Tryz.prog.keyLits f ty v'.cells.toList=some k'→∃ r,(Op.equalIn 10000 ty v v').run Tryz.prog w=.ok r w∧(r=true ↔ k=k'))
  (ok:α→Prop) (ky:α→List Lit) (hfm:∀ x,(Value.agg (arr x)).formed Tryz.prog ty=true) (hk:∀ x,ok x→Tryz.prog.keyLits f ty (RowT.enc x)=some (ky x)) (hi:∀ x y,ky x=ky y→x=y) (a b:α) (ha:ok a) (hb:ok b) (w:World) :
  (Op.equalIn 10000 ty (.agg (arr a)) (.agg (arr b))).run Tryz.prog w=.ok (decide (a=b)) w:=by
 obtain ⟨r,hr,hiff⟩:=hE w _ _ _ _ (hfm a) (hfm b) (by show Tryz.prog.keyLits f ty (arr a).toList=_;rw [hp.toL];exact hk a ha) (by show Tryz.prog.keyLits f ty (arr b).toList=_;rw [hp.toL];exact hk b hb)
 rw [hr]
 have:r=decide (a=b):=by
  by_cases h:a=b
  ·subst h;simp [hiff.2 rfl]
  have:r ≠ true:=fun e=>h (hi a b (hiff.1 e))
  simp [h,this]
 rw [this]
abbrev ceA (C:CeR):Array Value:=#[.int .i64 C.k,.int .i64 C.id,.int .u8 (nb8 C.lk 0),.int .u8 (nb8 C.lk 1),.int .u8 (nb8 C.lk 2),.int .u8 (nb8 C.lk 3),.int .u8 (nb8 C.lk 4),.int .u8 (nb8 C.lk 5),.int .u8 (nb8 C.lk 6),.int .u8 (nb8 C.lk 7)]
def ceL (C:CeR):List Value:=(ceA C).toList
theorem aIX (C:CeR):∀ u ∈ ceL C,u.oneCell'=true:=by
 intro u hu
 simp only [ceL,List.mem_cons,List.not_mem_nil,or_false] at hu
 rcases hu with rfl | rfl | rfl | rfl | rfl | rfl | rfl | rfl | rfl | rfl <;> rfl
def ceW (C:CeR):Prop:=wfI C.k∧wfI C.id
instance:RowT CeR where
 sz:=10
 z:=⟨0,0,0⟩
 enc:=ceL
 ok C _:=ceW C
 pos:=by decide
 len _:=rfl
 one:=aIX
 ext _ _ _ h _:=h
abbrev ce0:Array Value:=#[.int .i64 0,.int .i64 0,.int .u8 0,.int .u8 0,.int .u8 0,.int .u8 0,.int .u8 0,.int .u8 0,.int .u8 0,.int .u8 0]
theorem ceE:Elem Tryz.prog 96 32 (.agg ce0) 10 24:=⟨Tryz.underlying96,by kernel_rfl,rfl,by decide⟩
theorem ceP:RowP CeR 32 ceA:=⟨fun _=>rfl,by kernel_rfl,_,Tryz.underlying32,rfl⟩
theorem ceF (C:CeR):(Value.agg (ceA C)).formed Tryz.prog 32=true:=by
 have c:Tryz.prog.cellsOf 32=10:=by kernel_rfl
 simp [Value.formed,Tryz.underlying32,c]
abbrev deA (C:DeR):Array Value:=#[.int .i64 C.c.k,.int .i64 C.c.id,.int .u8 (nb8 C.c.lk 0),.int .u8 (nb8 C.c.lk 1),.int .u8 (nb8 C.c.lk 2),.int .u8 (nb8 C.c.lk 3),.int .u8 (nb8 C.c.lk 4),.int .u8 (nb8 C.c.lk 5),.int .u8 (nb8 C.c.lk 6),.int .u8 (nb8 C.c.lk 7),.int .i64 C.a]
def deL (C:DeR):List Value:=(deA C).toList
theorem aIH (C:DeR):∀ u ∈ deL C,u.oneCell'=true:=by
 intro u hu
 simp only [deL,List.mem_cons,List.not_mem_nil,or_false] at hu
 rcases hu with rfl | rfl | rfl | rfl | rfl | rfl | rfl | rfl | rfl | rfl | rfl <;> rfl
def deW (C:DeR):Prop:=ceW C.c∧wfI C.a
instance:RowT DeR where
 sz:=11
 z:=⟨⟨0,0,0⟩,0⟩
 enc:=deL
 ok C _:=deW C
 pos:=by decide
 len _:=rfl
 one:=aIH
 ext _ _ _ h _:=h
abbrev de0:Array Value:=#[.int .i64 0,.int .i64 0,.int .u8 0,.int .u8 0,.int .u8 0,.int .u8 0,.int .u8 0,.int .u8 0,.int .u8 0,.int .u8 0,.int .i64 0]
theorem deE:Elem Tryz.prog 27 34 (.agg de0) 11 32:=⟨Tryz.underlying27,by kernel_rfl,rfl,by decide⟩
theorem deP:RowP DeR 34 deA:=⟨fun _=>rfl,by kernel_rfl,_,Tryz.underlying34,rfl⟩
theorem deF (C:DeR):(Value.agg (deA C)).formed Tryz.prog 34=true:=by
 have c:Tryz.prog.cellsOf 34=11:=by kernel_rfl
 simp [Value.formed,Tryz.underlying34,c]
abbrev lkA (C:LkR):Array Value:=#[.int .u8 (nb8 C.nm 0),.int .u8 (nb8 C.nm 1),.int .u8 (nb8 C.nm 2),.int .u8 (nb8 C.nm 3),.int .u8 (nb8 C.nm 4),.int .u8 (nb8 C.nm 5),.int .u8 (nb8 C.nm 6),.int .u8 (nb8 C.nm 7),.int .u8 (nb8 C.hs 0),.int .u8 (nb8 C.hs 1),.int .u8 (nb8 C.hs 2),.int .u8 (nb8 C.hs 3),.int .u8 (nb8 C.hs 4),.int .u8 (nb8 C.hs 5),.int .u8 (nb8 C.hs 6),.int .u8 (nb8 C.hs 7),.int .i64 C.ow,.int .i64 C.tO,.int .i64 C.ul]
def lkL (C:LkR):List Value:=(lkA C).toList
theorem aIk (C:LkR):∀ u ∈ lkL C,u.oneCell'=true:=by
 intro u hu
 simp only [lkL,List.mem_cons,List.not_mem_nil,or_false] at hu
 rcases hu with rfl | rfl | rfl | rfl | rfl | rfl | rfl | rfl | rfl | rfl | rfl | rfl | rfl | rfl | rfl | rfl | rfl | rfl | rfl <;> rfl
def lkW (C:LkR):Prop:=wfI C.ow∧wfI C.tO∧wfI C.ul
instance:RowT LkR where
 sz:=19
 z:=⟨0,0,0,0,0⟩
 enc:=lkL
 ok C _:=lkW C
 pos:=by decide
 len _:=rfl
 one:=aIk
 ext _ _ _ h _:=h
abbrev lk0:Array Value:=#[.int .u8 0,.int .u8 0,.int .u8 0,.int .u8 0,.int .u8 0,.int .u8 0,.int .u8 0,.int .u8 0,.int .u8 0,.int .u8 0,.int .u8 0,.int .u8 0,.int .u8 0,.int .u8 0,.int .u8 0,.int .u8 0,.int .i64 0,.int .i64 0,.int .i64 0]
theorem lkE:Elem Tryz.prog 41 94 (.agg lk0) 19 40:=⟨Tryz.underlying41,by kernel_rfl,rfl,by decide⟩
theorem lkP:RowP LkR 94 lkA:=⟨fun _=>rfl,by kernel_rfl,_,Tryz.underlying94,rfl⟩
theorem lkF (C:LkR):(Value.agg (lkA C)).formed Tryz.prog 94=true:=by
 have c:Tryz.prog.cellsOf 94=19:=by kernel_rfl
 simp [Value.formed,Tryz.underlying94,c]
def ceK (C:CeR):List Lit:=[.int .i64 C.k,.int .i64 C.id] ++ (nmb C.lk).map pZ
def deK (C:DeR):List Lit:=ceK C.c ++ [.int .i64 C.a]
def lkK (C:LkR):List Lit:=(nmb C.nm).map pZ ++ ((nmb C.hs).map pZ ++ [.int .i64 C.ow,.int .i64 C.tO,.int .i64 C.ul])
theorem aJv (C:CeR):ceL C=[.int .i64 C.k,.int .i64 C.id] ++ bcs (nmb C.lk):=by rw [fF];rfl
theorem aLn (C:DeR):deL C=ceL C.c ++ [.int .i64 C.a]:=rfl
theorem aJq (C:LkR):lkL C=bcs (nmb C.nm) ++ (bcs (nmb C.hs) ++ [.int .i64 C.ow,.int .i64 C.tO,.int .i64 C.ul]):=by rw [fF,fF];rfl
theorem kF (n:UInt64):((nmb n).map pZ).length=8:=by simp [aG]
theorem vX (C:CeR):(ceK C).length=10:=by simp [ceK,aG]
theorem aEB (a b:CeR) (h:ceK a=ceK b):a=b:=by
 unfold ceK at h
 simp only [List.cons_append,List.nil_append,List.cons.injEq,Lit.int.injEq,true_and] at h
 obtain ⟨h1,h2,h3⟩:=h
 have:=pY h3
 cases a;cases b
 simp only at *
 subst h1;subst h2;subst this;rfl
theorem aII (a b:DeR) (h:deK a=deK b):a=b:=by
 unfold deK at h
 obtain ⟨h1,h2⟩:=List.append_inj h (by rw [vX,vX])
 have:=aEB _ _ h1
 simp only [List.cons.injEq,Lit.int.injEq,true_and,and_true] at h2
 cases a;cases b
 simp only at *
 subst h2;subst this;rfl
theorem aIl (a b:LkR) (h:lkK a=lkK b):a=b:=by
 unfold lkK at h
 obtain ⟨h1,h2⟩:=List.append_inj h (by rw [kF,kF])
 obtain ⟨h3,h4⟩:=List.append_inj h2 (by rw [kF,kF])
 simp only [List.cons.injEq,Lit.int.injEq,true_and,and_true] at h4
 obtain ⟨h5,h6,h7⟩:=h4
 have e1:=pY h1
 have e2:=pY h3
 cases a;cases b
 simp only at *
 subst h5;subst h6;subst h7;subst e1;subst e2;rfl
theorem kO (m:Nat) (x:Int) (hx:wfI x):Tryz.prog.keyLits (m+1) 3 [.int .i64 x]=some [.int .i64 x]:=by
 unfold Program.keyLits
 rw [Tryz.underlying3]
 simp only
 rw [if_pos ⟨trivial,hx⟩]
theorem aHk (m:Nat) (c:UInt8):Tryz.prog.keyLits (m+1) 5 [.int .u8 (c.toNat:Int)]=some [pZ c]:=by
 unfold Program.keyLits
 rw [Tryz.underlying5]
 simp only
 rw [if_pos ⟨trivial,aEo c⟩];rfl
theorem aBL (m:Nat) (n:UInt64):Tryz.prog.keyLits (m+2) 30 (bcs (nmb n))=some ((nmb n).map pZ):=by
 unfold Program.keyLits
 rw [Tryz.underlying30]
 simp only
 rw [if_pos (by rw [aJ,aG,vV]),aCt]
 rw [pT n]
 generalize (nmb n).getD 0 0=x0
 generalize (nmb n).getD 1 0=x1
 generalize (nmb n).getD 2 0=x2
 generalize (nmb n).getD 3 0=x3
 generalize (nmb n).getD 4 0=x4
 generalize (nmb n).getD 5 0=x5
 generalize (nmb n).getD 6 0=x6
 generalize (nmb n).getD 7 0=x7
 rw [show List.range 8=[0,1,2,3,4,5,6,7] from rfl]
 simp only [bcs,bv,List.map_cons,List.map_nil,List.mapM_cons,List.mapM_nil,Nat.zero_mul,Nat.one_mul,Nat.mul_one,List.drop_zero,List.drop_succ_cons,List.take_succ_cons,List.take_zero,aHk m]
 rfl
theorem aJr (m:Nat) (C:CeR) (h:ceW C):Tryz.prog.keyLits (m+3) 32 (ceL C)=some (ceK C):=by
 obtain ⟨h1,h2⟩:=h
 have c1:Tryz.prog.cellsOf 3=1:=by kernel_rfl
 have c10:Tryz.prog.cellsOf 32=10:=by kernel_rfl
 have t8:(bcs (nmb C.lk)).take 8=bcs (nmb C.lk):=List.take_of_length_le (by rw [aJ,aG];exact Nat.le_refl _)
 have hl:(ceL C).length=10:=rfl
 rw [aJv] at hl ⊢
 unfold Program.keyLits
 rw [Tryz.underlying32]
 simp only
 rw [if_pos ⟨by rw [hl,c10],by kernel_rfl⟩]
 simp only [List.mapM_cons,List.mapM_nil,c1,vV,List.cons_append,List.nil_append,List.drop_zero,List.drop_succ_cons,List.take_succ_cons,List.take_zero,kO (m+1) _ h1,kO (m+1) _ h2,t8,aBL m]
 simp [ceK]
theorem aLl (m:Nat) (C:DeR) (h:deW C):Tryz.prog.keyLits (m+4) 34 (deL C)=some (deK C):=by
 obtain ⟨h1,h2⟩:=h
 have c1:Tryz.prog.cellsOf 3=1:=by kernel_rfl
 have c10:Tryz.prog.cellsOf 32=10:=by kernel_rfl
 have c11:Tryz.prog.cellsOf 34=11:=by kernel_rfl
 have hl:(deL C).length=11:=rfl
 have t10:(ceL C.c ++ [Value.int .i64 C.a]).take 10=ceL C.c:=rfl
 have d10:(ceL C.c ++ [Value.int .i64 C.a]).drop 10=[Value.int .i64 C.a]:=rfl
 rw [aLn] at hl ⊢
 unfold Program.keyLits
 rw [Tryz.underlying34]
 simp only
 rw [if_pos ⟨by rw [hl,c11],by kernel_rfl⟩]
 simp only [List.mapM_cons,List.mapM_nil,c1,c10,List.drop_zero,t10,d10,List.take_succ_cons,List.take_zero,kO (m+2) _ h2,aJr m _ h1]
 simp [deK]
theorem aLk (m:Nat) (C:LkR) (h:lkW C):Tryz.prog.keyLits (m+3) 94 (lkL C)=some (lkK C):=by
 obtain ⟨h1,h2,h3⟩:=h
 have c1:Tryz.prog.cellsOf 3=1:=by kernel_rfl
 have c19:Tryz.prog.cellsOf 94=19:=by kernel_rfl
 have hp:(bcs (nmb C.nm)).length=8:=by rw [aJ,aG]
 have hq:(bcs (nmb C.hs)).length=8:=by rw [aJ,aG]
 have hl:(lkL C).length=19:=rfl
 rw [aJq] at hl ⊢
 have t1:(bcs (nmb C.nm) ++ (bcs (nmb C.hs) ++ [Value.int .i64 C.ow,.int .i64 C.tO,.int .i64 C.ul])).take 8=bcs (nmb C.nm):=by rw [← hp];exact List.take_left
 have d1:(bcs (nmb C.nm) ++ (bcs (nmb C.hs) ++ [Value.int .i64 C.ow,.int .i64 C.tO,.int .i64 C.ul])).drop 8=bcs (nmb C.hs) ++ [Value.int .i64 C.ow,.int .i64 C.tO,.int .i64 C.ul]:=by rw [← hp];exact List.drop_left
 have t2:(bcs (nmb C.hs) ++ [Value.int .i64 C.ow,.int .i64 C.tO,.int .i64 C.ul]).take 8=bcs (nmb C.hs):=by rw [← hq];exact List.take_left
 have d2:(bcs (nmb C.hs) ++ [Value.int .i64 C.ow,.int .i64 C.tO,.int .i64 C.ul]).drop 8=[Value.int .i64 C.ow,.int .i64 C.tO,.int .i64 C.ul]:=by rw [← hq];exact List.drop_left
 have d16:(bcs (nmb C.nm) ++ (bcs (nmb C.hs) ++ [Value.int .i64 C.ow,.int .i64 C.tO,.int .i64 C.ul])).drop 16=[Value.int .i64 C.ow,.int .i64 C.tO,.int .i64 C.ul]:=by rw [show 16=8+8 from rfl,← List.drop_drop,d1,d2]
 have d17:(bcs (nmb C.nm) ++ (bcs (nmb C.hs) ++ [Value.int .i64 C.ow,.int .i64 C.tO,.int .i64 C.ul])).drop 17=[Value.int .i64 C.tO,.int .i64 C.ul]:=by rw [show 17=16+1 from rfl,← List.drop_drop,d16];rfl
 have d18:(bcs (nmb C.nm) ++ (bcs (nmb C.hs) ++ [Value.int .i64 C.ow,.int .i64 C.tO,.int .i64 C.ul])).drop 18=[Value.int .i64 C.ul]:=by rw [show 18=16+2 from rfl,← List.drop_drop,d16];rfl
 unfold Program.keyLits
 rw [Tryz.underlying94]
 simp only
 rw [if_pos ⟨by rw [hl,c19],by kernel_rfl⟩]
 simp only [List.mapM_cons,List.mapM_nil,c1,vV,List.drop_zero,t1,d1,t2,d2,d16,d17,d18,List.drop_succ_cons,List.take_succ_cons,List.take_zero,kO (m+1) _ h1,kO (m+1) _ h2,kO (m+1) _ h3,aBL m]
 simp [lkK]
theorem aEv (a b:CeR) (ha:ceW a) (hb:ceW b) (w:World):(Op.equalIn 10000 32 (.agg (ceA a)) (.agg (ceA b))).run Tryz.prog w=.ok (decide (a=b)) w :=
 aDB ceP 3 (by decide) (fun w v v' k k' h1 h2 h3 h4=>run_equalIn_deep (P:=Tryz.prog) 9997 3 32 (by kernel_rfl) w 3 3 _ _ _ _ h1 h2 h3 h4) ceW ceK ceF (fun C h=>aJr 0 C h) aEB a b ha hb w
theorem aID (a b:DeR) (ha:deW a) (hb:deW b) (w:World):(Op.equalIn 10000 34 (.agg (deA a)) (.agg (deA b))).run Tryz.prog w=.ok (decide (a=b)) w :=
 aDB deP 4 (by decide) (fun w v v' k k' h1 h2 h3 h4=>run_equalIn_deep (P:=Tryz.prog) 9996 4 34 (by kernel_rfl) w 4 4 _ _ _ _ h1 h2 h3 h4) deW deK deF (fun C h=>aLl 0 C h) aII a b ha hb w
theorem aIC (a b:LkR) (ha:lkW a) (hb:lkW b) (w:World):(Op.equalIn 10000 94 (.agg (lkA a)) (.agg (lkA b))).run Tryz.prog w=.ok (decide (a=b)) w :=
 aDB lkP 3 (by decide) (fun w v v' k k' h1 h2 h3 h4=>run_equalIn_deep (P:=Tryz.prog) 9997 3 94 (by kernel_rfl) w 3 3 _ _ _ _ h1 h2 h3 h4) lkW lkK lkF (fun C h=>aLk 0 C h) aIl a b ha hb w
theorem tV (a b:CeR) (ha:ceW a) (hb:ceW b) (w:World):(binOp .eql 32 (.agg (ceA a)) (.agg (ceA b))).run Tryz.prog w=.ok (.bool (decide (a=b))) w:=by rw [run_eql_struct,aEv a b ha hb w];rfl
theorem aEU (a b:CeR) (ha:ceW a) (hb:ceW b) (w:World):(binOp .neq 32 (.agg (ceA a)) (.agg (ceA b))).run Tryz.prog w=.ok (.bool (!decide (a=b))) w:=by rw [run_neq_struct,aEv a b ha hb w];rfl
theorem kX (op:BinOp) (x y:Operand) (a b:CeR) (w:World):(eqGuard op 32 x y (.agg (ceA a)) (.agg (ceA b))).run Tryz.prog w=.ok () w:=run_eqGuard_agg w op _ x y _ _ (by kernel_rfl)
theorem aET (a b:DeR) (ha:deW a) (hb:deW b) (w:World):(binOp .neq 34 (.agg (deA a)) (.agg (deA b))).run Tryz.prog w=.ok (.bool (!decide (a=b))) w:=by rw [run_neq_struct,aID a b ha hb w];rfl
theorem aHo (op:BinOp) (x y:Operand) (a b:DeR) (w:World):(eqGuard op 34 x y (.agg (deA a)) (.agg (deA b))).run Tryz.prog w=.ok () w:=run_eqGuard_agg w op _ x y _ _ (by kernel_rfl)
theorem aES (a b:LkR) (ha:lkW a) (hb:lkW b) (w:World):(binOp .neq 94 (.agg (lkA a)) (.agg (lkA b))).run Tryz.prog w=.ok (.bool (!decide (a=b))) w:=by rw [run_neq_struct,aIC a b ha hb w];rfl
theorem aHn (op:BinOp) (x y:Operand) (a b:LkR) (w:World):(eqGuard op 94 x y (.agg (lkA a)) (.agg (lkA b))).run Tryz.prog w=.ok () w:=run_eqGuard_agg w op _ x y _ _ (by kernel_rfl)
def nmL (n:UInt64):List Value:=bcs (nmb n)
instance:RowT UInt64 where
 sz:=8
 z:=0
 enc:=nmL
 ok _ _:=True
 pos:=by decide
 len _:=by rw [nmL,aJ,aG]
 one _:=dW _
 ext _ _ _ _ _:=trivial
theorem gI (op:BinOp) (x y:Operand) (a b:UInt64) (w:World):(eqGuard op 30 x y (.agg (nmc a)) (.agg (nmc b))).run Tryz.prog w=.ok () w:=run_eqGuard_agg w op _ x y _ _ (by kernel_rfl)
theorem nmP:RowP UInt64 30 nmc:=⟨fun _=>rfl,by kernel_rfl,_,Tryz.underlying30,rfl⟩
theorem SlN.g {w:World} {A:Option Addr} {n c:Nat} {L:List UInt64} (h:SlN w A n c L):SlG w A n c L:=⟨h.len,h.le,h.cap,h.rd,fun _ _=>trivial⟩
theorem SlG.n {w:World} {A:Option Addr} {n c:Nat} {L:List UInt64} (h:SlG w A n c L):SlN w A n c L:=⟨h.len,h.le,h.cap,h.rd⟩
theorem cI {P:Program} {ops:Array Oper} {S:World→Prop} {o:Oper} {a:Act} {op:BinOp} {ty ty':TypeId} (hw:Region.wanted o (yielded ops a.tmps)=true) (x y:Operand) (ho:o.op=.binOp op ty x y ty') {vx vy:Value} {b:Bool} (hx:a.eval x=vx) (hy:a.eval y=vy)
  (hg:∀ w,(eqGuard op ty x y vx vy).run P w=.ok () w) (hq:∀ w,(binOp op ty vx vy).run P w=.ok (.bool b) w):YieldsIf P ops S o (.bool b) a :=
 .inl ⟨hw,fun w _=>by
  unfold execOp
  simp only [ho,hx,hy,Sem.run_bind,hg,hq,Result.andThen_ok,Sem.run_pure]⟩
theorem pI (a b:UInt64) (w:World):(binOp .neq 30 (.agg (nmc a)) (.agg (nmc b))).run Tryz.prog w=.ok (.bool (!decide (a=b))) w:=by
 have h:=cO a b w
 rw [run_eql_struct] at h
 rw [run_neq_struct]
 generalize (Op.equalIn 10000 30 (.agg (nmc a)) (.agg (nmc b))).run Tryz.prog w=r at *
 cases r with
 | ok v w'=>simp [Result.andThen] at h ⊢;obtain ⟨h1,h2⟩:=h;exact ⟨by rw [h1],h2⟩
 | _=>simp [Result.andThen] at h
def inL (z:Int):List Value:=[.int .i64 z]
instance:RowT Int where
 sz:=1
 z:=0
 enc:=inL
 ok z _:=wfI z
 pos:=by decide
 len _:=rfl
 one z u hu:=by rw [List.mem_singleton.1 hu];rfl
 ext _ _ _ h _:=h
theorem inE:Elem Tryz.prog 38 3 (.int .i64 0) 1 8:=⟨Tryz.underlying38,by kernel_rfl,rfl,by decide⟩
end
end Go.Proofs.YtohmmcahpakokaaGreat
