/- Lists in ascending order without repetitions: the insertion, the compaction, one answer. Plain: no program in sight. -/
import Derived.Deep.DeepCutAuto
import Derived.Deep.CutBlock
import Derived.WalkMore
import Derived.Sort.LotA
import Derived.Laws.OwnMore
import Derived.Test.YtohmmcahpakokaaGreatH13
set_option maxRecDepth 100000
set_option maxHeartbeats 8000000
set_option linter.unusedSectionVars false
set_option linter.unusedVariables false
set_option linter.unusedSimpArgs false
namespace Go.Proofs.YtohmmcahpakokaaGreat
section
open Go.RowKit
section
variable {β:Type} [DecidableEq β]
structure STO (lt:β→β→Bool):Prop where
 irrefl:∀ x,lt x x=false
 trans:∀ x y z,lt x y=true→lt y z=true→lt x z=true
 total:∀ x y,lt x y=false→lt y x=false→x=y
variable {lt:β→β→Bool}
theorem STO.asymm (h:STO lt) {x y:β} (hxy:lt x y=true):lt y x=false:=by
 cases hyx:lt y x with
 | false=>rfl
 | true=>have:=h.trans x y x hxy hyx;rw [h.irrefl] at this;cases this
theorem STO.ntrans (h:STO lt) {x y z:β} (h1:lt x y=false) (h2:lt y z=false):lt x z=false:=by
 cases hxz:lt x z with
 | false=>rfl
 | true =>
  cases hyx:lt y x with
  | true=>have:=h.trans y x z hyx hxz;rw [h2] at this;cases this
  | false =>
   obtain rfl:=h.total x y h1 hyx
   rw [h2] at hxz;cases hxz
def Asc (lt:β→β→Bool) (L:List β):Prop:=L.Pairwise fun x y=>lt x y=true
def zS (lt:β→β→Bool) (x:β):List β→List β
 | []=>[x]
 | y :: r=>if lt y x=true then y :: zS lt x r else if y=x then y :: r else x :: y :: r
def uW (lt:β→β→Bool) (acc L:List β):List β:=L.foldl (fun acc x=>zS lt x acc) acc
def oU (lt:β→β→Bool) (L:List β):List β:=uW lt [] L
theorem aBl (h:STO lt) (x y:β) (L:List β):y ∈ zS lt x L ↔ y=x ∨ y ∈ L:=by
 induction L with
 | nil=>simp [zS]
 | cons z r ih =>
  unfold zS
  split
  ·simp only [List.mem_cons, ih]
   constructor
   ·rintro (h | h | h) <;> simp [h]
   rintro (h | h | h) <;> simp [h]
  split
  ·rename_i h1 h2; subst h2; simp only [List.mem_cons]
   constructor
   ·rintro (h | h) <;> simp [h]
   rintro (h | h | h) <;> simp [h]
  simp only [List.mem_cons]
theorem aGV (h:STO lt) (x:β) (L:List β) (hL:Asc lt L):Asc lt (zS lt x L):=by
 induction L with
 | nil=>simp [zS,Asc]
 | cons z r ih =>
  unfold Asc at hL ih ⊢
  obtain ⟨h1,h2⟩:=List.pairwise_cons.1 hL
  unfold zS
  split
  ·rename_i hz
   refine List.pairwise_cons.2 ⟨fun y hy=>?_,ih h2⟩
   rcases (aBl h x y r).1 hy with rfl | hy
   ·exact hz
   exact h1 y hy
  rename_i hz
  split
  ·exact hL
  rename_i hne
  have hxz:lt x z=true:=by
   cases hh:lt x z with
   | true=>rfl
   | false=>exact absurd (h.total z x (by simpa using hz) hh) hne
  refine List.pairwise_cons.2 ⟨fun y hy=>?_,hL⟩
  rcases List.mem_cons.1 hy with rfl | hy
  ·exact hxz
  exact h.trans _ _ _ hxz (h1 y hy)
theorem aCL (h:STO lt) (y:β) (L acc:List β):y ∈ uW lt acc L ↔ y ∈ acc ∨ y ∈ L:=by
 induction L generalizing acc with
 | nil=>simp [uW]
 | cons x r ih =>
  show y ∈ uW lt (zS lt x acc) r ↔ _
  rw [ih,aBl h,List.mem_cons]
  constructor
  ·rintro ((h | h) | h) <;> simp [h]
  rintro (h | h | h) <;> simp [h]
theorem aDh (h:STO lt) (L acc:List β) (ha:Asc lt acc):Asc lt (uW lt acc L):=by
 induction L generalizing acc with
 | nil=>exact ha
 | cons x r ih=>exact ih _ (aGV h x acc ha)
theorem aCM (h:STO lt) (y:β) (L:List β):y ∈ oU lt L ↔ y ∈ L:=by
 unfold oU;rw [aCL h];simp
theorem aDi (h:STO lt) (L:List β):Asc lt (oU lt L):=aDh h L [] List.Pairwise.nil
theorem aCa (h:STO lt):∀ (L M:List β),Asc lt L→Asc lt M→(∀ y,y ∈ L ↔ y ∈ M)→L=M
 | [],[],_,_,_=>rfl
 | [],y :: s,_,_,he=>by have:=(he y).2 (by simp);simp at this
 | x :: r,[],_,_,he=>by have:=(he x).1 (by simp);simp at this
 | x :: r,y :: s,hL,hM,he=>by
  unfold Asc at hL hM
  obtain ⟨a1,a2⟩:=List.pairwise_cons.1 hL
  obtain ⟨b1,b2⟩:=List.pairwise_cons.1 hM
  have hxy:x=y:=by
   rcases List.mem_cons.1 ((he x).1 (by simp)) with e | e
   ·exact e
   rcases List.mem_cons.1 ((he y).2 (by simp)) with e' | e'
   ·exact e'.symm
   have h1:=b1 x e
   have h2:=a1 y e'
   rw [h.asymm h1] at h2;cases h2
  subst hxy
  rw [aCa h r s a2 b2 (fun z=>by
   have hz:=he z
   simp only [List.mem_cons] at hz
   constructor
   ·intro hr
    rcases hz.1 (Or.inr hr) with e | e
    ·subst e;have:=a1 z hr;rw [h.irrefl] at this;cases this
    exact e
   intro hs
   rcases hz.2 (Or.inr hs) with e | e
   ·subst e;have:=b1 z hs;rw [h.irrefl] at this;cases this
   exact e)]
def lC:β→List β→List β
 | _,[]=>[]
 | p,y :: r=>if y=p then lC p r else y :: lC y r
def compO:List β→List β
 | []=>[]
 | x :: r=>x :: lC x r
theorem aEL (y:β):∀ (L:List β) (p:β),y ∈ p :: lC p L ↔ y ∈ p :: L:=by
 intro L
 induction L with
 | nil=>intro p;rfl
 | cons x r ih =>
  intro p
  unfold lC
  split
  ·rename_i e; subst e
   rw [ih x];simp
  rename_i e
  rw [List.mem_cons,ih x,List.mem_cons,List.mem_cons,List.mem_cons]
theorem aEK (y:β) (L:List β):y ∈ compO L ↔ y ∈ L:=by
 cases L with
 | nil=>rfl
 | cons x r=>exact aEL y r x
def Wsc (lt:β→β→Bool) (L:List β):Prop:=L.Pairwise fun x y=>lt y x=false
theorem aFj (h:STO lt):∀ (L:List β) (p:β),Wsc lt (p :: L)→Asc lt (p :: lC p L):=by
 intro L
 induction L with
 | nil=>intro p _;exact List.pairwise_singleton _ _
 | cons x r ih =>
  intro p hW
  unfold Wsc at hW
  obtain ⟨h1,h2⟩:=List.pairwise_cons.1 hW
  obtain ⟨h3,h4⟩:=List.pairwise_cons.1 h2
  unfold lC
  split
  ·rename_i e;subst e;exact ih x h2
  rename_i e
  have hx:=ih x h2
  have hpx:lt p x=true:=by
   cases hh:lt p x with
   | true=>rfl
   | false=>exact absurd (h.total x p (h1 x (by simp)) hh) e
  refine List.pairwise_cons.2 ⟨fun y hy=>?_,hx⟩
  rcases List.mem_cons.1 hy with rfl | hy
  ·exact hpx
  exact h.trans _ _ _ hpx ((List.pairwise_cons.1 hx).1 y hy)
theorem aFi (h:STO lt) {L:List β} (hW:Wsc lt L):Asc lt (compO L):=by
 cases L with
 | nil=>exact List.Pairwise.nil
 | cons x r=>exact aFj h r x hW
theorem aBL (h:STO lt) {L M:List β} (hW:Wsc lt M) (he:∀ y,y ∈ M ↔ y ∈ L):compO M=oU lt L :=
 aCa h _ _ (aFi h hW) (aDi h L) (fun y=>by rw [aEK,aCM h,he])
theorem aDe (L:List β) (x y:β):compO (L ++ [x,y])=if y=x then compO (L ++ [x]) else compO (L ++ [x]) ++ [y]:=by
 have key:∀ (L:List β) (p x:β),lC p (L ++ [x,y])=if y=x then lC p (L ++ [x]) else lC p (L ++ [x]) ++ [y]:=by
  intro L
  induction L with
  | nil =>
   intro p x
   simp only [List.nil_append,lC]
   by_cases h1:x=p
   ·subst h1;by_cases h2:y=x <;> simp [h2]
   by_cases h2:y=x <;> simp [h1,h2]
  | cons z r ih =>
   intro p x
   simp only [List.cons_append,lC]
   split
   ·exact ih p x
   rw [ih z x];split <;> simp
 cases L with
 | nil=>simp only [List.nil_append,compO,lC];split <;> simp
 | cons z r =>
  simp only [List.cons_append,compO]
  rw [key];split <;> simp
end
theorem wC {w:World} {g:Nat} {t:TypeId} {n:UInt64} (h:Blk w g t (nmc n)) (r:UInt64):(storeCells ⟨g,0,none⟩ (nmc r).toList).run Tryz.prog w=.ok () (w.setCells g 0 (nmc r).toList):=by
 have hl:(nmc r).toList.length=8:=by rw [bO,aN,aL]
 have:=run_storeCells_cells (P:=Tryz.prog) g 0 (nmc r).toList 0 w (fun j hj=>by rw [Nat.add_zero,Nat.zero_add,h.cell j,Array.getElem?_eq_getElem (by rw [cQ];omega)];rfl) (fun j hj=>h.frozen _) (by rw [bO];exact eA _)
 exact this
theorem aCk (pub m:UInt64) (A:Option Addr) (n c:Nat) (l:List UInt8) (w:World) (h:SlB w A n c l) (hn:n=186) (hlf:cC l 0 2 < 32) :
  Calls Tryz.prog 145 #[.agg (nmc pub),.int .i64 1,.agg (nmc m),.slice A n c] w fun e w'=>e=.returned (.bool (decide (fH l 2 (cC l 0 2 % 32) m=pub)))∧Ext w w':=by
 subst hn
 have hE:=((Ext.refl w).alloc' (.cells (nmc pub) 30)).alloc' (.cells (nmc m) 30)
 have hbp:=(Blk.new w 30 (nmc pub)).alloc (.cells (nmc m) 30)
 have hbm:Blk ((w.alloc (.cells (nmc pub) 30)).alloc (.cells (nmc m) 30)) (w.heap.size+1) 30 (nmc m):=Blk.newAt _ _ _ _ (by simp)
 have HE:=zh hE
 have HP:=zh hbp
 have hrm:=dW hbm
 have HL:=zh (qB A 186 c l _ (h.ext HE.out) (by omega))
 have HH:=zh (h.ext HE.out)
 have hcap:=h.cap
 clear h hE hbp hbm
 generalize hx:cC l 0 2=x at *
 clear hx
 have hq:=fun w=>cZ (fH l 2 (x % 32) m) pub w
 go_enter Tryz.func145,Tryz.ntmps145
 go_wp2_with fail
 refine HL.out.mono ?_
 rintro e w1 ⟨rfl,rfl⟩
 go_wp2_with (first | (go_at_call 200;refine (pF 1 _).mono ?_;rintro e w1 ⟨rfl,rfl⟩;rw [show jZ 1=186 from rfl]) | (go_at_call 201;refine (jI 1 _).mono ?_;rintro e w1 ⟨rfl,rfl⟩;rw [show rL 1=32 from rfl]) | (with_reducible refine bJ rfl (.tmp 6) rfl (w.heap.size+1) 0 rfl m hrm ?_))
 refine (oS A 186 c l 2 (x % 32) _ _ rfl (by omega) m _ HH.out (by omega) (by omega) (by omega)).mono ?_
 rintro e w2 ⟨rfl,he2⟩
 have HP2:=zh (HP.out.ext he2)
 have HE2:=zh (HE.out.trans he2)
 clear hrm he2
 generalize hr0:fH l 2 (x % 32) m=r at *
 have HR0:=zh hr0
 clear hr0
 have hst:=iP w2 w2.heap.size rfl r
 have hr:=dW (Blk.new w2 30 (nmc r))
 have hp:=dW (HP2.out.alloc (.cells (nmc r) 30))
 go_wp2_with (first | (with_reducible refine bJ rfl (.tmp 11) rfl w2.heap.size 0 rfl r hr ?_) | (with_reducible refine bJ rfl (.tmp 4) rfl w.heap.size 0 rfl pub hp ?_))
 go_ret
 exact ⟨by rw [HR0.out];rfl,HE2.out.alloc' _⟩
theorem aCj (pub m:UInt64) (A:Option Addr) (n c:Nat) (l:List UInt8) (w:World) (h:SlB w A n c l) (hn:n=370) (hlf:cC l 0 2 < 1024) :
  Calls Tryz.prog 145 #[.agg (nmc pub),.int .i64 2,.agg (nmc m),.slice A n c] w fun e w'=>e=.returned (.bool (decide (fH l 186 (cC l 0 2 / 32) (fH l 2 (cC l 0 2 % 32) m)=pub)))∧Ext w w':=by
 subst hn
 have hE:=((Ext.refl w).alloc' (.cells (nmc pub) 30)).alloc' (.cells (nmc m) 30)
 have hbp:=(Blk.new w 30 (nmc pub)).alloc (.cells (nmc m) 30)
 have hbm:Blk ((w.alloc (.cells (nmc pub) 30)).alloc (.cells (nmc m) 30)) (w.heap.size+1) 30 (nmc m):=Blk.newAt _ _ _ _ (by simp)
 have HE:=zh hE
 have HP:=zh hbp
 have hrm:=dW hbm
 have HL:=zh (qB A 370 c l _ (h.ext HE.out) (by omega))
 have HH:=zh (h.ext HE.out)
 have hcap:=h.cap
 clear h hE hbp hbm
 generalize hx:cC l 0 2=x at *
 clear hx
 go_enter Tryz.func145,Tryz.ntmps145
 go_wp2_with fail
 refine HL.out.mono ?_
 rintro e w1 ⟨rfl,rfl⟩
 go_wp2_with (first | (go_at_call 200;refine (pF 2 _).mono ?_;rintro e w1 ⟨rfl,rfl⟩;rw [show jZ 2=370 from rfl]) | (go_at_call 201;refine (jI 2 _).mono ?_;rintro e w1 ⟨rfl,rfl⟩;rw [show rL 2=1024 from rfl]) | (with_reducible refine bJ rfl (.tmp 6) rfl (w.heap.size+1) 0 rfl m hrm ?_))
 refine (oS A 370 c l 2 (x % 32) _ _ rfl (by omega) m _ HH.out (by omega) (by omega) (by omega)).mono ?_
 rintro e w2 ⟨rfl,he2⟩
 have HP2:=zh (HP.out.ext he2)
 have HE2:=zh (HE.out.trans he2)
 have HH2:=zh (HH.out.ext he2)
 clear hrm he2
 generalize hr0:fH l 2 (x % 32) m=r at *
 have HR0:=zh hr0
 clear hr0
 have hst:=iP w2 w2.heap.size rfl r
 have hA:=(Ext.refl w2).alloc' (.cells (nmc r) 30)
 have HB:=zh (Blk.new w2 30 (nmc r))
 have hr:=dW HB.out
 have HH3:=zh (HH2.out.ext hA)
 have HP3:=zh (HP2.out.ext hA)
 have HE3:=zh (HE2.out.trans hA)
 clear hA
 go_wp2_with (with_reducible refine bJ rfl (.tmp 11) rfl w2.heap.size 0 rfl r hr ?_)
 clear hr hst
 generalize w2.alloc (.cells (nmc r) 30)=W2 at *
 refine (oS A 370 c l 186 (x / 32) _ _ rfl (by omega) r _ HH3.out (by omega) (by omega) (by omega)).mono ?_
 rintro e w3 ⟨rfl,he3⟩
 have HB3:=zh (HB.out.ext he3)
 have HP4:=zh (HP3.out.ext he3)
 have HE4:=zh (HE3.out.trans he3)
 have hlt:=HP.out.lt
 have hne:w.heap.size ≠ w2.heap.size:=by have:=HE2.out.size;have:=HP2.out.lt;omega
 clear he3
 generalize hr1:fH l 186 (x / 32) r=r2 at *
 have HR1:=zh hr1
 clear hr1
 have hq:=fun w=>cZ r2 pub w
 have hst:=wC HB3.out r2
 have hr2:=dW (aGR HB3.out r2)
 have hp2:=dW (HP4.out.setCells_far hne (nmc r2).toList 0)
 go_wp2_with (first | (with_reducible refine bJ rfl (.tmp 11) rfl w2.heap.size 0 rfl r2 hr2 ?_) | (with_reducible refine bJ rfl (.tmp 4) rfl w.heap.size 0 rfl pub hp2 ?_))
 go_ret
 exact ⟨by rw [HR0.out,HR1.out];rfl,Below.setCells' HE4.out HE2.out.size _ _⟩
theorem aCl (pub m:UInt64) (lv:Int) (A:Option Addr) (n c:Nat) (l:List UInt8) (w:World) (h:SlB w A n c l) :
  Calls Tryz.prog 145 #[.agg (nmc pub),.int .i64 lv,.agg (nmc m),.slice A n c] w fun e w'=>e=.returned (.bool (mB pub lv m l))∧Ext w w':=by
 have hlen:=h.len
 by_cases hs:jZ lv=(n:Int)
 ·by_cases hc : rL lv ≤ (cC l 0 2 : Int)
  ·rw [aFu pub lv m l hc]
   exact xI pub m lv A n c l w h (.inr (.inr hc))
  by_cases h1:lv=1
  ·subst h1
   have hn:n=186:=by have:(186:Int)=(n:Int):=hs;omega
   have hlf:cC l 0 2 < 32:=by have:¬ (32:Int)≤(cC l 0 2:Int):=hc;omega
   have hv:mB pub 1 m l=decide (fH l 2 (cC l 0 2 % 32) m=pub):=by
    unfold mB;rw [if_pos rfl,decide_eq_true (show l.length=186 by omega),decide_eq_true hlf];rfl
   rw [hv]
   exact aCk pub m A n c l w h hn hlf
  by_cases h2:lv=2
  ·subst h2
   have hn:n=370:=by have:(370:Int)=(n:Int):=hs;omega
   have hlf:cC l 0 2 < 1024:=by have:¬ (1024:Int)≤(cC l 0 2:Int):=hc;omega
   have hv:mB pub 2 m l=decide (fH l 186 (cC l 0 2 / 32) (fH l 2 (cC l 0 2 % 32) m)=pub):=by
    unfold mB;rw [if_neg (by decide),if_pos rfl,decide_eq_true (show l.length=370 by omega),decide_eq_true hlf];rfl
   rw [hv]
   exact aCj pub m A n c l w h hn hlf
  exact absurd (show rL lv≤(cC l 0 2:Int) by rw [show rL lv=0 from by simp [rL,h1,h2]];omega) hc
 rw [nZ pub lv m l (by rw [hlen];exact hs)]
 exact xI pub m lv A n c l w h (.inr (.inl hs))
def wr (z:Int):Int:=IntKind.i64.wrap z
theorem aIq (z:Int):wr z=(z+9223372036854775808) % 18446744073709551616 - 9223372036854775808:=by
 unfold wr;rw [IntKind.wrap_i64]
def mU (z:Int):Prop:=-9223372036854775808≤z∧z≤9223372036854775807
theorem aDs (z:Int):mU (wr z):=by rw [aIq];unfold mU;omega
theorem iV {z:Int} (h:mU z):wr z=z:=by rw [aIq];unfold mU at h;omega
structure CeR where
 k:Int
 id:Int
 lk:UInt64
deriving DecidableEq
structure DeR where
 c:CeR
 a:Int
deriving DecidableEq
structure LkR where
 nm:UInt64
 hs:UInt64
 ow:Int
 tO:Int
 ul:Int
deriving DecidableEq
structure StV where
 C:List DeR
 Q:List Int
 K:List LkR
 P:List UInt64
 G:Int
deriving DecidableEq
def vR (c:CeR):List Int:=[c.k,c.id,un c.lk]
def gR (a b:CeR):Bool:=hI (vR a) (vR b)
theorem aFg {a b:CeR} (h:vR a=vR b):a=b:=by
 obtain ⟨k,i,l⟩:=a
 obtain ⟨k',i',l'⟩:=b
 simp only [vR,List.cons.injEq,and_true] at h
 obtain ⟨h1,h2,h3⟩:=h
 rw [h1,h2,aIR h3]
theorem pX:STO gR:=⟨fun x=>aBn _,fun x y z=>uS _ _ _,fun x y h1 h2=>aFg (uT _ _ rfl h1 h2)⟩
section
variable {α:Type}
def fM (p:α→Bool) (x:α):List α→List α
 | []=>[x]
 | y :: r=>if p y=true then x :: y :: r else y :: fM p x r
theorem fL (p:α→Bool) (x:α):∀ (L:List α) (k:Nat),k≤L.length→(∀ j (h:j < k) (hl:j < L.length),p L[j]=false)→(∀ (h:k < L.length),p L[k]=true)→fM p x L=L.take k ++ x :: L.drop k
 | [],0,_,_,_=>rfl
 | y :: r,0,_,_,h2=>by
  have:=h2 (by simp)
  simp only [List.getElem_cons_zero] at this
  unfold fM;rw [if_pos this];rfl
 | y :: r,k+1,hk,h1,h2=>by
  have h0:=h1 0 (by omega) (by simp)
  simp only [List.getElem_cons_zero] at h0
  have ih:=fL p x r k (by simpa using hk) (fun j hj hl=>h1 (j+1) (by omega) (by simpa using hl)) (fun h=>h2 (by simpa using h))
  unfold fM;rw [if_neg (by rw [h0];decide),ih];rfl
theorem pW (p:α→Bool) (x y:α):∀ (L:List α),y ∈ fM p x L ↔ y=x ∨ y ∈ L
 | []=>by simp [fM]
 | z :: r=>by
  unfold fM
  split
  ·simp
  rw [List.mem_cons,pW p x y r,List.mem_cons]
  constructor
  ·rintro (h | h | h)
   ·exact .inr (.inl h)
   ·exact .inl h
   exact .inr (.inr h)
  rintro (h | h | h)
  ·exact .inr (.inl h)
  ·exact .inl h
  exact .inr (.inr h)
end
def fdC (C:List DeR) (c:CeR):Option DeR:=C.find? (fun d=>decide (d.c=c))
def amt:Option DeR→Int
 | none=>0
 | some d=>d.a
def cY (C:List DeR) (c:CeR):Int:=amt (fdC C c)
def wA (c:CeR) (n:Int):List DeR→List DeR
 | []=>[]
 | d :: r=>if d.c=c then (if n=0 then r else ⟨d.c,n⟩ :: r) else d :: wA c n r
def dM (C:List DeR) (c:CeR) (a:Int):List DeR:=match fdC C c with
 | none=>if wr a=0 then C else fM (fun y=>gR c y.c) ⟨c,wr a⟩ C
 | some d=>wA c (wr (d.a+a)) C
def addL (C:List DeR) (l:List DeR):List DeR:=l.foldl (fun C d=>dM C d.c d.a) C
def aHj (C:List DeR):Int:=(C.map DeR.a).sum
def fdK (K:List LkR) (n:UInt64):Option LkR:=K.find? (fun l=>decide (l.nm=n))
def eT (K:List LkR) (l:LkR):List LkR:=match fdK K l.nm with
 | none=>fM (fun y=>decide (un l.nm < un y.nm)) l K
 | some _=>K
def eG (n:UInt64):List LkR→List LkR
 | []=>[]
 | l :: r=>if l.nm=n then r else l :: eG n r
def cE (P:List UInt64) (n:UInt64):List UInt64:=if n ∈ P then P else fM (fun y=>decide (un n < un y)) n P
def aP (i:Int):CeR:=⟨1,i,0⟩
def bW (n:UInt64):CeR:=⟨2,0,n⟩
def bT (i:Int):CeR:=⟨3,i,0⟩
def bV:CeR:=⟨4,0,0⟩
def cU (x y:CeR) (n:Int):List DeR:=[⟨x,wr (-n)⟩,⟨y,n⟩]
end
section
open Go.RowKit
attribute [local go_sem ↓] Go.wp_at_zero Go.wp_at_succ
def x5 (v:VtR):List Int:=[v.sl,v.ro,v.k,v.si,v.ch]
def dZ:UInt64:=72057594037927936
theorem kK:nmc dZ=#[.int .u8 1,.int .u8 0,.int .u8 0,.int .u8 0,.int .u8 0,.int .u8 0,.int .u8 0,.int .u8 0]:=by kernel_rfl
end
section
open Go.RowKit
theorem aEJ (P:List UInt64) (n y:UInt64):y ∈ cE P n ↔ y=n ∨ y ∈ P:=by
 unfold cE
 split
 ·rename_i h
  constructor
  ·exact .inr
  rintro (rfl | h')
  ·exact h
  exact h'
 exact pW _ _ _ _
theorem aCN {P:List UInt64} {n:UInt64} (h:n ∈ P):cE P n=P:=by unfold cE;rw [if_pos h]
def fN (G:Int) (i:Nat):Bool:=decide (G / 2 ^ i % 2=1)
def lT (G:Int) (i:Nat):Int:=if fN G i=true then G else G+2 ^ i
def ofV (v:OpV):OpR:=⟨v.k,v.tO,v.am,v.ul,v.va,v.lk,v.hs,none,v.pre.length,0,v.pre,none,v.prf.length,0,v.prf⟩
theorem aHO {R Q:OpR} (h:R.v=Q.v):dI R=dI Q:=by
 unfold OpR.v at h
 injection h with h1 h2 h3 h4 h5 h6 h7 h8 h9
 unfold dI
 rw [h1,h2,h3,h4,h5,h6,h7,h8,h9]
theorem aGG {L M:List OpR} (h:L.map OpR.v=M.map OpR.v):fG L=fG M:=by
 have e:∀ K:List OpR,fG K=((K.map OpR.v).map ofV).flatMap dI:=fun K=>by
  unfold fG
  induction K with
  | nil=>rfl
  | cons R r ih =>
   rw [List.flatMap_cons,ih]
   simp only [List.map_cons,List.flatMap_cons]
   rw [show dI (ofV R.v)=dI R from aHO rfl]
 rw [e L,e M,h]
theorem aBC (d:DeR) (C:List DeR) (c:CeR):fdC (d :: C) c=if d.c=c then some d else fdC C c:=by
 unfold fdC;rw [List.find?_cons]
 by_cases h:d.c=c
 ·rw [decide_eq_true h,if_pos h]
 rw [decide_eq_false h,if_neg h]
theorem aGC {C:List DeR} {c:CeR} {d:DeR} (h:fdC C c=some d):d ∈ C∧d.c=c :=
 ⟨List.mem_of_find?_eq_some h,by have:=List.find?_some h;simpa using this⟩
theorem aGD {C:List DeR} {c:CeR}:fdC C c=none ↔ ∀ d,d ∈ C→d.c ≠ c:=by
 unfold fdC;rw [List.find?_eq_none];simp
theorem jG {C:List DeR} {c:CeR} {o:Option DeR} (h:fdC C c=o):cY C c=amt o:=by unfold cY;rw [h]
theorem Grown.refl (w:World) (row:Option Nat):w.grownBy w row:=⟨rfl,rfl,rfl,Nat.le_refl _,fun _ _ _=>rfl⟩
theorem Grown.trans {a b c:World} {row:Option Nat} (h:a.grownBy b row) (k:b.grownBy c row):a.grownBy c row :=
 ⟨k.os.trans h.os,k.tape.trans h.tape,k.output.trans h.output,Nat.le_trans h.size k.size,fun i hi hr=>(k.block i (Nat.lt_of_lt_of_le hi h.size) hr).trans (h.block i hi hr)⟩
theorem Ext.grown {a b:World} (h:Ext a b) (row:Option Nat):a.grownBy b row:=⟨h.os,h.tape,h.output,h.size,fun i hi _=>h.block i hi⟩
theorem Grown.none {a b:World} (h:a.grownBy b none):Ext a b:=⟨h.os,h.tape,h.output,h.size,fun k hk=>h.block k hk (by simp)⟩
theorem aAK {xs:List Value} {o:Nat} {y:Value} {r:List Value} (h:o < xs.length):splice (xs.set o y) (o+1) r=splice xs o (y :: r):=by
 unfold splice
 rw [List.take_add_one,List.getElem?_set_self h,List.take_set_of_le (Nat.le_refl _)]
 simp [List.drop_set_of_lt,show o < o+1+r.length from by omega,show o+(r.length+1)=o+1+r.length from by omega]
theorem jR {base:Nat} {e:TypeId} {size g n c:Nat} (ys:List Value):∀ (o:Nat) (w:World) (xs:List Value),o+ys.length≤xs.length→w.ownsRow base e size (.slice (some ⟨g,0,none⟩) n c) n xs →
  (w.setCells g o ys).ownsRow base e size (.slice (some ⟨g,0,none⟩) n c) n (splice xs o ys)∧w.grownBy (w.setCells g o ys) (some g):=by
 induction ys with
 | nil=>intro o w xs hl h;exact ⟨by simpa [splice,World.setCells] using h,Grown.refl _ _⟩
 | cons y r ih =>
  intro o w xs hl h
  simp only [List.length_cons] at hl
  have hs:=h.stored o y
  obtain ⟨h1,h2⟩:=ih (o+1) _ _ (by rw [List.length_set];omega) hs.1
  rw [aAK (by omega)] at h1
  exact ⟨h1,Grown.trans hs.2 h2⟩
theorem sS {w:World} {base:Nat} {e:TypeId} {size:Nat} {A:Option Addr} {n c:Nat} {xs:List Value} (h:w.ownsRow base e size (.slice A n c) n xs) {i:Nat} (hi:i≤n) (hA:A ≠ none):w.ownsRow base e size (.slice A i c) i (xs.take (i * size)):=by
 have hle:i * size≤n * size:=Nat.mul_le_mul_right _ hi
 refine ⟨by rw [List.length_take,h.1];omega,?_⟩
 rcases h.2 with ⟨hv,_⟩ | ⟨g,cap,cur,hv,hb,hh,hn,hm,hs,ht⟩
 ·injection hv with hA';exact absurd hA' hA
 injection hv with h1 _ h3;subst h1;subst h3
 refine .inr ⟨g,c,cur,rfl,hb,hh,by omega,hm,hs,?_⟩
 rw [← ht,List.take_take,Nat.min_eq_left hle]
theorem uD {base:Nat} {e:TypeId} {size g n c:Nat} (ys:List Value):∀ (o:Nat) (w:World) (xs:List Value),w.ownsRow base e size (.slice (some ⟨g,0,none⟩) n c) n xs →
  ∃ xs',(w.setCells g o ys).ownsRow base e size (.slice (some ⟨g,0,none⟩) n c) n xs'∧xs'.take o=xs.take o∧w.grownBy (w.setCells g o ys) (some g):=by
 induction ys with
 | nil=>intro o w xs h;exact ⟨xs,h,rfl,Grown.refl _ _⟩
 | cons y r ih =>
  intro o w xs h
  have hs:=h.stored o y
  obtain ⟨xs',h1,h2,h3⟩:=ih (o+1) _ _ hs.1
  refine ⟨xs',h1,?_,Grown.trans hs.2 h3⟩
  have:=congrArg (List.take o) h2
  rw [List.take_take,List.take_take,Nat.min_eq_left (by omega)] at this
  rw [this,List.take_set_of_le (by omega)]
section
variable {α:Type} [RowT α]
instance (priority:=low) rowInh:Inhabited α:=⟨RowT.z⟩
theorem qO (d:Array α) (i:Nat):d[i]! = aM d.toList i:=by
 show d[i]! = d.toList.getD i RowT.z
 rw [List.getD_eq_getElem?_getD,Array.getElem?_toList]
 by_cases h:i < d.size
 ·rw [getElem!_pos d i h,Array.getElem?_eq_getElem h];rfl
 rw [getElem!_neg d i h,Array.getElem?_eq_none (by omega)];rfl
theorem aHG (L:List α) (i:Nat) (x:α) (hi:i < L.length):splice (gcs L) (i * RowT.sz α) (RowT.enc x)=gcs (L.set i x):=by
 rw [List.set_eq_take_append_cons_drop,if_pos hi,bD,dC]
 unfold splice
 rw [gS,RowT.len,← eF,Nat.add_mul,Nat.one_mul]
class RowB (α:Type) [RowT α] where
 ow:World→Nat→α→Prop
 ok:∀ x w b,ow w b x→RowT.ok x w
 ext:∀ x w w' b,ow w b x→Ext w w'→ow w' b x
 kept:∀ x w w' b b' e sz A n c xs,ow w b x→w.ownsRow b' e sz (.slice A n c) n xs→e ≠ 5→w.grownBy w' (Value.ownBlock (.slice A n c))→ow w' b x
 mono:∀ x w b b',ow w b x→b'≤b→ow w b' x
structure RowS [RowB α] (w0 w:World) (base:Nat) (e:TypeId) (A:Option Addr) (n c:Nat) (d:Array α):Prop where
 own:w.ownsRow base e (RowT.sz α) (.slice A n c) n (gcs d.toList)
 ow:∀ x ∈ d.toList,RowB.ow w base x
 gr:w0.grownBy w (Value.ownBlock (.slice A n c))
 ne:e ≠ 5
variable [RowB α] {w0 w w':World} {base:Nat} {e:TypeId} {A:Option Addr} {n c:Nat} {d:Array α}
theorem RowS.start (h:w.ownsRow base e (RowT.sz α) (.slice A n c) n (gcs d.toList)) (ho:∀ x ∈ d.toList,RowB.ow w base x) (hne:e ≠ 5):RowS w w base e A n c d:=⟨h,ho,Grown.refl _ _,hne⟩
theorem RowS.size (h:RowS w0 w base e A n c d):d.size=n:=by
 have:=h.own.1
 rw [aH] at this
 have hp:=RowT.pos (α:=α)
 have:=Nat.eq_of_mul_eq_mul_right hp this
 simpa using this
theorem RowS.ext (h:RowS w0 w base e A n c d) (he:Ext w w'):RowS w0 w' base e A n c d:=⟨aU h.own he,fun x hx=>RowB.ext _ _ _ _ (h.ow x hx) he,Grown.trans h.gr (Ext.grown he _),h.ne⟩
theorem RowS.at (h:RowS w0 w base e A n c d) (hn:0 < n):∃ g,A=some ⟨g,0,none⟩∧base≤g∧w.rangeAt g 0 (gcs d.toList):=cI h.own hn
theorem RowS.cell (h:RowS w0 w base e A n c d) {g:Nat} (hA:A=some ⟨g,0,none⟩) {i:Nat} (hi:i < n):w.rangeAt g (i * RowT.sz α) (RowT.enc d[i]!):=by
 obtain ⟨g',hA',_,hr⟩:=h.at (by omega)
 obtain rfl:g=g':=by rw [hA] at hA';injection hA' with h1;injection h1
 have:=cP (L:=d.toList) (k:=i) hr (by have:=h.size;simp;omega)
 rw [Nat.zero_add] at this
 rw [qO]
 exact this
theorem aIm {i:Nat} (hi:i < d.size):d[i]! ∈ d.toList:=by
 rw [getElem!_pos d i hi];exact Array.mem_toList_iff.2 (Array.getElem_mem hi)
theorem RowS.owAt (h:RowS w0 w base e A n c d) {i:Nat} (hi:i < n):RowB.ow w base d[i]!:=h.ow _ (aIm (by rw [h.size];exact hi))
theorem RowS.ok (h:RowS w0 w base e A n c d) {i:Nat} (hi:i < n):RowT.ok d[i]! w:=RowB.ok _ _ _ (h.owAt hi)
theorem RowS.there (h:RowS w0 w base e A n c d) {g:Nat} (hA:A=some ⟨g,0,none⟩) {i:Nat} (hi:i < n):w.there g (i * RowT.sz α) (RowT.sz α):=by
 have hl:=h.own.1
 have h1:i * RowT.sz α+RowT.sz α≤n * RowT.sz α:=by
  have:=Nat.mul_le_mul_right (RowT.sz α) (show i+1≤n from hi)
  rwa [Nat.add_mul,Nat.one_mul] at this
 have ho:=h.own
 subst hA
 intro j hj
 exact ⟨by rw [ho.cellAt (i * RowT.sz α+j) (by omega),List.getElem?_eq_getElem (by omega)];rfl,ho.frozenAt _⟩
theorem RowS.set (h:RowS w0 w base e A n c d) {g:Nat} (hA:A=some ⟨g,0,none⟩) {i:Nat} (hi:i < n) (x:α) (hx:RowB.ow w base x):RowS w0 (w.setCells g (i * RowT.sz α) (RowT.enc x)) base e A n c (d.setIfInBounds i x):=by
 have hs:=h.size
 have ho:=h.own
 subst hA
 obtain ⟨h1,h2⟩:=jR (RowT.enc x) (i * RowT.sz α) w (gcs d.toList) (by
  rw [RowT.len,aH]
  have:=Nat.mul_le_mul_right (RowT.sz α) (show i+1≤d.toList.length from by simp;omega)
  rwa [Nat.add_mul,Nat.one_mul] at this) ho
 rw [aHG _ _ _ (by simp;omega)] at h1
 refine ⟨by rw [Array.toList_setIfInBounds];exact h1,fun y hy=>?_,Grown.trans h.gr h2,h.ne⟩
 rw [Array.toList_setIfInBounds] at hy
 rcases List.mem_or_eq_of_mem_set hy with hy | rfl
 ·exact RowB.kept _ _ _ _ _ _ _ _ _ _ _ (h.ow y hy) ho h.ne h2
 exact RowB.kept _ _ _ _ _ _ _ _ _ _ _ hx ho h.ne h2
theorem RowS.keep (h:RowS w0 w base e A n c d) {g:Nat} (hA:A=some ⟨g,0,none⟩) (o:Nat) (vs:List Value) {x:α} (hx:RowB.ow w base x):RowB.ow (w.setCells g o vs) base x:=by
 have ho:=h.own
 subst hA
 exact RowB.kept _ _ _ _ _ _ _ _ _ _ _ hx ho h.ne (aB _ _ _ _)
theorem RowS.swap (h:RowS w0 w base e A n c d) {g:Nat} (hA:A=some ⟨g,0,none⟩) {i j:Nat} (hi:i < n) (hj:j < n) :
  RowS w0 ((w.setCells g (i * RowT.sz α) (RowT.enc d[j]!)).setCells g (j * RowT.sz α) (RowT.enc d[i]!)) base e A n c (Sort.swp d i j) :=
 (h.set hA hi _ (h.owAt hj)).set hA hj _ (h.keep hA _ _ (h.owAt hi))
theorem RowS.trans {w1:World} (h:RowS w0 w1 base e A n c d) {d':Array α} (k:RowS w1 w base e A n c d'):RowS w0 w base e A n c d':=⟨k.own,k.ow,Grown.trans h.gr k.gr,k.ne⟩
end
end
end Go.Proofs.YtohmmcahpakokaaGreat
