/- A row of one's own whose elements are read, set and exchanged; the row as an array. -/
import Derived.Sort.LotA
import Derived.Laws.OwnMore
import Derived.Deep.DeepCutAuto
import Derived.Deep.CutBlock
import Derived.WalkMore
import Derived.Test.YtohmmcahpakokaaGreatJ18
import Derived.Test.YtohmmcahpakokaaGreatJ20
set_option maxRecDepth 100000
set_option maxHeartbeats 8000000
set_option linter.unusedSectionVars false
set_option linter.unusedVariables false
set_option linter.unusedSimpArgs false
namespace Go.Proofs.YtohmmcahpakokaaGreat
section
open Go.RowKit
theorem Grown.refl (w:World) (row:Option Nat):w.grownBy w row:=⟨rfl,rfl,rfl,Nat.le_refl _,fun _ _ _=>rfl⟩
theorem Grown.trans {a b c:World} {row:Option Nat} (h:a.grownBy b row) (k:b.grownBy c row):a.grownBy c row :=
 ⟨k.os.trans h.os,k.tape.trans h.tape,k.output.trans h.output,Nat.le_trans h.size k.size,fun i hi hr=>(k.block i (Nat.lt_of_lt_of_le hi h.size) hr).trans (h.block i hi hr)⟩
theorem Ext.grown {a b:World} (h:Ext a b) (row:Option Nat):a.grownBy b row:=⟨h.os,h.tape,h.output,h.size,fun i hi _=>h.block i hi⟩
theorem Grown.none {a b:World} (h:a.grownBy b none):Ext a b:=⟨h.os,h.tape,h.output,h.size,fun k hk=>h.block k hk (by simp)⟩
theorem aBh {xs:List Value} {o:Nat} {y:Value} {r:List Value} (h:o < xs.length):splice (xs.set o y) (o+1) r=splice xs o (y :: r):=by
 unfold splice
 rw [List.take_add_one,List.getElem?_set_self h,List.take_set_of_le (Nat.le_refl _)]
 simp [List.drop_set_of_lt,show o < o+1+r.length from by omega,show o+(r.length+1)=o+1+r.length from by omega]
theorem jM {base:Nat} {e:TypeId} {size g n c:Nat} (ys:List Value):∀ (o:Nat) (w:World) (xs:List Value),o+ys.length≤xs.length→w.ownsRow base e size (.slice (some ⟨g,0,none⟩) n c) n xs →
  (w.setCells g o ys).ownsRow base e size (.slice (some ⟨g,0,none⟩) n c) n (splice xs o ys)∧w.grownBy (w.setCells g o ys) (some g):=by
 induction ys with
 | nil=>intro o w xs hl h;exact ⟨by simpa [splice,World.setCells] using h,Grown.refl _ _⟩
 | cons y r ih =>
  intro o w xs hl h
  simp only [List.length_cons] at hl
  have hs:=h.stored o y
  obtain ⟨h1,h2⟩:=ih (o+1) _ _ (by rw [List.length_set];omega) hs.1
  rw [aBh (by omega)] at h1
  exact ⟨h1,Grown.trans hs.2 h2⟩
theorem sV {w:World} {base:Nat} {e:TypeId} {size:Nat} {A:Option Addr} {n c:Nat} {xs:List Value} (h:w.ownsRow base e size (.slice A n c) n xs) {i:Nat} (hi:i≤n) (hA:A ≠ none):w.ownsRow base e size (.slice A i c) i (xs.take (i * size)):=by
 have hle:i * size≤n * size:=Nat.mul_le_mul_right _ hi
 refine ⟨by rw [List.length_take,h.1];omega,?_⟩
 rcases h.2 with ⟨hv,_⟩ | ⟨g,cap,cur,hv,hb,hh,hn,hm,hs,ht⟩
 ·injection hv with hA';exact absurd hA' hA
 injection hv with h1 _ h3;subst h1;subst h3
 refine .inr ⟨g,c,cur,rfl,hb,hh,by omega,hm,hs,?_⟩
 rw [← ht,List.take_take,Nat.min_eq_left hle]
theorem uF {base:Nat} {e:TypeId} {size g n c:Nat} (ys:List Value):∀ (o:Nat) (w:World) (xs:List Value),w.ownsRow base e size (.slice (some ⟨g,0,none⟩) n c) n xs →
  ∃ xs',(w.setCells g o ys).ownsRow base e size (.slice (some ⟨g,0,none⟩) n c) n xs'∧xs'.take o=xs.take o∧w.grownBy (w.setCells g o ys) (some g):=by
 induction ys with
 | nil=>intro o w xs h;exact ⟨xs,h,rfl,Grown.refl _ _⟩
 | cons y r ih =>
  intro o w xs h
  have hs:=h.stored o y
  obtain ⟨xs',h1,h2,h3⟩:=ih (o+1) _ _ hs.1
  refine ⟨xs',h1,?_,Grown.trans hs.2 h3⟩
  have:=congrArg (List.take o) h2
  rw [List.take_take,List.take_take,Nat.min_eq_left (by omega)] at this
  rw [this,List.take_set_of_le (by omega)]
section
variable {α:Type} [RowT α]
instance (priority:=low) rowInh:Inhabited α:=⟨RowT.z⟩
theorem qO (d:Array α) (i:Nat):d[i]! = nthG d.toList i:=by
 show d[i]! = d.toList.getD i RowT.z
 rw [List.getD_eq_getElem?_getD,Array.getElem?_toList]
 by_cases h:i < d.size
 ·rw [getElem!_pos d i h,Array.getElem?_eq_getElem h];rfl
 rw [getElem!_neg d i h,Array.getElem?_eq_none (by omega)];rfl
theorem aIs (L:List α) (i:Nat) (x:α) (hi:i < L.length):splice (gcs L) (i * RowT.sz α) (RowT.enc x)=gcs (L.set i x):=by
 rw [List.set_eq_take_append_cons_drop,if_pos hi,bS,cW]
 unfold splice
 rw [iT,RowT.len,← eC,Nat.add_mul,Nat.one_mul]
class RowB (α:Type) [RowT α] where
 ow:World→Nat→α→Prop
 ok:∀ x w b,ow w b x→RowT.ok x w
 ext:∀ x w w' b,ow w b x→Ext w w'→ow w' b x
 kept:∀ x w w' b b' e sz A n c xs,ow w b x→w.ownsRow b' e sz (.slice A n c) n xs→e ≠ 5→w.grownBy w' (Value.ownBlock (.slice A n c))→ow w' b x
 mono:∀ x w b b',ow w b x→b'≤b→ow w b' x
structure RowS [RowB α] (w0 w:World) (base:Nat) (e:TypeId) (A:Option Addr) (n c:Nat) (d:Array α):Prop where
 own:w.ownsRow base e (RowT.sz α) (.slice A n c) n (gcs d.toList)
 ow:∀ x ∈ d.toList,RowB.ow w base x
 gr:w0.grownBy w (Value.ownBlock (.slice A n c))
 ne:e ≠ 5
variable [RowB α] {w0 w w':World} {base:Nat} {e:TypeId} {A:Option Addr} {n c:Nat} {d:Array α}
theorem RowS.start (h:w.ownsRow base e (RowT.sz α) (.slice A n c) n (gcs d.toList)) (ho:∀ x ∈ d.toList,RowB.ow w base x) (hne:e ≠ 5):RowS w w base e A n c d:=⟨h,ho,Grown.refl _ _,hne⟩
theorem RowS.size (h:RowS w0 w base e A n c d):d.size=n:=by
 have:=h.own.1
 rw [aH] at this
 have hp:=RowT.pos (α:=α)
 have:=Nat.eq_of_mul_eq_mul_right hp this
 simpa using this
theorem RowS.ext (h:RowS w0 w base e A n c d) (he:Ext w w'):RowS w0 w' base e A n c d:=⟨bA h.own he,fun x hx=>RowB.ext _ _ _ _ (h.ow x hx) he,Grown.trans h.gr (Ext.grown he _),h.ne⟩
theorem RowS.at (h:RowS w0 w base e A n c d) (hn:0 < n):∃ g,A=some ⟨g,0,none⟩∧base≤g∧w.rangeAt g 0 (gcs d.toList):=cF h.own hn
theorem RowS.cell (h:RowS w0 w base e A n c d) {g:Nat} (hA:A=some ⟨g,0,none⟩) {i:Nat} (hi:i < n):w.rangeAt g (i * RowT.sz α) (RowT.enc d[i]!):=by
 obtain ⟨g',hA',_,hr⟩:=h.at (by omega)
 obtain rfl:g=g':=by rw [hA] at hA';injection hA' with h1;injection h1
 have:=cG (L:=d.toList) (k:=i) hr (by have:=h.size;simp;omega)
 rw [Nat.zero_add] at this
 rw [qO]
 exact this
theorem aJf {i:Nat} (hi:i < d.size):d[i]! ∈ d.toList:=by
 rw [getElem!_pos d i hi];exact Array.mem_toList_iff.2 (Array.getElem_mem hi)
theorem RowS.owAt (h:RowS w0 w base e A n c d) {i:Nat} (hi:i < n):RowB.ow w base d[i]!:=h.ow _ (aJf (by rw [h.size];exact hi))
theorem RowS.ok (h:RowS w0 w base e A n c d) {i:Nat} (hi:i < n):RowT.ok d[i]! w:=RowB.ok _ _ _ (h.owAt hi)
theorem RowS.there (h:RowS w0 w base e A n c d) {g:Nat} (hA:A=some ⟨g,0,none⟩) {i:Nat} (hi:i < n):w.there g (i * RowT.sz α) (RowT.sz α):=by
 have hl:=h.own.1
 have h1:i * RowT.sz α+RowT.sz α≤n * RowT.sz α:=by
  have:=Nat.mul_le_mul_right (RowT.sz α) (show i+1≤n from hi)
  rwa [Nat.add_mul,Nat.one_mul] at this
 have ho:=h.own
 subst hA
 intro j hj
 exact ⟨by rw [ho.cellAt (i * RowT.sz α+j) (by omega),List.getElem?_eq_getElem (by omega)];rfl,ho.frozenAt _⟩
theorem RowS.set (h:RowS w0 w base e A n c d) {g:Nat} (hA:A=some ⟨g,0,none⟩) {i:Nat} (hi:i < n) (x:α) (hx:RowB.ow w base x):RowS w0 (w.setCells g (i * RowT.sz α) (RowT.enc x)) base e A n c (d.setIfInBounds i x):=by
 have hs:=h.size
 have ho:=h.own
 subst hA
 obtain ⟨h1,h2⟩:=jM (RowT.enc x) (i * RowT.sz α) w (gcs d.toList) (by
  rw [RowT.len,aH]
  have:=Nat.mul_le_mul_right (RowT.sz α) (show i+1≤d.toList.length from by simp;omega)
  rwa [Nat.add_mul,Nat.one_mul] at this) ho
 rw [aIs _ _ _ (by simp;omega)] at h1
 refine ⟨by rw [Array.toList_setIfInBounds];exact h1,fun y hy=>?_,Grown.trans h.gr h2,h.ne⟩
 rw [Array.toList_setIfInBounds] at hy
 rcases List.mem_or_eq_of_mem_set hy with hy | rfl
 ·exact RowB.kept _ _ _ _ _ _ _ _ _ _ _ (h.ow y hy) ho h.ne h2
 exact RowB.kept _ _ _ _ _ _ _ _ _ _ _ hx ho h.ne h2
theorem RowS.keep (h:RowS w0 w base e A n c d) {g:Nat} (hA:A=some ⟨g,0,none⟩) (o:Nat) (vs:List Value) {x:α} (hx:RowB.ow w base x):RowB.ow (w.setCells g o vs) base x:=by
 have ho:=h.own
 subst hA
 exact RowB.kept _ _ _ _ _ _ _ _ _ _ _ hx ho h.ne (aC _ _ _ _)
theorem RowS.swap (h:RowS w0 w base e A n c d) {g:Nat} (hA:A=some ⟨g,0,none⟩) {i j:Nat} (hi:i < n) (hj:j < n) :
  RowS w0 ((w.setCells g (i * RowT.sz α) (RowT.enc d[j]!)).setCells g (j * RowT.sz α) (RowT.enc d[i]!)) base e A n c (Sort.swp d i j) :=
 (h.set hA hi _ (h.owAt hj)).set hA hj _ (h.keep hA _ _ (h.owAt hi))
theorem RowS.trans {w1:World} (h:RowS w0 w1 base e A n c d) {d':Array α} (k:RowS w1 w base e A n c d'):RowS w0 w base e A n c d':=⟨k.own,k.ow,Grown.trans h.gr k.gr,k.ne⟩
end
def aDT (L:List OpR):Prop:=∀ R,R ∈ L→R.pre.length=R.n1∧R.prf.length=R.n2
def aHF (T:TxR):Prop:=aDT T.L∧T.sig.length=T.m
theorem aIm {T:TxR} {w:World} (h:T.ok w):aHF T:=⟨fun R hR=>⟨((h.ops.ok R hR).pre).len,((h.ops.ok R hR).prf).len⟩,h.sig.len⟩
theorem aFp {w:World} {b o:Nat} {R:OpR} (h:w.rangeAt b o (opL R)):w.cell? ⟨b,o+21,none⟩=some (.slice R.A1 R.n1 R.c1)∧w.cell? ⟨b,o+22,none⟩=some (.slice R.A2 R.n2 R.c2) :=
 ⟨h 21 _ rfl,h 22 _ rfl⟩
def aJi (w:World) (e:Ending) (w':World):Prop:=(∃ b,e=.returned (.bool b))∧Ext w w'
end
section
open Go.RowKit
attribute [local go_sem ↓] Go.wp_at_zero Go.wp_at_succ
def x5 (v:VtR):List Int:=[v.sl,v.ro,v.k,v.si,v.ch]
def dU:UInt64:=72057594037927936
theorem kI:nmc dU=#[.int .u8 1,.int .u8 0,.int .u8 0,.int .u8 0,.int .u8 0,.int .u8 0,.int .u8 0,.int .u8 0]:=by kernel_rfl
end
section
open Go.RowKit
def cov1 (C:List DeR) (c:CeR):List DeR :=
 if bW C bU≤0 ∨ 0≤bW C c then C
 else addL C (dQ bU c (if - bW C bU < bW C c then - bW C c else bW C bU))
def mT (c:CeR):Bool:=decide (1≤c.k∧c.k≤3)
def aIK (C:List DeR):List CeR:=oX eE ((C.map DeR.c).filter mT)
def aLo (C:List DeR):List DeR:=(aIK C).foldl cov1 C
def aIJ (S:StV):StV:=⟨aLo S.C,S.Q,S.K,S.P,S.G⟩
theorem yC {β:Type} [DecidableEq β] {lt:β→β→Bool} (h:STO lt) (x:β):∀ (L:List β),x ∉ L→eB (fun y=>lt x y) x L=qB lt x L
 | [],_=>rfl
 | y :: r,hn=>by
  have hy:y ≠ x:=fun e=>hn (by rw [e];exact List.mem_cons_self ..)
  have hr:x ∉ r:=fun e=>hn (List.mem_cons_of_mem _ e)
  unfold eB qB
  by_cases h1:lt x y=true
  ·have h2 := h.asymm h1
   simp [h1,h2,hy]
  have h1':lt x y=false:=by simpa using h1
  have h2:lt y x=true:=by
   cases e:lt y x with
   | true=>rfl
   | false=>exact absurd (h.total _ _ e h1') hy
  simp [h1',h2,yC h x r hr]
def ltN (a b:UInt64):Bool:=decide (un a < un b)
theorem sX:STO ltN:=⟨fun x=>by simp [ltN],fun x y z h1 h2=>by simp only [ltN,decide_eq_true_eq] at *;omega,fun x y h1 h2=>by simp only [ltN,decide_eq_false_iff_not] at *;exact aGn (by omega)⟩
theorem fZ (P:List UInt64) (n y:UInt64):y ∈ cM P n ↔ y=n ∨ y ∈ P:=by
 unfold cM
 split
 ·rename_i h
  constructor
  ·exact .inr
  rintro (rfl | h')
  ·exact h
  exact h'
 exact mR _ _ _ _
theorem lD {P:List UInt64} (h:Asc ltN P) (n:UInt64):Asc ltN (cM P n):=by
 unfold cM
 split
 ·exact h
 rename_i hn
 have e:eB (fun y=>decide (un n < un y)) n P=qB ltN n P:=yC sX n P hn
 rw [e];exact vZ sX n P h
theorem aDp {P:List UInt64} (h:Asc ltN P) (m n:UInt64):cM (cM P m) n=cM (cM P n) m :=
 qN sX _ _ (lD (lD h _) _) (lD (lD h _) _) (fun y=>by
  rw [fZ,fZ,fZ,fZ]
  constructor
  ·rintro (h | h | h)
   ·exact .inr (.inl h)
   ·exact .inl h
   exact .inr (.inr h)
  rintro (h | h | h)
  ·exact .inr (.inl h)
  ·exact .inl h
  exact .inr (.inr h))
def iV (G:Int) (i:Nat):Bool:=decide (G / 2 ^ i % 2=1)
def xJ (G:Int) (i:Nat):Int:=if iV G i=true then G else G+2 ^ i
def dL (ac sq:Int) (L:List OpR) (i:Nat):List DeR :=
 if (aY L i).k=1 then dQ (aZ ac) (aZ (aY L i).tO) (aY L i).am
 else if (aY L i).k=2 then dQ (aZ ac) (dS (cB ac sq L (i:Int))) (aY L i).am
 else if (aY L i).k=3 ∨ (aY L i).k=4 then dQ (dS (aY L i).lk) (aZ (aY L i).tO) (aY L i).am
 else if (aY L i).k=5 then dQ (aZ ac) (cK (aY L i).va) (aY L i).am
 else []
def qI (ac sq:Int) (L:List OpR) (n:Nat):List DeR:=(List.range n).flatMap (dL ac sq L)
def oR (ac sq:Int) (L:List OpR):List DeR:=if vTx ac sq L=true then qI ac sq L L.length else []
theorem nH (ac sq:Int) (L:List OpR) (n:Nat):qI ac sq L (n+1)=qI ac sq L n ++ dL ac sq L n:=by
 unfold qI;rw [List.range_succ,List.flatMap_append,List.flatMap_cons,List.flatMap_nil,List.append_nil]
theorem sum_append (l m:List DeR):aHP (l ++ m)=aHP l+aHP m:=by unfold aHP;rw [List.map_append,List.sum_append]
def aAb (L:List OpR) (n:Nat):Int:=wr ((L.take n).map OpR.am).sum
def kU (ac sq:Int) (L:List OpR):Int:=if vTx ac sq L=true then aAb L L.length else 0
def nO (S:StV) (l:List DeR):StV:=⟨addL S.C l,S.Q,S.K,S.P,S.G⟩
def sD (g:Int) (S:StV) (i:Nat):StV :=
 if iV g i=true∧iV S.G i=false then ⟨addL S.C (dQ (cK (i:Int)) bU (bW S.C (cK (i:Int)))),S.Q,S.K,S.P,xJ S.G i⟩ else S
def expN (g:Int) (S:StV) (n:Nat):StV:=(List.range n).foldl (sD g) S
def aFH (g:Int) (S:StV):StV:=expN g S 10
theorem jG (g:Int) (S:StV) (n:Nat):expN g S (n+1)=sD g (expN g S n) n:=by
 unfold expN;rw [List.range_succ,List.foldl_append];rfl
def kM (ac sq:Int) (L:List OpR) (S:StV) (i:Nat):StV :=
 if (aY L i).k=2 then ⟨S.C,S.Q,lV S.K ⟨cB ac sq L (i:Int),(aY L i).hs,ac,(aY L i).tO,(aY L i).ul⟩,S.P,S.G⟩
 else if (aY L i).k=3 ∨ (aY L i).k=4 then ⟨S.C,S.Q,fU (aY L i).lk S.K,S.P,S.G⟩
 else if (aY L i).k=6 then aFH (2 ^ (aY L i).va.toNat) S
 else S
def doO (ac sq:Int) (L:List OpR) (S:StV) (i:Nat):StV:=kM ac sq L (nO S (dL ac sq L i)) i
def doN (ac sq:Int) (L:List OpR) (S:StV) (n:Nat):StV:=(List.range n).foldl (doO ac sq L) S
theorem mU (ac sq:Int) (L:List OpR) (S:StV) (n:Nat):doN ac sq L S (n+1)=doO ac sq L (doN ac sq L S n) n:=by
 unfold doN;rw [List.range_succ,List.foldl_append];rfl
theorem aAt (g:Int) (S:StV) (n:Nat):(expN g S n).Q=S.Q∧(expN g S n).P=S.P:=by
 induction n with
 | zero=>exact ⟨rfl,rfl⟩
 | succ n ih =>
  rw [jG];unfold sD;split
  ·exact ih
  exact ih
theorem aKm (ac sq:Int) (L:List OpR) (S:StV) (i:Nat):(kM ac sq L S i).Q=S.Q∧(kM ac sq L S i).P=S.P:=by
 unfold kM
 split
 ·exact ⟨rfl,rfl⟩
 split
 ·exact ⟨rfl,rfl⟩
 split
 ·exact aAt _ _ _
 exact ⟨rfl,rfl⟩
theorem oS (ac sq:Int) (L:List OpR) (S:StV) (n:Nat):(doN ac sq L S n).Q=S.Q∧(doN ac sq L S n).P=S.P:=by
 induction n with
 | zero=>exact ⟨rfl,rfl⟩
 | succ n ih =>
  rw [mU]
  have:=aKm ac sq L (nO (doN ac sq L S n) (dL ac sq L n)) n
  exact ⟨this.1.trans ih.1,this.2.trans ih.2⟩
def jO (Q:List Int) (ac sq:Int):List Int:=if ac < (Q.length:Int) then Q.set ac.toNat (max (Q.getD ac.toNat 0) (sq+1)) else Q
def gQ (S:StV) (ac sq:Int) (L:List OpR):StV :=
 if vTx ac sq L=false ∨ bQ ac sq L ∈ S.P then S
 else ⟨(doN ac sq L S L.length).C,jO (doN ac sq L S L.length).Q ac sq,(doN ac sq L S L.length).K,cM (doN ac sq L S L.length).P (bQ ac sq L),(doN ac sq L S L.length).G⟩
theorem wH {w:World} {g:Nat} {t:TypeId} {n:UInt64} (h:Blk w g t (nmc n)) (r:UInt64):(storeCells ⟨g,0,none⟩ (nmc r).toList).run Tryz.prog w=.ok () (w.setCells g 0 (nmc r).toList):=by
 have hl:(nmc r).toList.length=8:=by rw [bF,aJ,aG]
 have:=run_storeCells_cells (P:=Tryz.prog) g 0 (nmc r).toList 0 w (fun j hj=>by rw [Nat.add_zero,Nat.zero_add,h.cell j,Array.getElem?_eq_getElem (by rw [cP];omega)];rfl) (fun j hj=>h.frozen _) (by rw [bF];exact dW _)
 exact this
theorem aCK (pub m:UInt64) (A:Option Addr) (n c:Nat) (l:List UInt8) (w:World) (h:SlB w A n c l) (hn:n=186) (hlf:bX l 0 2 < 32) :
  Calls Tryz.prog 145 #[.agg (nmc pub),.int .i64 1,.agg (nmc m),.slice A n c] w fun e w'=>e=.returned (.bool (decide (fB l 2 (bX l 0 2 % 32) m=pub)))∧Ext w w':=by
 subst hn
 have hE:=((Ext.refl w).alloc' (.cells (nmc pub) 30)).alloc' (.cells (nmc m) 30)
 have hbp:=(Blk.new w 30 (nmc pub)).alloc (.cells (nmc m) 30)
 have hbm:Blk ((w.alloc (.cells (nmc pub) 30)).alloc (.cells (nmc m) 30)) (w.heap.size+1) 30 (nmc m):=Blk.newAt _ _ _ _ (by simp)
 have HE:=zh hE
 have HP:=zh hbp
 have hrm:=dP hbm
 have HL:=zh (qA A 186 c l _ (h.ext HE.out) (by omega))
 have HH:=zh (h.ext HE.out)
 have hcap:=h.cap
 clear h hE hbp hbm
 generalize hx:bX l 0 2=x at *
 clear hx
 have hq:=fun w=>cO (fB l 2 (x % 32) m) pub w
 go_enter Tryz.func145,Tryz.ntmps145
 go_wp2_with fail
 refine HL.out.mono ?_
 rintro e w1 ⟨rfl,rfl⟩
 go_wp2_with (first | (go_at_call 200;refine (pG 1 _).mono ?_;rintro e w1 ⟨rfl,rfl⟩;rw [show jX 1=186 from rfl]) | (go_at_call 201;refine (gM 1 _).mono ?_;rintro e w1 ⟨rfl,rfl⟩;rw [show rI 1=32 from rfl]) | (with_reducible refine bE rfl (.tmp 6) rfl (w.heap.size+1) 0 rfl m hrm ?_))
 refine (oV A 186 c l 2 (x % 32) _ _ rfl (by omega) m _ HH.out (by omega) (by omega) (by omega)).mono ?_
 rintro e w2 ⟨rfl,he2⟩
 have HP2:=zh (HP.out.ext he2)
 have HE2:=zh (HE.out.trans he2)
 clear hrm he2
 generalize hr0:fB l 2 (x % 32) m=r at *
 have HR0:=zh hr0
 clear hr0
 have hst:=iH w2 w2.heap.size rfl r
 have hr:=dP (Blk.new w2 30 (nmc r))
 have hp:=dP (HP2.out.alloc (.cells (nmc r) 30))
 go_wp2_with (first | (with_reducible refine bE rfl (.tmp 11) rfl w2.heap.size 0 rfl r hr ?_) | (with_reducible refine bE rfl (.tmp 4) rfl w.heap.size 0 rfl pub hp ?_))
 go_ret
 exact ⟨by rw [HR0.out];rfl,HE2.out.alloc' _⟩
theorem aCJ (pub m:UInt64) (A:Option Addr) (n c:Nat) (l:List UInt8) (w:World) (h:SlB w A n c l) (hn:n=370) (hlf:bX l 0 2 < 1024) :
  Calls Tryz.prog 145 #[.agg (nmc pub),.int .i64 2,.agg (nmc m),.slice A n c] w fun e w'=>e=.returned (.bool (decide (fB l 186 (bX l 0 2 / 32) (fB l 2 (bX l 0 2 % 32) m)=pub)))∧Ext w w':=by
 subst hn
 have hE:=((Ext.refl w).alloc' (.cells (nmc pub) 30)).alloc' (.cells (nmc m) 30)
 have hbp:=(Blk.new w 30 (nmc pub)).alloc (.cells (nmc m) 30)
 have hbm:Blk ((w.alloc (.cells (nmc pub) 30)).alloc (.cells (nmc m) 30)) (w.heap.size+1) 30 (nmc m):=Blk.newAt _ _ _ _ (by simp)
 have HE:=zh hE
 have HP:=zh hbp
 have hrm:=dP hbm
 have HL:=zh (qA A 370 c l _ (h.ext HE.out) (by omega))
 have HH:=zh (h.ext HE.out)
 have hcap:=h.cap
 clear h hE hbp hbm
 generalize hx:bX l 0 2=x at *
 clear hx
 go_enter Tryz.func145,Tryz.ntmps145
 go_wp2_with fail
 refine HL.out.mono ?_
 rintro e w1 ⟨rfl,rfl⟩
 go_wp2_with (first | (go_at_call 200;refine (pG 2 _).mono ?_;rintro e w1 ⟨rfl,rfl⟩;rw [show jX 2=370 from rfl]) | (go_at_call 201;refine (gM 2 _).mono ?_;rintro e w1 ⟨rfl,rfl⟩;rw [show rI 2=1024 from rfl]) | (with_reducible refine bE rfl (.tmp 6) rfl (w.heap.size+1) 0 rfl m hrm ?_))
 refine (oV A 370 c l 2 (x % 32) _ _ rfl (by omega) m _ HH.out (by omega) (by omega) (by omega)).mono ?_
 rintro e w2 ⟨rfl,he2⟩
 have HP2:=zh (HP.out.ext he2)
 have HE2:=zh (HE.out.trans he2)
 have HH2:=zh (HH.out.ext he2)
 clear hrm he2
 generalize hr0:fB l 2 (x % 32) m=r at *
 have HR0:=zh hr0
 clear hr0
 have hst:=iH w2 w2.heap.size rfl r
 have hA:=(Ext.refl w2).alloc' (.cells (nmc r) 30)
 have HB:=zh (Blk.new w2 30 (nmc r))
 have hr:=dP HB.out
 have HH3:=zh (HH2.out.ext hA)
 have HP3:=zh (HP2.out.ext hA)
 have HE3:=zh (HE2.out.trans hA)
 clear hA
 go_wp2_with (with_reducible refine bE rfl (.tmp 11) rfl w2.heap.size 0 rfl r hr ?_)
 clear hr hst
 generalize w2.alloc (.cells (nmc r) 30)=W2 at *
 refine (oV A 370 c l 186 (x / 32) _ _ rfl (by omega) r _ HH3.out (by omega) (by omega) (by omega)).mono ?_
 rintro e w3 ⟨rfl,he3⟩
 have HB3:=zh (HB.out.ext he3)
 have HP4:=zh (HP3.out.ext he3)
 have HE4:=zh (HE3.out.trans he3)
 have hlt:=HP.out.lt
 have hne:w.heap.size ≠ w2.heap.size:=by have:=HE2.out.size;have:=HP2.out.lt;omega
 clear he3
 generalize hr1:fB l 186 (x / 32) r=r2 at *
 have HR1:=zh hr1
 clear hr1
 have hq:=fun w=>cO r2 pub w
 have hst:=wH HB3.out r2
 have hr2:=dP (aHB HB3.out r2)
 have hp2:=dP (HP4.out.setCells_far hne (nmc r2).toList 0)
 go_wp2_with (first | (with_reducible refine bE rfl (.tmp 11) rfl w2.heap.size 0 rfl r2 hr2 ?_) | (with_reducible refine bE rfl (.tmp 4) rfl w.heap.size 0 rfl pub hp2 ?_))
 go_ret
 exact ⟨by rw [HR0.out,HR1.out];rfl,Below.setCells' HE4.out HE2.out.size _ _⟩
theorem aCL (pub m:UInt64) (lv:Int) (A:Option Addr) (n c:Nat) (l:List UInt8) (w:World) (h:SlB w A n c l) :
  Calls Tryz.prog 145 #[.agg (nmc pub),.int .i64 lv,.agg (nmc m),.slice A n c] w fun e w'=>e=.returned (.bool (mA pub lv m l))∧Ext w w':=by
 have hlen:=h.len
 by_cases hs:jX lv=(n:Int)
 ·by_cases hc : rI lv ≤ (bX l 0 2 : Int)
  ·rw [aGh pub lv m l hc]
   exact xL pub m lv A n c l w h (.inr (.inr hc))
  by_cases h1:lv=1
  ·subst h1
   have hn:n=186:=by have:(186:Int)=(n:Int):=hs;omega
   have hlf:bX l 0 2 < 32:=by have:¬ (32:Int)≤(bX l 0 2:Int):=hc;omega
   have hv:mA pub 1 m l=decide (fB l 2 (bX l 0 2 % 32) m=pub):=by
    unfold mA;rw [if_pos rfl,decide_eq_true (show l.length=186 by omega),decide_eq_true hlf];rfl
   rw [hv]
   exact aCK pub m A n c l w h hn hlf
  by_cases h2:lv=2
  ·subst h2
   have hn:n=370:=by have:(370:Int)=(n:Int):=hs;omega
   have hlf:bX l 0 2 < 1024:=by have:¬ (1024:Int)≤(bX l 0 2:Int):=hc;omega
   have hv:mA pub 2 m l=decide (fB l 186 (bX l 0 2 / 32) (fB l 2 (bX l 0 2 % 32) m)=pub):=by
    unfold mA;rw [if_neg (by decide),if_pos rfl,decide_eq_true (show l.length=370 by omega),decide_eq_true hlf];rfl
   rw [hv]
   exact aCJ pub m A n c l w h hn hlf
  exact absurd (show rI lv≤(bX l 0 2:Int) by rw [show rI lv=0 from by simp [rI,h1,h2]];omega) hc
 rw [oB pub lv m l (by rw [hlen];exact hs)]
 exact xL pub m lv A n c l w h (.inr (.inl hs))
end
section
open Go.RowKit
attribute [local go_sem ↓] Go.wp_at_zero Go.wp_at_succ
def gL (x y:Int):Int:=if x < y then -1 else if y < x then 1 else 0
theorem iK {x y:Int} (h:x < y):gL x y=-1:=if_pos h
theorem iL {x y:Int} (h:y < x):gL x y=1:=by unfold gL;rw [if_neg (by omega),if_pos h]
theorem iM (x:Int):gL x x=0:=by unfold gL;rw [if_neg (by omega),if_neg (by omega)]
def gJ (x y z:Int):Int:=if x ≠ 0 then x else if y ≠ 0 then y else z
def jC (a b:CeR):Int:=gJ (gL a.k b.k) (gL a.id b.id) (gL (un a.lk) (un b.lk))
def jT (a b:UInt64):Int:=gL (un a) (un b)
theorem vO (a b:UInt64):decide (jT a b > 0)=decide (un b < un a):=by
 unfold jT
 rcases Int.lt_trichotomy (un a) (un b) with h | h | h
 ·rw [iK h,decide_eq_false (by omega:¬ un b < un a)];rfl
 ·rw [h,iM];simp
 rw [iL h,decide_eq_true h];rfl
theorem vQ (a b:CeR):decide (jC a b > 0)=eE b a:=by
 unfold jC gJ eE vW
 rcases Int.lt_trichotomy a.k b.k with h | h | h
 ·rw [iK h,if_pos (by decide),gR,if_neg (by omega),decide_eq_false (by omega:¬ b.k < a.k)];rfl
 ·rw [h, iM, if_neg (by decide), gR, if_pos rfl]
  rcases Int.lt_trichotomy a.id b.id with h2 | h2 | h2
  ·rw [iK h2,if_pos (by decide),gR,if_neg (by omega),decide_eq_false (by omega:¬ b.id < a.id)];rfl
  ·rw [h2, iM, if_neg (by decide), gR, if_pos rfl, show gL (un a.lk) (un b.lk) = jT a.lk b.lk from rfl, vO, gR]
   by_cases e:un b.lk=un a.lk
   ·rw [if_pos e,decide_eq_false (by omega)];rfl
   rw [if_neg e]
  rw [iL h2,if_pos (by decide),gR,if_neg (by omega),decide_eq_true h2];rfl
 rw [iL h,if_pos (by decide),gR,if_neg (by omega),decide_eq_true h];rfl
theorem oM (x:Int) (w:World):Calls Tryz.prog 192 #[.int .i64 x] w fun e w'=>e=.returned (.bool false)∧w=w':=by
 go_enter Tryz.func192,Tryz.ntmps192
 go_wp2
 go_ret
 exact ⟨by simp,rfl⟩
theorem qJ (x y:Int) (w:World):Calls Tryz.prog 127 #[.int .i64 x,.int .i64 y] w fun e w'=>e=.returned (.int .i64 (gL x y))∧w=w':=by
 rcases Int.lt_trichotomy x y with h | h | h
 ·have HC := zh (iK h)
  go_enter Tryz.func127,Tryz.ntmps127
  go_wp2_with (go_at_call 192;refine (oM _ _).mono ?_;rintro e w' ⟨rfl,rfl⟩)
  go_ret
  exact ⟨by rw [HC.out];rfl,rfl⟩
 ·subst h
  have h1:decide (x < x)=false:=decide_eq_false (by omega)
  have HC:=zh (iM x)
  go_enter Tryz.func127,Tryz.ntmps127
  go_wp2_with (go_at_call 192;refine (oM _ _).mono ?_;rintro e w' ⟨rfl,rfl⟩)
  go_ret
  exact ⟨by rw [HC.out];rfl,rfl⟩
 have h1:decide (x < y)=false:=decide_eq_false (by omega)
 have HC:=zh (iL h)
 go_enter Tryz.func127,Tryz.ntmps127
 go_wp2_with (go_at_call 192;refine (oM _ _).mono ?_;rintro e w' ⟨rfl,rfl⟩)
 go_ret
 exact ⟨by rw [HC.out];rfl,rfl⟩
theorem oL (x:Int) (w:World):Calls Tryz.prog 219 #[.int .u64 x] w fun e w'=>e=.returned (.bool false)∧w=w':=by
 go_enter Tryz.func219,Tryz.ntmps219
 go_wp2
 go_ret
 exact ⟨by simp,rfl⟩
theorem aAE (x y:Int) (w:World):Calls Tryz.prog 166 #[.int .u64 x,.int .u64 y] w fun e w'=>e=.returned (.int .i64 (gL x y))∧w=w':=by
 rcases Int.lt_trichotomy x y with h | h | h
 ·have HC := zh (iK h)
  go_enter Tryz.func166,Tryz.ntmps166
  go_wp2_with (go_at_call 219;refine (oL _ _).mono ?_;rintro e w' ⟨rfl,rfl⟩)
  go_ret
  exact ⟨by rw [HC.out];rfl,rfl⟩
 ·subst h
  have h1:decide (x < x)=false:=decide_eq_false (by omega)
  have HC:=zh (iM x)
  go_enter Tryz.func166,Tryz.ntmps166
  go_wp2_with (go_at_call 219;refine (oL _ _).mono ?_;rintro e w' ⟨rfl,rfl⟩)
  go_ret
  exact ⟨by rw [HC.out];rfl,rfl⟩
 have h1:decide (x < y)=false:=decide_eq_false (by omega)
 have HC:=zh (iL h)
 go_enter Tryz.func166,Tryz.ntmps166
 go_wp2_with (go_at_call 219;refine (oL _ _).mono ?_;rintro e w' ⟨rfl,rfl⟩)
 go_ret
 exact ⟨by rw [HC.out];rfl,rfl⟩
theorem aHY (x y z:Int) (g:Nat) (w:World) (hb:Blk w g 3 #[.int .i64 x,.int .i64 y,.int .i64 z]):Calls Tryz.prog 126 #[.slice (some ⟨g,0,none⟩) 3 3] w fun e w'=>e=.returned (.int .i64 (gJ x y z))∧w=w':=by
 have c0:w.cell? ⟨g,0,none⟩=some (.int .i64 x):=hb.cell 0
 have c1:w.cell? ⟨g,1,none⟩=some (.int .i64 y):=hb.cell 1
 have c2:w.cell? ⟨g,2,none⟩=some (.int .i64 z):=hb.cell 2
 clear hb
 go_enter Tryz.func126,Tryz.ntmps126
 go_wp2_with fail
 go_loop [8] (fun i=>∃ k:Nat,i=.int .i64 (k:Int)∧k≤3∧Hid ((0 < k→x=0)∧(1 < k→y=0)∧(2 < k→z=0))) (fun i=>3 - (intOf i).toNat)
 case atStart=>exact ⟨0,rfl,by omega,zh ⟨by omega,by omega,by omega⟩⟩
 case round =>
  obtain ⟨k,rfl,hk,HZ⟩:=hrel
  rcases (by omega:k=0 ∨ k=1 ∨ k=2 ∨ k=3) with rfl | rfl | rfl | rfl
  ·by_cases h0 : x = 0
   ·have HF := zh h0
    have e1:(x != 0)=false:=by simp [h0]
    clear h0
    go_wp2_with fail
    go_round
    case rel=>exact ⟨1,by go_num,by omega,zh ⟨fun _=>HF.out,by omega,by omega⟩⟩
    case measure=>simp [intOf]
   have HF:=zh (show gJ x y z=x from if_pos h0)
   have e1:(x != 0)=true:=by simp [h0]
   clear h0
   go_wp2_with fail
   go_ret
   exact ⟨by rw [HF.out];rfl,rfl⟩
  ·have HX := zh (HZ.out.1 (by omega))
   by_cases h0:y=0
   ·have HF := zh h0
    have e1:(y != 0)=false:=by simp [h0]
    clear h0
    go_wp2_with fail
    go_round
    case rel=>exact ⟨2,by go_num,by omega,zh ⟨fun _=>HX.out,fun _=>HF.out,by omega⟩⟩
    case measure=>simp [intOf]
   have HF:=zh (show gJ x y z=y from by unfold gJ;rw [if_neg (by simp [HX.out]),if_pos h0])
   have e1:(y != 0)=true:=by simp [h0]
   clear h0
   go_wp2_with fail
   go_ret
   exact ⟨by rw [HF.out];rfl,rfl⟩
  ·have HX := zh (HZ.out.1 (by omega))
   have HY:=zh (HZ.out.2.1 (by omega))
   have HF:=zh (show gJ x y z=z from by unfold gJ;rw [if_neg (by simp [HX.out]),if_neg (by simp [HY.out])])
   by_cases h0:z=0
   ·have HZ0 := zh h0
    have e1:(z != 0)=false:=by simp [h0]
    clear h0
    go_wp2_with fail
    go_round
    case rel=>exact ⟨3,by go_num,by omega,zh ⟨fun _=>HX.out,fun _=>HY.out,fun _=>HZ0.out⟩⟩
    case measure=>simp [intOf]
   have e1:(z != 0)=true:=by simp [h0]
   clear h0
   go_wp2_with fail
   go_ret
   exact ⟨by rw [HF.out];rfl,rfl⟩
  have HF:=zh (show gJ x y z=0 from by unfold gJ;rw [if_neg (by simp [HZ.out.1]),if_neg (by simp [HZ.out.2.1])];exact HZ.out.2.2 (by omega))
  go_wp2_with fail
  go_ret
  exact ⟨by rw [HF.out];rfl,rfl⟩
theorem aBl (x y z:Int) (w:World):(Instr.buildSlice 38 3 #[(0,.int .i64 x),(1,.int .i64 y),(2,.int .i64 z)]).run Tryz.prog w=.ok (.slice (some ⟨w.heap.size,0,none⟩) 3 3) (w.alloc (.cells #[.int .i64 x,.int .i64 y,.int .i64 z] 3)):=by kernel_rfl
theorem aEE {o:Oper} {a:Act} {w:World} {K:Act→World→Prop} {Q:Exit→Act→World→Prop} {ty:TypeId} (x y z:Operand) (ho:o.op=.buildSlice ty 3 #[(0,x),(1,y),(2,z)]) {vx vy vz v:Value} {w2:World} (hx:a.eval x=vx) (hy:a.eval y=vy) (hz:a.eval z=vz) (hr:(Instr.buildSlice ty 3 #[(0,vx),(1,vy),(2,vz)]).run Tryz.prog w=.ok v w2) (h:K (a.put o.dst v) w2):o.wp Tryz.prog a w K Q:=by
 unfold Oper.wp execOp
 simp only [ho,List.map_toArray,List.map_cons,List.map_nil,hx,hy,hz,Sem.run_bind,hr,Result.andThen_ok,Sem.run_pure]
 exact h
theorem nL {w:World} {g:Nat} {t:TypeId} {c:CeR} (h:Blk w g t (ceA c)):w.rangeAt g 2 (nmL c.lk):=by
 have:=bR (k:=2) (aD h)
 rw [show (ceA c).toList=ceL c from rfl,aJv] at this
 exact this
theorem bM {w:World} {g:Nat} {t:TypeId} {n:UInt64} (h:Blk w g t (nmc n)):w.rangeAt g 0 (nmL n):=by
 have:=aD h
 rwa [bF] at this
end
end Go.Proofs.YtohmmcahpakokaaGreat
