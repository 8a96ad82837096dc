/- Repetitions struck from a row, side by side (what slices.CompactFunc does, plain); the end of a row cleared and cut off. -/
import Derived.Test.YtohmmcahpakokaaGreatG15
set_option maxRecDepth 100000
set_option maxHeartbeats 8000000
set_option linter.unusedSectionVars false
set_option linter.unusedVariables false
set_option linter.unusedSimpArgs false
namespace Go.Proofs.YtohmmcahpakokaaGreat
section
open Go.RowKit
attribute [local go_sem ↓] Go.wp_at_zero Go.wp_at_succ
section
variable {α β:Type} [RowT α] [DecidableEq β] {V:α→β} {d dk:Array α} {k j:Nat}
theorem lS (hj:1≤j) (hn:j < d.size):compO ((d.toList.take (j+1)).map V)=if V d[j]! = V d[j - 1]! then compO ((d.toList.take j).map V) else compO ((d.toList.take j).map V) ++ [V d[j]!]:=by
 obtain ⟨i,rfl⟩:∃ i,j=i+1:=⟨j - 1,by omega⟩
 have e1:=gJ (L:=d.toList) (k:=i+1) (by simpa using hn)
 have e2:=gJ (L:=d.toList) (k:=i) (by simp;omega)
 rw [e1,e2,List.map_append,List.map_append,List.map_cons,List.map_nil,List.map_cons,List.map_nil,List.append_assoc,qQ,qQ]
 simp only [Nat.add_sub_cancel,List.cons_append,List.nil_append]
 exact aEn _ _ _
structure Cm1 (V:α→β) (d:Array α) (k:Nat):Prop where
 pos:1≤k
 le:k≤d.size
 val:compO ((d.toList.take k).map V)=(d.toList.take k).map V
structure Cmp (V:α→β) (d dk:Array α) (k j:Nat):Prop where
 size:dk.size=d.size
 pos:1≤k
 kj:k < j
 jn:j≤d.size
 rest:∀ i,k≤i→dk[i]! = d[i]!
 val:(dk.toList.take k).map V=compO ((d.toList.take j).map V)
theorem Cm1.start (h:1≤d.size):Cm1 V d 1:=⟨Nat.le_refl _,h,by
 have e:=gJ (L:=d.toList) (k:=0) (by simp;omega)
 rw [e];rfl⟩
theorem Cm1.next (h:Cm1 V d k) (hk:k < d.size) (hv:V d[k]! ≠ V d[k - 1]!):Cm1 V d (k+1):=⟨by omega,hk,by
 rw [lS h.pos hk,if_neg hv,h.val,gJ (L:=d.toList) (k:=k) (by simpa using hk),List.map_append,qQ];rfl⟩
theorem Cm1.dup (h:Cm1 V d k) (hk:k < d.size) (hv:V d[k]! = V d[k - 1]!):Cmp V d d k (k+1):=⟨rfl,h.pos,by omega,hk,fun _ _=>rfl,by rw [lS h.pos hk,if_pos hv,h.val]⟩
theorem Cm1.all (h:Cm1 V d k) (hk:d.size≤k):d.toList.map V=compO (d.toList.map V):=by
 have:=h.val
 rw [List.take_of_length_le (by simpa using hk)] at this
 exact this.symm
theorem Cmp.dup (h:Cmp V d dk k j) (hj:j < d.size) (hv:V d[j]! = V d[j - 1]!):Cmp V d dk k (j+1):=⟨h.size,h.pos,by have:=h.kj;omega,hj,h.rest,by rw [lS (by have:=h.kj;omega) hj,if_pos hv];exact h.val⟩
theorem Cmp.keep (h:Cmp V d dk k j) (hj:j < d.size) (hv:V d[j]! ≠ V d[j - 1]!):Cmp V d (dk.setIfInBounds k d[j]!) (k+1) (j+1):=by
 have hkj:=h.kj
 have hk:k < dk.size:=by rw [h.size];omega
 refine ⟨by rw [Array.size_setIfInBounds];exact h.size,by omega,by omega,hj,fun i hi=>?_,?_⟩
 ·rw [← h.rest i (by omega)]
  by_cases hs:i < dk.size
  ·rw [getElem!_pos _ i (by simpa using hs),getElem!_pos dk i hs,Array.getElem_setIfInBounds (by simpa using hs),if_neg (by omega)]
  rw [getElem!_neg _ i (by simpa using hs),getElem!_neg dk i hs]
 rw [lS (by omega) hj,if_neg hv,← h.val,Array.toList_setIfInBounds,gJ (k:=k) (by simpa using hk),List.take_set_of_le (Nat.le_refl _),List.map_append]
 congr 1
 rw [show aH (dk.toList.set k d[j]!) k=d[j]! from by simp [aH,hk]];rfl
theorem Cmp.all (h:Cmp V d dk k j) (hj:d.size≤j):(dk.toList.take k).map V=compO (d.toList.map V):=by
 have:=h.val
 rw [List.take_of_length_le (show (d.toList).length≤j by simpa using hj)] at this
 exact this
end
theorem aDI {P:Program} {t e:TypeId} {z:Value} {size bytes:Nat} (E:Elem P t e z size bytes) (hz1:∀ v ∈ z.cells,v.oneCell'=true) (w:World) (ty:TypeId) (g o n c:Nat) (hn:0 < n) (hc:∀ j,j < n * size→(w.cell? ⟨g,o+j,none⟩).isSome=true) (hf:∀ j,j < n * size→w.frozen? ⟨g,o+j,none⟩=false) :
  (Builtin.clear_ #[t] ty #[.slice (some ⟨g,o,none⟩) n c]).run P w=.ok (.tuple #[]) (w.setCells g o (Builtin.zeroCells z.cells n).toList):=by
 obtain ⟨i,hi,hz,hsz,hby⟩:=E.get
 have hlen:(Builtin.zeroCells z.cells n).toList.length=n * size:=by rw [Array.length_toList,size_zeroCells,E.zs]
 have h1:∀ v ∈ (Builtin.zeroCells z.cells n).toList,v.oneCell'=true:=by
  intro v hv
  simp only [Builtin.zeroCells,Array.toList_map,List.mem_map] at hv
  obtain ⟨q,_,rfl⟩:=hv
  have hp:0 < z.cells.size:=by rw [E.zs];exact E.pos
  have hq:q % z.cells.size < z.cells.size:=Nat.mod_lt _ hp
  rw [getElem!_pos z.cells _ hq]
  exact hz1 _ (Array.getElem_mem hq)
 have hst:=run_storeCells_cells (P:=P) g o (Builtin.zeroCells z.cells n).toList 0 w (fun j hj=>by rw [hlen] at hj;simpa using hc j hj) (fun j hj=>by rw [hlen] at hj;simpa using hf j hj) h1
 simp only [Nat.add_zero] at hst
 obtain ⟨m,rfl⟩:∃ m,n=m+1:=⟨n - 1,by omega⟩
 simp [Builtin.clear_,run_underlying E.ut,zeroValue,typeInfo,hi,hz,hst]
section
variable {α:Type} [RowT α] [RowB α] {w0 w:World} {base n c:Nat} {e:TypeId} {A:Option Addr} {d:Array α}
theorem RowS.cutClear (h:RowS w0 w base e A n c d) {g:Nat} (hA:A=some ⟨g,0,none⟩) {k:Nat} (hk:k≤n) (ys:List Value):RowS w0 (w.setCells g (k * RowT.sz α) ys) base e A k c (d.toList.take k).toArray:=by
 have ho:=h.own
 subst hA
 obtain ⟨xs',k1,k2,k3⟩:=uX ys (k * RowT.sz α) w (gcs d.toList) ho
 have h2:=tG k1 hk (by simp)
 rw [k2,iW] at h2
 exact ⟨h2,fun x hx=>RowB.kept _ _ _ _ _ _ _ _ _ _ _ (h.ow x (List.mem_of_mem_take hx)) ho h.ne k3,Grown.trans h.gr k3,h.ne⟩
theorem RowS.clearOk (h:RowS w0 w base e A n c d) {g:Nat} (hA:A=some ⟨g,0,none⟩) {k:Nat} (hk:k≤n):(∀ j,j < (n - k) * RowT.sz α→(w.cell? ⟨g,k * RowT.sz α+j,none⟩).isSome=true)∧∀ j,j < (n - k) * RowT.sz α→w.frozen? ⟨g,k * RowT.sz α+j,none⟩=false:=by
 have hl:=h.own.1
 have ho:=h.own
 have he:k * RowT.sz α+(n - k) * RowT.sz α=n * RowT.sz α:=by rw [← Nat.add_mul];congr 1;omega
 subst hA
 exact ⟨fun j hj=>by rw [ho.cellAt (k * RowT.sz α+j) (by omega),List.getElem?_eq_getElem (by omega)];rfl,fun j hj=>ho.frozenAt _⟩
end
end
section
open Go.RowKit
def cQ (ac sq:Int) (L:List OpR) (i:Nat):List DeR :=
 if (bI L i).k=1 then dF (aY ac) (aY (bI L i).tO) (bI L i).am
 else if (bI L i).k=2 then dF (aY ac) (dQ (dG ac sq L (i:Int))) (bI L i).am
 else if (bI L i).k=3 ∨ (bI L i).k=4 then dF (dQ (bI L i).lk) (aY (bI L i).tO) (bI L i).am
 else if (bI L i).k=5 then dF (aY ac) (cN (bI L i).va) (bI L i).am
 else []
def wH (ac sq:Int) (L:List OpR) (n:Nat):List DeR:=(List.range n).flatMap (cQ ac sq L)
def oW (ac sq:Int) (L:List OpR):List DeR:=if vTx ac sq L=true then wH ac sq L L.length else []
theorem rM (ac sq:Int) (L:List OpR) (n:Nat):wH ac sq L (n+1)=wH ac sq L n ++ cQ ac sq L n:=by
 unfold wH;rw [List.range_succ,List.flatMap_append,List.flatMap_cons,List.flatMap_nil,List.append_nil]
theorem sum_append (l m:List DeR):aIQ (l ++ m)=aIQ l+aIQ m:=by unfold aIQ;rw [List.map_append,List.sum_append]
def aAz (L:List OpR) (n:Nat):Int:=wr ((L.take n).map OpR.am).sum
def kX (ac sq:Int) (L:List OpR):Int:=if vTx ac sq L=true then aAz L L.length else 0
def nP (S:StV) (l:List DeR):StV:=⟨addL S.C l,S.Q,S.K,S.P,S.G⟩
def mA (g:Int) (S:StV) (i:Nat):StV :=
 if gE g i=true∧gE S.G i=false then ⟨addL S.C (dF (cN (i:Int)) bW (getC S.C (cN (i:Int)))),S.Q,S.K,S.P,yD S.G i⟩ else S
def expN (g:Int) (S:StV) (n:Nat):StV:=(List.range n).foldl (mA g) S
def xV (g:Int) (S:StV):StV:=expN g S 10
theorem iE (g:Int) (S:StV) (n:Nat):expN g S (n+1)=mA g (expN g S n) n:=by
 unfold expN;rw [List.range_succ,List.foldl_append];rfl
def kN (ac sq:Int) (L:List OpR) (S:StV) (i:Nat):StV :=
 if (bI L i).k=2 then ⟨S.C,S.Q,lZ S.K ⟨dG ac sq L (i:Int),(bI L i).hs,ac,(bI L i).tO,(bI L i).ul⟩,S.P,S.G⟩
 else if (bI L i).k=3 ∨ (bI L i).k=4 then ⟨S.C,S.Q,gF (bI L i).lk S.K,S.P,S.G⟩
 else if (bI L i).k=6 then xV (2 ^ (bI L i).va.toNat) S
 else S
def doO (ac sq:Int) (L:List OpR) (S:StV) (i:Nat):StV:=kN ac sq L (nP S (cQ ac sq L i)) i
def doN (ac sq:Int) (L:List OpR) (S:StV) (n:Nat):StV:=(List.range n).foldl (doO ac sq L) S
theorem mY (ac sq:Int) (L:List OpR) (S:StV) (n:Nat):doN ac sq L S (n+1)=doO ac sq L (doN ac sq L S n) n:=by
 unfold doN;rw [List.range_succ,List.foldl_append];rfl
theorem aAM (g:Int) (S:StV) (n:Nat):(expN g S n).Q=S.Q∧(expN g S n).P=S.P:=by
 induction n with
 | zero=>exact ⟨rfl,rfl⟩
 | succ n ih =>
  rw [iE];unfold mA;split
  ·exact ih
  exact ih
theorem aLu (ac sq:Int) (L:List OpR) (S:StV) (i:Nat):(kN ac sq L S i).Q=S.Q∧(kN ac sq L S i).P=S.P:=by
 unfold kN
 split
 ·exact ⟨rfl,rfl⟩
 split
 ·exact ⟨rfl,rfl⟩
 split
 ·exact aAM _ _ _
 exact ⟨rfl,rfl⟩
theorem lR (ac sq:Int) (L:List OpR) (S:StV) (n:Nat):(doN ac sq L S n).Q=S.Q∧(doN ac sq L S n).P=S.P:=by
 induction n with
 | zero=>exact ⟨rfl,rfl⟩
 | succ n ih =>
  rw [mY]
  have:=aLu ac sq L (nP (doN ac sq L S n) (cQ ac sq L n)) n
  exact ⟨this.1.trans ih.1,this.2.trans ih.2⟩
def sX (Q:List Int) (ac sq:Int):List Int:=if ac < (Q.length:Int) then Q.set ac.toNat (max (Q.getD ac.toNat 0) (sq+1)) else Q
def iP (S:StV) (ac sq:Int) (L:List OpR):StV :=
 if vTx ac sq L=false ∨ cB ac sq L ∈ S.P then S
 else ⟨(doN ac sq L S L.length).C,sX (doN ac sq L S L.length).Q ac sq,(doN ac sq L S L.length).K,eR (doN ac sq L S L.length).P (cB ac sq L),(doN ac sq L S L.length).G⟩
end
section
open Go.RowKit
attribute [local go_sem ↓] Go.wp_at_zero Go.wp_at_succ
theorem aEL (seed m:UInt64) {sq:Int} (h0:0≤sq) (h1:sq≤31):mN seed 1 sq m=some (wY seed sq.toNat m):=by
 unfold mN
 rw [if_pos ⟨rfl,h0,by omega⟩]
theorem SlB.grown {w w':World} {A:Option Addr} {n c X:Nat} {l:List UInt8} {ac sq:Int} {A1 A2:Option Addr} {n1 c1 n2 c2:Nat} {t:TypeId} (h:SlB w A n c l) (hg:w.grownBy w' (some X)) (hb:Blk w X t (stA ac sq A1 n1 c1 A2 n2 c2)):SlB w' A n c l:=by
 refine ⟨h.len,h.le,h.cap,?_⟩
 by_cases hx:bcs l=[]
 ·exact .inl hx
 obtain ⟨b,o,e,hr,hlt⟩:=h.rd.at hx
 refine .inr ⟨b,o,e,bE hr (hg.block b hlt ?_)⟩
 intro e2
 injection e2 with e2
 subst e2
 cases l with
 | nil=>exact hx rfl
 | cons x r =>
  have h0:=hr 0 (bv x) rfl
  rw [Nat.add_zero,hb.cell o] at h0
  match o,h0 with
  | 0,h0=>simp [bv] at h0
  | 1,h0=>simp [bv] at h0
  | 2,h0=>simp [bv] at h0
  | 3,h0=>simp [bv] at h0
  | o+4,h0=>simp at h0
def aNb (w:World) (seed:UInt64) (ac sq:Int) (L:List OpR) (e:Ending) (w':World):Prop :=
 Ext w w'∧((vTx ac sq L=false∧e=.returned (.tuple #[.agg lV,.int .i64 1])) ∨ (vTx ac sq L=true∧∃ T:TxR,e=.returned (.tuple #[.agg (tA T),.int .i64 0])∧T.ok w'∧T.v=(ac,sq,L.map OpR.v,wY seed sq.toNat (cB ac sq L))))
end
section
open Go.RowKit
def cov1 (C:List DeR) (c:CeR):List DeR :=
 if getC C bW≤0 ∨ 0≤getC C c then C
 else addL C (dF bW c (if - getC C bW < getC C c then - getC C c else getC C bW))
def mX (c:CeR):Bool:=decide (1≤c.k∧c.k≤3)
def aJR (C:List DeR):List CeR:=pB eJ ((C.map DeR.c).filter mX)
def aMx (C:List DeR):List DeR:=(aJR C).foldl cov1 C
def aJQ (S:StV):StV:=⟨aMx S.C,S.Q,S.K,S.P,S.G⟩
structure St3 where
 C:List DeR
 Q:List Int
 P:List UInt64
theorem aHM (Q:List Int) (a s:Int):(sX Q a s).length=Q.length:=by unfold sX;split <;> simp
def StV.s3 (S:StV):St3:=⟨S.C,S.Q,S.P⟩
def AscC (C:List DeR):Prop:=Asc eJ (C.map DeR.c)
def nzC (C:List DeR):Prop:=∀ d,d ∈ C→d.a ≠ 0∧jS d.a
theorem dE (d:DeR) (C:List DeR) (c:CeR):fdC (d :: C) c=if d.c=c then some d else fdC C c:=by
 unfold fdC;rw [List.find?_cons]
 by_cases h:d.c=c
 ·rw [decide_eq_true h,if_pos h]
 rw [decide_eq_false h,if_neg h]
theorem aCI {C:List DeR} {c:CeR} {d:DeR} (h:fdC C c=some d):d ∈ C∧d.c=c :=
 ⟨List.mem_of_find?_eq_some h,by have:=List.find?_some h;simpa using this⟩
theorem wD {C:List DeR} {c:CeR}:fdC C c=none ↔ ∀ d,d ∈ C→d.c ≠ c:=by
 unfold fdC;rw [List.find?_eq_none];simp
theorem sJ {p:DeR→Bool} {x:DeR} {c:CeR} (h:x.c ≠ c):∀ (L:List DeR),fdC (eS p x L) c=fdC L c
 | []=>by rw [eS,dE,if_neg h]
 | y :: r=>by
  unfold eS
  split
  ·rw [dE,if_neg h]
  rw [dE,dE,sJ h r]
theorem sK {p:DeR→Bool} {x:DeR}:∀ (L:List DeR),fdC L x.c=none→fdC (eS p x L) x.c=some x
 | [],_=>by rw [eS,dE,if_pos rfl]
 | y :: r,h=>by
  rw [dE] at h
  have hy:y.c ≠ x.c:=by intro e;rw [if_pos e] at h;cases h
  rw [if_neg hy] at h
  unfold eS
  split
  ·rw [dE,if_pos rfl]
  rw [dE,if_neg hy,sK r h]
theorem sH {c c':CeR} {n:Int} (h:c ≠ c'):∀ (L:List DeR),fdC (lG c n L) c'=fdC L c'
 | []=>rfl
 | d :: r=>by
  unfold lG
  by_cases hc:d.c=c
  ·have hd : d.c ≠ c' := by rw [hc]; exact h
   rw [if_pos hc,dE,if_neg hd]
   split
   ·rfl
   rw [dE,if_neg hd]
  rw [if_neg hc,dE,dE,sH h r]
theorem sI {c:CeR} {n:Int}:∀ (L:List DeR),AscC L→fdC L c ≠ none→fdC (lG c n L) c=if n=0 then none else some ⟨c,n⟩
 | [],_,h=>absurd rfl h
 | d :: r,ha,h=>by
  have hp:=List.pairwise_cons.1 (show List.Pairwise _ (d.c :: r.map DeR.c) from ha)
  unfold lG
  by_cases hc:d.c=c
  ·rw [if_pos hc]
   by_cases h0:n=0
   ·rw [if_pos h0, if_pos h0]
    refine wD.2 (fun e he e'=>?_)
    have:=hp.1 e.c (List.mem_map_of_mem he)
    rw [hc,e',fV.irrefl] at this
    cases this
   rw [if_neg h0,if_neg h0,dE,if_pos hc,hc]
  rw [dE,if_neg hc] at h
  rw [if_neg hc,dE,if_neg hc]
  exact sI r hp.2 h
theorem dS {C:List DeR} {c:CeR} {o:Option DeR} (h:fdC C c=o):getC C c=amt o:=by unfold getC;rw [h]
theorem aCJ {C:List DeR} {c c':CeR} {a:Int} (h:c ≠ c'):fdC (dM C c a) c'=fdC C c':=by
 unfold dM
 cases hf:fdC C c with
 | none =>
  show fdC (if wr a=0 then C else eS (fun y=>eJ c y.c) ⟨c,wr a⟩ C) c'=_
  by_cases h0:wr a=0
  ·rw [if_pos h0]
  rw [if_neg h0,sJ (x:=⟨c,wr a⟩) h]
 | some d=>exact sH h C
theorem jB {C:List DeR} {c c':CeR} {a:Int} (h:c ≠ c'):getC (dM C c a) c'=getC C c':=by
 rw [dS (aCJ h),dS rfl]
theorem lP {C:List DeR} (ha:AscC C) (c:CeR) (a:Int):getC (dM C c a) c=wr (getC C c+a):=by
 cases hf:fdC C c with
 | none =>
  rw [dS hf]
  show _=wr (0+a)
  rw [Int.zero_add]
  unfold dM
  rw [hf]
  show getC (if wr a=0 then C else eS (fun y=>eJ c y.c) ⟨c,wr a⟩ C) c=_
  by_cases h0:wr a=0
  ·rw [if_pos h0,dS hf,h0];rfl
  rw [if_neg h0,dS (sK (x:=⟨c,wr a⟩) C hf)];rfl
 | some d =>
  rw [dS hf]
  show _=wr (d.a+a)
  unfold dM
  rw [hf]
  show getC (lG c (wr (d.a+a)) C) c=_
  rw [dS (sI C ha (by rw [hf];simp))]
  by_cases h0:wr (d.a+a)=0
  ·rw [if_pos h0,h0];rfl
  rw [if_neg h0];rfl
theorem qB (c:CeR) (n:Int):∀ (L:List DeR),((lG c n L).map DeR.c).Sublist (L.map DeR.c)
 | []=>List.Sublist.refl _
 | d :: r=>by
  unfold lG
  by_cases hc:d.c=c
  ·rw [if_pos hc]
   split
   ·exact List.sublist_cons_self _ _
   exact List.Sublist.refl _
  rw [if_neg hc]
  exact (qB c n r).cons_cons d.c
theorem aCr (x:DeR):∀ (L:List DeR),(∀ d,d ∈ L→d.c ≠ x.c)→(eS (fun y=>eJ x.c y.c) x L).map DeR.c=vW eJ x.c (L.map DeR.c)
 | [],_=>rfl
 | y :: r,h=>by
  have hy:=h y (List.mem_cons_self ..)
  rw [List.map_cons]
  unfold eS vW
  by_cases h1:eJ x.c y.c=true
  ·have h2 := fV.asymm h1
   simp [h1,h2,hy,Ne.symm hy]
  have h1':eJ x.c y.c=false:=by simpa using h1
  have h2:eJ y.c x.c=true:=by
   cases e:eJ y.c x.c with
   | true=>rfl
   | false=>exact absurd (fV.total _ _ e h1') hy
  have:=aCr x r (fun d hd=>h d (List.mem_cons_of_mem _ hd))
  simp [h1',h2,hy,Ne.symm hy,this]
theorem rS {C:List DeR} (ha:AscC C) (c:CeR) (a:Int):AscC (dM C c a):=by
 unfold dM
 cases hf:fdC C c with
 | none =>
  simp only
  split
  ·exact ha
  unfold AscC
  rw [aCr ⟨c,wr a⟩ C (wD.1 hf)]
  exact aDh fV _ _ ha
 | some d=>exact List.Pairwise.sublist (qB c _ C) ha
theorem aCo {c:CeR} {n:Int} {x:DeR}:∀ {L:List DeR},x ∈ lG c n L→x ∈ L ∨ n ≠ 0∧x.a=n
 | [],h=>by cases h
 | d :: r,h=>by
  unfold lG at h
  by_cases hc:d.c=c
  ·rw [if_pos hc] at h
   split at h
   ·exact .inl (List.mem_cons_of_mem _ h)
   rename_i h0
   rcases List.mem_cons.1 h with rfl | h
   ·exact .inr ⟨h0,rfl⟩
   exact .inl (List.mem_cons_of_mem _ h)
  rw [if_neg hc] at h
  rcases List.mem_cons.1 h with rfl | h
  ·exact .inl (List.mem_cons_self ..)
  rcases aCo h with h | h
  ·exact .inl (List.mem_cons_of_mem _ h)
  exact .inr h
theorem aHL {C:List DeR} (hn:nzC C) (c:CeR) (a:Int):nzC (dM C c a):=by
 unfold dM
 cases hf:fdC C c with
 | none =>
  simp only
  split
  ·exact hn
  rename_i h0
  intro d hd
  rcases (mV _ _ _ _).1 hd with rfl | hd
  ·exact ⟨h0,aBj a⟩
  exact hn d hd
 | some e =>
  intro d hd
  rcases aCo hd with hd | ⟨h0,h1⟩
  ·exact hn d hd
  rw [h1];exact ⟨h0,aBj _⟩
theorem aGE (l:List DeR):∀ {C:List DeR},AscC C→AscC (addL C l):=by
 induction l with
 | nil=>intro C h;exact h
 | cons d r ih=>intro C h;exact ih (rS h d.c d.a)
theorem aHK (l:List DeR):∀ {C:List DeR},nzC C→nzC (addL C l):=by
 induction l with
 | nil=>intro C h;exact h
 | cons d r ih=>intro C h;exact ih (aHL h d.c d.a)
theorem aIe {C:List DeR} (ha:AscC C):∀ {d:DeR},d ∈ C→getC C d.c=d.a:=by
 induction C with
 | nil=>intro d h;cases h
 | cons e r ih =>
  intro d h
  have hp:=List.pairwise_cons.1 (show List.Pairwise _ (e.c :: r.map DeR.c) from ha)
  unfold getC
  rw [dE]
  rcases List.mem_cons.1 h with rfl | h
  ·rw [if_pos rfl];rfl
  have hne:e.c ≠ d.c:=by
   intro e'
   have:=hp.1 d.c (List.mem_map_of_mem h)
   rw [e',fV.irrefl] at this
   cases this
  rw [if_neg hne]
  exact ih hp.2 h
end
section
open Go.RowKit
attribute [local go_sem ↓] Go.wp_at_zero Go.wp_at_succ
theorem zW (s:StR):(ssA s).all (·.oneCell')=true:=by simp [Value.oneCell']
section
variable {ops:Array Oper} {o:Oper} {a:Act} {w:World} {K:Act→World→Prop} {Q:Exit→Act→World→Prop} {X:Prop}
theorem bY (hgd:o.guard=none) (x y:Operand) (ho:o.op=.store 44 x y) (g:Nat) (v:Value) (s:StR) (hv:Value.agg (ssA s)=v) (hx:a.eval x=.pointer (some ⟨g,0,none⟩)) (hy:a.eval y=v) {z:StR} (hb:Blk w g 44 (ssA z))
  (h:∀ W,Hid (w.setCells g 0 (ssA s).toList=W∧Blk W g 44 (ssA s))→K (a.put o.dst undef) W):if Region.wanted o (yielded ops a.tmps)=true then Oper.wp Tryz.prog o a w K Q else X:=by
 have hw:Region.wanted o (yielded ops a.tmps)=true:=by simp [Region.wanted,hgd]
 rw [if_pos hw]
 exact wp_store_mid (P:=Tryz.prog) (Q:=Q) (op:=o) (K:=K) 44 x y ho g 0 (ssA s) hx (by rw [hy,hv]) (show w.there g 0 (ssA z).size from aK hb) (by kernel_rfl) (zW s) (h _ (zh ⟨rfl,aQ (ds:=ssA s) hb rfl⟩))
end
theorem cX (s:StR) (w:World) (h:s.ok w) (hn:s.n1≤1000000∧s.n2≤1000000∧s.n3≤1000000∧s.n4≤1000000):Calls Tryz.prog 51 #[.agg (ssA s)] w (mE w s.V):=by
 have HP:=zh (show Blk ((w.alloc (.cells (ssA s) 44)).alloc (.cells (ssA ss0) 44)).drew w.heap.size 44 (ssA s) from ((Blk.new w 44 (ssA s)).alloc _).drew)
 have HZ:=zh (show Blk ((w.alloc (.cells (ssA s) 44)).alloc (.cells (ssA ss0) 44)).drew (w.heap.size+1) 44 (ssA ss0) from Blk.drew (Blk.newAt _ _ _ _ (by simp)))
 have HEW:=zh (show Ext w ((w.alloc (.cells (ssA s) 44)).alloc (.cells (ssA ss0) 44)).drew from (((Ext.refl w).alloc' _).alloc' _).drew')
 have HS:=zh (h.ext HEW.out)
 have HW:=zh HEW.out.size
 have HO:=zh h
 have hn1:s.n1≤1000000000:=by omega
 have hn2:s.n2≤1000000000:=by omega
 have hn3:s.n3≤1000000000:=by omega
 have hn4:s.n4≤1000000000:=by omega
 clear h hn
 go_enter Tryz.func51,Tryz.ntmps51
 go_wp2_with fail
 refine wp_region_held_drew (S:=fun W=>Blk W w.heap.size 44 (ssA s)∧(∃ z,Blk W (w.heap.size+1) 44 (ssA z))∧Ext w W) (by kernel_rfl) (⟨HP.out,⟨ss0,HZ.out⟩,HEW.out⟩) (fun aA=>?_)
 refine zz0 [0,1,3,4,6,7,9,10,12,13] ?_;repeat first | refine zz1 ?_ (hy:=by intro W aL;obtain ⟨c0,c1,c2,c3,c4⟩:=aE aL.1;go_simp <;> with_reducible rfl) | refine zz2 ?_ | refine zz9 ?_
 refine zzj (VV 2 (fun v W=>∃ A c,v=.slice A s.n1 c∧W.ownsRow w.heap.size 34 11 (.slice A s.n1 c) s.n1 (gcs s.C)) (VV 5 (fun v W=>∃ A c,v=.slice A s.n2 c∧W.ownsRow w.heap.size 3 1 (.slice A s.n2 c) s.n2 (gcs s.Q)) (VV 8 (fun v W=>∃ A c,v=.slice A s.n3 c∧W.ownsRow w.heap.size 94 19 (.slice A s.n3 c) s.n3 (gcs s.K)) (VV 11 (fun v W=>∃ A c,v=.slice A s.n4 c∧W.ownsRow w.heap.size 30 8 (.slice A s.n4 c) s.n4 (gcs s.P)) VN)))) [(2,some 5),(5,some 8),(8,some 11),(11,some 14)] 2 (fun W W' h e=>⟨h.1.ext e,(by obtain ⟨z,hz⟩:=h.2.1;exact ⟨z,hz.ext e⟩),h.2.2.trans e⟩) (VV.ext (fun v w w' ⟨A,c,h1,h2⟩ e=>⟨A,c,h1,bF h2 e⟩) (VV.ext (fun v w w' ⟨A,c,h1,h2⟩ e=>⟨A,c,h1,bF h2 e⟩) (VV.ext (fun v w w' ⟨A,c,h1,h2⟩ e=>⟨A,c,h1,bF h2 e⟩) (VV.ext (fun v w w' ⟨A,c,h1,h2⟩ e=>⟨A,c,h1,bF h2 e⟩) VN.ext)))) (zzc ?_ (zzc ?_ (zzc ?_ (zzc ?_ zzn)))) ?_
 ·refine zzp fun W hE hS K hK => ?_
  go_simp
  go_at_call 90
  refine (aCW s.A1 s.n1 s.c1 s.C _ (HO.out.ext hS.2.2).s1 hn1).mono ?_
  rintro e w5 ⟨A5,c5,rfl,ho5,he5⟩
  exact zzK (hK.out (.slice A5 s.n1 c5) _ (he5) (⟨A5,c5,rfl,bB ho5 (Nat.le_trans HW.out hE.size)⟩))
 ·refine zzp fun W hE hS K hK => ?_
  go_simp
  go_at_call 91
  refine (aCV s.A2 s.n2 s.c2 s.Q _ (HO.out.ext hS.2.2).s2 hn2).mono ?_
  rintro e w5 ⟨A5,c5,rfl,ho5,he5⟩
  exact zzK (hK.out (.slice A5 s.n2 c5) _ (he5) (⟨A5,c5,rfl,bB ho5 (Nat.le_trans HW.out hE.size)⟩))
 ·refine zzp fun W hE hS K hK => ?_
  go_simp
  go_at_call 92
  refine (aCU s.A3 s.n3 s.c3 s.K _ (HO.out.ext hS.2.2).s3 hn3).mono ?_
  rintro e w5 ⟨A5,c5,rfl,ho5,he5⟩
  exact zzK (hK.out (.slice A5 s.n3 c5) _ (he5) (⟨A5,c5,rfl,bB ho5 (Nat.le_trans HW.out hE.size)⟩))
 ·refine zzp fun W hE hS K hK => ?_
  go_simp
  go_at_call 93
  refine (aCT s.A4 s.n4 s.c4 s.P _ (HO.out.ext hS.2.2).s4 hn4).mono ?_
  rintro e w5 ⟨A5,c5,rfl,ho5,he5⟩
  exact zzK (hK.out (.slice A5 s.n4 c5) _ (he5) (⟨A5,c5,rfl,bB ho5 (Nat.le_trans HW.out hE.size)⟩))
 intro env W hE hS hV
 obtain ⟨h2,h5,h8,h11,-⟩:=zzV hV
 clear hV
 simp only [aV]
 generalize env 2=x2 at h2 ⊢
 generalize env 5=x5 at h5 ⊢
 generalize env 8=x8 at h8 ⊢
 generalize env 11=x11 at h11 ⊢
 obtain ⟨A1,c1,rfl,k1⟩:=h2
 obtain ⟨A2,c2,rfl,k2⟩:=h5
 obtain ⟨A3,c3,rfl,k3⟩:=h8
 obtain ⟨A4,c4,rfl,k4⟩:=h11
 have HK1:=zh k1
 have HK2:=zh k2
 have HK3:=zh k3
 have HK4:=zh k4
 clear k1 k2 k3 k4
 have aA:=hS
 refine zt 14 aA ?_
 refine za 15 (fun K hK=>?_)
 (obtain ⟨z6,hz6⟩:=aA.2.1;refine bY rfl (.tmp 2) (.tmp 17) (by rfl) (w.heap.size+1) (.agg (ssA ⟨A1,s.n1,c1,s.C,A2,s.n2,c2,s.Q,A3,s.n3,c3,s.K,A4,s.n4,c4,s.P,s.G⟩)) ⟨A1,s.n1,c1,s.C,A2,s.n2,c2,s.Q,A3,s.n3,c3,s.K,A4,s.n4,c4,s.P,s.G⟩ rfl (by rfl) (by rfl) hz6 ?_;intro W6 h6)
 refine hK.out _ _ (⟨aA.1.grown (by rw [← h6.out.1];exact aD _ _ _ _) (fun e=>by injection e;omega),⟨_,h6.out.2⟩,by rw [← h6.out.1];exact Below.setCells' aA.2.2 (Nat.le_succ _) _ _⟩) (fun aA=>?_)
 clear hK K
 try simp only [aX]
 refine wpAnyH_done (by kernel_rfl) ?_ _
 have hst:=h6.out.2
 have HOW:=zh (show OwnS W6 w.heap.size ⟨A1,s.n1,c1,s.C,A2,s.n2,c2,s.Q,A3,s.n3,c3,s.K,A4,s.n4,c4,s.P,s.G⟩ from by
  refine OwnS.kept (X:=w.heap.size+1) ⟨HK1.out,HK2.out,HK3.out,HK4.out,HO.out.s1.ok,HO.out.s2.ok,HO.out.s3.ok,HO.out.g⟩ (by rw [← h6.out.1];exact aD _ _ _ _) hz6 (by decide) (by decide) (by decide) (by decide))
 have HX:=zh aA.2.2
 clear h6 hz6 hS hE aA
 go_wp2_with fail
 exact bodyPost_ret (v:=.agg (ssA ⟨A1,s.n1,c1,s.C,A2,s.n2,c2,s.Q,A3,s.n3,c3,s.K,A4,s.n4,c4,s.P,s.G⟩)) (gM rfl _ _ (w.heap.size+1) _ rfl (run_loadVar_row _ _ _ _ _ (0,0) _ hst Tryz.underlying44 rfl (by kernel_rfl))) rfl ⟨_,rfl,HOW.out,rfl,HX.out⟩
section
variable {α:Type} [RowT α] {q:α→Bool} {L:List α} {r:Int} {n:Nat}
def IxIs (q:α→Bool) (L:List α) (r:Int):Prop:=(r=-1∧∀ k,k < L.length→q (aH L k)=false) ∨ ∃ k:Nat,r=(k:Int)∧k < L.length∧q (aH L k)=true∧∀ j,j < k→q (aH L j)=false
theorem iU (q:α→Bool) (L:List α):(∀ k,k < L.length→q (aH L k)=false) ∨ ∃ k:Nat,k < L.length∧q (aH L k)=true∧∀ j,j < k→q (aH L j)=false:=by
 suffices H:∀ n,n≤L.length→(∀ k,k < n→q (aH L k)=false) ∨ ∃ k:Nat,k < n∧q (aH L k)=true∧∀ j,j < k→q (aH L j)=false from H _ (Nat.le_refl _)
 intro n
 induction n with
 | zero=>intro _;exact .inl (fun k hk=>absurd hk (Nat.not_lt_zero _))
 | succ n ih =>
  intro hn
  rcases ih (by omega) with h | ⟨k,h1,h2,h3⟩
  ·cases hq : q (aH L n) with
   | false=>exact .inl (fun k hk=>by
     by_cases e:k=n
     ·rw [e];exact hq
     exact h k (by omega))
   | true=>exact .inr ⟨n,by omega,hq,h⟩
  exact .inr ⟨k,by omega,h2,h3⟩
theorem IxIs.hit (h:IxIs q L r) {k:Nat} (hk:k < L.length) (h1:q (aH L k)=true) (h2:∀ j,j < k→q (aH L j)=false):r=(k:Int):=by
 rcases h with ⟨rfl,h⟩ | ⟨m,rfl,hm,h3,h4⟩
 ·rw [h k hk] at h1;cases h1
 rcases Nat.lt_trichotomy k m with e | e | e
 ·rw [h4 k e] at h1;cases h1
 ·rw [e]
 rw [h2 m e] at h3;cases h3
theorem IxIs.none (h:IxIs q L r) (h2:∀ j,j < L.length→q (aH L j)=false):r=-1:=by
 rcases h with ⟨rfl,h⟩ | ⟨m,rfl,hm,h3,h4⟩
 ·rfl
 rw [h2 m hm] at h3;cases h3
theorem wV {k:Nat} (h:∀ j,j < k→q (aH L j)=false) (hk:q (aH L k)=false):∀ j,j < k+1→q (aH L j)=false:=fun j hj=>by
 by_cases e:j=k
 ·rw [e];exact hk
 exact h j (by omega)
end
structure Says {α:Type} [RowT α] (arr:α→Array Value) (fn:Nat) (caps:Array Value) (q:α→Bool) (w0:World):Prop where
 eg:∀ args w,(callFunc fn args).run Tryz.prog w=.ok (.enter fn args) w
 says:∀ x W,Ext w0 W→RowT.ok x W→Calls Tryz.prog fn (#[.agg (arr x)] ++ caps) W fun e w'=>e=.returned (.bool (q x))∧Ext W w'
theorem Says.at {α:Type} [RowT α] {arr:α→Array Value} {fn:Nat} {caps:Array Value} {q:α→Bool} {w0:World} (h:Says arr fn caps q w0) {w:World} {A:Option Addr} {n c:Nat} {L:List α} (hS:SlG w A n c L) (hE:Ext w0 w) {k:Nat} (hk:k < n) (v:Value) (hv:Value.agg (arr (aH L k))=v) (b:Bool) (hb:q (aH L k)=b) :
  Hid (Calls Tryz.prog fn (#[v] ++ caps) w fun e w'=>e=.returned (.bool b)∧Ext w w'):=by
 subst hv;subst hb
 exact zh (h.says _ w hE (hS.nth hk))
theorem vV {fn:Nat} {caps:Array Value} {q:DeR→Bool} {w0:World} (ht:Says deA fn caps q w0) (w:World) (A:Option Addr) (n c:Nat) (L:List DeR) (h:SlG w A n c L) (hE:Ext w0 w) (r:Int) (hr:IxIs q L r) :
  Calls Tryz.prog 157 #[.slice A n c,.func (.func fn) #[] caps] w fun e w'=>e=.returned (.int .i64 r)∧Ext w w':=by
 have eg:=ht.eg
 have hcap:=h.cap
 have hle:=h.le
 have HT:=zh ht
 have HS:=zh h
 have HE0:=zh hE
 have HR:=zh hr
 have HLEN:=zh h.len
 clear ht h hE hr
 go_enter Tryz.func157,Tryz.ntmps157
 go_wp2_with fail
 go_loopw [8] (fun vi wr=>∃ k:Nat,vi=.int .i64 (k:Int)∧k≤n∧Hid (∀ j,j < k→q (aH L j)=false)∧Hid (Ext w wr)) (fun i _=>n - (intOf i).toNat)
 case atStart=>exact ⟨0,rfl,Nat.zero_le _,zh (fun j hj=>absurd hj (Nat.not_lt_zero _)),zh (Ext.refl w)⟩
 case round =>
  obtain ⟨k,rfl,hk,HN,HE⟩:=hrel
  by_cases hlt:k < n
  ·have HS2 := zh (HS.out.ext HE.out)
   have HE3:=zh (HE0.out.trans HE.out)
   obtain ⟨b,o,rfl,hrow,-⟩:=HS2.out.at (by omega)
   have i1:(k:Int) < (n:Int):=by omega
   have i0:(0:Int)≤(k:Int):=by omega
   have hr:wr.rangeAt b (o+k * 11) (RowT.enc (aH L k)):=cO (k:=k) hrow (by rw [HLEN.out];exact hlt)
   clear hrow
   obtain ⟨vx,hvx⟩:∃ v,Value.agg (deA (aH L k))=v:=⟨_,rfl⟩
   cases hb:q (aH L k) with
   | false =>
    have HN2:=zh (wV HN.out hb)
    have HC:=HT.out.at HS2.out HE3.out hlt vx hvx false hb
    obtain ⟨R,hR⟩:∃ R,aH L k=R:=⟨_,rfl⟩
    rw [hR] at hr hvx
    have HVX:=zh hvx
    clear hvx hb hR
    go_wp2_with (first | (with_reducible refine aB deP rfl (.tmp 14) rfl b (o+k * 11) rfl R vx HVX.out hr ?_))
    refine HC.out.mono ?_
    rintro e w3 ⟨rfl,he3⟩
    have HE2:=zh (HE.out.trans he3)
    clear HC HVX he3 hr HS2 HE3
    go_wp2_with fail
    go_roundw
    case rel=>exact ⟨k+1,by go_num,hlt,HN2,HE2⟩
    case measure=>simp [intOf];omega
   | true =>
    have HQ:=zh (HR.out.hit (by rw [HLEN.out];exact hlt) hb HN.out)
    have HC:=HT.out.at HS2.out HE3.out hlt vx hvx true hb
    obtain ⟨R,hR⟩:∃ R,aH L k=R:=⟨_,rfl⟩
    rw [hR] at hr hvx
    have HVX:=zh hvx
    clear hvx hb hR
    go_wp2_with (first | (with_reducible refine aB deP rfl (.tmp 14) rfl b (o+k * 11) rfl R vx HVX.out hr ?_))
    refine HC.out.mono ?_
    rintro e w3 ⟨rfl,he3⟩
    have HE2:=zh (HE.out.trans he3)
    clear HC HVX he3 hr HS2 HE3
    go_wp2_with fail
    go_ret
    exact ⟨by rw [HQ.out];rfl,HE2.out⟩
  have i1:¬ (k:Int) < (n:Int):=by omega
  have HQ:=zh (HR.out.none (fun j hj=>HN.out j (by rw [HLEN.out] at hj;omega)))
  go_wp2_with fail
  go_ret
  exact ⟨by rw [HQ.out];rfl,HE.out⟩
theorem vU {fn:Nat} {caps:Array Value} {q:LkR→Bool} {w0:World} (ht:Says lkA fn caps q w0) (w:World) (A:Option Addr) (n c:Nat) (L:List LkR) (h:SlG w A n c L) (hE:Ext w0 w) (r:Int) (hr:IxIs q L r) :
  Calls Tryz.prog 212 #[.slice A n c,.func (.func fn) #[] caps] w fun e w'=>e=.returned (.int .i64 r)∧Ext w w':=by
 have eg:=ht.eg
 have hcap:=h.cap
 have hle:=h.le
 have HT:=zh ht
 have HS:=zh h
 have HE0:=zh hE
 have HR:=zh hr
 have HLEN:=zh h.len
 clear ht h hE hr
 go_enter Tryz.func212,Tryz.ntmps212
 go_wp2_with fail
 go_loopw [8] (fun vi wr=>∃ k:Nat,vi=.int .i64 (k:Int)∧k≤n∧Hid (∀ j,j < k→q (aH L j)=false)∧Hid (Ext w wr)) (fun i _=>n - (intOf i).toNat)
 case atStart=>exact ⟨0,rfl,Nat.zero_le _,zh (fun j hj=>absurd hj (Nat.not_lt_zero _)),zh (Ext.refl w)⟩
 case round =>
  obtain ⟨k,rfl,hk,HN,HE⟩:=hrel
  by_cases hlt:k < n
  ·have HS2 := zh (HS.out.ext HE.out)
   have HE3:=zh (HE0.out.trans HE.out)
   obtain ⟨b,o,rfl,hrow,-⟩:=HS2.out.at (by omega)
   have i1:(k:Int) < (n:Int):=by omega
   have i0:(0:Int)≤(k:Int):=by omega
   have hr:wr.rangeAt b (o+k * 19) (RowT.enc (aH L k)):=cO (k:=k) hrow (by rw [HLEN.out];exact hlt)
   clear hrow
   obtain ⟨vx,hvx⟩:∃ v,Value.agg (lkA (aH L k))=v:=⟨_,rfl⟩
   cases hb:q (aH L k) with
   | false =>
    have HN2:=zh (wV HN.out hb)
    have HC:=HT.out.at HS2.out HE3.out hlt vx hvx false hb
    obtain ⟨R,hR⟩:∃ R,aH L k=R:=⟨_,rfl⟩
    rw [hR] at hr hvx
    have HVX:=zh hvx
    clear hvx hb hR
    go_wp2_with (first | (with_reducible refine aB lkP rfl (.tmp 14) rfl b (o+k * 19) rfl R vx HVX.out hr ?_))
    refine HC.out.mono ?_
    rintro e w3 ⟨rfl,he3⟩
    have HE2:=zh (HE.out.trans he3)
    clear HC HVX he3 hr HS2 HE3
    go_wp2_with fail
    go_roundw
    case rel=>exact ⟨k+1,by go_num,hlt,HN2,HE2⟩
    case measure=>simp [intOf];omega
   | true =>
    have HQ:=zh (HR.out.hit (by rw [HLEN.out];exact hlt) hb HN.out)
    have HC:=HT.out.at HS2.out HE3.out hlt vx hvx true hb
    obtain ⟨R,hR⟩:∃ R,aH L k=R:=⟨_,rfl⟩
    rw [hR] at hr hvx
    have HVX:=zh hvx
    clear hvx hb hR
    go_wp2_with (first | (with_reducible refine aB lkP rfl (.tmp 14) rfl b (o+k * 19) rfl R vx HVX.out hr ?_))
    refine HC.out.mono ?_
    rintro e w3 ⟨rfl,he3⟩
    have HE2:=zh (HE.out.trans he3)
    clear HC HVX he3 hr HS2 HE3
    go_wp2_with fail
    go_ret
    exact ⟨by rw [HQ.out];rfl,HE2.out⟩
  have i1:¬ (k:Int) < (n:Int):=by omega
  have HQ:=zh (HR.out.none (fun j hj=>HN.out j (by rw [HLEN.out] at hj;omega)))
  go_wp2_with fail
  go_ret
  exact ⟨by rw [HQ.out];rfl,HE.out⟩
theorem aCy {fn:Nat} {caps:Array Value} {q:UInt64→Bool} {w0:World} (ht:Says nmc fn caps q w0) (w:World) (A:Option Addr) (n c:Nat) (L:List UInt64) (h:SlG w A n c L) (hE:Ext w0 w) (r:Int) (hr:IxIs q L r) :
  Calls Tryz.prog 164 #[.slice A n c,.func (.func fn) #[] caps] w fun e w'=>e=.returned (.int .i64 r)∧Ext w w':=by
 have eg:=ht.eg
 have hcap:=h.cap
 have hle:=h.le
 have HT:=zh ht
 have HS:=zh h
 have HE0:=zh hE
 have HR:=zh hr
 have HLEN:=zh h.len
 clear ht h hE hr
 go_enter Tryz.func164,Tryz.ntmps164
 go_wp2_with fail
 go_loopw [8] (fun vi wr=>∃ k:Nat,vi=.int .i64 (k:Int)∧k≤n∧Hid (∀ j,j < k→q (aH L j)=false)∧Hid (Ext w wr)) (fun i _=>n - (intOf i).toNat)
 case atStart=>exact ⟨0,rfl,Nat.zero_le _,zh (fun j hj=>absurd hj (Nat.not_lt_zero _)),zh (Ext.refl w)⟩
 case round =>
  obtain ⟨k,rfl,hk,HN,HE⟩:=hrel
  by_cases hlt:k < n
  ·have HS2 := zh (HS.out.ext HE.out)
   have HE3:=zh (HE0.out.trans HE.out)
   obtain ⟨b,o,rfl,hrow,-⟩:=HS2.out.at (by omega)
   have i1:(k:Int) < (n:Int):=by omega
   have i0:(0:Int)≤(k:Int):=by omega
   have hr:wr.rangeAt b (o+k * 8) (RowT.enc (aH L k)):=cO (k:=k) hrow (by rw [HLEN.out];exact hlt)
   clear hrow
   obtain ⟨vx,hvx⟩:∃ v,Value.agg (nmc (aH L k))=v:=⟨_,rfl⟩
   cases hb:q (aH L k) with
   | false =>
    have HN2:=zh (wV HN.out hb)
    have HC:=HT.out.at HS2.out HE3.out hlt vx hvx false hb
    obtain ⟨R,hR⟩:∃ R,aH L k=R:=⟨_,rfl⟩
    rw [hR] at hr hvx
    have HVX:=zh hvx
    clear hvx hb hR
    go_wp2_with (first | (with_reducible refine aB nmP rfl (.tmp 14) rfl b (o+k * 8) rfl R vx HVX.out hr ?_))
    refine HC.out.mono ?_
    rintro e w3 ⟨rfl,he3⟩
    have HE2:=zh (HE.out.trans he3)
    clear HC HVX he3 hr HS2 HE3
    go_wp2_with fail
    go_roundw
    case rel=>exact ⟨k+1,by go_num,hlt,HN2,HE2⟩
    case measure=>simp [intOf];omega
   | true =>
    have HQ:=zh (HR.out.hit (by rw [HLEN.out];exact hlt) hb HN.out)
    have HC:=HT.out.at HS2.out HE3.out hlt vx hvx true hb
    obtain ⟨R,hR⟩:∃ R,aH L k=R:=⟨_,rfl⟩
    rw [hR] at hr hvx
    have HVX:=zh hvx
    clear hvx hb hR
    go_wp2_with (first | (with_reducible refine aB nmP rfl (.tmp 14) rfl b (o+k * 8) rfl R vx HVX.out hr ?_))
    refine HC.out.mono ?_
    rintro e w3 ⟨rfl,he3⟩
    have HE2:=zh (HE.out.trans he3)
    clear HC HVX he3 hr HS2 HE3
    go_wp2_with fail
    go_ret
    exact ⟨by rw [HQ.out];rfl,HE2.out⟩
  have i1:¬ (k:Int) < (n:Int):=by omega
  have HQ:=zh (HR.out.none (fun j hj=>HN.out j (by rw [HLEN.out] at hj;omega)))
  go_wp2_with fail
  go_ret
  exact ⟨by rw [HQ.out];rfl,HE.out⟩
def gH:SgR:=⟨nQ,none,0,0,[]⟩
abbrev sg0:Array Value:=#[.int .i64 0,.int .i64 0,.int .i64 0,.int .i64 0,.int .i64 0,.int .i64 0,.int .u8 0,.int .u8 0,.int .u8 0,.int .u8 0,.int .u8 0,.int .u8 0,.int .u8 0,.int .u8 0,.int .u8 0,.int .u8 0,.int .u8 0,.int .u8 0,.int .u8 0,.int .u8 0,.int .u8 0,.int .u8 0,.slice none 0 0]
theorem aKX:sg0=sgA gH:=by
 unfold sgA gH nQ;simp only [bC 0 (by omega),bC 1 (by omega),bC 2 (by omega),bC 3 (by omega),bC 4 (by omega),bC 5 (by omega),bC 6 (by omega),bC 7 (by omega)]
section
variable {o:Oper} {a:Act} {w:World} {ops:Array Oper} {rest:List Oper} {Q:Exit→Act→World→Prop}
theorem tT (hgd:o.guard=none) (x y:Operand) (ho:o.op=.store 136 x y) (g:Nat) (S:SgR) (hx:a.eval x=.pointer (some ⟨g,0,none⟩)) (hy:a.eval y=.agg (sgA S)) (ht:w.there g 0 23)
  (h:wpList Tryz.prog ops Q rest (a.put o.dst undef) (w.setCells g 0 (sgA S).toList)):wpList Tryz.prog ops Q (o :: rest) a w :=
 wpList_store_mid hgd 136 x y ho g 0 (sgA S) hx hy ht (by kernel_rfl) (aEN S) h
theorem jH (hgd:o.guard=none) (x y:Operand) (ho:o.op=.store 136 x y) (g:Nat) (hx:a.eval x=.pointer (some ⟨g,0,none⟩)) (hy:a.eval y=.agg sg0) (ht:w.there g 0 23)
  (h:wpList Tryz.prog ops Q rest (a.put o.dst undef) (w.setCells g 0 (sgA gH).toList)):wpList Tryz.prog ops Q (o :: rest) a w:=by
 refine tT hgd x y ho g gH hx (by rw [hy,aKX]) ht h
end
theorem tN {o:Oper} {a:Act} {ops:Array Oper} {S:World→Prop} (hw:Region.wanted o (yielded ops a.tmps)=true) (x:Operand) (ho:o.op=.load 134 x) (b of:Nat) (hx:a.eval x=.pointer (some ⟨b,of,none⟩)) (R:VtR) (hS:∀ w,S w→w.rangeAt b of (vtL R)):YieldsIf Tryz.prog ops S o (.agg (vtA R)) a:=by
 have:=yieldsIf_load_mid (P:=Tryz.prog) (S:=S) hw 134 x ho b of hx (vtL R) _ hS Tryz.underlying134 rfl (by rw [oF];kernel_rfl)
 rw [aEE] at this
 exact this
theorem aMZ (A:Option Addr) (n c:Nat) (l:List UInt8) (w:World) (h:SlB w A n c l) (hn:n≤140737488351232):Calls Tryz.prog 220 #[.slice A n c,.int .u64 0,.int .i64 0] w fun e w'=>∃ A' c',e=.returned (.slice A' n c')∧OwnB w' w.heap.size 5 A' n c' l∧Ext w w':=by
 have:=nA A n c l 0 0 (by omega) w h hn
 refine this.mono ?_
 rintro e w' ⟨A',c',he,ho,hx⟩
 exact ⟨A',c',he,by simpa [cK] using ho,hx⟩
def sdC (l:List UInt8):Int:=if l.length < 393 then 2 else if 393 < l.length then 3 else vdC (l.take 23)
def aFo (w:World) (l:List UInt8) (e:Ending) (w':World):Prop:=∃ S:SgR,e=.returned (.tuple #[.agg (sgA S),.int .i64 (sdC l)])∧S.ok w'∧Ext w w'∧(sdC l=0→S.v=eT (l.take 23)∧cI S.v=true∧S.n=370∧S.sig=l.drop 23)∧(sdC l ≠ 0→S=gH)∧OwnB w' w.heap.size 5 S.A S.n S.c S.sig
theorem fQ:nQ.wf:=⟨mJ (by decide) (by decide),mJ (by decide) (by decide),mJ (by decide) (by decide),mJ (by decide) (by decide),mJ (by decide) (by decide),mJ (by decide) (by decide)⟩
theorem tM (w:World):gH.ok w:=⟨fQ,SlB.nil w⟩
theorem aBO (A:Option Addr) (n c:Nat) (l:List UInt8) (w:World) (hS:SlB w A n c l) (hn:n < 393):Calls Tryz.prog 208 #[.slice A n c] w (aFo w l):=by
 have hcap:=hS.cap
 have hle:=hS.le
 have HC:=zh (show sdC l=2 from by unfold sdC;rw [hS.len];rw [if_pos hn])
 have HE:=zh ((Ext.refl w).alloc' (.cells sg0 136))
 have HB:=zh (Blk.new w 136 sg0)
 have ht:(w.alloc (.cells sg0 136)).there w.heap.size 0 23:=aK HB.out
 have hst:=aQ (ds:=sgA gH) HB.out rfl
 have i1:((n:Int) < 393):=by omega
 clear hS
 go_enter Tryz.func208,Tryz.ntmps208
 go_wp2_with (first | (with_reducible refine jH rfl (.tmp 2) (.tmp 10) rfl w.heap.size rfl rfl ht ?_))
 exact bodyPost_ret (v:=.tuple #[.agg (sgA gH),.int .i64 2]) (kV rfl _ _ w.heap.size _ _ rfl rfl (run_loadVar_row _ _ _ _ _ (0,0) _ hst Tryz.underlying136 rfl (by kernel_rfl))) rfl ⟨gH,by rw [HC.out],tM _,Below.setCells' HE.out (Nat.le_refl _) _ _,fun h=>by rw [HC.out] at h;exact absurd h (by decide),fun _=>rfl,OwnB.nil _ _ _⟩
theorem aDH (A:Option Addr) (n c:Nat) (l:List UInt8) (w:World) (hS:SlB w A n c l) (hn:393 < n):Calls Tryz.prog 208 #[.slice A n c] w (aFo w l):=by
 have hcap:=hS.cap
 have hle:=hS.le
 have HC:=zh (show sdC l=3 from by unfold sdC;rw [hS.len];rw [if_neg (by omega),if_pos hn])
 have HE:=zh ((Ext.refl w).alloc' (.cells sg0 136))
 have HB:=zh (Blk.new w 136 sg0)
 have ht:(w.alloc (.cells sg0 136)).there w.heap.size 0 23:=aK HB.out
 have hst:=aQ (ds:=sgA gH) HB.out rfl
 have i1:(¬ (n:Int) < 393):=by omega
 have i2:(393:Int) < (n:Int):=by omega
 clear hS
 go_enter Tryz.func208,Tryz.ntmps208
 go_wp2_with (first | (with_reducible refine jH rfl (.tmp 2) (.tmp 15) rfl w.heap.size rfl rfl ht ?_))
 exact bodyPost_ret (v:=.tuple #[.agg (sgA gH),.int .i64 3]) (kV rfl _ _ w.heap.size _ _ rfl rfl (run_loadVar_row _ _ _ _ _ (0,0) _ hst Tryz.underlying136 rfl (by kernel_rfl))) rfl ⟨gH,by rw [HC.out],tM _,Below.setCells' HE.out (Nat.le_refl _) _ _,fun h=>by rw [HC.out] at h;exact absurd h (by decide),fun _=>rfl,OwnB.nil _ _ _⟩
theorem aFC (A:Option Addr) (c:Nat) (l:List UInt8) (w:World) (hS:SlB w A 393 c l):Calls Tryz.prog 208 #[.slice A 393 c] w (aFo w l):=by
 have hl:=hS.len
 have hcap:=hS.cap
 have hle:=hS.le
 obtain ⟨b,o,rfl,hr,hb⟩:=hS.at (by omega)
 have HC:=zh (show sdC l=vdC (l.take 23) from by unfold sdC;rw [hl,if_neg (by omega),if_neg (by omega)])
 have HE:=zh ((Ext.refl w).alloc' (.cells sg0 136))
 have HB:=zh (Blk.new w 136 sg0)
 have HS:=zh hS
 have HL:=zh hl
 have e1:(bcs l).take 23=bcs (l.take 23):=by simp [bcs]
 have e2:(bcs l).drop 23=bcs (l.drop 23):=by simp [bcs]
 have HA:=zh (fun (W:World) (h:Ext w W)=>show SlB W (some ⟨b,o,none⟩) 23 c (l.take 23) from zY (by have:=aO (k:=23) (bE hr (h.block b hb));rwa [e1] at this) (by rw [List.length_take];omega) (by omega) (by omega))
 have HD:=zh (fun (W:World) (h:Ext w W)=>show SlB W (some ⟨b,o+23,none⟩) 370 (c - 23) (l.drop 23) from zY (by have:=bD (k:=23) (bE hr (h.block b hb));rwa [e2] at this) (by rw [List.length_drop];omega) (by omega) (by omega))
 have hck:¬ c=23:=by omega
 clear hS hr hl e1 e2
 go_enter Tryz.func208,Tryz.ntmps208
 go_wp2_with fail
 refine (aBx _ c (l.take 23) _ (HA.out _ HE.out)).mono ?_
 rintro e w1 ⟨rfl,he1⟩
 have HX1:=zh (HE.out.trans he1)
 have HB1:=zh (HB.out.ext he1)
 have HWF:=zh (show (vdV (l.take 23)).wf from by unfold vdV;split;exact aIp _;exact fQ)
 have HV:=zh (show (vdC (l.take 23)=0∧vdV (l.take 23)=eT (l.take 23)∧cI (vdV (l.take 23))=true) ∨ vdC (l.take 23)=11 from by
  unfold vdC vdV
  cases hv:cI (eT (l.take 23)) with
  | true=>exact .inl ⟨rfl,rfl,hv⟩
  | false=>exact .inr rfl)
 obtain ⟨v,hv⟩:∃ v,vdV (l.take 23)=v:=⟨_,rfl⟩
 obtain ⟨z,hz⟩:∃ z,vdC (l.take 23)=z:=⟨_,rfl⟩
 rw [hv,hz] at HV
 rw [hv] at HWF
 rw [hz] at HC
 rw [hv,hz]
 clear hv hz he1
 have HX2:=zh (HX1.out.alloc' (.cells (vtA v) 134))
 have HB2:=zh (HB1.out.alloc (.cells (vtA v) 134))
 have HV2:=zh (Blk.new w1 134 (vtA v))
 have HG:=zh HB1.out.lt
 have hth:(w1.alloc (.cells (vtA v) 134)).there w.heap.size 0 23:=aK HB2.out
 rcases HV.out with ⟨rfl,hd,hvd⟩ | rfl
 ·have HF := zh (And.intro hd hvd)
  clear hd hvd
  go_wp2_with (first | (with_reducible refine pF rfl (.tmp 4) (.tmp 20) rfl _ rfl v rfl rfl ?_))
  generalize w1.alloc (.cells (vtA v) 134)=W2 at HX2 HB2 HV2 hth ⊢
  have HN:=zh (show w1.heap.size ≠ w.heap.size from by have:=HG.out;omega)
  refine wp_region_held_drew (S:=fun W=>W.rangeAt w1.heap.size 0 (vtL v)) (by kernel_rfl) (aC HV2.out.drew) (fun aA=>?_)
  refine zu 0 (v:=.agg (vtA v)) aA ?_ (hy:=by refine tN ?hw (.tmp 4) rfl w1.heap.size 0 ?hx v (fun W h=>h);(case hw=>rfl);(case hx=>rfl))
  refine zzr [1,2] ?_
  refine wpAnyH_ready (rs:=[3]) (by kernel_rfl) (by simp) ?_
  refine AllReadyH.cons (o:=⟨some 29,.call { callee:=.value (.func 220),args:=#[.tmp 28,.const (.int .u64 0),.const (.int .i64 0)],argTypes:=#[45,148,3] },45,"signed.go:62",#[⟨2,.data⟩],none⟩) rfl (fun K hK=>?_) AllReadyH.nil
  refine Eq.mpr (if_pos (by rfl)) ?_
  go_simp
  go_at_call 220
  refine (aMZ _ 370 (c - 23) (l.drop 23) _ (HD.out _ HX2.out.drew') (by omega)).mono ?_
  rintro e w3 ⟨A3,c3,rfl,hO3,he3⟩
  refine hK.out _ _ (aC (HV2.out.drew.ext he3)) (fun aA=>?_)
  clear hK K
  try simp only [aX]
  refine zt 4 aA ?_
  refine wpAnyH_ready (rs:=[5]) (by kernel_rfl) (by simp) ?_
  refine AllReadyH.cons (o:=⟨none,.store 136 (.tmp 2) (.tmp 30),0,"signed.go:62",#[⟨4,.data⟩,⟨3,.chain⟩,⟨0,.phase⟩,⟨1,.phase⟩,⟨2,.phase⟩,⟨3,.phase⟩,⟨4,.phase⟩],none⟩) rfl (fun K hK=>?_) AllReadyH.nil
  refine Eq.mpr (if_pos (by rfl)) ?_
  refine wp_store_mid 136 (.tmp 2) (.tmp 30) rfl w.heap.size 0 (sgA ⟨v,A3,370,c3,l.drop 23⟩) rfl ?hy (show w3.there w.heap.size 0 23 from aK (HB2.out.drew.ext he3)) (by kernel_rfl) (aEN _) ?_
  case hy=>rfl
  refine hK.out _ _ (World.rangeAt_setCells_apart (aC (HV2.out.drew.ext he3)) _ _ _ (.inl HN.out)) (fun aA=>?_)
  clear hK K
  try simp only [aX]
  refine zt 6 aA ?_
  refine wpAnyH_done (by kernel_rfl) ?_ _
  have hst:=aQ (ds:=sgA ⟨v,A3,370,c3,l.drop 23⟩) (HB2.out.drew.ext he3) rfl
  have hx3:Ext w w3:=Ext.trans HX2.out.drew' he3
  have hown:OwnB (w3.setCells w.heap.size 0 (sgA ⟨v,A3,370,c3,l.drop 23⟩).toList) w.heap.size 5 A3 370 c3 (l.drop 23) :=
   World.ownsRow.kept (bB hO3 (Nat.le_of_lt (show w.heap.size < W2.heap.size from HB2.out.lt))) (aD w3 w.heap.size _ 0) (.inr (Ne.symm (aM hO3 (HB2.out.drew.ext he3) (by decide))))
  have hok:(SgR.mk v A3 370 c3 (l.drop 23)).ok (w3.setCells w.heap.size 0 (sgA ⟨v,A3,370,c3,l.drop 23⟩).toList):=⟨HWF.out,hown.sl⟩
  go_wp2_with fail
  exact bodyPost_ret (v:=.tuple #[.agg (sgA ⟨v,A3,370,c3,l.drop 23⟩),.int .i64 0]) (kV rfl _ _ w.heap.size _ _ rfl rfl (run_loadVar_row _ _ _ _ _ (0,0) _ hst Tryz.underlying136 rfl (by kernel_rfl))) rfl ⟨⟨v,A3,370,c3,l.drop 23⟩,by rw [HC.out],hok,Below.setCells' hx3 (Nat.le_refl _) _ _,fun _=>⟨HF.out.1,HF.out.2,rfl,rfl⟩,fun h=>absurd HC.out h,hown⟩
 have ht:=hth
 have hst:=aQ (ds:=sgA gH) HB2.out rfl
 go_wp2_with (first | (with_reducible refine pF rfl (.tmp 4) (.tmp 20) rfl _ rfl v rfl rfl ?_) | (with_reducible refine jH rfl (.tmp 2) (.tmp 24) rfl w.heap.size rfl rfl ht ?_))
 exact bodyPost_ret (v:=.tuple #[.agg (sgA gH),.int .i64 11]) (kV rfl _ _ w.heap.size _ _ rfl rfl (run_loadVar_row _ _ _ _ _ (0,0) _ hst Tryz.underlying136 rfl (by kernel_rfl))) rfl ⟨gH,by rw [HC.out],tM _,Below.setCells' HX2.out (Nat.le_refl _) _ _,fun h=>by rw [HC.out] at h;exact absurd h (by decide),fun _=>rfl,OwnB.nil _ _ _⟩
theorem yM (A:Option Addr) (n c:Nat) (l:List UInt8) (w:World) (hS:SlB w A n c l):Calls Tryz.prog 208 #[.slice A n c] w (aFo w l):=by
 rcases Nat.lt_trichotomy n 393 with h | h | h
 ·exact aBO A n c l w hS h
 ·subst h;exact aFC A c l w hS
 exact aDH A n c l w hS h
end
end Go.Proofs.YtohmmcahpakokaaGreat
