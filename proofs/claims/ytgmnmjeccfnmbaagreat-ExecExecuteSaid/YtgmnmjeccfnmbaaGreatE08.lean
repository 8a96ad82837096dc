import Derived.Lib.Overlaps
import Derived.Lib.AppendZerosOnto
import Derived.Lib.SliceRun
import Derived.Test.YtgmnmjeccfnmbaaGreatE07
set_option maxRecDepth 100000
set_option maxHeartbeats 8000000
set_option linter.unusedVariables false
set_option linter.unusedSimpArgs false
namespace Go.Proofs.YtgmnmjeccfnmbaaGreat
open Go.Proofs.Tryz
section
open Go
section
variable {P:Program} {ops:Array Oper} {Q:Exit→Act→World→Prop} {md:Region.Mode} {S:World→Prop}
def vA (P:Program) (o:Oper) (a:Act) (w:World) (R:Value→World→Prop):Prop :=
 match (execOp a.eval o).run P w with
 | .ok (.value u) w'=>R u w'
 | .ok .skip w'=>R undef w'
 | .ok (.enter f args) w'=>Calls P f args w' fun e w''=>∃ u,e=.returned u∧R u w''
 | .ok (.row row args) w'=>Rows P row args w' fun u w''=>R u w''
 | _=>False
theorem rX {a:Act} {x:Option Tmp} {u v:Value} (hd:∀ d,x=some d→d < a.tmps.size) (h:a.put x u=a.put x v):x ≠ none→v=u:=by
 intro hn
 cases x with
 | none=>exact absurd rfl hn
 | some d =>
  have h1:=congrArg (fun b:Act=>b.tmps[d]?) h
  simp only [Act.put,Array.getElem?_setIfInBounds_self_of_lt (hd d rfl)] at h1
  exact (Option.some.inj h1).symm
theorem uV {o:Oper} {a:Act} {w:World} {R:Value→World→Prop} (hd:∀ d,o.dst=some d→d < a.tmps.size)
  (h:∀ K:Act→World→Prop,Shut (∀ u w',R u w'→K (a.put o.dst u) w')→o.wp P a w K (fun _ _ _=>False)):vA P o a w (fun u w'=>∃ v,(o.dst ≠ none→v=u)∧R v w'):=by
 have:=h (fun a' w'=>∃ u,a'=a.put o.dst u∧R u w') (fun u w' hR=>⟨u,rfl,hR⟩)
 unfold Oper.wp at this
 unfold vA
 generalize (execOp a.eval o).run P w=r at *
 cases r with
 | ok n w' =>
  cases n <;> simp only [Oper.upon] at this ⊢
  case value u=>obtain ⟨v,h1,h2⟩:=this;exact ⟨v,rX hd h1,h2⟩
  case skip=>obtain ⟨v,h1,h2⟩:=this;exact ⟨v,rX hd h1,h2⟩
  case defer d =>
   obtain ⟨v,h1,h2⟩:=this
   have h3:=congrArg Act.defers h1
   rw [nH,nH] at h3
   have:=congrArg List.length h3
   simp at this
  case enter f args =>
   refine Calls.mono this fun e w'' he=>?_
   cases e with
   | returned u=>obtain ⟨v,h1,h2⟩:=he;exact ⟨u,rfl,v,rX hd h1,h2⟩
   | panicked c=>exact he.elim
   | outgrown=>obtain ⟨_,_,hh⟩:=he;exact hh.elim
  case row row args=>exact Rows.mono this fun u w'' he=>by obtain ⟨v,h1,h2⟩:=he;exact ⟨v,rX hd h1,h2⟩
 | halt x w'=>cases x <;> simp only [Oper.upon] at this
theorem uE {o:Oper} {a:Act} {w:World} {R:Value→World→Prop} {K:Act→World→Prop} (h:vA P o a w R) (hK:∀ u w',R u w'→K (a.put o.dst u) w'):o.wp P a w K Q:=by
 unfold vA at h
 unfold Oper.wp
 generalize (execOp a.eval o).run P w=r at *
 cases r with
 | ok n w' =>
  cases n <;> simp only [Oper.upon] at h ⊢
  case value u=>exact hK _ _ h
  case skip=>exact hK _ _ h
  case enter f args =>
   refine Calls.mono h fun e w'' he=>?_
   obtain ⟨u,rfl,hR⟩:=he
   exact hK _ _ hR
  case row row args=>exact Rows.mono h fun u w'' he=>hK _ _ he
 | halt x w'=>cases x <;> simp only at h
theorem aAO {o:Oper} {a b:Act} (hs:∀ cs z,o.op ≠ .select cs z) (h:∀ t ∈ o.looksAt ops,a.tmps.getD t undef=b.tmps.getD t undef) :
  execOp a.eval o=execOp b.eval o∧Region.wanted o (yielded ops a.tmps)=Region.wanted o (yielded ops b.tmps):=by
 refine ⟨execOp_congr o hs fun x hx=>?_,?_⟩
 ·cases x with
  | tmp t=>exact h t (List.mem_append_left _ (List.mem_filterMap.2 ⟨.tmp t,by simpa using hx,rfl⟩))
  | _=>rfl
 unfold Region.wanted
 cases hg:o.guard with
 | none=>rfl
 | some gw =>
  obtain ⟨g,want⟩:=gw
  have hy:yielded ops a.tmps g=yielded ops b.tmps g:=by
   unfold yielded
   cases ht:(ops[g]?).bind (·.dst) with
   | none=>rfl
   | some t =>
    have:=h t (by unfold Oper.looksAt;rw [hg];exact List.mem_append_right _ (by simp [ht]))
    have key:∀ x:Option Value,(match x with | some (.bool z)=>some z | _=>none)=(match x.getD undef with | .bool z=>some z | _=>none):=fun x=>by
     cases x with
     | none=>rfl
     | some v=>cases v <;> rfl
    have h2:a.tmps[t]?.getD undef=b.tmps[t]?.getD undef:=by simpa using this
    refine (key _).trans (Eq.trans ?_ (key _).symm)
    simp only [Option.bind_some,h2]
  simp only [hy]
def aBe (ops:Array Oper) (j:Nat):Option Tmp:=(ops[j]?).bind (·.dst)
def bV (a:Act) (J:List (Nat × Option Tmp)) (env:Nat→Value):Act:=J.foldl (fun a p=>a.put p.2 (env p.1)) a
def fY (l:Array Bool) (J:List (Nat × Option Tmp)):Array Bool:=J.foldl (fun l p=>l.setIfInBounds p.1 true) l
theorem uK (J:List (Nat × Option Tmp)):∀ l:Array Bool,(fY l J).size=l.size:=by
 induction J with
 | nil=>intro l;rfl
 | cons p r ih=>intro l;show (fY (l.setIfInBounds p.1 true) r).size=_;rw [ih];simp
theorem wP (J:List (Nat × Option Tmp)):∀ (l:Array Bool) (i:Nat),i < l.size→(fY l J)[i]?=if (J.any fun p=>p.1 == i)=true then some true else l[i]?:=by
 induction J with
 | nil=>intro l i hi;rfl
 | cons p r ih =>
  intro l i hi
  show (fY (l.setIfInBounds p.1 true) r)[i]?=_
  rw [ih _ _ (by rw [Array.size_setIfInBounds];exact hi),List.any_cons]
  by_cases h:p.1=i
  ·subst h;simp [hi]
  rw [Array.getElem?_setIfInBounds_ne h,beq_false_of_ne h,Bool.false_or]
theorem pV (J:List (Nat × Option Tmp)) (env:Nat→Value):∀ a:Act,(bV a J env).defers=a.defers:=by
 induction J with
 | nil=>intro a;rfl
 | cons p r ih=>intro a;show (bV (a.put p.2 (env p.1)) r env).defers=_;rw [ih,nH]
theorem rW (a:Act) (x:Option Tmp) (v:Value):(a.put x v).tmps.size=a.tmps.size:=by cases x <;> simp [Act.put]
theorem lS (J:List (Nat × Option Tmp)) (env:Nat→Value):∀ a:Act,(bV a J env).tmps.size=a.tmps.size:=by
 induction J with
 | nil=>intro a;rfl
 | cons p r ih=>intro a;show (bV (a.put p.2 (env p.1)) r env).tmps.size=_;rw [ih,rW]
theorem mN (a:Act) (x:Option Tmp) (v:Value) (t:Tmp):(a.put x v).tmps.getD t undef=if x=some t∧t < a.tmps.size then v else a.tmps.getD t undef:=by
 cases x with
 | none=>simp [Act.put]
 | some d =>
  simp only [Act.put,Option.some.injEq]
  by_cases h:d=t
  ·subst h
   by_cases hl:d < a.tmps.size
   ·simp [hl]
   simp [hl]
  simp [h,Array.getElem?_setIfInBounds_ne h]
theorem iL (env:Nat→Value) (t:Tmp):∀ (J:List (Nat × Option Tmp)) (a:Act),(∀ p ∈ J,p.2 ≠ some t)→(bV a J env).tmps.getD t undef=a.tmps.getD t undef
 | [],a,_=>rfl
 | p :: r,a,h=>by
  show (bV (a.put p.2 (env p.1)) r env).tmps.getD t undef=_
  rw [iL env t r _ (fun q hq=>h q (List.mem_cons_of_mem _ hq)),mN,if_neg (fun hh=>h p (List.mem_cons_self ..) hh.1)]
theorem lB (env:Nat→Value) (t:Tmp) (i:Nat):∀ (J:List (Nat × Option Tmp)) (a:Act),t < a.tmps.size→(i,some t) ∈ J→(∀ p ∈ J,p.2=some t→p.1=i)→(bV a J env).tmps.getD t undef=env i
 | [],a,_,h,_=>by cases h
 | p :: r,a,hl,h,hu=>by
  show (bV (a.put p.2 (env p.1)) r env).tmps.getD t undef=_
  by_cases hr:(i,some t) ∈ r
  ·exact lB env t i r _ (by rw [rW];exact hl) hr (fun q hq=>hu q (List.mem_cons_of_mem _ hq))
  have hp:p=(i,some t):=by
   rcases List.mem_cons.1 h with h | h
   ·exact h.symm
   exact absurd h hr
  subst hp
  rw [iL env t r _ (fun q hq e=>hr (by have h1:=hu q (List.mem_cons_of_mem _ hq) e;obtain ⟨q1,q2⟩:=q;simp only at e h1;subst e;subst h1;exact hq)),mN,if_pos ⟨rfl,hl⟩]
def aEx:List (Nat × Option Tmp)→List (List (Nat × Option Tmp))
 | []=>[[]]
 | x :: r=>aEx r ++ (aEx r).map (x :: ·)
theorem lY (f:Nat × Option Tmp→Bool):∀ J,J.filter f ∈ aEx J
 | []=>by simp [aEx]
 | x :: r=>by
  rw [List.filter_cons]
  unfold aEx
  split
  ·exact List.mem_append_right _ (List.mem_map.2 ⟨_,lY f r,rfl⟩)
  exact List.mem_append_left _ (lY f r)
def depB (md:Region.Mode) (ops:Array Oper) (p q:Nat):Bool:=match ops[p]? with
 | some o=>o.after.toList.any fun e=>Region.binds md e && e.on == q
 | none=>false
def iF (md:Region.Mode) (ops:Array Oper) (listed:Array Bool) (n:Nat) (J:List (Nat × Option Tmp)):Bool :=
 decide (J.map (·.1)).Nodup && (
 J.all (fun p=>decide (p.1 < listed.size) && (listed.getD p.1 true == false) && (aBe ops p.1 == p.2) && (match p.2 with | some d=>decide (d < n) | none=>true)) &&
 J.all (fun p=>J.all fun q=>p.1 == q.1 || p.2 == none || !(p.2 == q.2)) &&
 ((aEx J).all fun D=>D.length == J.length || !(D.all fun p=>J.all fun q=>!(depB md ops p.1 q.1) || D.contains q) || (!(Region.ready md ops (fY listed D)).isEmpty && (Region.ready md ops (fY listed D)).all fun i=>J.any fun p=>p.1 == i)))
def lV (md:Region.Mode) (ops:Array Oper) (J D:List (Nat × Option Tmp)) (o:Oper):Bool :=
 (o.looksAt ops).all (fun t=>J.all fun p=>!(p.2 == some t) || (D.contains p && o.after.toList.any fun e=>Region.binds md e && e.on == p.1)) &&
 D.all (fun p=>J.contains p && (o.looksAt ops).any (fun t=>p.2 == some t))
def Member (P:Program) (md:Region.Mode) (ops:Array Oper) (S:World→Prop) (V:Nat→Value→World→Prop) (J:List (Nat × Option Tmp)) (a0:Act) (w0:World) (j:Nat):Prop :=
 ∃ (o:Oper) (D:List (Nat × Option Tmp)),ops[j]?=some o∧lV md ops J D o=true ∧
  ∀ env w,Ext w0 w→S w→(∀ p ∈ D,V p.1 (env p.1) w) →
   (Region.wanted o (yielded ops (bV a0 D env).tmps)=true→∀ K:Act→World→Prop,Shut (∀ u w',Ext w w'→V j u w'→K ((bV a0 D env).put o.dst u) w')→o.wp P (bV a0 D env) w K (fun _ _ _=>False)) ∧
   (Region.wanted o (yielded ops (bV a0 D env).tmps)=false→V j undef w)
structure JI (md:Region.Mode) (ops:Array Oper) (S:World→Prop) (V:Nat→Value→World→Prop) (J:List (Nat × Option Tmp)) (a0:Act) (l0:Array Bool) (w0:World) (env:Nat→Value) (l:Array Bool) (a:Act) (w:World):Prop where
 ext:Ext w0 w
 s:S w
 lsz:l.size=l0.size
 lout:∀ i,(∀ p ∈ J,p.1 ≠ i)→l[i]?=l0[i]?
 dfr:a.defers=a0.defers
 tsz:a.tmps.size=a0.tmps.size
 val:∀ p ∈ J,l.getD p.1 true=true→V p.1 (env p.1) w
 hit:∀ p ∈ J,l.getD p.1 true=true→∀ t,p.2=some t→a.tmps.getD t undef=env p.1
 miss:∀ t,(∀ p ∈ J,l.getD p.1 true=true→p.2 ≠ some t)→a.tmps.getD t undef=a0.tmps.getD t undef
 cl:∀ p ∈ J,l.getD p.1 true=true→∀ q ∈ J,depB md ops p.1 q.1=true→l.getD q.1 true=true
theorem aCk {a b:Act} (hd:a.defers=b.defers) (hz:a.tmps.size=b.tmps.size) (h:∀ t,a.tmps.getD t undef=b.tmps.getD t undef):a=b:=by
 exact xq
section
variable {V:Nat→Value→World→Prop} {J:List (Nat × Option Tmp)} {a0:Act} {l0:Array Bool} {w0:World}
theorem aAJ {n:Nat} (h:iF md ops l0 n J=true):(J.map (·.1)).Nodup:=by
 unfold iF at h
 rw [Bool.and_eq_true,decide_eq_true_eq] at h
 exact h.1
theorem eR {n:Nat} (h:iF md ops l0 n J=true) :
  (∀ p ∈ J,p.1 < l0.size∧l0.getD p.1 true=false∧aBe ops p.1=p.2∧∀ d,p.2=some d→d < n) ∧
  (∀ p ∈ J,∀ q ∈ J,p.1 ≠ q.1→∀ t,p.2=some t→q.2 ≠ some t) ∧
  (∀ D ∈ aEx J,D.length ≠ J.length→(∀ p ∈ D,∀ q ∈ J,depB md ops p.1 q.1=true→q ∈ D)→Region.ready md ops (fY l0 D) ≠ []∧∀ i ∈ Region.ready md ops (fY l0 D),∃ p ∈ J,p.1=i):=by
 unfold iF at h
 rw [Bool.and_eq_true] at h
 replace h:=h.2
 simp only [Bool.and_eq_true,List.all_eq_true,decide_eq_true_eq,beq_iff_eq,Bool.or_eq_true,Bool.not_eq_true',List.any_eq_true] at h
 obtain ⟨⟨h1,h2⟩,h3⟩:=h
 refine ⟨fun p hp=>?_,fun p hp q hq hne t ht e=>?_,fun D hD hne hcl=>?_⟩
 ·obtain ⟨⟨⟨a1, a2⟩, a3⟩, a4⟩ := h1 p hp
  refine ⟨a1,a2,a3,fun d hd=>?_⟩
  rw [hd] at a4;simpa using a4
 ·rcases h2 p hp q hq with (h | h) | h
  ·exact hne h
  ·rw [ht] at h;cases h
  rw [ht,e] at h;simp at h
 rcases h3 D hD with (h | h) | ⟨h,h'⟩
 ·exact absurd h hne
 ·have:(D.all fun p=>J.all fun q=>!(depB md ops p.1 q.1) || D.contains q)=true:=by
   rw [List.all_eq_true]
   intro p hp
   rw [List.all_eq_true]
   intro q hq
   cases hd:depB md ops p.1 q.1 with
   | false=>rfl
   | true=>simpa using hcl p hp q hq hd
  rw [this] at h;cases h
 exact ⟨fun e=>by rw [e] at h;simp at h,h'⟩
theorem JI.eqL {env:Nat→Value} {l:Array Bool} {a:Act} {w:World} {n:Nat} (hB:iF md ops l0 n J=true) (h:JI md ops S V J a0 l0 w0 env l a w) :
  l=fY l0 (J.filter fun p=>l.getD p.1 true):=by
 exact uf
theorem JI.full {env:Nat→Value} {l:Array Bool} {a:Act} {w:World} (hB:iF md ops l0 a0.tmps.size J=true) (h:JI md ops S V J a0 l0 w0 env l a w) (hf:∀ p ∈ J,l.getD p.1 true=true) :
  l=fY l0 J∧a=bV a0 J env:=by
 exact ux
theorem uS {D:List (Nat × Option Tmp)} {o:Oper} (h:lV md ops J D o=true) :
  (∀ t ∈ o.looksAt ops,∀ p ∈ J,p.2=some t→p ∈ D∧∃ e ∈ o.after,Region.binds md e=true∧e.on=p.1)∧(∀ p ∈ D,p ∈ J∧∃ t ∈ o.looksAt ops,p.2=some t):=by
 unfold lV at h
 simp only [Bool.and_eq_true,List.all_eq_true,Bool.or_eq_true,Bool.not_eq_true',beq_iff_eq,List.contains_iff_mem,List.any_eq_true,Array.mem_toList_iff] at h
 obtain ⟨h1,h2⟩:=h
 refine ⟨fun t ht p hp e=>?_,fun p hp=>h2 p hp⟩
 rcases h1 t ht p hp with h | h
 ·rw [e] at h;simp at h
 exact h
theorem JI.comes {env:Nat→Value} {l:Array Bool} {a:Act} {w:World} (hs:Region.noSelect ops=true) (hB:iF md ops l0 a0.tmps.size J=true) (hM:∀ p ∈ J,Member P md ops S V J a0 w0 p.1)
  (h:JI md ops S V J a0 l0 w0 env l a w) {p:Nat × Option Tmp} (hp:p ∈ J) (hr:p.1 ∈ Region.ready md ops l) :
  ∃ o,ops[p.1]?=some o∧o.dst=p.2∧(Region.wanted o (yielded ops a.tmps)=true→vA P o a w fun u w'=>∃ v,(o.dst ≠ none→v=u)∧Ext w w'∧V p.1 v w')∧(Region.wanted o (yielded ops a.tmps)=false→V p.1 undef w):=by
 obtain ⟨b1,b2,b3⟩:=eR hB
 obtain ⟨o,D,ho,hm,hstep⟩:=hM p hp
 obtain ⟨m1,m2⟩:=uS hm
 obtain ⟨hun,o',ho',hall⟩:=mem_ready.1 hr
 rw [ho] at ho';cases ho'
 have hds:o.dst=p.2:=mh
 have hdone:∀ q ∈ D,l.getD q.1 true=true:=fun q hq=>by
  exact Ax
 have hag:∀ t ∈ o.looksAt ops,a.tmps.getD t undef=(bV a0 D env).tmps.getD t undef:=fun t ht=>by
  exact vm
 obtain ⟨e1,e2⟩:=aAO (ops:=ops) (fun cs z=>Region.noSelect_spec hs p.1 o cs z ho) hag
 obtain ⟨s1,s2⟩:=hstep env w h.ext h.s (fun q hq=>h.val q (m2 q hq).1 (hdone q hq))
 refine ⟨o,ho,hds,fun hw=>?_,fun hw=>s2 mw⟩
 have:=uV (R:=fun u w'=>Ext w w'∧V p.1 u w') l5 (fun K hK=>s1 mw K (fun u w' h1 h2=>hK.out u w' ⟨h1,h2⟩))
 unfold vA at this ⊢
 rw [e1];exact this
theorem tU (f:Nat→Bool) (i:Nat):∀ J:List (Nat × Option Tmp),(J.map (·.1)).Nodup→(∃ p ∈ J,p.1=i)→f i=false→(J.filter fun q=>!(if q.1=i then true else f q.1)).length+1=(J.filter fun q=>!f q.1).length
 | [],_,h,_=>by obtain ⟨p,hp,_⟩:=h;cases hp
 | p :: r,hd,h,hf=>by
  rw [List.map_cons,List.nodup_cons] at hd
  by_cases e:p.1=i
  ·have hr : (r.filter fun q => !(if q.1 = i then true else f q.1)) = r.filter fun q => !f q.1 := List.filter_congr (fun q hq => by rw [if_neg (fun e2 => hd.1 (by rw [e, ← e2]; exact List.mem_map.2 ⟨q, hq, rfl⟩))])
   rw [List.filter_cons,List.filter_cons,if_neg (by simp [e]),if_pos (by rw [e,hf];rfl),hr,List.length_cons]
  have ih:=tU f i r hd.2 (by
   obtain ⟨q,hq,e2⟩:=h
   rcases List.mem_cons.1 hq with rfl | hq
   ·exact absurd e2 e
   exact ⟨q,hq,e2⟩) hf
  rw [List.filter_cons,List.filter_cons,if_neg e]
  split <;> (try simp only [List.length_cons]) <;> omega
theorem mD (hs:Region.noSelect ops=true) (hB:iF md ops l0 a0.tmps.size J=true)
  (hSE:∀ w w',S w→Ext w w'→S w') (hVE:∀ j v w w',V j v w→Ext w w'→V j v w') (hM:∀ p ∈ J,Member P md ops S V J a0 w0 p.1) {fuel:Nat}
  (hE:∀ env w,Ext w0 w→S w→(∀ p ∈ J,V p.1 (env p.1) w)→wpAnyH P md ops Q S fuel (fY l0 J) (bV a0 J env) w) :
  ∀ (m:Nat) (env:Nat→Value) (l:Array Bool) (a:Act) (w:World),JI md ops S V J a0 l0 w0 env l a w→(J.filter fun p=>!l.getD p.1 true).length=m→wpAnyH P md ops Q S (fuel+m) l a w:=by
 obtain ⟨b1,b2,b3⟩:=eR hB
 intro m
 induction m with
 | zero =>
  exact Ay
 | succ m ih =>
  intro env l a w h hm
  have hlen:(J.filter fun p=>l.getD p.1 true).length ≠ J.length:=fun e=>by
   exact Bv
  obtain ⟨r1,r2⟩:=b3 _ (lY (fun p=>l.getD p.1 true) J) hlen (fun p hp q hq hd=>List.mem_filter.2 ⟨hq,h.cl p (List.mem_filter.1 hp).1 (List.mem_filter.1 hp).2 q hq hd⟩)
  rw [← h.eqL hB] at r1 r2
  refine ⟨fun e=>absurd e r1,fun i hi=>?_⟩
  obtain ⟨p,hp,rfl⟩:=r2 i hi
  obtain ⟨o,ho,hds,c1,c2⟩:=h.comes hs hB hM hp hi
  have hun:=(mem_ready.1 hi).1
  have hpl:p.1 < l.size:=by rw [h.lsz];exact (b1 p hp).1
  have key:∀ v u w',(o.dst ≠ none→v=u)→Ext w w'→V p.1 v w'→S w'∧wpAnyH P md ops Q S (fuel+m) (l.setIfInBounds p.1 true) (a.put o.dst u) w':=by
   exact tn
  unfold wpOp
  rw [ho]
  simp only
  split
  ·rename_i hw
   exact .inl (uE (c1 hw) (fun u w' hR=>oo))
  rename_i hw
  exact key undef undef w (fun _=>rfl) (Ext.refl w) (c2 (by simpa using hw))
def VV (j0:Nat) (A:Value→World→Prop) (R:Nat→Value→World→Prop):Nat→Value→World→Prop:=fun j v w=>if j=j0 then A v w else R j v w
def VN:Nat→Value→World→Prop:=fun _ _ _=>True
theorem VN.ext:∀ j v w w',VN j v w→Ext w w'→VN j v w':=fun _ _ _ _ _ _=>trivial
theorem VV.ext {j0:Nat} {A:Value→World→Prop} {R:Nat→Value→World→Prop} (hA:∀ v w w',A v w→Ext w w'→A v w') (hR:∀ j v w w',R j v w→Ext w w'→R j v w'):∀ j v w w',VV j0 A R j v w→Ext w w'→VV j0 A R j v w':=fun j v w w' h e=>by
 unfold VV at *
 split at h
 ·rename_i hj;rw [if_pos hj];exact hA _ _ _ h e
 rename_i hj;rw [if_neg hj];exact hR _ _ _ _ h e
theorem Member.mk' {j:Nat} (o:Oper) (D:List (Nat × Option Tmp)) (ho:ops[j]?=some o) (hg:o.guard=none) (hm:lV md ops J D o=true)
  (h:∀ env w,Ext w0 w→S w→(∀ p ∈ D,V p.1 (env p.1) w)→∀ K:Act→World→Prop,Shut (∀ u w',Ext w w'→V j u w'→K ((bV a0 D env).put o.dst u) w')→o.wp P (bV a0 D env) w K (fun _ _ _=>False)):Member P md ops S V J a0 w0 j :=
 ⟨o,D,ho,hm,fun env w h1 h2 h3=>⟨fun _ K hK=>h env w h1 h2 h3 K hK,fun hw=>by simp [Region.wanted,hg] at hw⟩⟩
theorem Members.nil (F:Nat→Prop):∀ p ∈ ([]:List (Nat × Option Tmp)),F p.1:=fun p hp=>by cases hp
theorem Members.cons {F:Nat→Prop} {p:Nat × Option Tmp} {r:List (Nat × Option Tmp)} (h:F p.1) (hr:∀ q ∈ r,F q.1):∀ q ∈ p :: r,F q.1:=fun q hq=>by
 rcases List.mem_cons.1 hq with rfl | hq
 ·exact h
 exact hr q hq
theorem cC (V:Nat→Value→World→Prop) (J:List (Nat × Option Tmp)) (hs:Region.noSelect ops=true) (hB:iF md ops l0 a0.tmps.size J=true)
  (hSE:∀ w w',S w→Ext w w'→S w') (hVE:∀ j v w w',V j v w→Ext w w'→V j v w') (h0:S w0) (hM:∀ p ∈ J,Member P md ops S V J a0 w0 p.1) {fuel m:Nat} (hm:m=fuel+J.length)
  (hE:∀ env w,Ext w0 w→S w→(∀ p ∈ J,V p.1 (env p.1) w)→wpAnyH P md ops Q S fuel (fY l0 J) (bV a0 J env) w):wpAnyH P md ops Q S m l0 a0 w0:=by
 obtain ⟨b1,b2,b3⟩:=eR hB
 subst hm
 refine mD hs hB hSE hVE hM hE J.length (fun _=>undef) l0 a0 w0 ⟨Ext.refl _,h0,rfl,fun _ _=>rfl,rfl,rfl,fun p hp h=>?_,fun p hp h=>?_,fun _ _=>rfl,fun p hp h=>?_⟩ ?_
 ·rw [(b1 p hp).2.1] at h;cases h
 ·rw [(b1 p hp).2.1] at h;cases h
 ·rw [(b1 p hp).2.1] at h;cases h
 congr 1
 exact List.filter_eq_self.2 (fun p hp=>by rw [(b1 p hp).2.1];rfl)
end
end
theorem zm {P:Program} {md:Region.Mode} {ops:Array Oper} {S:World→Prop} {V:Nat→Value→World→Prop} {J:List (Nat × Option Tmp)} {a0:Act} {w0:World} {j:Nat} {o:Oper} (D:List (Nat × Option Tmp))
    (h:∀ env w,Ext w0 w→S w→(∀ p ∈ D,V p.1 (env p.1) w)→∀ K:Act→World→Prop,Shut (∀ u w',Ext w w'→V j u w'→K ((bV a0 D env).put o.dst u) w')→o.wp P (bV a0 D env) w K (fun _ _ _=>False))
    (ho:ops[j]?=some o:=by (simp only [List.getElem?_toArray,List.getElem?_cons_succ,List.getElem?_cons_zero];rfl)) (hg:o.guard=none:=by rfl) (hm:lV md ops J D o=true:=by kernel_rfl):Member P md ops S V J a0 w0 j:=Member.mk' o D ho hg hm h
theorem aR:(∀ (a:Act) (J:List (Nat × Option Tmp)) (env:Nat→Value),bV a J env=J.foldl (fun a p=>a.put p.2 (env p.1)) a)∧(∀ (f:Act→(Nat × Option Tmp)→Act) (a:Act),List.foldl f a []=a)∧(∀ (f:Act→(Nat × Option Tmp)→Act) (a:Act) (x:Nat × Option Tmp) (l:List (Nat × Option Tmp)),List.foldl f a (x :: l)=List.foldl f (f a x) l)∧(∀ (a:Act) (v:Value),a.put none v=a)∧(∀ (a:Act) (d:Tmp) (v:Value),a.put (some d) v={ a with tmps:=a.tmps.setIfInBounds d v })∧(∀ (l:List Value) (i:Nat) (x:Value),l.toArray.setIfInBounds i x=(l.set i x).toArray)∧(∀ (x:Value) (l:List Value) (y:Value),(x :: l).set 0 y=y :: l)∧(∀ (x:Value) (l:List Value) (n:Nat) (y:Value),(x :: l).set (n+1) y=x :: l.set n y) :=
  ⟨fun _ _ _=>rfl,fun _ _=>rfl,fun _ _ _ _=>rfl,fun _ _=>rfl,fun _ _ _=>rfl,fun _ _ _=>by simp,fun _ _ _=>rfl,fun _ _ _ _=>rfl⟩
theorem zzp {P:Program} {md:Region.Mode} {ops:Array Oper} {S:World→Prop} {V:Nat→Value→World→Prop} {J:List (Nat × Option Tmp)} {a0:Act} {w0:World} {j:Nat} {o:Oper}
    (h:∀ w,Ext w0 w→S w→∀ K:Act→World→Prop,Shut (∀ u w',Ext w w'→V j u w'→K (a0.put o.dst u) w')→o.wp P a0 w K (fun _ _ _=>False))
    (ho:ops[j]?=some o:=by (simp only [List.getElem?_toArray,List.getElem?_cons_succ,List.getElem?_cons_zero];rfl)) (hg:o.guard=none:=by rfl) (hm:lV md ops J [] o=true:=by kernel_rfl):Member P md ops S V J a0 w0 j:=zm [] (fun _ w h1 h2 _ K hK=>h w h1 h2 K hK) ho hg hm
abbrev VE (j0:Nat) (X:Value) (R:Nat→Value→World→Prop):Nat→Value→World→Prop:=VV j0 (fun v _=>v=X) R
theorem ve {j0:Nat} {X:Value} {R:Nat→Value→World→Prop} (hR:∀ j v w w',R j v w→Ext w w'→R j v w'):∀ j v w w',VE j0 X R j v w→Ext w w'→VE j0 X R j v w':=VV.ext (fun _ _ _ h _=>h) hR
theorem zzV {p q:Prop} (h:p) (t:p→q:=by (intro h9;simp +decide only [List.forall_mem_cons,VE,VV,if_true,if_false] at h9;exact h9)):q:=t h
theorem zzc {F:Nat→Prop} {p:Nat × Option Tmp} {r:List (Nat × Option Tmp)} (h:F p.1) (hr:∀ q ∈ r,F q.1):∀ q ∈ p :: r,F q.1:=Members.cons h hr
theorem zzn {F:Nat→Prop}:∀ p ∈ ([]:List (Nat × Option Tmp)),F p.1:=Members.nil F
theorem zzF {w:World} {R:Value→World→Prop} {G:Value→World→Prop} {q:Prop} (hK:Shut (∀ u w',Ext w w'→R u w'→G u w')) (v:Value) (h:R v w:=by exact rfl) (t:G v w→q:=by (intro h9;(try simp only [aR] at h9);exact h9)):q:=t (hK.out v w (Ext.refl _) h)
theorem zzK {p q:Prop} (h:p) (t:p→q:=by (intro h9;(try simp only [aR] at h9);exact h9)):q:=t h
theorem zzj {P:Program} {md:Region.Mode} {ops:Array Oper} {Q:Exit→Act→World→Prop} {S:World→Prop} {l0:Array Bool} {a0:Act} {w0:World} (V:Nat→Value→World→Prop) (J:List (Nat × Option Tmp)) (fuel:Nat)
    (hSE:∀ w w',S w→Ext w w'→S w') (hVE:∀ j v w w',V j v w→Ext w w'→V j v w') (hM:∀ p ∈ J,Member P md ops S V J a0 w0 p.1)
    (hE:∀ env w,Ext w0 w→S w→(∀ p ∈ J,V p.1 (env p.1) w)→wpAnyH P md ops Q S fuel (fY l0 J) (bV a0 J env) w) {m:Nat} (hs:Region.noSelect ops=true:=by kernel_rfl) (hB:iF md ops l0 a0.tmps.size J=true:=by kernel_rfl) (h0:S w0:=by exact aA) (hm:m=fuel+J.length:=by rfl):wpAnyH P md ops Q S m l0 a0 w0 :=
  cC V J hs hB hSE hVE h0 hM hm hE
end
section
open Go.RowKit
attribute [local go_sem ↓] Go.wp_at_zero Go.wp_at_succ
def mE:VtR:=⟨0,0,0,0,0,0,0,0⟩
abbrev vtZ (k sl ro ch si su:Int):Array Value:=#[.int .i64 k,.int .i64 sl,.int .i64 ro,.int .i64 ch,.int .i64 si,.int .i64 su,.int .u8 0,.int .u8 0,.int .u8 0,.int .u8 0,.int .u8 0,.int .u8 0,.int .u8 0,.int .u8 0,.int .u8 0,.int .u8 0,.int .u8 0,.int .u8 0,.int .u8 0,.int .u8 0,.int .u8 0,.int .u8 0]
theorem aAU (k sl ro ch si su:Int):vtZ k sl ro ch si su=vtA ⟨k,sl,ro,ch,si,su,0,0⟩:=by
 unfold vtA;simp only [bJ 0 aa,bJ 1 aa,bJ 2 aa,bJ 3 aa,bJ 4 aa,bJ 5 aa,bJ 6 aa,bJ 7 aa]
theorem aFH (k sl ro ch si su:Int):(vtZ k sl ro ch si su).all (·.oneCell')=true:=by rw [aAU];exact aAV _
theorem wG (k sl ro ch si su:Int) (n:UInt64):splice (vtA ⟨k,sl,ro,ch,si,su,0,0⟩).toList 6 (bcs (nmb n))=(vtA ⟨k,sl,ro,ch,si,su,n,0⟩).toList:=by
 have e:bcs (nmb n)=(nmc n).toList:=by unfold nmc;rfl
 rw [e,← gI n];rfl
theorem uH (k sl ro ch si su:Int) (p n:UInt64):splice (vtA ⟨k,sl,ro,ch,si,su,p,0⟩).toList 14 (bcs (nmb n))=(vtA ⟨k,sl,ro,ch,si,su,p,n⟩).toList:=by
 have e:bcs (nmb n)=(nmc n).toList:=by unfold nmc;rfl
 rw [e,← gI n];rfl
section
variable {o:Oper} {a:Act} {w:World} {ops:Array Oper} {rest:List Oper} {Q:Exit→Act→World→Prop}
theorem kU (hgd:o.guard=none) (x y:Operand) (ho:o.op=.store 124 x y) (g:Nat) (S:VtR) (hx:a.eval x=.pointer (some ⟨g,0,none⟩)) (hy:a.eval y=.agg (vtA S)) (ht:w.there g 0 22)
  (h:wpList prog ops Q rest (a.put o.dst undef) (w.setCells g 0 (vtA S).toList)):wpList prog ops Q (o :: rest) a w :=
 wpList_store_mid hgd 124 x y ho g 0 (vtA S) hx hy ht (by kernel_rfl) (aAV S) h
theorem oC (hgd:o.guard=none) (x y:Operand) (ho:o.op=.store 124 x y) (g:Nat) (hx:a.eval x=.pointer (some ⟨g,0,none⟩)) (hy:a.eval y=.agg (vtZ 0 0 0 0 0 0)) (ht:w.there g 0 22)
  (h:wpList prog ops Q rest (a.put o.dst undef) (w.setCells g 0 (vtA mE).toList)):wpList prog ops Q (o :: rest) a w:=by
 refine kU hgd x y ho g mE hx (by rw [hy,aAU];rfl) ht h
end
theorem qZ {w:World} {b o:Nat} {l:List UInt8} (h:w.rangeAt b o (bcs l)) {i:Nat} (hi:i < l.length):w.cell? ⟨b,o+i,none⟩=some (.int .u8 ((byt l i).toNat:Int)):=by
 refine h i _ ?_
 unfold bcs byt
 rw [List.getElem?_map,List.getD_eq_getElem?_getD,List.getElem?_eq_getElem hi]
 rfl
abbrev b5 (W:World) (b o:Nat) (l:List UInt8):Prop:=W.cell? ⟨b,o,none⟩=some (.int .u8 ((byt l 0).toNat:Int))∧W.cell? ⟨b,o+1,none⟩=some (.int .u8 ((byt l 1).toNat:Int))∧W.cell? ⟨b,o+2,none⟩=some (.int .u8 ((byt l 2).toNat:Int))∧W.cell? ⟨b,o+3,none⟩=some (.int .u8 ((byt l 3).toNat:Int))∧W.cell? ⟨b,o+4,none⟩=some (.int .u8 ((byt l 4).toNat:Int))
theorem aLG {w:World} {b o:Nat} {l:List UInt8} (h:w.rangeAt b o (bcs l)) (hl:l.length=23):b5 w b o l:=⟨qZ h (i:=0) (by omega),qZ h (i:=1) (by omega),qZ h (i:=2) (by omega),qZ h (i:=3) (by omega),qZ h (i:=4) (by omega)⟩
def vdV (l:List UInt8):VtR:=if eS (cZ l)=true then cZ l else mE
def vdC (l:List UInt8):Int:=if eS (cZ l)=true then 0 else 11
theorem aCp (A:Option Addr) (c:Nat) (l:List UInt8) (w:World) (hS:SlB w A 23 c l):Calls prog 225 #[.slice A 23 c] w fun e w'=>e=.returned (.tuple #[.agg (vtA (vdV l)),.int .i64 (vdC l)])∧Ext w w':=by
 have hl:=hS.len
 have hcap:=hS.cap
 have hle:=hS.le
 obtain ⟨b,o,rfl,hr,hb⟩:=hS.at aa
 have HE:=zh ((Ext.refl w).alloc' (.cells (vtZ 0 0 0 0 0 0) 124))
 have HB:=zh (Blk.new w 124 (vtZ 0 0 0 0 0 0))
 have HS:=zh (hS.ext HE.out)
 have HR:=zh (fun (W:World) (h:Ext w W)=>aY hr (h.block b hb))
 have HU:=zh (fun (W:World) (h:SlB W (some ⟨b,o,none⟩) 23 c l)=>aCA _ 23 c l 5 2 W h aa aa aa)
 have HL:=zh hl
 have hwr:IntKind.i64.wrap ((aZ l 5 2:Nat):Int)=((aZ l 5 2:Nat):Int):=by
  have h1:=kF ((l.drop 5).take 2)
  have h2:((l.drop 5).take 2).length≤2:=List.length_take_le _ _
  have h3:256 ^ ((l.drop 5).take 2).length≤256 ^ 2:=Nat.pow_le_pow_right aa h2
  have h4:aZ l 5 2=bT ((l.drop 5).take 2):=rfl
  rw [IntKind.wrap_i64];omega
 have hck:¬ c=7:=aa
 have hck2:¬ c=15:=aa
 clear hS hr hl
 go_enter func225,ntmps225
 go_wp2_with fail
 refine (HU.out _ HS.out).mono ?_
 rintro e w1 ⟨rfl,rfl⟩
 obtain ⟨W1,hW1⟩:=gx (w.alloc (.cells (vtZ 0 0 0 0 0 0) 124))
 rw [hW1] at HE HB HS
 have HSS:=zh (fun (W:World) (h:Ext W1 W)=>aLG (HR.out W (HE.out.trans h)) HL.out)
 have i0:(0:Int) < 23:=aa
 go_wp2_with fail
 refine wp_region_held_drew (S:=fun W=>Ext W1 W) ab ((Ext.refl W1).drew') (fun aA=>?_)
 refine zz0 [0,1,2,3,4,5,6,7,8,9,10,11,12,13,14,15,16,17,18,19,20,21,22] ?_;repeat first | refine zz1 ?_ (hy:=by intro W aP;obtain ⟨s0,s1,s2,s3,s4⟩:=HSS.out W aP;go_simp <;> with_reducible rfl) | refine zz2 ?_ | refine zz9 ?_
 refine za 23 (fun K hK=>?_)
 refine Eq.mpr (if_pos dp) ?_
 go_simp
 refine hK.out _ _ kr (fun aA=>?_)
 clear hK K
 try simp only [bB]
 refine za 24 (fun K hK=>?_)
 refine Eq.mpr (if_pos dp) ?_
 refine wp_store_mid 124 (.tmp 6) (.tmp 44) rfl W1.heap.size 0 (vtZ ((byt l 0).toNat:Int) ((byt l 1).toNat:Int) ((byt l 2).toNat:Int) ((byt l 3).toNat:Int) ((byt l 4).toNat:Int) ((aZ l 5 2:Nat):Int)) rfl ?hy (show ((W1.alloc (.cells (vtZ 0 0 0 0 0 0) 124)).drew).there W1.heap.size 0 22 from aI (Blk.drew (Blk.new W1 124 (vtZ 0 0 0 0 0 0)))) ab (aFH _ _ _ _ _ _) ?_
 case hy=>rfl
 refine hK.out _ _ (Below.setCells' (((Ext.refl W1).alloc' (.cells (vtZ 0 0 0 0 0 0) 124)).drew') (Nat.le_refl _) _ _) (fun aA=>?_)
 clear hK K
 try simp only [bB]
 refine wpd ?_
 have HE2:=zh (show Ext W1 (((W1.alloc (.cells (vtZ 0 0 0 0 0 0) 124)).drew).setCells W1.heap.size 0 (vtZ ((byt l 0).toNat:Int) ((byt l 1).toNat:Int) ((byt l 2).toNat:Int) ((byt l 3).toNat:Int) ((byt l 4).toNat:Int) ((aZ l 5 2:Nat):Int)).toList) from Below.setCells' (((Ext.refl W1).alloc' (.cells (vtZ 0 0 0 0 0 0) 124)).drew') (Nat.le_refl _) _ _)
 have HB2:=zh (show Blk (((W1.alloc (.cells (vtZ 0 0 0 0 0 0) 124)).drew).setCells W1.heap.size 0 (vtZ ((byt l 0).toNat:Int) ((byt l 1).toNat:Int) ((byt l 2).toNat:Int) ((byt l 3).toNat:Int) ((byt l 4).toNat:Int) ((aZ l 5 2:Nat):Int)).toList) W1.heap.size 124 (vtZ ((byt l 0).toNat:Int) ((byt l 1).toNat:Int) ((byt l 2).toNat:Int) ((byt l 3).toNat:Int) ((byt l 4).toNat:Int) ((aZ l 5 2:Nat):Int)) from aN (Blk.drew (Blk.new W1 124 (vtZ 0 0 0 0 0 0))) rfl)
 generalize (((W1.alloc (.cells (vtZ 0 0 0 0 0 0) 124)).drew).setCells W1.heap.size 0 (vtZ ((byt l 0).toNat:Int) ((byt l 1).toNat:Int) ((byt l 2).toNat:Int) ((byt l 3).toNat:Int) ((byt l 4).toNat:Int) ((aZ l 5 2:Nat):Int)).toList)=W2 at HE2 HB2 ⊢
 rw [aAU] at HB2
 have HSRC:=zh (fun (W:World) (hW:Below W1.heap.size W1 W) (k m:Nat)=>show ∀ j v,(bcs ((l.drop k).take m))[j]?=some v→W.cell? ((⟨b,o+k,none⟩:Addr).add j)=some v from by
  exact BE)
 obtain ⟨n1,hn1⟩:=gx (qN ((l.drop 7).take 8))
 obtain ⟨n2,hn2⟩:=gx (qN ((l.drop 15).take 8))
 have N1:=zh (show bcs ((l.drop 7).take 8)=bcs (nmb n1) by rw [← hn1,lG _ et])
 have N2:=zh (show bcs ((l.drop 15).take 8)=bcs (nmb n2) by rw [← hn2,lG _ et])
 have HD:=zh (show cZ l=⟨((byt l 0).toNat:Int),((byt l 1).toNat:Int),((byt l 2).toNat:Int),((byt l 3).toNat:Int),((byt l 4).toNat:Int),((aZ l 5 2:Nat):Int),n1,n2⟩ by unfold cZ;rw [hn1,hn2])
 clear hn1 hn2 HSS
 have HL8:=zh (fun (n:UInt64)=>show (bcs (nmb n)).length=8 by rw [aT,aK])
 go_wp2_with fail
 have HZ:=zh (show Below W1.heap.size W1 W2.drew from HE2.out.drew')
 refine wp_region_held_drew (S:=fun W=>Below W1.heap.size W1 W) ab (HE2.out.drew') (fun aA=>?_)
 refine zzr [0,1,2,3] ?_
 refine za 4 (fun K hK=>?_)
 refine step_copy_splice rfl (.tmp 46) (.tmp 48) 34 34 rfl 5 underlying34 ab (some ⟨W1.heap.size,6,none⟩) (some ⟨b,o+7,none⟩) 8 8 16 (c - 7) rfl rfl W1.heap.size 6 _ 124 HB2.out.drew (bcs (nmb n1)) (HL8.out _) (fun _=>⟨rfl,_,rfl,qs⟩) iw (dU _) W1.heap.size W1 HZ.out (Nat.le_refl _) ?_
 intro w1 hb1 he1
 refine hK.out _ _ (he1) (fun aA=>?_)
 clear hK K
 try simp only [bB]
 refine wpd ?_
 have HB3:=zh (show Blk w1 W1.heap.size 124 (vtA ⟨_,_,_,_,_,_,n1,0⟩) from by have:=hb1.out;rwa [wG] at this)
 have HE3:=zh he1
 clear hb1 he1 HB2 HE2 HZ
 go_wp2_with fail
 have HZ:=zh (show Below W1.heap.size W1 w1.drew from HE3.out.drew)
 refine wp_region_held_drew (S:=fun W=>Below W1.heap.size W1 W) ab (HE3.out.drew) (fun aA=>?_)
 refine zzr [0,1,2,3] ?_
 refine za 4 (fun K hK=>?_)
 refine step_copy_splice rfl (.tmp 51) (.tmp 53) 34 34 rfl 5 underlying34 ab (some ⟨W1.heap.size,14,none⟩) (some ⟨b,o+15,none⟩) 8 8 8 (c - 15) rfl rfl W1.heap.size 14 _ 124 HB3.out.drew (bcs (nmb n2)) (HL8.out _) (fun _=>⟨rfl,_,rfl,qr⟩) iw (dU _) W1.heap.size W1 HZ.out (Nat.le_refl _) ?_
 intro w4 hb1 he1
 refine hK.out _ _ (he1) (fun aA=>?_)
 clear hK K
 try simp only [bB]
 refine wpd ?_
 have HB4:=zh (show Blk w4 W1.heap.size 124 (vtA (cZ l)) from ou)
 have HE4:=zh he1
 clear hb1 he1 HB3 HE3 HZ
 have hr4:w4.rangeAt W1.heap.size 0 (vtL (cZ l)):=aC HB4.out
 have HE0:=zh (Below.trans HE.out (Below.mono HE4.out HE.out.size):Ext w w4)
 have hlt:w.heap.size < W1.heap.size:=by rw [← hW1];simp
 have HB0:=zh (show Blk w4 w.heap.size 124 (vtZ 0 0 0 0 0 0) from HB.out.below HE4.out hlt)
 clear HB
 go_wp2_with (first | (with_reducible refine fM rfl (.tmp 6) rfl W1.heap.size 0 rfl (cZ l) hr4 ?_))
 refine zcl (gR (cZ l) w4) fun w5 he5=>?_
 have HX:=zh (Ext.trans HE0.out he5)
 have HB5:=zh (HB0.out.ext he5)
 have hr5:w5.rangeAt W1.heap.size 0 (vtL (cZ l)):=aC (HB4.out.ext he5)
 have ht:w5.there w.heap.size 0 22:=aI HB5.out
 clear he5 hr4
 cases hv:eS (cZ l) with
 | false =>
  have HC:=zh (show vdV l=mE∧vdC l=11 from ja)
  have hst:=aN (ds:=vtA mE) HB5.out rfl
  clear hv
  go_wp2_with (first | (with_reducible refine oC rfl (.tmp 2) (.tmp 58) rfl w.heap.size rfl rfl ht ?_))
  exact AB
 | true =>
  have HC:=zh (show vdV l=cZ l∧vdC l=0 from ja)
  have hst:=aN (ds:=vtA (cZ l)) HB5.out rfl
  clear hv
  go_wp2_with (first | (with_reducible refine fM rfl (.tmp 6) rfl W1.heap.size 0 rfl (cZ l) hr5 ?_) | (with_reducible refine kU rfl (.tmp 2) (.tmp 59) rfl w.heap.size (cZ l) rfl rfl ht ?_))
  exact wu
end
section
open Go.RowKit
theorem aJZ {P:Program} {t e:TypeId} {z:Value} {size bytes:Nat} (E:Elem P t e z size bytes) (w:World) (ty:TypeId) (g o dLen dCap:Nat) (a:Addr) (sLen sCap:Nat) (cs:List Value)
  (hn:cs.length=Nat.min sLen dLen * size)
  (hsrc:∀ j v,cs[j]?=some v→w.cell? (a.add j)=some v) (hc:∀ j,j < cs.length→(w.cell? ⟨g,o+j,none⟩).isSome=true) (hf:∀ j,j < cs.length→w.frozen? ⟨g,o+j,none⟩=false) (h1:∀ v ∈ cs,v.oneCell'=true) :
  (Builtin.copy_ #[t,t] ty #[.slice (some ⟨g,o,none⟩) dLen dCap,.slice (some a) sLen sCap]).run P w=.ok (goInt (Nat.min sLen dLen)) (w.setCells g o cs):=by
 obtain ⟨i,hi,_,hs,_⟩:=E.get
 have hl:=run_loadCells_list (P:=P) w a cs hsrc
 have hst:=run_storeCells_cells (P:=P) g o cs 0 w (by simpa using hc) (by simpa using hf) h1
 simp [Builtin.copy_,run_underlying E.ut,Builtin.lenOf,Builtin.firstCells,sizeOf,typeInfo,hi,hs,← hn,hl,hst]
section
variable {P:Program} {t e:TypeId} {z:Value} {size bytes:Nat} {ops:Array Oper} {rest:List Oper} {o:Oper} {a:Act} {w:World} {K:Act→World→Prop} {Q:Exit→Act→World→Prop} {X:Prop}
theorem aHQ (E:Elem P t e z size bytes) (d s:Operand)
  (ho:o.op=.call { callee:=.builtin .copy,args:=#[d,s],argTypes:=#[t,t] })
  (base g off n c:Nat) (xs:List Value) (hown:w.ownsRow base e size (.slice (some ⟨g,0,none⟩) n c) n xs)
  (ad:Addr) (dLen dCap sLen sCap:Nat) (hd:a.eval d=.slice (some ⟨g,off,none⟩) dLen dCap) (hs:a.eval s=.slice (some ad) sLen sCap)
  (cs:List Value) (hn:cs.length=Nat.min sLen dLen * size)
  (hsrc:∀ j v,cs[j]?=some v→w.cell? (ad.add j)=some v)
  (hfit:off+cs.length≤n * size) (h1:∀ v ∈ cs,v.oneCell'=true)
  (h:∀ w',w'.ownsRow base e size (.slice (some ⟨g,0,none⟩) n c) n (splice xs off cs)→w.grownBy w' (some g)→K (a.put o.dst (goInt (Nat.min sLen dLen))) w'):o.wp P a w K Q:=by
 have hxl:=hown.1
 have hrun:=aJZ E w o.type g off dLen dCap ad sLen sCap cs hn hsrc (fun j hj=>by rw [hown.cellAt (off+j) aa,List.getElem?_eq_getElem aa];rfl) (fun j hj=>hown.frozenAt _) h1
 obtain ⟨k1,k2⟩:=lC cs off w xs aa hown
 unfold Oper.wp execOp
 simp only [ho,resolve,invoke,builtin,Sem.run_bind,Sem.run_pure,Result.andThen_ok,List.map_toArray,List.map_cons,List.map_nil,hd,hs,hrun]
 exact h _ k1 k2
theorem mJ (E:Elem P t e z size bytes) (hgd:o.guard=none) (d s:Operand)
  (ho:o.op=.call { callee:=.builtin .copy,args:=#[d,s],argTypes:=#[t,t] })
  (base g off n c:Nat) (xs:List Value) (hown:w.ownsRow base e size (.slice (some ⟨g,0,none⟩) n c) n xs)
  (ad:Addr) (dLen dCap sLen sCap:Nat) (hd:a.eval d=.slice (some ⟨g,off,none⟩) dLen dCap) (hs:a.eval s=.slice (some ad) sLen sCap)
  (cs:List Value) (hn:cs.length=Nat.min sLen dLen * size)
  (hsrc:∀ j v,cs[j]?=some v→w.cell? (ad.add j)=some v)
  (hfit:off+cs.length≤n * size) (h1:∀ v ∈ cs,v.oneCell'=true)
  (h:∀ w',w'.ownsRow base e size (.slice (some ⟨g,0,none⟩) n c) n (splice xs off cs)→w.grownBy w' (some g)→K (a.put o.dst (goInt (Nat.min sLen dLen))) w'):if Region.wanted o (yielded ops a.tmps)=true then Oper.wp P o a w K Q else X:=by
 have hw:Region.wanted o (yielded ops a.tmps)=true:=di
 rw [if_pos hw]
 exact aHQ E d s ho base g off n c xs hown ad dLen dCap sLen sCap hd hs cs hn hsrc hfit h1 h
theorem jG (E:Elem P t e z size bytes) (hgd:o.guard=none) (d s:Operand)
  (ho:o.op=.call { callee:=.builtin .copy,args:=#[d,s],argTypes:=#[t,t] })
  (base g off n c:Nat) (xs:List Value) (hown:w.ownsRow base e size (.slice (some ⟨g,0,none⟩) n c) n xs)
  (ad:Addr) (dLen dCap sLen sCap:Nat) (hd:a.eval d=.slice (some ⟨g,off,none⟩) dLen dCap) (hs:a.eval s=.slice (some ad) sLen sCap)
  (cs:List Value) (hn:cs.length=Nat.min sLen dLen * size)
  (hsrc:∀ j v,cs[j]?=some v→w.cell? (ad.add j)=some v)
  (hfit:off+cs.length≤n * size) (h1:∀ v ∈ cs,v.oneCell'=true)
  (h:∀ w',w'.ownsRow base e size (.slice (some ⟨g,0,none⟩) n c) n (splice xs off cs)→w.grownBy w' (some g)→wpList P ops Q rest (a.put o.dst (goInt (Nat.min sLen dLen))) w'):wpList P ops Q (o :: rest) a w :=
 wpList_plain hgd fun K hK=>aHQ E d s ho base g off n c xs hown ad dLen dCap sLen sCap hd hs cs hn hsrc hfit h1 (fun w' h2 h3=>hK _ _ (h w' h2 h3))
end
theorem aFU {P:Program} {t e:TypeId} {z:Value} {size bytes:Nat} (E:Elem P t e z size bytes) (hz1:∀ v ∈ z.cells,v.oneCell'=true) (w:World) (ty:TypeId) (g o n c:Nat) (hn:0 < n) (hc:∀ j,j < n * size→(w.cell? ⟨g,o+j,none⟩).isSome=true) (hf:∀ j,j < n * size→w.frozen? ⟨g,o+j,none⟩=false) :
  (Builtin.clear_ #[t] ty #[.slice (some ⟨g,o,none⟩) n c]).run P w=.ok (.tuple #[]) (w.setCells g o (Builtin.zeroCells z.cells n).toList):=by
 exact ug
theorem xD {w:World} {base:Nat} {e:TypeId} {size g n c:Nat} {xs:List Value} (h:w.ownsRow base e size (.slice (some ⟨g,0,none⟩) n c) n xs) {m:Nat} (hm:n≤m) (hc:m≤c):∃ js,js.length=(m - n) * size∧w.ownsRow base e size (.slice (some ⟨g,0,none⟩) m c) m (xs ++ js):=by
 have hl:=h.1
 rcases h.2 with ⟨hv,_⟩ | ⟨g',cap,cur,hv,hb,hh,hn,hmx,hs,ht⟩
 ·cases hv
 injection hv with h1 h2 h3
 injection h1 with h1
 injection h1 with h1 h4
 subst h1;subst h3
 have e1:n * size+(m - n) * size=m * size:=dx
 have e2:m * size≤c * size:=Nat.mul_le_mul_right _ hc
 refine ⟨(cur.toList.drop (n * size)).take ((m - n) * size),by simp [hs];omega,by simp [hs,hl];omega,.inr ⟨g,c,cur,rfl,hb,hh,hc,hmx,hs,?_⟩⟩
 rw [← e1,List.take_add,ht]
theorem tJ {w:World} {base:Nat} {e:TypeId} {size g n c:Nat} {xs:List Value} {cur:Array Value} (hb:base≤g) (hh:Blk w g e cur) (hn:n≤c) (hc:c≤maxLen) (hs:cur.size=c * size) (hx:xs.length=n * size) (ht:cur.toList.take (n * size)=xs):w.ownsRow base e size (.slice (some ⟨g,0,none⟩) n c) n xs :=
 ⟨hx,.inr ⟨g,c,cur,rfl,hb,hh,hn,hc,hs,ht⟩⟩
theorem aBC {w:World} {base:Nat} {e:TypeId} {size g n c:Nat} {xs:List Value} (h:w.ownsRow base e size (.slice (some ⟨g,0,none⟩) n c) n xs):∃ cur,Blk w g e cur∧cur.size=c * size:=by
 rcases h.2 with ⟨hv,_⟩ | ⟨g',cap,cur,hv,hb,hh,hn,hmx,hs,ht⟩
 ·cases hv
 injection hv with h1 h2 h3
 injection h1 with h1
 injection h1 with h1 h4
 subst h1;subst h3
 exact ⟨cur,hh,hs⟩
theorem aAw {w:World} {g:Nat} {t:TypeId} {cs:Array Value} (h:Blk w g t cs):w.shape? g=some (t,cs.size):=by
 unfold World.shape?;rw [h]
theorem aBi {P:Program} {f:FuncId} {fn:Func} {t e tR:TypeId} {z:Value} {size bytes:Nat} (E:Elem P t e z size bytes) (hf:P.funcs[f]?=some fn) (hname:(fn.name == "runtime.NumGoroutine")=false) (hb:fn.body.isNone=true) (hn:Extern.findNext fn=none) (he:Extern.find fn=some (Extern.SlicesOverlaps.overlaps #[t,t] #[tR]))
  {w:World} {g1 g2:Nat} {t1 t2:TypeId} {c1 c2:Array Value} (h1:Blk w g1 t1 c1) (h2:Blk w g2 t2 c2) (hne:g1 ≠ g2) (hc:c2.size ≠ 0) (o1 o2 la ca lb cb:Nat) :
  (callFunc f #[.slice (some ⟨g1,o1,none⟩) la ca,.slice (some ⟨g2,o2,none⟩) lb cb]).run P w=.ok (.value (.bool false)) w:=by
 obtain ⟨i,hi,_,hs,_⟩:=E.get
 rw [run_callFunc_extern hf hname hb hn he,Lib.run_overlaps_apart w t tR e E.ut size (fun w=>by simp [sizeOf,typeInfo,hi,hs]) ⟨g1,o1,none⟩ ⟨g2,o2,none⟩ la ca lb cb hne t1 t2 c1.size c2.size (aAw h1) (aAw h2) hc (h1.frozen _) (h1.frozen _)]
 rfl
section
variable {α:Type} [RowT α]
theorem tN (L:List α) (x:α) {i:Nat} (hi:i≤L.length) (js:List Value) (hj:js.length=RowT.sz α) :
  splice (splice (gcs L ++ js) ((i+1) * RowT.sz α) (gcs (L.drop i))) (i * RowT.sz α) (RowT.enc x)=gcs (L.take i ++ x :: L.drop i):=by
 have hl:=aJ L
 have ht:((gcs L).take (i * RowT.sz α))=gcs (L.take i):=iV L i
 have htl:(gcs (L.take i)).length=i * RowT.sz α:=qt
 have hdl:(gcs (L.drop i)).length=(L.length - i) * RowT.sz α:=pq
 have e1:i * RowT.sz α+RowT.sz α=(i+1) * RowT.sz α:=by rw [Nat.add_mul,Nat.one_mul]
 have e2:i * RowT.sz α+(L.length - i) * RowT.sz α=L.length * RowT.sz α:=dx
 have hle:i * RowT.sz α≤(gcs L).length:=by rw [hl];omega
 unfold splice
 rw [RowT.len,bL,dK,hdl]
 have a1:((gcs L ++ js).take ((i+1) * RowT.sz α) ++ (gcs (L.drop i) ++ (gcs L ++ js).drop ((i+1) * RowT.sz α+(L.length - i) * RowT.sz α))).take (i * RowT.sz α)=gcs (L.take i):=by
  rw [List.take_append_of_le_length (by rw [List.length_take,List.length_append,hl,hj];omega),List.take_take,Nat.min_eq_left aa,List.take_append_of_le_length hle,ht]
 have a2:((gcs L ++ js).take ((i+1) * RowT.sz α) ++ (gcs (L.drop i) ++ (gcs L ++ js).drop ((i+1) * RowT.sz α+(L.length - i) * RowT.sz α))).drop (i * RowT.sz α+RowT.sz α)=gcs (L.drop i):=by
  have h0:(gcs L ++ js).drop ((i+1) * RowT.sz α+(L.length - i) * RowT.sz α)=[]:=List.drop_of_length_le (by rw [List.length_append,hl,hj];omega)
  rw [h0,List.append_nil,e1,List.drop_append,List.drop_of_length_le ko,List.length_take,List.length_append,hl,hj,Nat.min_eq_left aa,Nat.sub_self,List.drop_zero,List.nil_append]
 rw [a1,a2]
theorem qQ (L:List α) (x:α) {i:Nat} (hi:i≤L.length) (js:List Value) (hj:js.length=(L.length+1 - i) * RowT.sz α) :
  splice (splice (gcs (L.take i) ++ js) (i * RowT.sz α) (RowT.enc x)) ((i+1) * RowT.sz α) (gcs (L.drop i))=gcs (L.take i ++ x :: L.drop i):=by
 have htl:(gcs (L.take i)).length=i * RowT.sz α:=qt
 have hdl:(gcs (L.drop i)).length=(L.length - i) * RowT.sz α:=pq
 have e1:i * RowT.sz α+RowT.sz α=(i+1) * RowT.sz α:=by rw [Nat.add_mul,Nat.one_mul]
 have e2:RowT.sz α+(L.length - i) * RowT.sz α=(L.length+1 - i) * RowT.sz α:=by rw [show L.length+1 - i=1+(L.length - i) by omega,Nat.add_mul,Nat.one_mul]
 unfold splice
 rw [RowT.len,bL,dK,hdl]
 have a0:(gcs (L.take i) ++ js).take (i * RowT.sz α)=gcs (L.take i):=by rw [List.take_append_of_le_length aa,List.take_of_length_le aa]
 rw [a0]
 have a1:(gcs (L.take i) ++ (RowT.enc x ++ (gcs (L.take i) ++ js).drop (i * RowT.sz α+RowT.sz α))).take ((i+1) * RowT.sz α)=gcs (L.take i) ++ RowT.enc x:=by
  rw [← List.append_assoc,List.take_append_of_le_length qy,List.take_of_length_le qy]
 have a2:(gcs (L.take i) ++ (RowT.enc x ++ (gcs (L.take i) ++ js).drop (i * RowT.sz α+RowT.sz α))).drop ((i+1) * RowT.sz α+(L.length - i) * RowT.sz α)=[]:=by
  apply List.drop_of_length_le
  rw [List.length_append,List.length_append,List.length_drop,List.length_append,htl,RowT.len,hj];omega
 rw [a1,a2,List.append_nil,List.append_assoc]
theorem tT (L:List α) {i:Nat} (hi:i < L.length) :
  (splice (gcs L) (i * RowT.sz α) (gcs (L.drop (i+1)))).take ((L.length - 1) * RowT.sz α)=gcs (L.take i ++ L.drop (i+1)):=by
 have ht:((gcs L).take (i * RowT.sz α))=gcs (L.take i):=iV L i
 have htl:(gcs (L.take i)).length=i * RowT.sz α:=by rw [aJ,List.length_take,Nat.min_eq_left aa]
 have hdl:(gcs (L.drop (i+1))).length=(L.length - (i+1)) * RowT.sz α:=pq
 have e2:i * RowT.sz α+(L.length - (i+1)) * RowT.sz α=(L.length - 1) * RowT.sz α:=dx
 unfold splice
 rw [ht,bL,← List.append_assoc,List.take_append_of_le_length sj,List.take_of_length_le sj]
end
end
end Go.Proofs.YtgmnmjeccfnmbaaGreat
