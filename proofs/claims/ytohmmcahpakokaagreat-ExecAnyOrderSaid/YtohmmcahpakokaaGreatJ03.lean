/- A region that draws its order, in which several operations make memory: each is told once, by what its value is in whatever world behind; no order is branched over. -/
import Derived.Test.YtohmmcahpakokaaGreatJ00
import Derived.Test.YtohmmcahpakokaaGreatJL
set_option maxRecDepth 100000
set_option maxHeartbeats 8000000
set_option linter.unusedVariables false
set_option linter.unusedSimpArgs false
namespace Go.Proofs.YtohmmcahpakokaaGreat
section
open Go
section
variable {P:Program} {ops:Array Oper} {Q:Exit→Act→World→Prop} {md:Region.Mode} {S:World→Prop}
def sJ (P:Program) (o:Oper) (a:Act) (w:World) (R:Value→World→Prop):Prop :=
 match (execOp a.eval o).run P w with
 | .ok (.value u) w'=>R u w'
 | .ok .skip w'=>R undef w'
 | .ok (.enter f args) w'=>Calls P f args w' fun e w''=>∃ u,e=.returned u∧R u w''
 | .ok (.row row args) w'=>Rows P row args w' fun u w''=>R u w''
 | _=>False
theorem pN {a:Act} {x:Option Tmp} {u v:Value} (hd:∀ d,x=some d→d < a.tmps.size) (h:a.put x u=a.put x v):x ≠ none→v=u:=by
 intro hn
 cases x with
 | none=>exact absurd rfl hn
 | some d =>
  have h1:=congrArg (fun b:Act=>b.tmps[d]?) h
  simp only [Act.put,Array.getElem?_setIfInBounds_self_of_lt (hd d rfl)] at h1
  exact (Option.some.inj h1).symm
theorem sG {o:Oper} {a:Act} {w:World} {R:Value→World→Prop} (hd:∀ d,o.dst=some d→d < a.tmps.size)
  (h:∀ K:Act→World→Prop,Shut (∀ u w',R u w'→K (a.put o.dst u) w')→o.wp P a w K (fun _ _ _=>False)):sJ P o a w (fun u w'=>∃ v,(o.dst ≠ none→v=u)∧R v w'):=by
 have:=h (fun a' w'=>∃ u,a'=a.put o.dst u∧R u w') (fun u w' hR=>⟨u,rfl,hR⟩)
 unfold Oper.wp at this
 unfold sJ
 generalize (execOp a.eval o).run P w=r at *
 cases r with
 | ok n w' =>
  cases n <;> simp only [Oper.upon] at this ⊢
  case value u=>obtain ⟨v,h1,h2⟩:=this;exact ⟨v,pN hd h1,h2⟩
  case skip=>obtain ⟨v,h1,h2⟩:=this;exact ⟨v,pN hd h1,h2⟩
  case defer d =>
   obtain ⟨v,h1,h2⟩:=this
   have h3:=congrArg Act.defers h1
   rw [lL,lL] at h3
   have:=congrArg List.length h3
   simp at this
  case enter f args =>
   refine Calls.mono this fun e w'' he=>?_
   cases e with
   | returned u=>obtain ⟨v,h1,h2⟩:=he;exact ⟨u,rfl,v,pN hd h1,h2⟩
   | panicked c=>exact he.elim
   | outgrown=>obtain ⟨_,_,hh⟩:=he;exact hh.elim
  case row row args=>exact Rows.mono this fun u w'' he=>by obtain ⟨v,h1,h2⟩:=he;exact ⟨v,pN hd h1,h2⟩
 | halt x w'=>cases x <;> simp only [Oper.upon] at this
theorem rL {o:Oper} {a:Act} {w:World} {R:Value→World→Prop} {K:Act→World→Prop} (h:sJ P o a w R) (hK:∀ u w',R u w'→K (a.put o.dst u) w'):o.wp P a w K Q:=by
 unfold sJ at h
 unfold Oper.wp
 generalize (execOp a.eval o).run P w=r at *
 cases r with
 | ok n w' =>
  cases n <;> simp only [Oper.upon] at h ⊢
  case value u=>exact hK _ _ h
  case skip=>exact hK _ _ h
  case enter f args =>
   refine Calls.mono h fun e w'' he=>?_
   obtain ⟨u,rfl,hR⟩:=he
   exact hK _ _ hR
  case row row args=>exact Rows.mono h fun u w'' he=>hK _ _ he
 | halt x w'=>cases x <;> simp only at h
theorem yH {o:Oper} {a b:Act} (hs:∀ cs z,o.op ≠ .select cs z) (h:∀ t ∈ o.looksAt ops,a.tmps.getD t undef=b.tmps.getD t undef) :
  execOp a.eval o=execOp b.eval o∧Region.wanted o (yielded ops a.tmps)=Region.wanted o (yielded ops b.tmps):=by
 refine ⟨execOp_congr o hs fun x hx=>?_,?_⟩
 ·cases x with
  | tmp t=>exact h t (List.mem_append_left _ (List.mem_filterMap.2 ⟨.tmp t,by simpa using hx,rfl⟩))
  | _=>rfl
 unfold Region.wanted
 cases hg:o.guard with
 | none=>rfl
 | some gw =>
  obtain ⟨g,want⟩:=gw
  have hy:yielded ops a.tmps g=yielded ops b.tmps g:=by
   unfold yielded
   cases ht:(ops[g]?).bind (·.dst) with
   | none=>rfl
   | some t =>
    have:=h t (by unfold Oper.looksAt;rw [hg];exact List.mem_append_right _ (by simp [ht]))
    have key:∀ x:Option Value,(match x with | some (.bool z)=>some z | _=>none)=(match x.getD undef with | .bool z=>some z | _=>none):=fun x=>by
     cases x with
     | none=>rfl
     | some v=>cases v <;> rfl
    have h2:a.tmps[t]?.getD undef=b.tmps[t]?.getD undef:=by simpa using this
    refine (key _).trans (Eq.trans ?_ (key _).symm)
    simp only [Option.bind_some,h2]
  simp only [hy]
def zA (ops:Array Oper) (j:Nat):Option Tmp:=(ops[j]?).bind (·.dst)
def bD (a:Act) (J:List (Nat × Option Tmp)) (env:Nat→Value):Act:=J.foldl (fun a p=>a.put p.2 (env p.1)) a
def eV (l:Array Bool) (J:List (Nat × Option Tmp)):Array Bool:=J.foldl (fun l p=>l.setIfInBounds p.1 true) l
theorem rR (J:List (Nat × Option Tmp)):∀ l:Array Bool,(eV l J).size=l.size:=by
 induction J with
 | nil=>intro l;rfl
 | cons p r ih=>intro l;show (eV (l.setIfInBounds p.1 true) r).size=_;rw [ih];simp
theorem tQ (J:List (Nat × Option Tmp)):∀ (l:Array Bool) (i:Nat),i < l.size→(eV l J)[i]?=if (J.any fun p=>p.1 == i)=true then some true else l[i]?:=by
 induction J with
 | nil=>intro l i hi;rfl
 | cons p r ih =>
  intro l i hi
  show (eV (l.setIfInBounds p.1 true) r)[i]?=_
  rw [ih _ _ (by rw [Array.size_setIfInBounds];exact hi),List.any_cons]
  by_cases h:p.1=i
  ·subst h;simp [hi]
  rw [Array.getElem?_setIfInBounds_ne h,beq_false_of_ne h,Bool.false_or]
theorem nU (J:List (Nat × Option Tmp)) (env:Nat→Value):∀ a:Act,(bD a J env).defers=a.defers:=by
 induction J with
 | nil=>intro a;rfl
 | cons p r ih=>intro a;show (bD (a.put p.2 (env p.1)) r env).defers=_;rw [ih,lL]
theorem pM (a:Act) (x:Option Tmp) (v:Value):(a.put x v).tmps.size=a.tmps.size:=by cases x <;> simp [Act.put]
theorem kB (J:List (Nat × Option Tmp)) (env:Nat→Value):∀ a:Act,(bD a J env).tmps.size=a.tmps.size:=by
 induction J with
 | nil=>intro a;rfl
 | cons p r ih=>intro a;show (bD (a.put p.2 (env p.1)) r env).tmps.size=_;rw [ih,pM]
theorem kT (a:Act) (x:Option Tmp) (v:Value) (t:Tmp):(a.put x v).tmps.getD t undef=if x=some t∧t < a.tmps.size then v else a.tmps.getD t undef:=by
 cases x with
 | none=>simp [Act.put]
 | some d =>
  simp only [Act.put,Option.some.injEq]
  by_cases h:d=t
  ·subst h
   by_cases hl:d < a.tmps.size
   ·simp [hl]
   simp [hl]
  simp [h,Array.getElem?_setIfInBounds_ne h]
theorem fY (env:Nat→Value) (t:Tmp):∀ (J:List (Nat × Option Tmp)) (a:Act),(∀ p ∈ J,p.2 ≠ some t)→(bD a J env).tmps.getD t undef=a.tmps.getD t undef
 | [],a,_=>rfl
 | p :: r,a,h=>by
  show (bD (a.put p.2 (env p.1)) r env).tmps.getD t undef=_
  rw [fY env t r _ (fun q hq=>h q (List.mem_cons_of_mem _ hq)),kT,if_neg (fun hh=>h p (List.mem_cons_self ..) hh.1)]
theorem jL (env:Nat→Value) (t:Tmp) (i:Nat):∀ (J:List (Nat × Option Tmp)) (a:Act),t < a.tmps.size→(i,some t) ∈ J→(∀ p ∈ J,p.2=some t→p.1=i)→(bD a J env).tmps.getD t undef=env i
 | [],a,_,h,_=>by cases h
 | p :: r,a,hl,h,hu=>by
  show (bD (a.put p.2 (env p.1)) r env).tmps.getD t undef=_
  by_cases hr:(i,some t) ∈ r
  ·exact jL env t i r _ (by rw [pM];exact hl) hr (fun q hq=>hu q (List.mem_cons_of_mem _ hq))
  have hp:p=(i,some t):=by
   rcases List.mem_cons.1 h with h | h
   ·exact h.symm
   exact absurd h hr
  subst hp
  rw [fY env t r _ (fun q hq e=>hr (by have h1:=hu q (List.mem_cons_of_mem _ hq) e;obtain ⟨q1,q2⟩:=q;simp only at e h1;subst e;subst h1;exact hq)),kT,if_pos ⟨rfl,hl⟩]
def aCQ:List (Nat × Option Tmp)→List (List (Nat × Option Tmp))
 | []=>[[]]
 | x :: r=>aCQ r ++ (aCQ r).map (x :: ·)
theorem kH (f:Nat × Option Tmp→Bool):∀ J,J.filter f ∈ aCQ J
 | []=>by simp [aCQ]
 | x :: r=>by
  rw [List.filter_cons]
  unfold aCQ
  split
  ·exact List.mem_append_right _ (List.mem_map.2 ⟨_,kH f r,rfl⟩)
  exact List.mem_append_left _ (kH f r)
def depB (md:Region.Mode) (ops:Array Oper) (p q:Nat):Bool:=match ops[p]? with
 | some o=>o.after.toList.any fun e=>Region.binds md e && e.on == q
 | none=>false
def fT (md:Region.Mode) (ops:Array Oper) (listed:Array Bool) (n:Nat) (J:List (Nat × Option Tmp)):Bool :=
 decide (J.map (·.1)).Nodup && (
 J.all (fun p=>decide (p.1 < listed.size) && (listed.getD p.1 true == false) && (zA ops p.1 == p.2) && (match p.2 with | some d=>decide (d < n) | none=>true)) &&
 J.all (fun p=>J.all fun q=>p.1 == q.1 || p.2 == none || !(p.2 == q.2)) &&
 ((aCQ J).all fun D=>D.length == J.length || !(D.all fun p=>J.all fun q=>!(depB md ops p.1 q.1) || D.contains q) || (!(Region.ready md ops (eV listed D)).isEmpty && (Region.ready md ops (eV listed D)).all fun i=>J.any fun p=>p.1 == i)))
def kE (md:Region.Mode) (ops:Array Oper) (J D:List (Nat × Option Tmp)) (o:Oper):Bool :=
 (o.looksAt ops).all (fun t=>J.all fun p=>!(p.2 == some t) || (D.contains p && o.after.toList.any fun e=>Region.binds md e && e.on == p.1)) &&
 D.all (fun p=>J.contains p && (o.looksAt ops).any (fun t=>p.2 == some t))
def Member (P:Program) (md:Region.Mode) (ops:Array Oper) (S:World→Prop) (V:Nat→Value→World→Prop) (J:List (Nat × Option Tmp)) (a0:Act) (w0:World) (j:Nat):Prop :=
 ∃ (o:Oper) (D:List (Nat × Option Tmp)),ops[j]?=some o∧kE md ops J D o=true ∧
  ∀ env w,Ext w0 w→S w→(∀ p ∈ D,V p.1 (env p.1) w) →
   (Region.wanted o (yielded ops (bD a0 D env).tmps)=true→∀ K:Act→World→Prop,Shut (∀ u w',Ext w w'→V j u w'→K ((bD a0 D env).put o.dst u) w')→o.wp P (bD a0 D env) w K (fun _ _ _=>False)) ∧
   (Region.wanted o (yielded ops (bD a0 D env).tmps)=false→V j undef w)
structure JI (md:Region.Mode) (ops:Array Oper) (S:World→Prop) (V:Nat→Value→World→Prop) (J:List (Nat × Option Tmp)) (a0:Act) (l0:Array Bool) (w0:World) (env:Nat→Value) (l:Array Bool) (a:Act) (w:World):Prop where
 ext:Ext w0 w
 s:S w
 lsz:l.size=l0.size
 lout:∀ i,(∀ p ∈ J,p.1 ≠ i)→l[i]?=l0[i]?
 dfr:a.defers=a0.defers
 tsz:a.tmps.size=a0.tmps.size
 val:∀ p ∈ J,l.getD p.1 true=true→V p.1 (env p.1) w
 hit:∀ p ∈ J,l.getD p.1 true=true→∀ t,p.2=some t→a.tmps.getD t undef=env p.1
 miss:∀ t,(∀ p ∈ J,l.getD p.1 true=true→p.2 ≠ some t)→a.tmps.getD t undef=a0.tmps.getD t undef
 cl:∀ p ∈ J,l.getD p.1 true=true→∀ q ∈ J,depB md ops p.1 q.1=true→l.getD q.1 true=true
theorem aAN {a b:Act} (hd:a.defers=b.defers) (hz:a.tmps.size=b.tmps.size) (h:∀ t,a.tmps.getD t undef=b.tmps.getD t undef):a=b:=by
 obtain ⟨ta,da⟩:=a
 obtain ⟨tb,db⟩:=b
 simp only at hd hz h
 subst hd
 have:ta=tb:=by
  apply Array.ext hz
  intro i h1 h2
  have:=h i
  simpa [h1,h2] using this
 rw [this]
section
variable {V:Nat→Value→World→Prop} {J:List (Nat × Option Tmp)} {a0:Act} {l0:Array Bool} {w0:World}
theorem yA {n:Nat} (h:fT md ops l0 n J=true):(J.map (·.1)).Nodup:=by
 unfold fT at h
 rw [Bool.and_eq_true,decide_eq_true_eq] at h
 exact h.1
theorem dR {n:Nat} (h:fT md ops l0 n J=true) :
  (∀ p ∈ J,p.1 < l0.size∧l0.getD p.1 true=false∧zA ops p.1=p.2∧∀ d,p.2=some d→d < n) ∧
  (∀ p ∈ J,∀ q ∈ J,p.1 ≠ q.1→∀ t,p.2=some t→q.2 ≠ some t) ∧
  (∀ D ∈ aCQ J,D.length ≠ J.length→(∀ p ∈ D,∀ q ∈ J,depB md ops p.1 q.1=true→q ∈ D)→Region.ready md ops (eV l0 D) ≠ []∧∀ i ∈ Region.ready md ops (eV l0 D),∃ p ∈ J,p.1=i):=by
 unfold fT at h
 rw [Bool.and_eq_true] at h
 replace h:=h.2
 simp only [Bool.and_eq_true,List.all_eq_true,decide_eq_true_eq,beq_iff_eq,Bool.or_eq_true,Bool.not_eq_true',List.any_eq_true] at h
 obtain ⟨⟨h1,h2⟩,h3⟩:=h
 refine ⟨fun p hp=>?_,fun p hp q hq hne t ht e=>?_,fun D hD hne hcl=>?_⟩
 ·obtain ⟨⟨⟨a1, a2⟩, a3⟩, a4⟩ := h1 p hp
  refine ⟨a1,a2,a3,fun d hd=>?_⟩
  rw [hd] at a4;simpa using a4
 ·rcases h2 p hp q hq with (h | h) | h
  ·exact hne h
  ·rw [ht] at h;cases h
  rw [ht,e] at h;simp at h
 rcases h3 D hD with (h | h) | ⟨h,h'⟩
 ·exact absurd h hne
 ·have:(D.all fun p=>J.all fun q=>!(depB md ops p.1 q.1) || D.contains q)=true:=by
   rw [List.all_eq_true]
   intro p hp
   rw [List.all_eq_true]
   intro q hq
   cases hd:depB md ops p.1 q.1 with
   | false=>rfl
   | true=>simpa using hcl p hp q hq hd
  rw [this] at h;cases h
 exact ⟨fun e=>by rw [e] at h;simp at h,h'⟩
theorem JI.eqL {env:Nat→Value} {l:Array Bool} {a:Act} {w:World} {n:Nat} (hB:fT md ops l0 n J=true) (h:JI md ops S V J a0 l0 w0 env l a w) :
  l=eV l0 (J.filter fun p=>l.getD p.1 true):=by
 obtain ⟨b1,b2,b3⟩:=dR hB
 apply Array.ext_getElem?
 intro i
 by_cases hi:i < l0.size
 ·rw [tQ _ _ _ hi]
  by_cases hJ:∃ p ∈ J,p.1=i
  ·obtain ⟨p, hp, rfl⟩ := hJ
   have hl:p.1 < l.size:=by rw [h.lsz];exact hi
   cases hv:l.getD p.1 true with
   | true =>
    rw [if_pos (List.any_eq_true.2 ⟨p,List.mem_filter.2 ⟨hp,hv⟩,by simp⟩)]
    simp [hl] at hv ⊢;exact hv
   | false =>
    rw [if_neg (by
     simp only [List.any_eq_true,List.mem_filter,beq_iff_eq,not_exists,not_and]
     rintro q ⟨hq,hq1⟩ e
     rw [e,hv] at hq1;cases hq1)]
    have:=(b1 p hp).2.1
    simp [hl,hi] at hv this ⊢;rw [hv,this]
  have hne:∀ p ∈ J,p.1 ≠ i:=fun p hp e=>hJ ⟨p,hp,e⟩
  rw [if_neg (by
   simp only [List.any_eq_true,List.mem_filter,beq_iff_eq,not_exists,not_and]
   rintro q ⟨hq,_⟩ e
   exact hne q hq e)]
  exact h.lout i hne
 rw [Array.getElem?_eq_none (by rw [h.lsz];omega),Array.getElem?_eq_none (by rw [rR];omega)]
theorem JI.full {env:Nat→Value} {l:Array Bool} {a:Act} {w:World} (hB:fT md ops l0 a0.tmps.size J=true) (h:JI md ops S V J a0 l0 w0 env l a w) (hf:∀ p ∈ J,l.getD p.1 true=true) :
  l=eV l0 J∧a=bD a0 J env:=by
 obtain ⟨b1,b2,b3⟩:=dR hB
 refine ⟨(h.eqL hB).trans (by rw [List.filter_eq_self.2 hf]),?_⟩
 refine aAN (by rw [h.dfr,nU]) (by rw [h.tsz,kB]) (fun t=>?_)
 by_cases ht:∃ p ∈ J,p.2=some t
 ·obtain ⟨p, hp, e⟩ := ht
  rw [h.hit p hp (hf p hp) t e,jL env t p.1 J a0 ((b1 p hp).2.2.2 t e) (by rw [← e];exact hp) (fun q hq e2=>Classical.byContradiction fun hne=>b2 p hp q hq (Ne.symm hne) t e e2)]
 rw [h.miss t (fun p hp _ e=>ht ⟨p,hp,e⟩),fY env t J a0 (fun p hp e=>ht ⟨p,hp,e⟩)]
theorem rX {D:List (Nat × Option Tmp)} {o:Oper} (h:kE md ops J D o=true) :
  (∀ t ∈ o.looksAt ops,∀ p ∈ J,p.2=some t→p ∈ D∧∃ e ∈ o.after,Region.binds md e=true∧e.on=p.1)∧(∀ p ∈ D,p ∈ J∧∃ t ∈ o.looksAt ops,p.2=some t):=by
 unfold kE at h
 simp only [Bool.and_eq_true,List.all_eq_true,Bool.or_eq_true,Bool.not_eq_true',beq_iff_eq,List.contains_iff_mem,List.any_eq_true,Array.mem_toList_iff] at h
 obtain ⟨h1,h2⟩:=h
 refine ⟨fun t ht p hp e=>?_,fun p hp=>h2 p hp⟩
 rcases h1 t ht p hp with h | h
 ·rw [e] at h;simp at h
 exact h
theorem JI.comes {env:Nat→Value} {l:Array Bool} {a:Act} {w:World} (hs:Region.noSelect ops=true) (hB:fT md ops l0 a0.tmps.size J=true) (hM:∀ p ∈ J,Member P md ops S V J a0 w0 p.1)
  (h:JI md ops S V J a0 l0 w0 env l a w) {p:Nat × Option Tmp} (hp:p ∈ J) (hr:p.1 ∈ Region.ready md ops l) :
  ∃ o,ops[p.1]?=some o∧o.dst=p.2∧(Region.wanted o (yielded ops a.tmps)=true→sJ P o a w fun u w'=>∃ v,(o.dst ≠ none→v=u)∧Ext w w'∧V p.1 v w')∧(Region.wanted o (yielded ops a.tmps)=false→V p.1 undef w):=by
 obtain ⟨b1,b2,b3⟩:=dR hB
 obtain ⟨o,D,ho,hm,hstep⟩:=hM p hp
 obtain ⟨m1,m2⟩:=rX hm
 obtain ⟨hun,o',ho',hall⟩:=mem_ready.1 hr
 rw [ho] at ho';cases ho'
 have hds:o.dst=p.2:=by have:=(b1 p hp).2.2.1;unfold zA at this;rw [ho] at this;exact this
 have hdone:∀ q ∈ D,l.getD q.1 true=true:=fun q hq=>by
  obtain ⟨hqJ,t,ht,e⟩:=m2 q hq
  obtain ⟨_,ed,hed,hb,heq⟩:=m1 t ht q hqJ e
  have h1:=hall ed hed hb
  rw [heq] at h1
  have hl:q.1 < l.size:=by rw [h.lsz];exact (b1 q hqJ).1
  simp only [Array.getD_eq_getD_getElem?] at h1 ⊢
  rw [Array.getElem?_eq_getElem hl] at h1 ⊢
  exact h1
 have hag:∀ t ∈ o.looksAt ops,a.tmps.getD t undef=(bD a0 D env).tmps.getD t undef:=fun t ht=>by
  by_cases hq:∃ q ∈ J,q.2=some t
  ·obtain ⟨q, hqJ, e⟩ := hq
   have hqD:=(m1 t ht q hqJ e).1
   rw [h.hit q hqJ (hdone q hqD) t e,jL env t q.1 D a0 ((b1 q hqJ).2.2.2 t e) (by rw [← e];exact hqD) (fun r hr' e2=>Classical.byContradiction fun hne=>b2 q hqJ r (m2 r hr').1 (Ne.symm hne) t e e2)]
  rw [h.miss t (fun q hq1 _ e=>hq ⟨q,hq1,e⟩),fY env t D a0 (fun q hq1 e=>hq ⟨q,(m2 q hq1).1,e⟩)]
 obtain ⟨e1,e2⟩:=yH (ops:=ops) (fun cs z=>Region.noSelect_spec hs p.1 o cs z ho) hag
 obtain ⟨s1,s2⟩:=hstep env w h.ext h.s (fun q hq=>h.val q (m2 q hq).1 (hdone q hq))
 refine ⟨o,ho,hds,fun hw=>?_,fun hw=>s2 (by rw [← e2];exact hw)⟩
 have:=sG (R:=fun u w'=>Ext w w'∧V p.1 u w') (by rw [kB];intro d hd;exact (b1 p hp).2.2.2 d (by rw [← hds];exact hd)) (fun K hK=>s1 (by rw [← e2];exact hw) K (fun u w' h1 h2=>hK.out u w' ⟨h1,h2⟩))
 unfold sJ at this ⊢
 rw [e1];exact this
theorem rH (f:Nat→Bool) (i:Nat):∀ J:List (Nat × Option Tmp),(J.map (·.1)).Nodup→(∃ p ∈ J,p.1=i)→f i=false→(J.filter fun q=>!(if q.1=i then true else f q.1)).length+1=(J.filter fun q=>!f q.1).length
 | [],_,h,_=>by obtain ⟨p,hp,_⟩:=h;cases hp
 | p :: r,hd,h,hf=>by
  rw [List.map_cons,List.nodup_cons] at hd
  by_cases e:p.1=i
  ·have hr : (r.filter fun q => !(if q.1 = i then true else f q.1)) = r.filter fun q => !f q.1 := List.filter_congr (fun q hq => by rw [if_neg (fun e2 => hd.1 (by rw [e, ← e2]; exact List.mem_map.2 ⟨q, hq, rfl⟩))])
   rw [List.filter_cons,List.filter_cons,if_neg (by simp [e]),if_pos (by rw [e,hf];rfl),hr,List.length_cons]
  have ih:=rH f i r hd.2 (by
   obtain ⟨q,hq,e2⟩:=h
   rcases List.mem_cons.1 hq with rfl | hq
   ·exact absurd e2 e
   exact ⟨q,hq,e2⟩) hf
  rw [List.filter_cons,List.filter_cons,if_neg e]
  split <;> (try simp only [List.length_cons]) <;> omega
theorem kL (hs:Region.noSelect ops=true) (hB:fT md ops l0 a0.tmps.size J=true)
  (hSE:∀ w w',S w→Ext w w'→S w') (hVE:∀ j v w w',V j v w→Ext w w'→V j v w') (hM:∀ p ∈ J,Member P md ops S V J a0 w0 p.1) {fuel:Nat}
  (hE:∀ env w,Ext w0 w→S w→(∀ p ∈ J,V p.1 (env p.1) w)→wpAnyH P md ops Q S fuel (eV l0 J) (bD a0 J env) w) :
  ∀ (m:Nat) (env:Nat→Value) (l:Array Bool) (a:Act) (w:World),JI md ops S V J a0 l0 w0 env l a w→(J.filter fun p=>!l.getD p.1 true).length=m→wpAnyH P md ops Q S (fuel+m) l a w:=by
 obtain ⟨b1,b2,b3⟩:=dR hB
 intro m
 induction m with
 | zero =>
  intro env l a w h hm
  have hf:∀ p ∈ J,l.getD p.1 true=true:=fun p hp=>by
   have:=List.length_eq_zero_iff.1 hm
   rw [List.filter_eq_nil_iff] at this
   simpa using this p hp
  obtain ⟨rfl,rfl⟩:=h.full hB hf
  exact hE env w h.ext h.s (fun p hp=>h.val p hp (hf p hp))
 | succ m ih =>
  intro env l a w h hm
  have hlen:(J.filter fun p=>l.getD p.1 true).length ≠ J.length:=fun e=>by
   have h2:=List.length_filter_eq_length_iff.1 e
   have:(J.filter fun p=>!l.getD p.1 true)=[]:=List.filter_eq_nil_iff.2 (fun p hp=>by simp [h2 p hp])
   rw [this] at hm;cases hm
  obtain ⟨r1,r2⟩:=b3 _ (kH (fun p=>l.getD p.1 true) J) hlen (fun p hp q hq hd=>List.mem_filter.2 ⟨hq,h.cl p (List.mem_filter.1 hp).1 (List.mem_filter.1 hp).2 q hq hd⟩)
  rw [← h.eqL hB] at r1 r2
  refine ⟨fun e=>absurd e r1,fun i hi=>?_⟩
  obtain ⟨p,hp,rfl⟩:=r2 i hi
  obtain ⟨o,ho,hds,c1,c2⟩:=h.comes hs hB hM hp hi
  have hun:=(mem_ready.1 hi).1
  have hpl:p.1 < l.size:=by rw [h.lsz];exact (b1 p hp).1
  have key:∀ v u w',(o.dst ≠ none→v=u)→Ext w w'→V p.1 v w'→S w'∧wpAnyH P md ops Q S (fuel+m) (l.setIfInBounds p.1 true) (a.put o.dst u) w':=by
   intro v u w' hvu he hv
   refine ⟨hSE _ _ h.s he,ih (fun i=>if i=p.1 then v else env i) _ _ _ ?_ ?_⟩
   ·have hg:∀ q,q ∈ J→(l.setIfInBounds p.1 true).getD q.1 true=true→q.1=p.1 ∨ (q.1 ≠ p.1∧l.getD q.1 true=true):=fun q hq hh=>by
     by_cases e:q.1=p.1
     ·exact .inl e
     rw [getD_set_ne true (Ne.symm e)] at hh;exact .inr ⟨e,hh⟩
    have hsame:∀ q,q ∈ J→q.1=p.1→q.2=p.2:=fun q hq e=>by rw [← (b1 q hq).2.2.1,e,(b1 p hp).2.2.1]
    refine ⟨h.ext.trans he,hSE _ _ h.s he,by rw [Array.size_setIfInBounds];exact h.lsz,fun i hi'=>?_,by rw [lL];exact h.dfr,by rw [pM];exact h.tsz,fun q hq hh=>?_,fun q hq hh t ht=>?_,fun t ht=>?_,fun q hq hh r hr hd=>?_⟩
    ·rw [Array.getElem?_setIfInBounds_ne (hi' p hp)];exact h.lout i hi'
    ·rcases hg q hq hh with e | ⟨e, h2⟩
     ·simp only [e,if_true];exact hv
     simp only [e,if_false];exact hVE _ _ _ _ (h.val q hq h2) he
    ·rw [kT]
     rcases hg q hq hh with e | ⟨e,h2⟩
     ·have h3 := hsame q hq e
      rw [if_pos ⟨by rw [hds,← h3];exact ht,by rw [h.tsz];exact (b1 q hq).2.2.2 t ht⟩]
      simp only [e,if_true]
      exact (hvu (by rw [hds,← h3,ht];simp)).symm
     rw [if_neg (fun hh=>b2 q hq p hp e t ht (by rw [← hds];exact hh.1)),h.hit q hq h2 t ht]
     simp only [e,if_false]
    ·rw [kT, if_neg (fun hh => ht p hp (by simp [hpl]) (by rw [← hds]; exact hh.1))]
     refine h.miss t (fun q hq h2=>ht q hq ?_)
     by_cases e:q.1=p.1
     ·rw [e];simp [hpl]
     rw [getD_set_ne true (Ne.symm e)];exact h2
    have hlr:l.getD r.1 true=true:=by
     rcases hg q hq hh with e | ⟨e,h2⟩
     ·rw [e] at hd
      unfold depB at hd
      rw [ho] at hd
      simp only [List.any_eq_true,Bool.and_eq_true,beq_iff_eq,Array.mem_toList_iff] at hd
      obtain ⟨ed,hed,hb,heq⟩:=hd
      obtain ⟨_,o',ho',hall⟩:=mem_ready.1 hi
      rw [ho] at ho';cases ho'
      have h3:=hall ed hed hb
      rw [heq] at h3
      have hrl:r.1 < l.size:=by rw [h.lsz];exact (b1 r hr).1
      simp only [Array.getD_eq_getD_getElem?] at h3 ⊢
      rw [Array.getElem?_eq_getElem hrl] at h3 ⊢
      exact h3
     exact h.cl q hq h2 r hr hd
    by_cases e:r.1=p.1
    ·rw [e];simp [hpl]
    rw [getD_set_ne true (Ne.symm e)];exact hlr
   have hc:(J.filter fun q=>!(l.setIfInBounds p.1 true).getD q.1 true)=J.filter fun q=>!(if q.1=p.1 then true else l.getD q.1 true):=by
    apply List.filter_congr
    intro q hq
    by_cases e:q.1=p.1
    ·rw [e];simp [hpl]
    rw [getD_set_ne true (Ne.symm e),if_neg e]
   rw [hc]
   have:=rH (fun i=>l.getD i true) p.1 J (yA hB) ⟨p,hp,rfl⟩ hun
   omega
  unfold wpOp
  rw [ho]
  simp only
  split
  ·rename_i hw
   exact .inl (rL (c1 hw) (fun u w' hR=>by obtain ⟨v,h1,h2,h3⟩:=hR;exact key v u w' h1 h2 h3))
  rename_i hw
  exact key undef undef w (fun _=>rfl) (Ext.refl w) (c2 (by simpa using hw))
def VV (j0:Nat) (A:Value→World→Prop) (R:Nat→Value→World→Prop):Nat→Value→World→Prop:=fun j v w=>if j=j0 then A v w else R j v w
def VN:Nat→Value→World→Prop:=fun _ _ _=>True
theorem VN.ext:∀ j v w w',VN j v w→Ext w w'→VN j v w':=fun _ _ _ _ _ _=>trivial
theorem VV.ext {j0:Nat} {A:Value→World→Prop} {R:Nat→Value→World→Prop} (hA:∀ v w w',A v w→Ext w w'→A v w') (hR:∀ j v w w',R j v w→Ext w w'→R j v w'):∀ j v w w',VV j0 A R j v w→Ext w w'→VV j0 A R j v w':=fun j v w w' h e=>by
 unfold VV at *
 split at h
 ·rename_i hj;rw [if_pos hj];exact hA _ _ _ h e
 rename_i hj;rw [if_neg hj];exact hR _ _ _ _ h e
theorem Member.mk' {j:Nat} (o:Oper) (D:List (Nat × Option Tmp)) (ho:ops[j]?=some o) (hg:o.guard=none) (hm:kE md ops J D o=true)
  (h:∀ env w,Ext w0 w→S w→(∀ p ∈ D,V p.1 (env p.1) w)→∀ K:Act→World→Prop,Shut (∀ u w',Ext w w'→V j u w'→K ((bD a0 D env).put o.dst u) w')→o.wp P (bD a0 D env) w K (fun _ _ _=>False)):Member P md ops S V J a0 w0 j :=
 ⟨o,D,ho,hm,fun env w h1 h2 h3=>⟨fun _ K hK=>h env w h1 h2 h3 K hK,fun hw=>by simp [Region.wanted,hg] at hw⟩⟩
theorem Members.nil (F:Nat→Prop):∀ p ∈ ([]:List (Nat × Option Tmp)),F p.1:=fun p hp=>by cases hp
theorem Members.cons {F:Nat→Prop} {p:Nat × Option Tmp} {r:List (Nat × Option Tmp)} (h:F p.1) (hr:∀ q ∈ r,F q.1):∀ q ∈ p :: r,F q.1:=fun q hq=>by
 rcases List.mem_cons.1 hq with rfl | hq
 ·exact h
 exact hr q hq
theorem cJ (V:Nat→Value→World→Prop) (J:List (Nat × Option Tmp)) (hs:Region.noSelect ops=true) (hB:fT md ops l0 a0.tmps.size J=true)
  (hSE:∀ w w',S w→Ext w w'→S w') (hVE:∀ j v w w',V j v w→Ext w w'→V j v w') (h0:S w0) (hM:∀ p ∈ J,Member P md ops S V J a0 w0 p.1) {fuel m:Nat} (hm:m=fuel+J.length)
  (hE:∀ env w,Ext w0 w→S w→(∀ p ∈ J,V p.1 (env p.1) w)→wpAnyH P md ops Q S fuel (eV l0 J) (bD a0 J env) w):wpAnyH P md ops Q S m l0 a0 w0:=by
 obtain ⟨b1,b2,b3⟩:=dR hB
 subst hm
 refine kL hs hB hSE hVE hM hE J.length (fun _=>undef) l0 a0 w0 ⟨Ext.refl _,h0,rfl,fun _ _=>rfl,rfl,rfl,fun p hp h=>?_,fun p hp h=>?_,fun _ _=>rfl,fun p hp h=>?_⟩ ?_
 ·rw [(b1 p hp).2.1] at h;cases h
 ·rw [(b1 p hp).2.1] at h;cases h
 ·rw [(b1 p hp).2.1] at h;cases h
 congr 1
 exact List.filter_eq_self.2 (fun p hp=>by rw [(b1 p hp).2.1];rfl)
end
end
theorem zm {P:Program} {md:Region.Mode} {ops:Array Oper} {S:World→Prop} {V:Nat→Value→World→Prop} {J:List (Nat × Option Tmp)} {a0:Act} {w0:World} {j:Nat} {o:Oper} (D:List (Nat × Option Tmp))
    (h:∀ env w,Ext w0 w→S w→(∀ p ∈ D,V p.1 (env p.1) w)→∀ K:Act→World→Prop,Shut (∀ u w',Ext w w'→V j u w'→K ((bD a0 D env).put o.dst u) w')→o.wp P (bD a0 D env) w K (fun _ _ _=>False))
    (ho:ops[j]?=some o:=by (simp only [List.getElem?_toArray,List.getElem?_cons_succ,List.getElem?_cons_zero];rfl)) (hg:o.guard=none:=by rfl) (hm:kE md ops J D o=true:=by kernel_rfl):Member P md ops S V J a0 w0 j:=Member.mk' o D ho hg hm h
theorem aO:(∀ (a:Act) (J:List (Nat × Option Tmp)) (env:Nat→Value),bD a J env=J.foldl (fun a p=>a.put p.2 (env p.1)) a)∧(∀ (f:Act→(Nat × Option Tmp)→Act) (a:Act),List.foldl f a []=a)∧(∀ (f:Act→(Nat × Option Tmp)→Act) (a:Act) (x:Nat × Option Tmp) (l:List (Nat × Option Tmp)),List.foldl f a (x :: l)=List.foldl f (f a x) l)∧(∀ (a:Act) (v:Value),a.put none v=a)∧(∀ (a:Act) (d:Tmp) (v:Value),a.put (some d) v={ a with tmps:=a.tmps.setIfInBounds d v })∧(∀ (l:List Value) (i:Nat) (x:Value),l.toArray.setIfInBounds i x=(l.set i x).toArray)∧(∀ (x:Value) (l:List Value) (y:Value),(x :: l).set 0 y=y :: l)∧(∀ (x:Value) (l:List Value) (n:Nat) (y:Value),(x :: l).set (n+1) y=x :: l.set n y) :=
  ⟨fun _ _ _=>rfl,fun _ _=>rfl,fun _ _ _ _=>rfl,fun _ _=>rfl,fun _ _ _=>rfl,fun _ _ _=>by simp,fun _ _ _=>rfl,fun _ _ _ _=>rfl⟩
theorem zzp {P:Program} {md:Region.Mode} {ops:Array Oper} {S:World→Prop} {V:Nat→Value→World→Prop} {J:List (Nat × Option Tmp)} {a0:Act} {w0:World} {j:Nat} {o:Oper}
    (h:∀ w,Ext w0 w→S w→∀ K:Act→World→Prop,Shut (∀ u w',Ext w w'→V j u w'→K (a0.put o.dst u) w')→o.wp P a0 w K (fun _ _ _=>False))
    (ho:ops[j]?=some o:=by (simp only [List.getElem?_toArray,List.getElem?_cons_succ,List.getElem?_cons_zero];rfl)) (hg:o.guard=none:=by rfl) (hm:kE md ops J [] o=true:=by kernel_rfl):Member P md ops S V J a0 w0 j:=zm [] (fun _ w h1 h2 _ K hK=>h w h1 h2 K hK) ho hg hm
abbrev VE (j0:Nat) (X:Value) (R:Nat→Value→World→Prop):Nat→Value→World→Prop:=VV j0 (fun v _=>v=X) R
theorem ve {j0:Nat} {X:Value} {R:Nat→Value→World→Prop} (hR:∀ j v w w',R j v w→Ext w w'→R j v w'):∀ j v w w',VE j0 X R j v w→Ext w w'→VE j0 X R j v w':=VV.ext (fun _ _ _ h _=>h) hR
theorem zzV {p q:Prop} (h:p) (t:p→q:=by (intro h9;simp +decide only [List.forall_mem_cons,VE,VV,if_true,if_false] at h9;exact h9)):q:=t h
theorem zzc {F:Nat→Prop} {p:Nat × Option Tmp} {r:List (Nat × Option Tmp)} (h:F p.1) (hr:∀ q ∈ r,F q.1):∀ q ∈ p :: r,F q.1:=Members.cons h hr
theorem zzn {F:Nat→Prop}:∀ p ∈ ([]:List (Nat × Option Tmp)),F p.1:=Members.nil F
theorem zzF {w:World} {R:Value→World→Prop} {G:Value→World→Prop} {q:Prop} (hK:Shut (∀ u w',Ext w w'→R u w'→G u w')) (v:Value) (h:R v w:=by exact rfl) (t:G v w→q:=by (intro h9;(try simp only [aO] at h9);exact h9)):q:=t (hK.out v w (Ext.refl _) h)
theorem zzK {p q:Prop} (h:p) (t:p→q:=by (intro h9;(try simp only [aO] at h9);exact h9)):q:=t h
theorem zzj {P:Program} {md:Region.Mode} {ops:Array Oper} {Q:Exit→Act→World→Prop} {S:World→Prop} {l0:Array Bool} {a0:Act} {w0:World} (V:Nat→Value→World→Prop) (J:List (Nat × Option Tmp)) (fuel:Nat)
    (hSE:∀ w w',S w→Ext w w'→S w') (hVE:∀ j v w w',V j v w→Ext w w'→V j v w') (hM:∀ p ∈ J,Member P md ops S V J a0 w0 p.1)
    (hE:∀ env w,Ext w0 w→S w→(∀ p ∈ J,V p.1 (env p.1) w)→wpAnyH P md ops Q S fuel (eV l0 J) (bD a0 J env) w) {m:Nat} (hs:Region.noSelect ops=true:=by kernel_rfl) (hB:fT md ops l0 a0.tmps.size J=true:=by kernel_rfl) (h0:S w0:=by exact aA) (hm:m=fuel+J.length:=by rfl):wpAnyH P md ops Q S m l0 a0 w0 :=
  cJ V J hs hB hSE hVE h0 hM hm hE
end
end Go.Proofs.YtohmmcahpakokaaGreat
