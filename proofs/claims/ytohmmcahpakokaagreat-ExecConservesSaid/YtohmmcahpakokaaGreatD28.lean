/- state.Compare once more: its world, by draws and new blocks alone (as the kit's sort asks it of a comparison). -/
import Derived.Test.YtohmmcahpakokaaGreatD25
set_option maxRecDepth 100000
set_option maxHeartbeats 8000000
set_option linter.unusedVariables false
set_option linter.unusedSimpArgs false
namespace Go.Proofs.YtohmmcahpakokaaGreat
section
open Go.RowKit
instance:RowB CeR where
 ow w b c:=ceW c
 ok _ _ _ h:=h
 ext _ _ _ _ h _:=h
 kept _ _ _ _ _ _ _ _ _ _ _ h _ _ _:=h
 mono _ _ _ _ h _:=h
namespace GW
attribute [local go_sem ↓] Go.wp_at_zero Go.wp_at_succ
instance {w w':World}:Coe (Grw w w') (Ext w w'):=⟨fun h=>h.1⟩
section
variable {P:Program} {ops:Array Oper} {Q:Exit→Act→World→Prop} {md:Region.Mode} {S:World→Prop}
def Comes (P:Program) (o:Oper) (a:Act) (w:World) (R:Value→World→Prop):Prop :=
 match (execOp a.eval o).run P w with
 | .ok (.value u) w'=>R u w'
 | .ok .skip w'=>R undef w'
 | .ok (.enter f args) w'=>Calls P f args w' fun e w''=>∃ u,e=.returned u∧R u w''
 | .ok (.row row args) w'=>Rows P row args w' fun u w''=>R u w''
 | _=>False
theorem put_back {a:Act} {x:Option Tmp} {u v:Value} (hd:∀ d,x=some d→d < a.tmps.size) (h:a.put x u=a.put x v):x ≠ none→v=u:=by
 intro hn
 cases x with
 | none=>exact absurd rfl hn
 | some d =>
  have h1:=congrArg (fun b:Act=>b.tmps[d]?) h
  simp only [Act.put,Array.getElem?_setIfInBounds_self_of_lt (hd d rfl)] at h1
  exact (Option.some.inj h1).symm
theorem comes_of_wp {o:Oper} {a:Act} {w:World} {R:Value→World→Prop} (hd:∀ d,o.dst=some d→d < a.tmps.size)
  (h:∀ K:Act→World→Prop,Shut (∀ u w',R u w'→K (a.put o.dst u) w')→o.wp P a w K (fun _ _ _=>False)):Comes P o a w (fun u w'=>∃ v,(o.dst ≠ none→v=u)∧R v w'):=by
 have:=h (fun a' w'=>∃ u,a'=a.put o.dst u∧R u w') (fun u w' hR=>⟨u,rfl,hR⟩)
 unfold Oper.wp at this
 unfold Comes
 generalize (execOp a.eval o).run P w=r at *
 cases r with
 | ok n w' =>
  cases n <;> simp only [Oper.upon] at this ⊢
  case value u=>obtain ⟨v,h1,h2⟩:=this;exact ⟨v,put_back hd h1,h2⟩
  case skip=>obtain ⟨v,h1,h2⟩:=this;exact ⟨v,put_back hd h1,h2⟩
  case defer d =>
   obtain ⟨v,h1,h2⟩:=this
   have h3:=congrArg Act.defers h1
   rw [put_def,put_def] at h3
   have:=congrArg List.length h3
   simp at this
  case enter f args =>
   refine Calls.mono this fun e w'' he=>?_
   cases e with
   | returned u=>obtain ⟨v,h1,h2⟩:=he;exact ⟨u,rfl,v,put_back hd h1,h2⟩
   | panicked c=>exact he.elim
   | outgrown=>obtain ⟨_,_,hh⟩:=he;exact hh.elim
  case row row args=>exact Rows.mono this fun u w'' he=>by obtain ⟨v,h1,h2⟩:=he;exact ⟨v,put_back hd h1,h2⟩
 | halt x w'=>cases x <;> simp only [Oper.upon] at this
theorem wp_of_comes {o:Oper} {a:Act} {w:World} {R:Value→World→Prop} {K:Act→World→Prop} (h:Comes P o a w R) (hK:∀ u w',R u w'→K (a.put o.dst u) w'):o.wp P a w K Q:=by
 unfold Comes at h
 unfold Oper.wp
 generalize (execOp a.eval o).run P w=r at *
 cases r with
 | ok n w' =>
  cases n <;> simp only [Oper.upon] at h ⊢
  case value u=>exact hK _ _ h
  case skip=>exact hK _ _ h
  case enter f args =>
   refine Calls.mono h fun e w'' he=>?_
   obtain ⟨u,rfl,hR⟩:=he
   exact hK _ _ hR
  case row row args=>exact Rows.mono h fun u w'' he=>hK _ _ he
 | halt x w'=>cases x <;> simp only at h
theorem exec_same {o:Oper} {a b:Act} (hs:∀ cs z,o.op ≠ .select cs z) (h:∀ t ∈ o.looksAt ops,a.tmps.getD t undef=b.tmps.getD t undef) :
  execOp a.eval o=execOp b.eval o∧Region.wanted o (yielded ops a.tmps)=Region.wanted o (yielded ops b.tmps):=by
 refine ⟨execOp_congr o hs fun x hx=>?_,?_⟩
 ·cases x with
  | tmp t=>exact h t (List.mem_append_left _ (List.mem_filterMap.2 ⟨.tmp t,by simpa using hx,rfl⟩))
  | _=>rfl
 unfold Region.wanted
 cases hg:o.guard with
 | none=>rfl
 | some gw =>
  obtain ⟨g,want⟩:=gw
  have hy:yielded ops a.tmps g=yielded ops b.tmps g:=by
   unfold yielded
   cases ht:(ops[g]?).bind (·.dst) with
   | none=>rfl
   | some t =>
    have:=h t (by unfold Oper.looksAt;rw [hg];exact List.mem_append_right _ (by simp [ht]))
    have key:∀ x:Option Value,(match x with | some (.bool z)=>some z | _=>none)=(match x.getD undef with | .bool z=>some z | _=>none):=fun x=>by
     cases x with
     | none=>rfl
     | some v=>cases v <;> rfl
    have h2:a.tmps[t]?.getD undef=b.tmps[t]?.getD undef:=by simpa using this
    refine (key _).trans (Eq.trans ?_ (key _).symm)
    simp only [Option.bind_some,h2]
  simp only [hy]
def slotOf (ops:Array Oper) (j:Nat):Option Tmp:=(ops[j]?).bind (·.dst)
def putAll (a:Act) (J:List (Nat × Option Tmp)) (env:Nat→Value):Act:=J.foldl (fun a p=>a.put p.2 (env p.1)) a
def setAll (l:Array Bool) (J:List (Nat × Option Tmp)):Array Bool:=J.foldl (fun l p=>l.setIfInBounds p.1 true) l
theorem setAll_size (J:List (Nat × Option Tmp)):∀ l:Array Bool,(setAll l J).size=l.size:=by
 induction J with
 | nil=>intro l;rfl
 | cons p r ih=>intro l;show (setAll (l.setIfInBounds p.1 true) r).size=_;rw [ih];simp
theorem setAll_get (J:List (Nat × Option Tmp)):∀ (l:Array Bool) (i:Nat),i < l.size→(setAll l J)[i]?=if (J.any fun p=>p.1 == i)=true then some true else l[i]?:=by
 induction J with
 | nil=>intro l i hi;rfl
 | cons p r ih =>
  intro l i hi
  show (setAll (l.setIfInBounds p.1 true) r)[i]?=_
  rw [ih _ _ (by rw [Array.size_setIfInBounds];exact hi),List.any_cons]
  by_cases h:p.1=i
  ·subst h;simp [hi]
  rw [Array.getElem?_setIfInBounds_ne h,beq_false_of_ne h,Bool.false_or]
theorem putAll_defers (J:List (Nat × Option Tmp)) (env:Nat→Value):∀ a:Act,(putAll a J env).defers=a.defers:=by
 induction J with
 | nil=>intro a;rfl
 | cons p r ih=>intro a;show (putAll (a.put p.2 (env p.1)) r env).defers=_;rw [ih,put_def]
theorem put_size (a:Act) (x:Option Tmp) (v:Value):(a.put x v).tmps.size=a.tmps.size:=by cases x <;> simp [Act.put]
theorem putAll_size (J:List (Nat × Option Tmp)) (env:Nat→Value):∀ a:Act,(putAll a J env).tmps.size=a.tmps.size:=by
 induction J with
 | nil=>intro a;rfl
 | cons p r ih=>intro a;show (putAll (a.put p.2 (env p.1)) r env).tmps.size=_;rw [ih,put_size]
theorem put_getD (a:Act) (x:Option Tmp) (v:Value) (t:Tmp):(a.put x v).tmps.getD t undef=if x=some t∧t < a.tmps.size then v else a.tmps.getD t undef:=by
 cases x with
 | none=>simp [Act.put]
 | some d =>
  simp only [Act.put,Option.some.injEq]
  by_cases h:d=t
  ·subst h
   by_cases hl:d < a.tmps.size
   ·simp [hl]
   simp [hl]
  simp [h,Array.getElem?_setIfInBounds_ne h]
theorem putAll_miss (env:Nat→Value) (t:Tmp):∀ (J:List (Nat × Option Tmp)) (a:Act),(∀ p ∈ J,p.2 ≠ some t)→(putAll a J env).tmps.getD t undef=a.tmps.getD t undef
 | [],a,_=>rfl
 | p :: r,a,h=>by
  show (putAll (a.put p.2 (env p.1)) r env).tmps.getD t undef=_
  rw [putAll_miss env t r _ (fun q hq=>h q (List.mem_cons_of_mem _ hq)),put_getD,if_neg (fun hh=>h p (List.mem_cons_self ..) hh.1)]
theorem putAll_hit (env:Nat→Value) (t:Tmp) (i:Nat):∀ (J:List (Nat × Option Tmp)) (a:Act),t < a.tmps.size→(i,some t) ∈ J→(∀ p ∈ J,p.2=some t→p.1=i)→(putAll a J env).tmps.getD t undef=env i
 | [],a,_,h,_=>by cases h
 | p :: r,a,hl,h,hu=>by
  show (putAll (a.put p.2 (env p.1)) r env).tmps.getD t undef=_
  by_cases hr:(i,some t) ∈ r
  ·exact putAll_hit env t i r _ (by rw [put_size];exact hl) hr (fun q hq=>hu q (List.mem_cons_of_mem _ hq))
  have hp:p=(i,some t):=by
   rcases List.mem_cons.1 h with h | h
   ·exact h.symm
   exact absurd h hr
  subst hp
  rw [putAll_miss env t r _ (fun q hq e=>hr (by have h1:=hu q (List.mem_cons_of_mem _ hq) e;obtain ⟨q1,q2⟩:=q;simp only at e h1;subst e;subst h1;exact hq)),put_getD,if_pos ⟨rfl,hl⟩]
def subs:List (Nat × Option Tmp)→List (List (Nat × Option Tmp))
 | []=>[[]]
 | x :: r=>subs r ++ (subs r).map (x :: ·)
theorem filter_subs (f:Nat × Option Tmp→Bool):∀ J,J.filter f ∈ subs J
 | []=>by simp [subs]
 | x :: r=>by
  rw [List.filter_cons]
  unfold subs
  split
  ·exact List.mem_append_right _ (List.mem_map.2 ⟨_,filter_subs f r,rfl⟩)
  exact List.mem_append_left _ (filter_subs f r)
def depB (md:Region.Mode) (ops:Array Oper) (p q:Nat):Bool:=match ops[p]? with
 | some o=>o.after.toList.any fun e=>Region.binds md e && e.on == q
 | none=>false
def jointB (md:Region.Mode) (ops:Array Oper) (listed:Array Bool) (n:Nat) (J:List (Nat × Option Tmp)):Bool :=
 decide (J.map (·.1)).Nodup && (
 J.all (fun p=>decide (p.1 < listed.size) && (listed.getD p.1 true == false) && (slotOf ops p.1 == p.2) && (match p.2 with | some d=>decide (d < n) | none=>true)) &&
 J.all (fun p=>J.all fun q=>p.1 == q.1 || p.2 == none || !(p.2 == q.2)) &&
 ((subs J).all fun D=>D.length == J.length || !(D.all fun p=>J.all fun q=>!(depB md ops p.1 q.1) || D.contains q) || (!(Region.ready md ops (setAll listed D)).isEmpty && (Region.ready md ops (setAll listed D)).all fun i=>J.any fun p=>p.1 == i)))
def memberB (md:Region.Mode) (ops:Array Oper) (J D:List (Nat × Option Tmp)) (o:Oper):Bool :=
 (o.looksAt ops).all (fun t=>J.all fun p=>!(p.2 == some t) || (D.contains p && o.after.toList.any fun e=>Region.binds md e && e.on == p.1)) &&
 D.all (fun p=>J.contains p && (o.looksAt ops).any (fun t=>p.2 == some t))
def Member (P:Program) (md:Region.Mode) (ops:Array Oper) (S:World→Prop) (V:Nat→Value→World→Prop) (J:List (Nat × Option Tmp)) (a0:Act) (w0:World) (j:Nat):Prop :=
 ∃ (o:Oper) (D:List (Nat × Option Tmp)),ops[j]?=some o∧memberB md ops J D o=true ∧
  ∀ env w,Grw w0 w→S w→(∀ p ∈ D,V p.1 (env p.1) w) →
   (Region.wanted o (yielded ops (putAll a0 D env).tmps)=true→∀ K:Act→World→Prop,Shut (∀ u w',Grw w w'→V j u w'→K ((putAll a0 D env).put o.dst u) w')→o.wp P (putAll a0 D env) w K (fun _ _ _=>False)) ∧
   (Region.wanted o (yielded ops (putAll a0 D env).tmps)=false→V j undef w)
structure JI (md:Region.Mode) (ops:Array Oper) (S:World→Prop) (V:Nat→Value→World→Prop) (J:List (Nat × Option Tmp)) (a0:Act) (l0:Array Bool) (w0:World) (env:Nat→Value) (l:Array Bool) (a:Act) (w:World):Prop where
 ext:Grw w0 w
 s:S w
 lsz:l.size=l0.size
 lout:∀ i,(∀ p ∈ J,p.1 ≠ i)→l[i]?=l0[i]?
 dfr:a.defers=a0.defers
 tsz:a.tmps.size=a0.tmps.size
 val:∀ p ∈ J,l.getD p.1 true=true→V p.1 (env p.1) w
 hit:∀ p ∈ J,l.getD p.1 true=true→∀ t,p.2=some t→a.tmps.getD t undef=env p.1
 miss:∀ t,(∀ p ∈ J,l.getD p.1 true=true→p.2 ≠ some t)→a.tmps.getD t undef=a0.tmps.getD t undef
 cl:∀ p ∈ J,l.getD p.1 true=true→∀ q ∈ J,depB md ops p.1 q.1=true→l.getD q.1 true=true
theorem act_ext {a b:Act} (hd:a.defers=b.defers) (hz:a.tmps.size=b.tmps.size) (h:∀ t,a.tmps.getD t undef=b.tmps.getD t undef):a=b:=by
 obtain ⟨ta,da⟩:=a
 obtain ⟨tb,db⟩:=b
 simp only at hd hz h
 subst hd
 have:ta=tb:=by
  apply Array.ext hz
  intro i h1 h2
  have:=h i
  simpa [h1,h2] using this
 rw [this]
section
variable {V:Nat→Value→World→Prop} {J:List (Nat × Option Tmp)} {a0:Act} {l0:Array Bool} {w0:World}
theorem jointB_nd {n:Nat} (h:jointB md ops l0 n J=true):(J.map (·.1)).Nodup:=by
 unfold jointB at h
 rw [Bool.and_eq_true,decide_eq_true_eq] at h
 exact h.1
theorem jointB_out {n:Nat} (h:jointB md ops l0 n J=true) :
  (∀ p ∈ J,p.1 < l0.size∧l0.getD p.1 true=false∧slotOf ops p.1=p.2∧∀ d,p.2=some d→d < n) ∧
  (∀ p ∈ J,∀ q ∈ J,p.1 ≠ q.1→∀ t,p.2=some t→q.2 ≠ some t) ∧
  (∀ D ∈ subs J,D.length ≠ J.length→(∀ p ∈ D,∀ q ∈ J,depB md ops p.1 q.1=true→q ∈ D)→Region.ready md ops (setAll l0 D) ≠ []∧∀ i ∈ Region.ready md ops (setAll l0 D),∃ p ∈ J,p.1=i):=by
 unfold jointB at h
 rw [Bool.and_eq_true] at h
 replace h:=h.2
 simp only [Bool.and_eq_true,List.all_eq_true,decide_eq_true_eq,beq_iff_eq,Bool.or_eq_true,Bool.not_eq_true',List.any_eq_true] at h
 obtain ⟨⟨h1,h2⟩,h3⟩:=h
 refine ⟨fun p hp=>?_,fun p hp q hq hne t ht e=>?_,fun D hD hne hcl=>?_⟩
 ·obtain ⟨⟨⟨a1, a2⟩, a3⟩, a4⟩ := h1 p hp
  refine ⟨a1,a2,a3,fun d hd=>?_⟩
  rw [hd] at a4;simpa using a4
 ·rcases h2 p hp q hq with (h | h) | h
  ·exact hne h
  ·rw [ht] at h;cases h
  rw [ht,e] at h;simp at h
 rcases h3 D hD with (h | h) | ⟨h,h'⟩
 ·exact absurd h hne
 ·have:(D.all fun p=>J.all fun q=>!(depB md ops p.1 q.1) || D.contains q)=true:=by
   rw [List.all_eq_true]
   intro p hp
   rw [List.all_eq_true]
   intro q hq
   cases hd:depB md ops p.1 q.1 with
   | false=>rfl
   | true=>simpa using hcl p hp q hq hd
  rw [this] at h;cases h
 exact ⟨fun e=>by rw [e] at h;simp at h,h'⟩
theorem JI.eqL {env:Nat→Value} {l:Array Bool} {a:Act} {w:World} {n:Nat} (hB:jointB md ops l0 n J=true) (h:JI md ops S V J a0 l0 w0 env l a w) :
  l=setAll l0 (J.filter fun p=>l.getD p.1 true):=by
 obtain ⟨b1,b2,b3⟩:=jointB_out hB
 apply Array.ext_getElem?
 intro i
 by_cases hi:i < l0.size
 ·rw [setAll_get _ _ _ hi]
  by_cases hJ:∃ p ∈ J,p.1=i
  ·obtain ⟨p, hp, rfl⟩ := hJ
   have hl:p.1 < l.size:=by rw [h.lsz];exact hi
   cases hv:l.getD p.1 true with
   | true =>
    rw [if_pos (List.any_eq_true.2 ⟨p,List.mem_filter.2 ⟨hp,hv⟩,by simp⟩)]
    simp [hl] at hv ⊢;exact hv
   | false =>
    rw [if_neg (by
     simp only [List.any_eq_true,List.mem_filter,beq_iff_eq,not_exists,not_and]
     rintro q ⟨hq,hq1⟩ e
     rw [e,hv] at hq1;cases hq1)]
    have:=(b1 p hp).2.1
    simp [hl,hi] at hv this ⊢;rw [hv,this]
  have hne:∀ p ∈ J,p.1 ≠ i:=fun p hp e=>hJ ⟨p,hp,e⟩
  rw [if_neg (by
   simp only [List.any_eq_true,List.mem_filter,beq_iff_eq,not_exists,not_and]
   rintro q ⟨hq,_⟩ e
   exact hne q hq e)]
  exact h.lout i hne
 rw [Array.getElem?_eq_none (by rw [h.lsz];omega),Array.getElem?_eq_none (by rw [setAll_size];omega)]
theorem JI.full {env:Nat→Value} {l:Array Bool} {a:Act} {w:World} (hB:jointB md ops l0 a0.tmps.size J=true) (h:JI md ops S V J a0 l0 w0 env l a w) (hf:∀ p ∈ J,l.getD p.1 true=true) :
  l=setAll l0 J∧a=putAll a0 J env:=by
 obtain ⟨b1,b2,b3⟩:=jointB_out hB
 refine ⟨(h.eqL hB).trans (by rw [List.filter_eq_self.2 hf]),?_⟩
 refine act_ext (by rw [h.dfr,putAll_defers]) (by rw [h.tsz,putAll_size]) (fun t=>?_)
 by_cases ht:∃ p ∈ J,p.2=some t
 ·obtain ⟨p, hp, e⟩ := ht
  rw [h.hit p hp (hf p hp) t e,putAll_hit env t p.1 J a0 ((b1 p hp).2.2.2 t e) (by rw [← e];exact hp) (fun q hq e2=>Classical.byContradiction fun hne=>b2 p hp q hq (Ne.symm hne) t e e2)]
 rw [h.miss t (fun p hp _ e=>ht ⟨p,hp,e⟩),putAll_miss env t J a0 (fun p hp e=>ht ⟨p,hp,e⟩)]
theorem memberB_out {D:List (Nat × Option Tmp)} {o:Oper} (h:memberB md ops J D o=true) :
  (∀ t ∈ o.looksAt ops,∀ p ∈ J,p.2=some t→p ∈ D∧∃ e ∈ o.after,Region.binds md e=true∧e.on=p.1)∧(∀ p ∈ D,p ∈ J∧∃ t ∈ o.looksAt ops,p.2=some t):=by
 unfold memberB at h
 simp only [Bool.and_eq_true,List.all_eq_true,Bool.or_eq_true,Bool.not_eq_true',beq_iff_eq,List.contains_iff_mem,List.any_eq_true,Array.mem_toList_iff] at h
 obtain ⟨h1,h2⟩:=h
 refine ⟨fun t ht p hp e=>?_,fun p hp=>h2 p hp⟩
 rcases h1 t ht p hp with h | h
 ·rw [e] at h;simp at h
 exact h
theorem JI.comes {env:Nat→Value} {l:Array Bool} {a:Act} {w:World} (hs:Region.noSelect ops=true) (hB:jointB md ops l0 a0.tmps.size J=true) (hM:∀ p ∈ J,Member P md ops S V J a0 w0 p.1)
  (h:JI md ops S V J a0 l0 w0 env l a w) {p:Nat × Option Tmp} (hp:p ∈ J) (hr:p.1 ∈ Region.ready md ops l) :
  ∃ o,ops[p.1]?=some o∧o.dst=p.2∧(Region.wanted o (yielded ops a.tmps)=true→Comes P o a w fun u w'=>∃ v,(o.dst ≠ none→v=u)∧Grw w w'∧V p.1 v w')∧(Region.wanted o (yielded ops a.tmps)=false→V p.1 undef w):=by
 obtain ⟨b1,b2,b3⟩:=jointB_out hB
 obtain ⟨o,D,ho,hm,hstep⟩:=hM p hp
 obtain ⟨m1,m2⟩:=memberB_out hm
 obtain ⟨hun,o',ho',hall⟩:=mem_ready.1 hr
 rw [ho] at ho';cases ho'
 have hds:o.dst=p.2:=by have:=(b1 p hp).2.2.1;unfold slotOf at this;rw [ho] at this;exact this
 have hdone:∀ q ∈ D,l.getD q.1 true=true:=fun q hq=>by
  obtain ⟨hqJ,t,ht,e⟩:=m2 q hq
  obtain ⟨_,ed,hed,hb,heq⟩:=m1 t ht q hqJ e
  have h1:=hall ed hed hb
  rw [heq] at h1
  have hl:q.1 < l.size:=by rw [h.lsz];exact (b1 q hqJ).1
  simp only [Array.getD_eq_getD_getElem?] at h1 ⊢
  rw [Array.getElem?_eq_getElem hl] at h1 ⊢
  exact h1
 have hag:∀ t ∈ o.looksAt ops,a.tmps.getD t undef=(putAll a0 D env).tmps.getD t undef:=fun t ht=>by
  by_cases hq:∃ q ∈ J,q.2=some t
  ·obtain ⟨q, hqJ, e⟩ := hq
   have hqD:=(m1 t ht q hqJ e).1
   rw [h.hit q hqJ (hdone q hqD) t e,putAll_hit env t q.1 D a0 ((b1 q hqJ).2.2.2 t e) (by rw [← e];exact hqD) (fun r hr' e2=>Classical.byContradiction fun hne=>b2 q hqJ r (m2 r hr').1 (Ne.symm hne) t e e2)]
  rw [h.miss t (fun q hq1 _ e=>hq ⟨q,hq1,e⟩),putAll_miss env t D a0 (fun q hq1 e=>hq ⟨q,(m2 q hq1).1,e⟩)]
 obtain ⟨e1,e2⟩:=exec_same (ops:=ops) (fun cs z=>Region.noSelect_spec hs p.1 o cs z ho) hag
 obtain ⟨s1,s2⟩:=hstep env w h.ext h.s (fun q hq=>h.val q (m2 q hq).1 (hdone q hq))
 refine ⟨o,ho,hds,fun hw=>?_,fun hw=>s2 (by rw [← e2];exact hw)⟩
 have:=comes_of_wp (R:=fun u w'=>Grw w w'∧V p.1 u w') (by rw [putAll_size];intro d hd;exact (b1 p hp).2.2.2 d (by rw [← hds];exact hd)) (fun K hK=>s1 (by rw [← e2];exact hw) K (fun u w' h1 h2=>hK.out u w' ⟨h1,h2⟩))
 unfold Comes at this ⊢
 rw [e1];exact this
theorem count_dec (f:Nat→Bool) (i:Nat):∀ J:List (Nat × Option Tmp),(J.map (·.1)).Nodup→(∃ p ∈ J,p.1=i)→f i=false→(J.filter fun q=>!(if q.1=i then true else f q.1)).length+1=(J.filter fun q=>!f q.1).length
 | [],_,h,_=>by obtain ⟨p,hp,_⟩:=h;cases hp
 | p :: r,hd,h,hf=>by
  rw [List.map_cons,List.nodup_cons] at hd
  by_cases e:p.1=i
  ·have hr : (r.filter fun q => !(if q.1 = i then true else f q.1)) = r.filter fun q => !f q.1 := List.filter_congr (fun q hq => by rw [if_neg (fun e2 => hd.1 (by rw [e, ← e2]; exact List.mem_map.2 ⟨q, hq, rfl⟩))])
   rw [List.filter_cons,List.filter_cons,if_neg (by simp [e]),if_pos (by rw [e,hf];rfl),hr,List.length_cons]
  have ih:=count_dec f i r hd.2 (by
   obtain ⟨q,hq,e2⟩:=h
   rcases List.mem_cons.1 hq with rfl | hq
   ·exact absurd e2 e
   exact ⟨q,hq,e2⟩) hf
  rw [List.filter_cons,List.filter_cons,if_neg e]
  split <;> (try simp only [List.length_cons]) <;> omega
theorem held_joint_at (hs:Region.noSelect ops=true) (hB:jointB md ops l0 a0.tmps.size J=true)
  (hSE:∀ w w',S w→Grw w w'→S w') (hVE:∀ j v w w',V j v w→Grw w w'→V j v w') (hM:∀ p ∈ J,Member P md ops S V J a0 w0 p.1) {fuel:Nat}
  (hE:∀ env w,Grw w0 w→S w→(∀ p ∈ J,V p.1 (env p.1) w)→wpAnyH P md ops Q S fuel (setAll l0 J) (putAll a0 J env) w) :
  ∀ (m:Nat) (env:Nat→Value) (l:Array Bool) (a:Act) (w:World),JI md ops S V J a0 l0 w0 env l a w→(J.filter fun p=>!l.getD p.1 true).length=m→wpAnyH P md ops Q S (fuel+m) l a w:=by
 obtain ⟨b1,b2,b3⟩:=jointB_out hB
 intro m
 induction m with
 | zero =>
  intro env l a w h hm
  have hf:∀ p ∈ J,l.getD p.1 true=true:=fun p hp=>by
   have:=List.length_eq_zero_iff.1 hm
   rw [List.filter_eq_nil_iff] at this
   simpa using this p hp
  obtain ⟨rfl,rfl⟩:=h.full hB hf
  exact hE env w h.ext h.s (fun p hp=>h.val p hp (hf p hp))
 | succ m ih =>
  intro env l a w h hm
  have hlen:(J.filter fun p=>l.getD p.1 true).length ≠ J.length:=fun e=>by
   have h2:=List.length_filter_eq_length_iff.1 e
   have:(J.filter fun p=>!l.getD p.1 true)=[]:=List.filter_eq_nil_iff.2 (fun p hp=>by simp [h2 p hp])
   rw [this] at hm;cases hm
  obtain ⟨r1,r2⟩:=b3 _ (filter_subs (fun p=>l.getD p.1 true) J) hlen (fun p hp q hq hd=>List.mem_filter.2 ⟨hq,h.cl p (List.mem_filter.1 hp).1 (List.mem_filter.1 hp).2 q hq hd⟩)
  rw [← h.eqL hB] at r1 r2
  refine ⟨fun e=>absurd e r1,fun i hi=>?_⟩
  obtain ⟨p,hp,rfl⟩:=r2 i hi
  obtain ⟨o,ho,hds,c1,c2⟩:=h.comes hs hB hM hp hi
  have hun:=(mem_ready.1 hi).1
  have hpl:p.1 < l.size:=by rw [h.lsz];exact (b1 p hp).1
  have key:∀ v u w',(o.dst ≠ none→v=u)→Grw w w'→V p.1 v w'→S w'∧wpAnyH P md ops Q S (fuel+m) (l.setIfInBounds p.1 true) (a.put o.dst u) w':=by
   intro v u w' hvu he hv
   refine ⟨hSE _ _ h.s he,ih (fun i=>if i=p.1 then v else env i) _ _ _ ?_ ?_⟩
   ·have hg:∀ q,q ∈ J→(l.setIfInBounds p.1 true).getD q.1 true=true→q.1=p.1 ∨ (q.1 ≠ p.1∧l.getD q.1 true=true):=fun q hq hh=>by
     by_cases e:q.1=p.1
     ·exact .inl e
     rw [getD_set_ne true (Ne.symm e)] at hh;exact .inr ⟨e,hh⟩
    have hsame:∀ q,q ∈ J→q.1=p.1→q.2=p.2:=fun q hq e=>by rw [← (b1 q hq).2.2.1,e,(b1 p hp).2.2.1]
    refine ⟨h.ext.trans he,hSE _ _ h.s he,by rw [Array.size_setIfInBounds];exact h.lsz,fun i hi'=>?_,by rw [put_def];exact h.dfr,by rw [put_size];exact h.tsz,fun q hq hh=>?_,fun q hq hh t ht=>?_,fun t ht=>?_,fun q hq hh r hr hd=>?_⟩
    ·rw [Array.getElem?_setIfInBounds_ne (hi' p hp)];exact h.lout i hi'
    ·rcases hg q hq hh with e | ⟨e, h2⟩
     ·simp only [e,if_true];exact hv
     simp only [e,if_false];exact hVE _ _ _ _ (h.val q hq h2) he
    ·rw [put_getD]
     rcases hg q hq hh with e | ⟨e,h2⟩
     ·have h3 := hsame q hq e
      rw [if_pos ⟨by rw [hds,← h3];exact ht,by rw [h.tsz];exact (b1 q hq).2.2.2 t ht⟩]
      simp only [e,if_true]
      exact (hvu (by rw [hds,← h3,ht];simp)).symm
     rw [if_neg (fun hh=>b2 q hq p hp e t ht (by rw [← hds];exact hh.1)),h.hit q hq h2 t ht]
     simp only [e,if_false]
    ·rw [put_getD, if_neg (fun hh => ht p hp (by simp [hpl]) (by rw [← hds]; exact hh.1))]
     refine h.miss t (fun q hq h2=>ht q hq ?_)
     by_cases e:q.1=p.1
     ·rw [e];simp [hpl]
     rw [getD_set_ne true (Ne.symm e)];exact h2
    have hlr:l.getD r.1 true=true:=by
     rcases hg q hq hh with e | ⟨e,h2⟩
     ·rw [e] at hd
      unfold depB at hd
      rw [ho] at hd
      simp only [List.any_eq_true,Bool.and_eq_true,beq_iff_eq,Array.mem_toList_iff] at hd
      obtain ⟨ed,hed,hb,heq⟩:=hd
      obtain ⟨_,o',ho',hall⟩:=mem_ready.1 hi
      rw [ho] at ho';cases ho'
      have h3:=hall ed hed hb
      rw [heq] at h3
      have hrl:r.1 < l.size:=by rw [h.lsz];exact (b1 r hr).1
      simp only [Array.getD_eq_getD_getElem?] at h3 ⊢
      rw [Array.getElem?_eq_getElem hrl] at h3 ⊢
      exact h3
     exact h.cl q hq h2 r hr hd
    by_cases e:r.1=p.1
    ·rw [e];simp [hpl]
    rw [getD_set_ne true (Ne.symm e)];exact hlr
   have hc:(J.filter fun q=>!(l.setIfInBounds p.1 true).getD q.1 true)=J.filter fun q=>!(if q.1=p.1 then true else l.getD q.1 true):=by
    apply List.filter_congr
    intro q hq
    by_cases e:q.1=p.1
    ·rw [e];simp [hpl]
    rw [getD_set_ne true (Ne.symm e),if_neg e]
   rw [hc]
   have:=count_dec (fun i=>l.getD i true) p.1 J (jointB_nd hB) ⟨p,hp,rfl⟩ hun
   omega
  unfold wpOp
  rw [ho]
  simp only
  split
  ·rename_i hw
   exact .inl (wp_of_comes (c1 hw) (fun u w' hR=>by obtain ⟨v,h1,h2,h3⟩:=hR;exact key v u w' h1 h2 h3))
  rename_i hw
  exact key undef undef w (fun _=>rfl) (Grw.refl w) (c2 (by simpa using hw))
def VV (j0:Nat) (A:Value→World→Prop) (R:Nat→Value→World→Prop):Nat→Value→World→Prop:=fun j v w=>if j=j0 then A v w else R j v w
def VN:Nat→Value→World→Prop:=fun _ _ _=>True
theorem VN.ext:∀ j v w w',VN j v w→Grw w w'→VN j v w':=fun _ _ _ _ _ _=>trivial
theorem VV.ext {j0:Nat} {A:Value→World→Prop} {R:Nat→Value→World→Prop} (hA:∀ v w w',A v w→Grw w w'→A v w') (hR:∀ j v w w',R j v w→Grw w w'→R j v w'):∀ j v w w',VV j0 A R j v w→Grw w w'→VV j0 A R j v w':=fun j v w w' h e=>by
 unfold VV at *
 split at h
 ·rename_i hj;rw [if_pos hj];exact hA _ _ _ h e
 rename_i hj;rw [if_neg hj];exact hR _ _ _ _ h e
theorem Member.mk' {j:Nat} (o:Oper) (D:List (Nat × Option Tmp)) (ho:ops[j]?=some o) (hg:o.guard=none) (hm:memberB md ops J D o=true)
  (h:∀ env w,Grw w0 w→S w→(∀ p ∈ D,V p.1 (env p.1) w)→∀ K:Act→World→Prop,Shut (∀ u w',Grw w w'→V j u w'→K ((putAll a0 D env).put o.dst u) w')→o.wp P (putAll a0 D env) w K (fun _ _ _=>False)):Member P md ops S V J a0 w0 j :=
 ⟨o,D,ho,hm,fun env w h1 h2 h3=>⟨fun _ K hK=>h env w h1 h2 h3 K hK,fun hw=>by simp [Region.wanted,hg] at hw⟩⟩
theorem Members.nil (F:Nat→Prop):∀ p ∈ ([]:List (Nat × Option Tmp)),F p.1:=fun p hp=>by cases hp
theorem Members.cons {F:Nat→Prop} {p:Nat × Option Tmp} {r:List (Nat × Option Tmp)} (h:F p.1) (hr:∀ q ∈ r,F q.1):∀ q ∈ p :: r,F q.1:=fun q hq=>by
 rcases List.mem_cons.1 hq with rfl | hq
 ·exact h
 exact hr q hq
theorem held_joint (V:Nat→Value→World→Prop) (J:List (Nat × Option Tmp)) (hs:Region.noSelect ops=true) (hB:jointB md ops l0 a0.tmps.size J=true)
  (hSE:∀ w w',S w→Grw w w'→S w') (hVE:∀ j v w w',V j v w→Grw w w'→V j v w') (h0:S w0) (hM:∀ p ∈ J,Member P md ops S V J a0 w0 p.1) {fuel m:Nat} (hm:m=fuel+J.length)
  (hE:∀ env w,Grw w0 w→S w→(∀ p ∈ J,V p.1 (env p.1) w)→wpAnyH P md ops Q S fuel (setAll l0 J) (putAll a0 J env) w):wpAnyH P md ops Q S m l0 a0 w0:=by
 obtain ⟨b1,b2,b3⟩:=jointB_out hB
 subst hm
 refine held_joint_at hs hB hSE hVE hM hE J.length (fun _=>undef) l0 a0 w0 ⟨Grw.refl _,h0,rfl,fun _ _=>rfl,rfl,rfl,fun p hp h=>?_,fun p hp h=>?_,fun _ _=>rfl,fun p hp h=>?_⟩ ?_
 ·rw [(b1 p hp).2.1] at h;cases h
 ·rw [(b1 p hp).2.1] at h;cases h
 ·rw [(b1 p hp).2.1] at h;cases h
 congr 1
 exact List.filter_eq_self.2 (fun p hp=>by rw [(b1 p hp).2.1];rfl)
end
end
theorem number_any (x:UInt64) (w:World) :
  Calls Tryz.prog 167 #[.agg (nmc x)] w fun e w'=>e=.returned (.int .u64 (un x))∧Grw w w':=by
 have hs:=nmc_size x
 have hl:=nL x
 go_enter Tryz.func167,Tryz.ntmps167
 go_wp2_with (refine wpList_load_row rfl 30 _ rfl _ rfl 30 _ (0,0) _ (heap_alloc_new w _) Tryz.underlying30 rfl (size61 x) ?_)
 go_loop [3,7] (fun v i=>∃ k:Nat,k≤8∧i=.int .i64 k∧v=.int .u64 (beNat ((nmb x).take k))) (fun _ i=>8 - (intOf i).toNat)
 case atStart=>exact ⟨0,by omega,rfl,rfl⟩
 case round =>
  obtain ⟨k,hk,rfl,rfl⟩:=hrel
  by_cases hlt:k < 8
  ·have hix := run_index_name x k hlt
   have hb:=beNat_lt ((nmb x).take k)
   rw [List.length_take,hl,Nat.min_eq_left (by omega)] at hb
   have hb7:beNat ((nmb x).take k) < 72057594037927936:=Nat.lt_of_lt_of_le hb (Nat.pow_le_pow_right (n:=256) (j:=7) (by omega) (by omega))
   have hor:=or_byte _ ((nmb x).getD k 0) hb7
   have HS:=zh (show beNat ((nmb x).take (k+1))=beNat ((nmb x).take k) * 256+((nmb x).getD k 0).toNat by rw [take_get _ _ (by omega),beNat_snoc])
   clear hb hb7 hl hs
   generalize beNat ((nmb x).take k)=a at *
   generalize (nmb x).getD k 0=c at *
   go_wp2
   go_round
   case rel=>exact ⟨k+1,by omega,by go_num,by rw [HS.out];go_num⟩
   case measure=>simp [intOf];omega
  have HS:=zh (show (beNat ((nmb x).take k):Int)=un x by rw [List.take_of_length_le (by omega),beNat_nmb];rfl)
  clear hl hs
  generalize beNat ((nmb x).take k)=a at *
  go_wp2
  go_ret
  exact ⟨by rw [← HS.out];rfl,(Grw.refl w).alloc _⟩
theorem compareNames_any (a b:UInt64) (w:World):Calls Tryz.prog 108 #[.agg (nmc a),.agg (nmc b)] w fun e w'=>e=.returned (.int .i64 (cmpN a b))∧Grw w w':=by
 have HA:=zh (show Blk ((w.alloc (.cells (nmc a) 30)).alloc (.cells (nmc b) 30)).drew w.heap.size 30 (nmc a) from ((Blk.new w 30 (nmc a)).alloc _).drew)
 have HB:=zh (show Blk ((w.alloc (.cells (nmc a) 30)).alloc (.cells (nmc b) 30)).drew (w.heap.size+1) 30 (nmc b) from Blk.drew (Blk.newAt _ _ _ _ (by simp)))
 have HE:=zh (show Grw w ((w.alloc (.cells (nmc a) 30)).alloc (.cells (nmc b) 30)).drew from (((Grw.refl w).alloc _).alloc _).drew)
 go_enter Tryz.func108,Tryz.ntmps108
 go_wp2_with fail
 refine wp_region_held_drew (S:=fun W=>Blk W w.heap.size 30 (nmc a)∧Blk W (w.heap.size+1) 30 (nmc b)) (by kernel_rfl) (⟨HA.out,HB.out⟩) (fun jj=>?_)
 refine zu 0 (v:=.agg (nmc a)) jj ?_ (hy:=by exact yL nmP (by rfl) (.tmp 2) rfl (w.heap.size) 0 rfl a _ rfl (fun W h=>nm_range h.1))
 refine zu 2 (v:=.agg (nmc b)) jj ?_ (hy:=by exact yL nmP (by rfl) (.tmp 3) rfl (w.heap.size+1) 0 rfl b _ rfl (fun W h=>nm_range h.2))
 refine held_joint (VV 1 (fun v W=>v=.int .u64 (un a)) (VV 3 (fun v W=>v=.int .u64 (un b)) (VV 4 (fun v W=>v=.int .i64 (cmpN a b)) (VN)))) [(1,some 6),(3,some 8),(4,some 9)] (fuel:=1) (by kernel_rfl) (by kernel_rfl) (fun W W' h e=>⟨h.1.ext e,h.2.ext e⟩) (VV.ext (fun v w w' h e=>h) (VV.ext (fun v w w' h e=>h) (VV.ext (fun v w w' h e=>h) (VN.ext)))) jj ?hm1 rfl ?hr1
 case hm1 =>
  refine Members.cons ?mm1_1 (Members.cons ?mm1_3 (Members.cons ?mm1_4 (Members.nil _)))
  case mm1_1 =>
   refine Member.mk' ({ dst:=some 6,op:=Op.call { callee:=Callee.value (Operand.func 167),args:=#[Operand.tmp 5],argTypes:=#[30] },type:=148,pos:="state.go:26",after:=#[{ on:=0,ground:=Ground.data }],guard:=none }) [] rfl rfl (by kernel_rfl) (fun env W hE hS hD K hK=>?_)
   clear hD
   try simp only [putAll,List.foldl_cons,List.foldl_nil,Act.put,List.setIfInBounds_toArray,List.set_cons_zero,List.set_cons_succ]
   go_simp
   go_at_call 167
   refine (number_any a _).mono ?_
   rintro e w5 ⟨rfl,he5⟩
   have hk:=hK.out (.int .u64 (un a)) _ (he5) (rfl)
   try simp only [putAll,List.foldl_cons,List.foldl_nil,Act.put,List.setIfInBounds_toArray,List.set_cons_zero,List.set_cons_succ] at hk
   exact hk
  case mm1_3 =>
   refine Member.mk' ({ dst:=some 8,op:=Op.call { callee:=Callee.value (Operand.func 167),args:=#[Operand.tmp 7],argTypes:=#[30] },type:=148,pos:="state.go:26",after:=#[{ on:=2,ground:=Ground.data },{ on:=1,ground:=Ground.chain }],guard:=none }) [] rfl rfl (by kernel_rfl) (fun env W hE hS hD K hK=>?_)
   clear hD
   try simp only [putAll,List.foldl_cons,List.foldl_nil,Act.put,List.setIfInBounds_toArray,List.set_cons_zero,List.set_cons_succ]
   go_simp
   go_at_call 167
   refine (number_any b _).mono ?_
   rintro e w5 ⟨rfl,he5⟩
   have hk:=hK.out (.int .u64 (un b)) _ (he5) (rfl)
   try simp only [putAll,List.foldl_cons,List.foldl_nil,Act.put,List.setIfInBounds_toArray,List.set_cons_zero,List.set_cons_succ] at hk
   exact hk
  case mm1_4 =>
   refine Member.mk' ({ dst:=some 9,op:=Op.call { callee:=Callee.value (Operand.func 166),args:=#[Operand.tmp 6,Operand.tmp 8],argTypes:=#[148,148] },type:=3,pos:="state.go:26",after:=#[{ on:=1,ground:=Ground.data },{ on:=3,ground:=Ground.data },{ on:=3,ground:=Ground.chain }],guard:=none }) [(1,some 6),(3,some 8)] rfl rfl (by kernel_rfl) (fun env W hE hS hD K hK=>?_)
   have h1:(fun v W=>v=.int .u64 (un a)) (env 1) W:=hD (1,some 6) (by simp)
   have h3:(fun v W=>v=.int .u64 (un b)) (env 3) W:=hD (3,some 8) (by simp)
   clear hD
   try simp only [putAll,List.foldl_cons,List.foldl_nil,Act.put,List.setIfInBounds_toArray,List.set_cons_zero,List.set_cons_succ] at hK ⊢
   generalize env 1=x1 at h1 hK ⊢
   generalize env 3=x3 at h3 hK ⊢
   subst h1
   subst h3
   go_simp
   go_at_call 166
   refine (compareU_any _ _ _).mono ?_
   rintro e w5 ⟨rfl,rfl⟩
   have hk:=hK.out (.int .i64 (cmpN a b)) _ (Grw.refl _) (rfl)
   try simp only [putAll,List.foldl_cons,List.foldl_nil,Act.put,List.setIfInBounds_toArray,List.set_cons_zero,List.set_cons_succ] at hk
   exact hk
 case hr1 =>
  intro env W hE hS hV
  have h1:(fun v W=>v=.int .u64 (un a)) (env 1) W:=hV (1,some 6) (by simp)
  have h3:(fun v W=>v=.int .u64 (un b)) (env 3) W:=hV (3,some 8) (by simp)
  have h4:(fun v W=>v=.int .i64 (cmpN a b)) (env 4) W:=hV (4,some 9) (by simp)
  clear hV
  try simp only [putAll,List.foldl_cons,List.foldl_nil,Act.put,List.setIfInBounds_toArray,List.set_cons_zero,List.set_cons_succ]
  generalize env 1=x1 at h1 ⊢
  generalize env 3=x3 at h3 ⊢
  generalize env 4=x4 at h4 ⊢
  subst h1
  subst h3
  subst h4
  have jj:=hS
  refine zt 5 jj ?_
  refine wpAnyH_done (by kernel_rfl) ?_ _
  have HX:=zh (HE.out.trans hE)
  go_wp2_with fail
  go_ret
  exact ⟨rfl,HX.out⟩
theorem compareC_any (a b:CeR) (w:World):Calls Tryz.prog 65 #[.agg (ceA a),.agg (ceA b)] w fun e w'=>e=.returned (.int .i64 (cmpC a b))∧Grw w w':=by
 have HA:=zh (show Blk ((w.alloc (.cells (ceA a) 32)).alloc (.cells (ceA b) 32)).drew w.heap.size 32 (ceA a) from ((Blk.new w 32 (ceA a)).alloc _).drew)
 have HB:=zh (show Blk ((w.alloc (.cells (ceA a) 32)).alloc (.cells (ceA b) 32)).drew (w.heap.size+1) 32 (ceA b) from Blk.drew (Blk.newAt _ _ _ _ (by simp)))
 have HE:=zh (show Grw w ((w.alloc (.cells (ceA a) 32)).alloc (.cells (ceA b) 32)).drew from (((Grw.refl w).alloc _).alloc _).drew)
 go_enter Tryz.func65,Tryz.ntmps65
 go_wp2_with fail
 refine wp_region_held_drew (S:=fun W=>Blk W w.heap.size 32 (ceA a)∧Blk W (w.heap.size+1) 32 (ceA b)) (by kernel_rfl) (⟨HA.out,HB.out⟩) (fun jj=>?_)
 refine zz0 [0,1,2,3,5,6,7,8,10] ?_;repeat first | refine zz1 ?_ (hy:=by intro W jS;have c0:=jS.1.cell 0;have c1:=jS.1.cell 1;have d0:=jS.2.cell 0;have d1:=jS.2.cell 1;go_simp <;> with_reducible rfl) | refine zz2 ?_ | refine zz9 ?_
 refine zu 11 (v:=.agg (nmc a.lk)) jj ?_ (hy:=by exact yL nmP (by rfl) (.tmp 15) rfl (w.heap.size) 2 rfl a.lk _ rfl (fun W h=>ce_name h.1))
 refine zt 12 jj ?_
 refine zu 13 (v:=.agg (nmc b.lk)) jj ?_ (hy:=by exact yL nmP (by rfl) (.tmp 17) rfl (w.heap.size+1) 2 rfl b.lk _ rfl (fun W h=>ce_name h.2))
 refine held_joint (VV 4 (fun v W=>v=.int .i64 (cmpI a.k b.k)) (VV 9 (fun v W=>v=.int .i64 (cmpI a.id b.id)) (VV 14 (fun v W=>v=.int .i64 (cmpN a.lk b.lk)) (VV 15 (fun v W=>∃ g,v=.slice (some ⟨g,0,none⟩) 3 3∧Blk W g 3 #[.int .i64 (cmpI a.k b.k),.int .i64 (cmpI a.id b.id),.int .i64 (cmpN a.lk b.lk)]) (VV 16 (fun v W=>v=.int .i64 (cmpC a b)) (VN)))))) [(4,some 9),(9,some 14),(14,some 19),(15,some 20),(16,some 21)] (fuel:=1) (by kernel_rfl) (by kernel_rfl) (fun W W' h e=>⟨h.1.ext e,h.2.ext e⟩) (VV.ext (fun v w w' h e=>h) (VV.ext (fun v w w' h e=>h) (VV.ext (fun v w w' h e=>h) (VV.ext (fun v w w' ⟨g,h1,h2⟩ e=>⟨g,h1,h2.ext e⟩) (VV.ext (fun v w w' h e=>h) (VN.ext)))))) jj ?hm2 rfl ?hr2
 case hm2 =>
  refine Members.cons ?mm2_4 (Members.cons ?mm2_9 (Members.cons ?mm2_14 (Members.cons ?mm2_15 (Members.cons ?mm2_16 (Members.nil _)))))
  case mm2_4 =>
   refine Member.mk' ({ dst:=some 9,op:=Op.call { callee:=Callee.value (Operand.func 127),args:=#[Operand.tmp 6,Operand.tmp 8],argTypes:=#[3,3] },type:=3,pos:="state.go:30",after:=#[{ on:=1,ground:=Ground.data },{ on:=3,ground:=Ground.data }],guard:=none }) [] rfl rfl (by kernel_rfl) (fun env W hE hS hD K hK=>?_)
   clear hD
   try simp only [putAll,List.foldl_cons,List.foldl_nil,Act.put,List.setIfInBounds_toArray,List.set_cons_zero,List.set_cons_succ]
   go_simp
   go_at_call 127
   refine (compareI_any _ _ _).mono ?_
   rintro e w5 ⟨rfl,rfl⟩
   have hk:=hK.out (.int .i64 (cmpI a.k b.k)) _ (Grw.refl _) (rfl)
   try simp only [putAll,List.foldl_cons,List.foldl_nil,Act.put,List.setIfInBounds_toArray,List.set_cons_zero,List.set_cons_succ] at hk
   exact hk
  case mm2_9 =>
   refine Member.mk' ({ dst:=some 14,op:=Op.call { callee:=Callee.value (Operand.func 127),args:=#[Operand.tmp 11,Operand.tmp 13],argTypes:=#[3,3] },type:=3,pos:="state.go:30",after:=#[{ on:=6,ground:=Ground.data },{ on:=8,ground:=Ground.data },{ on:=4,ground:=Ground.chain }],guard:=none }) [] rfl rfl (by kernel_rfl) (fun env W hE hS hD K hK=>?_)
   clear hD
   try simp only [putAll,List.foldl_cons,List.foldl_nil,Act.put,List.setIfInBounds_toArray,List.set_cons_zero,List.set_cons_succ]
   go_simp
   go_at_call 127
   refine (compareI_any _ _ _).mono ?_
   rintro e w5 ⟨rfl,rfl⟩
   have hk:=hK.out (.int .i64 (cmpI a.id b.id)) _ (Grw.refl _) (rfl)
   try simp only [putAll,List.foldl_cons,List.foldl_nil,Act.put,List.setIfInBounds_toArray,List.set_cons_zero,List.set_cons_succ] at hk
   exact hk
  case mm2_14 =>
   refine Member.mk' ({ dst:=some 19,op:=Op.call { callee:=Callee.value (Operand.func 108),args:=#[Operand.tmp 16,Operand.tmp 18],argTypes:=#[30,30] },type:=3,pos:="state.go:30",after:=#[{ on:=11,ground:=Ground.data },{ on:=13,ground:=Ground.data },{ on:=9,ground:=Ground.chain }],guard:=none }) [] rfl rfl (by kernel_rfl) (fun env W hE hS hD K hK=>?_)
   clear hD
   try simp only [putAll,List.foldl_cons,List.foldl_nil,Act.put,List.setIfInBounds_toArray,List.set_cons_zero,List.set_cons_succ]
   go_simp
   go_at_call 108
   refine (compareNames_any a.lk b.lk _).mono ?_
   rintro e w5 ⟨rfl,he5⟩
   have hk:=hK.out (.int .i64 (cmpN a.lk b.lk)) _ (he5) (rfl)
   try simp only [putAll,List.foldl_cons,List.foldl_nil,Act.put,List.setIfInBounds_toArray,List.set_cons_zero,List.set_cons_succ] at hk
   exact hk
  case mm2_15 =>
   refine Member.mk' ({ dst:=some 20,op:=Op.buildSlice 38 3 #[(0,Operand.tmp 9),(1,Operand.tmp 14),(2,Operand.tmp 19)],type:=38,pos:="state.go:30",after:=#[{ on:=4,ground:=Ground.data },{ on:=9,ground:=Ground.data },{ on:=14,ground:=Ground.data }],guard:=none }) [(4,some 9),(9,some 14),(14,some 19)] rfl rfl (by kernel_rfl) (fun env W hE hS hD K hK=>?_)
   have h4:(fun v W=>v=.int .i64 (cmpI a.k b.k)) (env 4) W:=hD (4,some 9) (by simp)
   have h9:(fun v W=>v=.int .i64 (cmpI a.id b.id)) (env 9) W:=hD (9,some 14) (by simp)
   have h14:(fun v W=>v=.int .i64 (cmpN a.lk b.lk)) (env 14) W:=hD (14,some 19) (by simp)
   clear hD
   try simp only [putAll,List.foldl_cons,List.foldl_nil,Act.put,List.setIfInBounds_toArray,List.set_cons_zero,List.set_cons_succ] at hK ⊢
   generalize env 4=x4 at h4 hK ⊢
   generalize env 9=x9 at h9 hK ⊢
   generalize env 14=x14 at h14 hK ⊢
   subst h4
   subst h9
   subst h14
   refine wp_build3 (.tmp 9) (.tmp 14) (.tmp 19) rfl rfl rfl rfl (run_buildI3 _ _ _ W) ?_
   have hk:=hK.out (.slice (some ⟨W.heap.size,0,none⟩) 3 3) _ ((Grw.refl _).alloc _) (⟨_,rfl,Blk.new _ _ _⟩)
   try simp only [putAll,List.foldl_cons,List.foldl_nil,Act.put,List.setIfInBounds_toArray,List.set_cons_zero,List.set_cons_succ] at hk
   exact hk
  case mm2_16 =>
   refine Member.mk' ({ dst:=some 21,op:=Op.call { callee:=Callee.value (Operand.func 126),args:=#[Operand.tmp 20],argTypes:=#[38] },type:=3,pos:="state.go:30",after:=#[{ on:=15,ground:=Ground.data },{ on:=14,ground:=Ground.chain }],guard:=none }) [(15,some 20)] rfl rfl (by kernel_rfl) (fun env W hE hS hD K hK=>?_)
   have h15:(fun v W=>∃ g,v=.slice (some ⟨g,0,none⟩) 3 3∧Blk W g 3 #[.int .i64 (cmpI a.k b.k),.int .i64 (cmpI a.id b.id),.int .i64 (cmpN a.lk b.lk)]) (env 15) W:=hD (15,some 20) (by simp)
   clear hD
   try simp only [putAll,List.foldl_cons,List.foldl_nil,Act.put,List.setIfInBounds_toArray,List.set_cons_zero,List.set_cons_succ] at hK ⊢
   generalize env 15=x15 at h15 hK ⊢
   obtain ⟨g,rfl,hb⟩:=h15
   go_simp
   go_at_call 126
   refine (or3_any _ _ _ g _ hb).mono ?_
   rintro e w5 ⟨rfl,rfl⟩
   have hk:=hK.out (.int .i64 (cmpC a b)) _ (Grw.refl _) (rfl)
   try simp only [putAll,List.foldl_cons,List.foldl_nil,Act.put,List.setIfInBounds_toArray,List.set_cons_zero,List.set_cons_succ] at hk
   exact hk
 case hr2 =>
  intro env W hE hS hV
  have h4:(fun v W=>v=.int .i64 (cmpI a.k b.k)) (env 4) W:=hV (4,some 9) (by simp)
  have h9:(fun v W=>v=.int .i64 (cmpI a.id b.id)) (env 9) W:=hV (9,some 14) (by simp)
  have h14:(fun v W=>v=.int .i64 (cmpN a.lk b.lk)) (env 14) W:=hV (14,some 19) (by simp)
  have h15:(fun v W=>∃ g,v=.slice (some ⟨g,0,none⟩) 3 3∧Blk W g 3 #[.int .i64 (cmpI a.k b.k),.int .i64 (cmpI a.id b.id),.int .i64 (cmpN a.lk b.lk)]) (env 15) W:=hV (15,some 20) (by simp)
  have h16:(fun v W=>v=.int .i64 (cmpC a b)) (env 16) W:=hV (16,some 21) (by simp)
  clear hV
  try simp only [putAll,List.foldl_cons,List.foldl_nil,Act.put,List.setIfInBounds_toArray,List.set_cons_zero,List.set_cons_succ]
  generalize env 4=x4 at h4 ⊢
  generalize env 9=x9 at h9 ⊢
  generalize env 14=x14 at h14 ⊢
  generalize env 15=x15 at h15 ⊢
  generalize env 16=x16 at h16 ⊢
  subst h4
  subst h9
  subst h14
  subst h16
  obtain ⟨g,rfl,hb⟩:=h15
  have jj:=hS
  refine zt 17 jj ?_
  refine wpAnyH_done (by kernel_rfl) ?_ _
  have HX:=zh (HE.out.trans hE)
  go_wp2_with fail
  go_ret
  exact ⟨rfl,HX.out⟩
end GW
end
end Go.Proofs.YtohmmcahpakokaaGreat
