import Derived.Test.YtgmnmjeccfnmbaaGreatED
import Derived.Deep.RegionHeld3
namespace Go.Proofs.YtgmnmjeccfnmbaaGreat
open Go
set_option linter.unusedVariables false
section
variable {P : Program} {ops : Array Oper} {Q : Exit → Act → World → Prop} {md : Region.Mode} {S : World → Prop}
def Fx (P : Program) (ops : Array Oper) (S : World → Prop) (o : Oper) (v : Value) (a : Act) : Prop :=
 ∀ w, S w → ∀ K : Act → World → Prop, Shut (∀ w', S w' → K (a.put o.dst v) w') → if Region.wanted o (yielded ops a.tmps) = true then o.wp P a w K (fun _ _ _ => False) else K (a.put o.dst undef) w
def pB (P : Program) (S : World → Prop) (o : Oper) (v : Value) (a : Act) : Result Next → Prop
 | .ok (.value u) w' => a.put o.dst u = a.put o.dst v ∧ S w'
 | .ok .skip w' => a.put o.dst undef = a.put o.dst v ∧ S w'
 | .ok (.enter f args) w' => Calls P f args w' fun e w'' => ∃ u, e = .returned u ∧ a.put o.dst u = a.put o.dst v ∧ S w''
 | .ok (.row row args) w' => Rows P row args w' fun u w'' => a.put o.dst u = a.put o.dst v ∧ S w''
 | _ => False
theorem aHP {o : Oper} {a : Act} {w : World} {K : Act → World → Prop} {Q1 Q2 : Exit → Act → World → Prop} (hq : ∀ e a w, Q1 e a w → Q2 e a w) (h : o.wp P a w K Q1) : o.wp P a w K Q2 := by
 unfold Oper.wp at *
 generalize (execOp a.eval o).run P w = r at *
 cases r with
 | ok n w' =>
  cases n <;> simp only [Oper.upon] at h ⊢
  case value u => exact h
  case skip => exact h
  case defer d => exact h
  case enter f args =>
   refine Calls.mono h fun e w'' he => ?_
   cases e with
   | returned u => exact he
   | panicked c => exact hq _ _ _ he
   | outgrown => obtain ⟨a2, w2, h2⟩ := he; exact ⟨a2, w2, hq _ _ _ h2⟩
  case row row args => exact h
 | halt x w' =>
  cases x <;> simp only [Oper.upon] at h ⊢
  case panic u => exact hq _ _ _ h
theorem nH (a : Act) (x : Option Tmp) (v : Value) : (a.put x v).defers = a.defers := by cases x <;> rfl
theorem aJi {o : Oper} {v : Value} {a : Act} : Fx P ops S o v a ↔ (Region.wanted o (yielded ops a.tmps) = true → ∀ w, S w → pB P S o v a ((execOp a.eval o).run P w)) ∧ (Region.wanted o (yielded ops a.tmps) = false → ∀ w, S w → a.put o.dst undef = a.put o.dst v) := by
 constructor
 ·intro h
  refine ⟨fun hw w hS => ?_, fun hw w hS => ?_⟩
  ·have := h w hS (fun a' w' => a' = a.put o.dst v ∧ S w') (fun w' hS' => ⟨rfl, hS'⟩)
   rw [if_pos hw] at this
   unfold Oper.wp at this
   generalize (execOp a.eval o).run P w = r at *
   cases r with
   | ok n w' =>
    cases n <;> simp only [Oper.upon] at this <;> simp only [pB]
    case value u => exact this
    case skip => exact this
    case defer d =>
     have h2 := congrArg Act.defers this.1
     rw [nH, nH] at h2
     have := congrArg List.length h2
     simp at this
    case enter f args =>
     refine Calls.mono this fun e w'' he => ?_
     cases e with
     | returned u => exact ⟨u, rfl, he⟩
     | panicked c => exact he.elim
     | outgrown => obtain ⟨_, _, hh⟩ := he; exact hh.elim
    case row row args => exact this
   | halt x w' =>
    cases x <;> simp only [Oper.upon] at this
  have := h w hS (fun a' w' => a' = a.put o.dst v ∧ S w') (fun w' hS' => ⟨rfl, hS'⟩)
  rw [if_neg (by rw [hw]; decide)] at this
  exact this.1
 rintro ⟨h1, h2⟩ w hS K hK
 cases hw : Region.wanted o (yielded ops a.tmps) with
 | true =>
  rw [if_pos rfl]
  have := h1 hw w hS
  unfold Oper.wp
  generalize (execOp a.eval o).run P w = r at *
  cases r with
  | ok n w' =>
   cases n <;> simp only [pB] at this <;> simp only [Oper.upon]
   case value u => rw [this.1]; exact hK w' this.2
   case skip => rw [this.1]; exact hK w' this.2
   case enter f args =>
    refine Calls.mono this fun e w'' he => ?_
    obtain ⟨u, rfl, he1, he2⟩ := he
    show K (a.put o.dst u) w''
    rw [he1]; exact hK w'' he2
   case row row args => exact Rows.mono this fun u w'' he => by rw [he.1]; exact hK w'' he.2
  | halt x w' => cases x <;> simp only [pB] at this
 | false =>
  rw [if_neg ae, h2 hw w hS]
  exact hK w hS
theorem xB {a : Act} {x y : Option Tmp} {u v v' : Value} (hxy : ∀ d, x = some d → y ≠ some d) (h : (a.put x u).put y v = (a.put x u).put y v') : a.put y v = a.put y v' := by
 rw [Act.put_comm a u v hxy, Act.put_comm a u v' hxy] at h
 cases y with
 | none => rfl
 | some d =>
  have h1 := congrArg Act.tmps h
  unfold Act.put at *
  cases x with
  | none => exact h
  | some e =>
   have hne : e ≠ d := fun hh => hxy e rfl (by rw [hh])
   simp only at h1 ⊢
   congr 1
   apply Array.ext_getElem?
   intro i
   have h2 := congrArg (fun t => t[i]?) h1
   simp only [Array.getElem?_setIfInBounds, Array.size_setIfInBounds] at h2 ⊢
   by_cases he : e = i
   ·subst he; rw [if_neg (Ne.symm hne), if_neg (Ne.symm hne)]
   rw [if_neg he, if_neg he] at h2; exact h2
theorem aDF {o : Oper} {v : Value} {a : Act} {x : Option Tmp} {u : Value} (hxy : ∀ d, x = some d → o.dst ≠ some d) (r : Result Next) : pB P S o v a r ↔ pB P S o v (a.put x u) r := by
 have e : ∀ t, (a.put o.dst t = a.put o.dst v) ↔ ((a.put x u).put o.dst t = (a.put x u).put o.dst v) := fun t =>
  ⟨fun h => by rw [Act.put_comm a u t hxy, Act.put_comm a u v hxy, h], fun h => xB hxy h⟩
 cases r with
 | ok n w' =>
  cases n <;> simp only [pB, e]
 | halt x w' => cases x <;> simp only [pB]
theorem Fx.put_iff {o : Oper} {v : Value} {a : Act} {x : Option Tmp} {u : Value} (hs : ∀ cs b, o.op ≠ .select cs b) (hl : ∀ d, x = some d → d ∉ o.looksAt ops) (hxy : ∀ d, x = some d → o.dst ≠ some d) :
  Fx P ops S o v a ↔ Fx P ops S o v (a.put x u) := by
 rw [aJi, aJi, wanted_put o a x u hl, execOp_put o hs a x u hl]
 constructor
 ·rintro ⟨h1, h2⟩
  exact ⟨fun hw w hS => (aDF hxy _).1 (h1 hw w hS), fun hw w hS => by rw [Act.put_comm a u undef hxy, Act.put_comm a u v hxy, h2 hw w hS]⟩
 rintro ⟨h1, h2⟩
 exact ⟨fun hw w hS => (aDF hxy _).2 (h1 hw w hS), fun hw w hS => xB hxy (h2 hw w hS)⟩
inductive Plan (P : Program) (md : Region.Mode) (ops : Array Oper) (Q : Exit → Act → World → Prop) (S : World → Prop) : Nat → Array Bool → Act → Prop where
 | done {fuel : Nat} {listed : Array Bool} {a : Act} (hr : Region.ready md ops listed = []) (h : ∀ w, S w → Q .normal a w) : Plan P md ops Q S fuel listed a
 | take {fuel : Nat} {listed : Array Bool} {a : Act} {i : Nat} {oi : Oper} {v : Value} (hi : ops[i]? = some oi)
   (hf : ∀ j oj, ops[j]? = some oj → j ≠ i → listed.getD j true = false → (∀ e ∈ oj.after, Region.binds md e = true → e.on ≠ i) → oi.apart ops oj = true)
   (hr : i ∈ Region.ready md ops listed) (hy : Fx P ops S oi v a) (h : Plan P md ops Q S fuel (listed.setIfInBounds i true) (a.put oi.dst v)) : Plan P md ops Q S (fuel + 1) listed a
theorem Plan.swap (hsel : ∀ (j : Nat) (o : Oper) cs b, ops[j]? = some o → o.op ≠ .select cs b) {fuel : Nat} {listed : Array Bool} {a : Act} (p : Plan P md ops Q S fuel listed a) :
  ∀ j, j ∈ Region.ready md ops listed → ∃ oj vj fuel', ops[j]? = some oj ∧ fuel = fuel' + 1 ∧ Fx P ops S oj vj a ∧ Plan P md ops Q S fuel' (listed.setIfInBounds j true) (a.put oj.dst vj) := by
 induction p with
 | done hr h => intro j hj; rw [hr] at hj; cases hj
 | @take fuel listed a i oi v hi hf hr hy h ih =>
  intro j hj
  by_cases hji : j = i
  ·subst hji; exact ⟨oi, v, fuel, hi, rfl, hy, h⟩
  obtain ⟨oj, vj, f', hoj, rfl, hfx, hp⟩ := ih j (ready_mono hj hji)
  obtain ⟨hjun, oj', hoj', hall⟩ := mem_ready.1 hj
  rw [hoj] at hoj'; cases hoj'
  have hnot : ∀ e ∈ oj.after, Region.binds md e = true → e.on ≠ i := fun e he hb heq => by
   have h1 := hall e he hb
   have h0 := (mem_ready.1 hr).1
   rw [heq] at h1
   rcases Nat.lt_or_ge i listed.size with h' | h'
   ·simp [h'] at h0 h1; rw [h0] at h1; cases h1
   simp [Array.getElem?_eq_none h'] at h1
  obtain ⟨h1, h2, h3⟩ := Oper.apart_spec (hf j oj hoj hji hjun hnot)
  have h2' : ∀ d, oj.dst = some d → oi.dst ≠ some d := fun d hd he => h2 d he hd
  refine ⟨oj, vj, f' + 1, hoj, rfl, (Fx.put_iff (fun cs b => hsel j oj cs b hoj) h1 h2).2 hfx, ?_⟩
  refine Plan.take hi (v := v) (fun k ok hk hki hun hno => ?_) (ready_mono hr (Ne.symm hji)) ((Fx.put_iff (fun cs b => hsel i oi cs b hi) h3 h2').1 hy) ?_
  ·refine hf k ok hk hki ?_ hno
   by_cases hjk : j = k
   ·subst hjk; exact hjun
   rw [getD_set_ne true hjk] at hun; exact hun
  rw [Array.setIfInBounds_comm _ _ hji, Act.put_comm a vj v h2']
  exact hp
theorem Plan.held (hsel : ∀ (j : Nat) (o : Oper) cs b, ops[j]? = some o → o.op ≠ .select cs b) : ∀ (fuel : Nat) (listed : Array Bool) (a : Act), Plan P md ops Q S fuel listed a → ∀ w, S w → wpAnyH P md ops Q S fuel listed a w := by
 intro fuel
 induction fuel with
 | zero =>
  intro listed a p w hS
  cases p with
  | done hr h => exact ⟨hr, h w hS⟩
 | succ fuel ih =>
  intro listed a p w hS
  refine ⟨fun hr => ?_, fun j hj => ?_⟩
  ·cases p with
   | done _ h => exact h w hS
   | take hi hf hr' hy h => rw [hr] at hr'; cases hr'
  obtain ⟨oj, vj, f', hoj, hfu, hfx, hp⟩ := p.swap hsel j hj
  cases hfu
  refine wpOp_step hoj (fun K' hK => ?_)
  have := hfx w hS K' (fun w' hS' => hK _ _ ⟨hS', ih _ _ hp w' hS'⟩)
  by_cases hw : Region.wanted oj (yielded ops a.tmps) = true
  ·rw [if_pos hw] at this ⊢
   exact aHP (fun _ _ _ h => h.elim) this
  rw [if_neg hw] at this ⊢; exact this
/-! the moves of a walk -/
theorem eV {id : Nat} {a : Act} {w : World} (hm : P.follows .mixedOrders = true) (hs : Region.noSelect ops = true) (hS : S w.drew)
  (h : Plan P .any ops Q S ops.size (Array.replicate ops.size false) a) : (Code.region id ops true).wp P Q a w :=
 wp_region_held_drew hm hS (fun _ => Plan.held (Region.noSelect_spec hs) _ _ _ h _ hS)
theorem cO {fuel : Nat} {listed : Array Bool} {a : Act} {i : Nat} {oi : Oper} {v : Value} (hi : ops[i]? = some oi) (hf : Region.free md ops listed i = true) (hr : (Region.ready md ops listed).contains i = true)
  (hy : Fx P ops S oi v a) (h : Plan P md ops Q S fuel (listed.setIfInBounds i true) (a.put oi.dst v)) : Plan P md ops Q S (fuel + 1) listed a :=
 Plan.take hi (Region.free_spec hi hf) (by simpa using hr) hy h
theorem fR {o : Oper} {v : Value} {a : Act} (h : YieldsIf P ops S o v a) : Fx P ops S o v a := fun w hS K hK => by
 rcases h with ⟨hw, hv⟩ | ⟨hw, rfl⟩
 ·rw [if_pos hw]; simp only [Oper.wp, hv w hS, Oper.upon]; exact hK w hS
 rw [if_neg (by rw [hw]; decide)]; exact hK w hS
theorem aKw {o : Oper} {a : Act} (h : Region.wanted o (yielded ops a.tmps) = false) : Fx P ops S o undef a := fR (.inr ⟨h, rfl⟩)
theorem vU {o : Oper} {v : Value} {a : Act} (hw : Region.wanted o (yielded ops a.tmps) = true) (h : ∀ w, S w → ∀ K : Act → World → Prop, Shut (∀ w', S w' → K (a.put o.dst v) w') → o.wp P a w K (fun _ _ _ => False)) : Fx P ops S o v a := fun w hS K hK => by
 rw [if_pos hw]; exact h w hS K hK
end
end Go.Proofs.YtgmnmjeccfnmbaaGreat
namespace Go.Proofs.YtgmnmjeccfnmbaaGreat
open Go
/-- a slot is put into a written frame -/
theorem bB : (∀ (a : Act) (v : Value), a.put none v = a) ∧ (∀ (a : Act) (d : Tmp) (v : Value), a.put (some d) v = { a with tmps := a.tmps.setIfInBounds d v }) ∧ (∀ (l : List Value) (i : Nat) (x : Value), l.toArray.setIfInBounds i x = (l.set i x).toArray) ∧ (∀ (x : Value) (l : List Value) (y : Value), (x :: l).set 0 y = y :: l) ∧ (∀ (x : Value) (l : List Value) (n : Nat) (y : Value), (x :: l).set (n + 1) y = x :: l.set n y) :=
  ⟨fun _ _ => rfl, fun _ _ _ => rfl, fun _ _ _ => by simp, fun _ _ _ => rfl, fun _ _ _ _ => rfl⟩
/-- number i is next; what it yields is told behind -/
theorem aOa {P : Program} {ops : Array Oper} {Q : Exit → Act → World → Prop} {md : Region.Mode} {S : World → Prop} {fuel : Nat} {listed : Array Bool} {a : Act} {i : Nat} {oi : Oper} (hi : ops[i]? = some oi) (hf : Region.free md ops listed i = true) (hr : (Region.ready md ops listed).contains i = true)
    (h : ∃ v, Fx P ops S oi v a ∧ Plan P md ops Q S fuel (listed.setIfInBounds i true) (a.put oi.dst v)) : Plan P md ops Q S (fuel + 1) listed a :=
  h.elim fun _ h => cO hi hf hr h.1 h.2
/-- number i is next and only reads -/
theorem pr {P : Program} {ops : Array Oper} {Q : Exit → Act → World → Prop} {md : Region.Mode} {S : World → Prop} {fuel : Nat} {listed : Array Bool} {a : Act} (i : Nat) {oi : Oper} {v : Value} (hi : ops[i]? = some oi) (hf : (Region.free md ops listed i && (Region.ready md ops listed).contains i) = true) (hw : Region.wanted oi (yielded ops a.tmps) = true)
    (hy : ∀ w, S w → (execOp a.eval oi).run P w = .ok (.value v) w) (h : Plan P md ops Q S fuel (listed.setIfInBounds i true) (a.put oi.dst v)) : Plan P md ops Q S (fuel + 1) listed a :=
  cO hi (Bool.and_eq_true_iff.1 hf).1 (Bool.and_eq_true_iff.1 hf).2 (fR (Or.inl ⟨hw, hy⟩)) h
theorem zw {P : Program} {ops : Array Oper} {Q : Exit → Act → World → Prop} {md : Region.Mode} {S : World → Prop} {fuel : Nat} {listed : Array Bool} {a : Act} {w : World} (i : Nat) {oi : Oper} {v : Value} (hi : ops[i]? = some oi) (hf : (Region.noSelect ops && (Region.free md ops listed i && (Region.ready md ops listed).contains i)) = true) (hw : Region.wanted oi (yielded ops a.tmps) = true)
    (hQ : ∀ c a w, Q (.panic c) (a.put oi.dst v) w → Q (.panic c) a w) (hy : ∀ w, S w → (execOp a.eval oi).run P w = .ok (.value v) w) (hS : S w) (h : wpAnyH P md ops Q S fuel (listed.setIfInBounds i true) (a.put oi.dst v) w) : wpAnyH P md ops Q S (fuel + 1) listed a w :=
  wpAnyH_take hi (Bool.and_eq_true_iff.1 hf).1 (Bool.and_eq_true_iff.1 (Bool.and_eq_true_iff.1 hf).2).1 (Bool.and_eq_true_iff.1 (Bool.and_eq_true_iff.1 hf).2).2 hQ (Or.inl ⟨hw, hy⟩) hS h
/-- the same, the operation found by its number -/
theorem zt {P : Program} {ops : Array Oper} {Q : Exit → Act → World → Prop} {md : Region.Mode} {S : World → Prop} {fuel : Nat} {listed : Array Bool} {a a9 : Act} {w : World} (i : Nat) {oi : Oper} {v : Value} (hS : S w) (h : wpAnyH P md ops Q S fuel (listed.setIfInBounds i true) a9 w)
    (hi : ops[i]? = some oi := by (simp only [List.getElem?_toArray, List.getElem?_cons_succ, List.getElem?_cons_zero]; rfl)) (hf : (Region.noSelect ops && (Region.free md ops listed i && (Region.ready md ops listed).contains i)) = true := by kernel_rfl) (hw : Region.wanted oi (yielded ops a.tmps) = true := by rfl)
    (hQ : ∀ c a w, Q (.panic c) (a.put oi.dst v) w → Q (.panic c) a w := by exact fun _ _ _ h => h) (hy : ∀ w, S w → (execOp a.eval oi).run P w = .ok (.value v) w := by (intro W aP; go_simp <;> with_reducible rfl)) (ha : a.put oi.dst v = a9 := by (simp only [bB]; try rfl)) : wpAnyH P md ops Q S (fuel + 1) listed a w :=
  wpAnyH_take hi (Bool.and_eq_true_iff.1 hf).1 (Bool.and_eq_true_iff.1 (Bool.and_eq_true_iff.1 hf).2).1 (Bool.and_eq_true_iff.1 (Bool.and_eq_true_iff.1 hf).2).2 hQ (Or.inl ⟨hw, hy⟩) hS (ha ▸ h)
theorem zs {P : Program} {ops : Array Oper} {Q : Exit → Act → World → Prop} {md : Region.Mode} {S : World → Prop} {fuel : Nat} {listed : Array Bool} {a a9 : Act} {w : World} (i : Nat) {oi : Oper} (hS : S w) (h : wpAnyH P md ops Q S fuel (listed.setIfInBounds i true) a9 w)
    (hi : ops[i]? = some oi := by (simp only [List.getElem?_toArray, List.getElem?_cons_succ, List.getElem?_cons_zero]; rfl)) (hf : (Region.noSelect ops && (Region.free md ops listed i && (Region.ready md ops listed).contains i)) = true := by kernel_rfl) (hw : Region.wanted oi (yielded ops a.tmps) = false := by rfl)
    (hQ : ∀ c a w, Q (.panic c) (a.put oi.dst undef) w → Q (.panic c) a w := by exact fun _ _ _ h => h) (ha : a.put oi.dst undef = a9 := by (simp only [bB]; try rfl)) : wpAnyH P md ops Q S (fuel + 1) listed a w :=
  wpAnyH_take hi (Bool.and_eq_true_iff.1 hf).1 (Bool.and_eq_true_iff.1 (Bool.and_eq_true_iff.1 hf).2).1 (Bool.and_eq_true_iff.1 (Bool.and_eq_true_iff.1 hf).2).2 hQ (Or.inr ⟨hw, rfl⟩) hS (ha ▸ h)
theorem zu {P : Program} {ops : Array Oper} {Q : Exit → Act → World → Prop} {md : Region.Mode} {S : World → Prop} {fuel : Nat} {listed : Array Bool} {a a9 : Act} {w : World} (i : Nat) {oi : Oper} {v : Value} (hS : S w) (h : wpAnyH P md ops Q S fuel (listed.setIfInBounds i true) a9 w)
    (hi : ops[i]? = some oi := by (simp only [List.getElem?_toArray, List.getElem?_cons_succ, List.getElem?_cons_zero]; rfl)) (hy : YieldsIf P ops S oi v a) (hf : (Region.noSelect ops && (Region.free md ops listed i && (Region.ready md ops listed).contains i)) = true := by kernel_rfl)
    (hQ : ∀ c a w, Q (.panic c) (a.put oi.dst v) w → Q (.panic c) a w := by exact fun _ _ _ h => h) (ha : a.put oi.dst v = a9 := by (simp only [bB]; try rfl)) : wpAnyH P md ops Q S (fuel + 1) listed a w :=
  wpAnyH_take hi (Bool.and_eq_true_iff.1 hf).1 (Bool.and_eq_true_iff.1 (Bool.and_eq_true_iff.1 hf).2).1 (Bool.and_eq_true_iff.1 (Bool.and_eq_true_iff.1 hf).2).2 hQ hy hS (ha ▸ h)
theorem za {P : Program} {ops : Array Oper} {Q : Exit → Act → World → Prop} {md : Region.Mode} {S : World → Prop} {fuel : Nat} {listed : Array Bool} {a : Act} {w : World} (i : Nat) {o : Oper}
    (h : ∀ K' : Act → World → Prop, Shut (∀ a w, S w → (S w → wpAnyH P md ops Q S fuel (listed.setIfInBounds i true) a w) → K' a w) → if Region.wanted o (yielded ops a.tmps) = true then Oper.wp P o a w K' Q else K' (a.put o.dst undef) w)
    (ho : ops[i]? = some o := by (simp only [List.getElem?_toArray, List.getElem?_cons_succ, List.getElem?_cons_zero]; rfl)) (hr : Region.ready md ops listed = [i] := by kernel_rfl) : wpAnyH P md ops Q S (fuel + 1) listed a w :=
  wpAnyH_ready hr (by simp) (AllReadyH.cons ho h AllReadyH.nil)
structure Zs (l : List Nat) (p : Prop) : Prop where
  h : p
theorem zz0 {p : Prop} (l : List Nat) (h : Zs l p) : p := h.h
theorem zz9 {p : Prop} (h : p) : Zs [] p := ⟨h⟩
theorem zz1 {P : Program} {ops : Array Oper} {Q : Exit → Act → World → Prop} {md : Region.Mode} {S : World → Prop} {fuel : Nat} {listed : Array Bool} {a a9 : Act} {w : World} {i : Nat} {l : List Nat} {oi : Oper} {v : Value} (h : Zs l (wpAnyH P md ops Q S fuel (listed.setIfInBounds i true) a9 w)) (hS : S w := by exact aA)
    (hi : ops[i]? = some oi := by (simp only [List.getElem?_toArray, List.getElem?_cons_succ, List.getElem?_cons_zero]; rfl)) (hf : (Region.noSelect ops && (Region.free md ops listed i && (Region.ready md ops listed).contains i)) = true := by kernel_rfl) (hw : Region.wanted oi (yielded ops a.tmps) = true := by rfl)
    (hQ : ∀ c a w, Q (.panic c) (a.put oi.dst v) w → Q (.panic c) a w := by exact fun _ _ _ h => h) (hy : ∀ w, S w → (execOp a.eval oi).run P w = .ok (.value v) w := by (intro W aP; go_simp <;> with_reducible rfl)) (ha : a.put oi.dst v = a9 := by (simp only [bB]; try rfl)) : Zs (i :: l) (wpAnyH P md ops Q S (fuel + 1) listed a w) :=
  ⟨zt i hS h.h hi hf hw hQ hy ha⟩
theorem zz2 {P : Program} {ops : Array Oper} {Q : Exit → Act → World → Prop} {md : Region.Mode} {S : World → Prop} {fuel : Nat} {listed : Array Bool} {a a9 : Act} {w : World} {i : Nat} {l : List Nat} {oi : Oper} (h : Zs l (wpAnyH P md ops Q S fuel (listed.setIfInBounds i true) a9 w)) (hS : S w := by exact aA)
    (hi : ops[i]? = some oi := by (simp only [List.getElem?_toArray, List.getElem?_cons_succ, List.getElem?_cons_zero]; rfl)) (hf : (Region.noSelect ops && (Region.free md ops listed i && (Region.ready md ops listed).contains i)) = true := by kernel_rfl) (hw : Region.wanted oi (yielded ops a.tmps) = false := by rfl)
    (hQ : ∀ c a w, Q (.panic c) (a.put oi.dst undef) w → Q (.panic c) a w := by exact fun _ _ _ h => h) (ha : a.put oi.dst undef = a9 := by (simp only [bB]; try rfl)) : Zs (i :: l) (wpAnyH P md ops Q S (fuel + 1) listed a w) :=
  ⟨zs i hS h.h hi hf hw hQ ha⟩
theorem zzr {p q : Prop} (l : List Nat) (k : q) (h : q → Zs l p := by (intro k9; repeat first | refine zz1 ?_ | refine zz2 ?_ | refine zz9 ?_); exact k9) : p := (h k).h
theorem zzx {P : Program} {ops : Array Oper} {Q : Exit → Act → World → Prop} {md : Region.Mode} {S : World → Prop} {fuel : Nat} {listed : Array Bool} {a a9 : Act} (i : Nat) {oi : Oper} {v : Value} (h : Plan P md ops Q S fuel (listed.setIfInBounds i true) a9)
    (hi : ops[i]? = some oi := by (simp only [List.getElem?_toArray, List.getElem?_cons_succ, List.getElem?_cons_zero]; rfl)) (hf : (Region.free md ops listed i && (Region.ready md ops listed).contains i) = true := by kernel_rfl) (hw : Region.wanted oi (yielded ops a.tmps) = true := by rfl)
    (hy : ∀ w, S w → (execOp a.eval oi).run P w = .ok (.value v) w := by (intro W aP; go_simp <;> with_reducible rfl)) (ha : a.put oi.dst v = a9 := by (simp only [bB]; try rfl)) : Plan P md ops Q S (fuel + 1) listed a :=
  pr i hi hf hw hy (ha ▸ h)
theorem zzy {P : Program} {ops : Array Oper} {Q : Exit → Act → World → Prop} {md : Region.Mode} {S : World → Prop} {fuel : Nat} {listed : Array Bool} {a a9 : Act} (i : Nat) {oi : Oper} (h : Plan P md ops Q S fuel (listed.setIfInBounds i true) a9)
    (hi : ops[i]? = some oi := by (simp only [List.getElem?_toArray, List.getElem?_cons_succ, List.getElem?_cons_zero]; rfl)) (hf : (Region.free md ops listed i && (Region.ready md ops listed).contains i) = true := by kernel_rfl) (hw : Region.wanted oi (yielded ops a.tmps) = false := by rfl)
    (ha : a.put oi.dst undef = a9 := by (simp only [bB]; try rfl)) : Plan P md ops Q S (fuel + 1) listed a :=
  cO hi (Bool.and_eq_true_iff.1 hf).1 (Bool.and_eq_true_iff.1 hf).2 (aKw hw) (ha ▸ h)
end Go.Proofs.YtgmnmjeccfnmbaaGreat
