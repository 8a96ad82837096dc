/- copy within a row of one's own, whatever the elements. -/
import Derived.Test.YtengpfpeeihaoaaNet14
namespace Go.Proofs.Ytengpfpeeihaoaa
open Go.RowKit
set_option linter.unusedVariables false
set_option linter.unusedSimpArgs false

theorem run_copyG {P : Program} {t e : TypeId} {z : Value} {size bytes : Nat} (E : Elem P t e z size bytes) (w : World) (ty : TypeId) (g o dLen dCap : Nat) (a : Addr) (sLen sCap : Nat) (cs : List Value)
    (hn : cs.length = Nat.min sLen dLen * size)
    (hsrc : ∀ j v, cs[j]? = some v → w.cell? (a.add j) = some v) (hc : ∀ j, j < cs.length → (w.cell? ⟨g, o + j, none⟩).isSome = true) (hf : ∀ j, j < cs.length → w.frozen? ⟨g, o + j, none⟩ = false) (h1 : ∀ v ∈ cs, v.oneCell' = true) :
    (Builtin.copy_ #[t, t] ty #[.slice (some ⟨g, o, none⟩) dLen dCap, .slice (some a) sLen sCap]).run P w = .ok (goInt (Nat.min sLen dLen)) (w.setCells g o cs) := by
  obtain ⟨i, hi, _, hs, _⟩ := E.get
  have hl := run_loadCells_list (P := P) w a cs hsrc
  have hst := run_storeCells_cells (P := P) g o cs 0 w (by simpa using hc) (by simpa using hf) h1
  simp [Builtin.copy_, run_underlying E.ut, Builtin.lenOf, Builtin.firstCells, sizeOf, typeInfo, hi, hs, ← hn, hl, hst]
theorem run_copyG0 {P : Program} {t e : TypeId} {z : Value} {size bytes : Nat} (E : Elem P t e z size bytes) (w : World) (ty : TypeId) (d a : Option Addr) (dLen dCap sLen sCap : Nat) (hn : Nat.min sLen dLen = 0) :
    (Builtin.copy_ #[t, t] ty #[.slice d dLen dCap, .slice a sLen sCap]).run P w = .ok (goInt 0) w := by
  obtain ⟨i, hi, _, hs, _⟩ := E.get
  have hl : ∀ (x : Addr), (loadCells x 0).run P w = .ok #[] w := fun x => by simpa using run_loadCells_list (P := P) w x [] (by simp)
  cases d <;> cases a <;> simp [Builtin.copy_, run_underlying E.ut, Builtin.lenOf, Builtin.firstCells, sizeOf, typeInfo, hi, hn, storeCells, hl]
theorem splice_cons {xs : List Value} {o : Nat} {y : Value} {r : List Value} (h : o < xs.length) : splice (xs.set o y) (o + 1) r = splice xs o (y :: r) := by
  unfold splice
  rw [List.take_add_one, List.getElem?_set_self h, List.take_set_of_le (Nat.le_refl _)]
  simp [List.drop_set_of_lt, show o < o + 1 + r.length from by omega, show o + (r.length + 1) = o + 1 + r.length from by omega]
/-- a list of cells laid over one's own row -/
theorem own_splice {base : Nat} {e : TypeId} {size g n c : Nat} (ys : List Value) : ∀ (o : Nat) (w : World) (xs : List Value), o + ys.length ≤ xs.length → w.ownsRow base e size (.slice (some ⟨g, 0, none⟩) n c) n xs →
    (w.setCells g o ys).ownsRow base e size (.slice (some ⟨g, 0, none⟩) n c) n (splice xs o ys) ∧ w.grownBy (w.setCells g o ys) (some g) := by
  induction ys with
  | nil => intro o w xs hl h; exact ⟨by simpa [splice, World.setCells] using h, Grown.refl _ _⟩
  | cons y r ih =>
    intro o w xs hl h
    simp only [List.length_cons] at hl
    have hs := h.stored o y
    obtain ⟨h1, h2⟩ := ih (o + 1) _ _ (by rw [List.length_set]; omega) hs.1
    rw [splice_cons (by omega)] at h1
    exact ⟨h1, Grown.trans hs.2 h2⟩
theorem step_copyG {P : Program} {t e : TypeId} {z : Value} {size bytes : Nat} {ops : Array Oper} {o : Oper} {a : Act} {w : World} {K : Act → World → Prop} {Q : Exit → Act → World → Prop} {X : Prop} (E : Elem P t e z size bytes) (hgd : o.guard = none) (d s : Operand)
    (ho : o.op = .call { callee := .builtin .copy, args := #[d, s], argTypes := #[t, t] })
    (base g off n c : Nat) (xs : List Value) (hown : w.ownsRow base e size (.slice (some ⟨g, 0, none⟩) n c) n xs)
    (dp sp : Option Addr) (dLen dCap sLen sCap : Nat) (hd : a.eval d = .slice dp dLen dCap) (hs : a.eval s = .slice sp sLen sCap)
    (cs : List Value) (hn : cs.length = Nat.min sLen dLen * size)
    (hpos : 0 < cs.length → dp = some ⟨g, off, none⟩ ∧ ∃ ad, sp = some ad ∧ ∀ j v, cs[j]? = some v → w.cell? (ad.add j) = some v)
    (hfit : off + cs.length ≤ n * size) (h1 : ∀ v ∈ cs, v.oneCell' = true)
    (h : ∀ w', w'.ownsRow base e size (.slice (some ⟨g, 0, none⟩) n c) n (splice xs off cs) → w.grownBy w' (some g) → K (a.put o.dst (goInt (Nat.min sLen dLen))) w') :
    if Region.wanted o (yielded ops a.tmps) = true then Oper.wp P o a w K Q else X := by
  have hw : Region.wanted o (yielded ops a.tmps) = true := by simp [Region.wanted, hgd]
  rw [if_pos hw]
  have hxl := hown.1
  by_cases h0 : cs.length = 0
  · obtain rfl : cs = [] := List.eq_nil_of_length_eq_zero h0
    have hm : Nat.min sLen dLen = 0 := by
      have hp := E.pos
      rcases Nat.eq_zero_or_pos (Nat.min sLen dLen) with h | h
      · exact h
      · have := Nat.mul_pos h hp; simp only [List.length_nil] at hn; omega
    have hrun := run_copyG0 E w o.type dp sp dLen dCap sLen sCap hm
    have h := h w (by simpa [splice] using hown) (Grown.refl _ _)
    rw [hm] at h
    unfold Oper.wp execOp
    simp only [ho, resolve, invoke, builtin, Sem.run_bind, Sem.run_pure, Result.andThen_ok, List.map_toArray, List.map_cons, List.map_nil, hd, hs, hrun]
    exact h
  · obtain ⟨rfl, ad, rfl, hsrc⟩ := hpos (by omega)
    have hrun := run_copyG E w o.type g off dLen dCap ad sLen sCap cs hn hsrc (fun j hj => by rw [hown.cellAt (off + j) (by omega), List.getElem?_eq_getElem (by omega)]; rfl) (fun j hj => hown.frozenAt _) h1
    obtain ⟨k1, k2⟩ := own_splice cs off w xs (by omega) hown
    unfold Oper.wp execOp
    simp only [ho, resolve, invoke, builtin, Sem.run_bind, Sem.run_pure, Result.andThen_ok, List.map_toArray, List.map_cons, List.map_nil, hd, hs, hrun]
    exact h _ k1 k2
theorem erase_row (L : List Pc) (i : Nat) (h : i < L.length) : (splice (rowP L) (i * 3) (rowP (L.drop (i + 1)))).take ((L.length - 1) * 3) = rowP (L.eraseIdx i) := by
  have e : L.eraseIdx i = L.take i ++ L.drop (i + 1) := List.eraseIdx_eq_take_drop_succ ..
  have ht : (rowP L).take (i * 3) = rowP (L.take i) := rowP_take L i
  have hl : ((rowP L).take (i * 3) ++ rowP (L.drop (i + 1))).length = (L.length - 1) * 3 := by
    rw [ht, List.length_append, rowP_length, rowP_length, List.length_take, List.length_drop]; omega
  unfold splice
  rw [← List.append_assoc, List.take_append_of_le_length (by omega), List.take_of_length_le (by omega), ht, e, rowP_append]
end Go.Proofs.Ytengpfpeeihaoaa
