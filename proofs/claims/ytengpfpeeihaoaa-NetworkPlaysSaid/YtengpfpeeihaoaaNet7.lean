/- slices.DeleteFunc over parcels. -/
import Derived.Test.YtengpfpeeihaoaaNet6
namespace Go.Proofs.Ytengpfpeeihaoaa
open Go.RowKit
set_option linter.unusedVariables false
set_option linter.unusedSimpArgs false

theorem rowP_set (L : List Pc) (x : Pc) : ∀ i, i < L.length → rowP (L.set i x) = (((rowP L).set (i * 3) (.int .i64 x.f)).set (i * 3 + 1) (.int .i64 x.t)).set (i * 3 + 2) (.slice x.a x.n x.c) := by
  induction L with
  | nil => intro i hi; simp at hi
  | cons p r ih =>
    intro i hi
    cases i with
    | zero => simp [rowP, Pc.cs]
    | succ i =>
      show p.cs ++ rowP (r.set i x) = (((p.cs ++ rowP r).set _ _).set _ _).set _ _
      rw [ih i (by simpa using hi)]
      simp [Pc.cs, show (i + 1) * 3 = i * 3 + 3 from by omega, show i * 3 + 3 + 1 = (i * 3 + 1) + 3 from by omega, show i * 3 + 3 + 2 = (i * 3 + 2) + 3 from by omega]
theorem own_setP {w : World} {base g n c : Nat} {e : TypeId} {M : List Pc} (h : w.ownsRow base e 3 (.slice (some ⟨g, 0, none⟩) n c) n (rowP M)) {i : Nat} (hi : i < M.length) (x : Pc) :
    (((w.setCell ⟨g, i * 3, none⟩ (.int .i64 x.f)).setCell ⟨g, i * 3 + 1, none⟩ (.int .i64 x.t)).setCell ⟨g, i * 3 + 2, none⟩ (.slice x.a x.n x.c)).ownsRow base e 3 (.slice (some ⟨g, 0, none⟩) n c) n (rowP (M.set i x)) ∧
    w.grownBy (((w.setCell ⟨g, i * 3, none⟩ (.int .i64 x.f)).setCell ⟨g, i * 3 + 1, none⟩ (.int .i64 x.t)).setCell ⟨g, i * 3 + 2, none⟩ (.slice x.a x.n x.c)) (some g) := by
  have h1 := h.stored (i * 3) (.int .i64 x.f)
  have h2 := h1.1.stored (i * 3 + 1) (.int .i64 x.t)
  have h3 := h2.1.stored (i * 3 + 2) (.slice x.a x.n x.c)
  rw [rowP_set M x i hi]
  exact ⟨h3.1, Grown.trans (Grown.trans h1.2 h2.2) h3.2⟩
/-- what stands in the row while parcels are deleted: i kept of the first j -/
structure Del (q : Pc → Bool) (L M : List Pc) (i j : Nat) : Prop where
  len : M.length = L.length
  ij : i ≤ j
  jn : j ≤ L.length
  kept : M.take i = (L.take j).filter (fun x => !q x)
  rest : M.drop j = L.drop j
theorem take_succ (L : List Pc) {j : Nat} (h : j < L.length) : L.take (j + 1) = L.take j ++ [nthP L j] := by
  unfold nthP; rw [List.getD_eq_getElem?_getD, List.getElem?_eq_getElem h, List.take_add_one, List.getElem?_eq_getElem h]; rfl
theorem drop_nth {L M : List Pc} {j : Nat} (h : M.drop j = L.drop j) (hj : j < L.length) (hl : M.length = L.length) : nthP M j = nthP L j ∧ M.drop (j + 1) = L.drop (j + 1) := by
  have h1 : (M.drop j)[0]? = (L.drop j)[0]? := by rw [h]
  simp only [List.getElem?_drop, Nat.add_zero] at h1
  refine ⟨by unfold nthP; rw [List.getD_eq_getElem?_getD, List.getD_eq_getElem?_getD, h1], ?_⟩
  have h2 := congrArg (List.drop 1) h
  simpa [List.drop_drop] using h2
theorem Del.drop {q : Pc → Bool} {L M : List Pc} {i j : Nat} (h : Del q L M i j) (hj : j < L.length) (hq : q (nthP L j) = true) : Del q L M i (j + 1) :=
  ⟨h.len, by have := h.ij; omega, hj, by rw [take_succ L hj, List.filter_append, h.kept]; simp [hq], (drop_nth h.rest hj h.len).2⟩
theorem Del.keep {q : Pc → Bool} {L M : List Pc} {i j : Nat} (h : Del q L M i j) (hj : j < L.length) (hq : q (nthP L j) = false) : Del q L (M.set i (nthP L j)) (i + 1) (j + 1) := by
  have hij := h.ij
  have hl := h.len
  refine ⟨by simp [hl], by omega, hj, ?_, ?_⟩
  · rw [take_succ L hj, List.filter_append, ← h.kept]
    have : ((M.set i (nthP L j)).take (i + 1)) = (M.set i (nthP L j)).take i ++ [nthP (M.set i (nthP L j)) i] := take_succ _ (by simp; omega)
    rw [this, List.take_set_of_le (by omega)]
    congr 1
    rw [show nthP (M.set i (nthP L j)) i = nthP L j from by rw [nthP]; simp [show i < M.length from by omega]]
    simp [hq]
  · rw [List.drop_set_of_lt (by omega)]; exact (drop_nth h.rest hj h.len).2
end Go.Proofs.Ytengpfpeeihaoaa
