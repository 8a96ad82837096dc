/- slices.DeleteFunc over parcels: what is wanted of memory. -/
import Derived.Test.YtengpfpeeihaoaaNet5
import Derived.Lib.SliceRun
import Derived.Laws.OwnMore
import Derived.OneCell
namespace Go.Proofs.Ytengpfpeeihaoaa
open Go.RowKit
set_option linter.unusedVariables false
set_option linter.unusedSimpArgs false

theorem Grown.refl (w : World) (row : Option Nat) : w.grownBy w row := ⟨rfl, rfl, rfl, Nat.le_refl _, fun _ _ _ => rfl⟩
theorem Grown.trans {a b c : World} {row : Option Nat} (h : a.grownBy b row) (k : b.grownBy c row) : a.grownBy c row :=
  ⟨k.os.trans h.os, k.tape.trans h.tape, k.output.trans h.output, Nat.le_trans h.size k.size, fun i hi hr => (k.block i (Nat.lt_of_lt_of_le hi h.size) hr).trans (h.block i hi hr)⟩
theorem Ext.grown {a b : World} (h : Ext a b) (row : Option Nat) : a.grownBy b row := ⟨h.os, h.tape, h.output, h.size, fun i hi _ => h.block i hi⟩
/-- a slice of one's own, cut behind -/
theorem own_cut {w : World} {base : Nat} {e : TypeId} {size : Nat} {A : Option Addr} {n c : Nat} {xs : List Value} (h : w.ownsRow base e size (.slice A n c) n xs) {i : Nat} (hi : i ≤ n) (hA : A ≠ none) : w.ownsRow base e size (.slice A i c) i (xs.take (i * size)) := by
  have hle : i * size ≤ n * size := Nat.mul_le_mul_right _ hi
  refine ⟨by rw [List.length_take, h.1]; omega, ?_⟩
  rcases h.2 with ⟨hv, _⟩ | ⟨g, cap, cur, hv, hb, hh, hn, hm, hs, ht⟩
  · injection hv with hA'; exact absurd hA' hA
  · injection hv with h1 _ h3; subst h1; subst h3
    refine .inr ⟨g, c, cur, rfl, hb, hh, by omega, hm, hs, ?_⟩
    rw [← ht, List.take_take, Nat.min_eq_left hle]
/-- cells of one's own row are stored over, from place o on: what lies ahead stays -/
theorem own_over {base : Nat} {e : TypeId} {size g n c : Nat} (ys : List Value) : ∀ (o : Nat) (w : World) (xs : List Value), w.ownsRow base e size (.slice (some ⟨g, 0, none⟩) n c) n xs →
    ∃ xs', (w.setCells g o ys).ownsRow base e size (.slice (some ⟨g, 0, none⟩) n c) n xs' ∧ xs'.take o = xs.take o ∧ w.grownBy (w.setCells g o ys) (some g) := by
  induction ys with
  | nil => intro o w xs h; exact ⟨xs, h, rfl, Grown.refl _ _⟩
  | cons y r ih =>
    intro o w xs h
    have hs := h.stored o y
    obtain ⟨xs', h1, h2, h3⟩ := ih (o + 1) _ _ hs.1
    refine ⟨xs', h1, ?_, Grown.trans hs.2 h3⟩
    have := congrArg (List.take o) h2
    rw [List.take_take, List.take_take, Nat.min_eq_left (by omega)] at this
    rw [this, List.take_set_of_le (by omega)]
theorem run_clearP (w : World) (ty : TypeId) (g o n c : Nat) (hn : 0 < n) (hc : ∀ j, j < 3 * n → (w.cell? ⟨g, o + j, none⟩).isSome = true) (hf : ∀ j, j < 3 * n → w.frozen? ⟨g, o + j, none⟩ = false) :
    (Builtin.clear_ #[52] ty #[.slice (some ⟨g, o, none⟩) n c]).run Try.prog w = .ok (.tuple #[]) (w.setCells g o (Builtin.zeroCells (pcs 0 0 none 0 0) n).toList) := by
  have hv : ∀ w, (zeroValue 35).run Try.prog w = .ok (.agg (pcs 0 0 none 0 0)) w := fun w => by kernel_rfl
  have hlen : (Builtin.zeroCells (pcs 0 0 none 0 0) n).toList.length = 3 * n := by
    rw [Array.length_toList, size_zeroCells]; simp; omega
  have h1 : ∀ v ∈ (Builtin.zeroCells (pcs 0 0 none 0 0) n).toList, v.oneCell' = true := by
    intro v hv
    simp only [Builtin.zeroCells, Array.toList_map, List.mem_map] at hv
    obtain ⟨i, _, rfl⟩ := hv
    show ((pcs 0 0 none 0 0)[i % 3]!).oneCell' = true
    rcases (show i % 3 = 0 ∨ i % 3 = 1 ∨ i % 3 = 2 from by omega) with h | h | h <;> rw [h] <;> rfl
  have hst := run_storeCells_cells (P := Try.prog) g o (Builtin.zeroCells (pcs 0 0 none 0 0) n).toList 0 w (fun j hj => by rw [hlen] at hj; simpa using hc j hj) (fun j hj => by rw [hlen] at hj; simpa using hf j hj) h1
  simp only [Nat.add_zero] at hst
  obtain ⟨m, rfl⟩ : ∃ m, n = m + 1 := ⟨n - 1, by omega⟩
  simp [Builtin.clear_, run_underlying Try.underlying52, hv, Value.cells, hst]
end Go.Proofs.Ytengpfpeeihaoaa
