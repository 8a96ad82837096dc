/- The reference's ValidBlock, EncodeBlock. -/
import Derived.Test.YtcfmlgbocdjabaaGreatBd2
namespace Go.Proofs.YtcfmlgbocdjabaaGreat
open Go.RowKit
set_option linter.unusedVariables false
set_option linter.unusedSimpArgs false
attribute [local go_sem ↓] Go.wp_at_zero Go.wp_at_succ

theorem within_q (b : Bool) (v lo hi : Int) (hb : wthn v lo hi = b) (w : World) :
    Calls Tryz.prog 64 #[.int .i64 v, .int .i64 lo, .int .i64 hi] w fun e w' => e = .returned (.bool b) ∧ w' = w := by
  rw [← hb]; exact (within_any v lo hi w).mono fun e w' ⟨h1, h2⟩ => ⟨h1, h2.symm⟩
theorem wthn_yes {v lo hi : Int} (h : lo ≤ v ∧ v ≤ hi) : wthn v lo hi = true := by unfold wthn; simp only [decide_eq_true_eq]; exact h
theorem wthn_no {v lo hi : Int} (h : v < lo ∨ hi < v) : wthn v lo hi = false := by unfold wthn; simp only [decide_eq_false_iff_not]; omega
end Go.Proofs.YtcfmlgbocdjabaaGreat
/- The reference's EncodeBlock. -/
namespace Go.Proofs.YtcfmlgbocdjabaaGreat
open Go.RowKit
set_option linter.unusedVariables false
set_option linter.unusedSimpArgs false
attribute [local go_sem ↓] Go.wp_at_zero Go.wp_at_succ

theorem beI_one (z : Int) : beI 1 z = [toB z] := by
  unfold beI beBytes beBytes toB
  simp only [List.nil_append]
  congr 2
  omega
theorem refNum1_any (A : Option Addr) (n c : Nat) (l : List UInt8) (z : Int) (w : World) (h : SlB w A n c l) (hn : n ≤ 140737488351232) :
    Calls Tryz.prog 115 #[.slice A n c, .int .i64 z, .int .i64 1] w fun e w' => ∃ A' c', e = .returned (.slice A' (n + 1) c') ∧ OwnB w' w.heap.size 5 A' (n + 1) c' (l ++ [toB z]) ∧ Ext w w' := by
  rw [← beI_one]; exact refNum_any A n c l z 1 (by omega) (by omega) w h hn
theorem pair_cells {w : World} {b o : Nat} {x : Int} {v : UInt64} (h : w.rangeAt b o (chL (x, v))) : w.cell? ⟨b, o, none⟩ = some (.int .i64 x) ∧ (∀ i, i < 8 → w.cell? ⟨b, o + 1 + i, none⟩ = some (.int .u8 (nb8 v i))) ∧ w.cell? ⟨b, o + 1, none⟩ = some (.int .u8 (nb8 v 0)) := by
  have h1 := cells8At (rangeAt_drop (k := 1) h)
  exact ⟨h 0 _ rfl, h1, h1 0 (by omega)⟩
end Go.Proofs.YtcfmlgbocdjabaaGreat
