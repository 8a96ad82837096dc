/- Kind and Name of a text, the program's and the reference's. -/
import Derived.Test.YtcfmlgbocdjabaaGreatNm
import Derived.Test.YtcfmlgbocdjabaaGreatCod
namespace Go.Proofs.YtcfmlgbocdjabaaGreat
open Go.RowKit
set_option linter.unusedVariables false
set_option linter.unusedSimpArgs false
attribute [local go_sem ↓] Go.wp_at_zero Go.wp_at_succ

/-- the kind of a text -/
def kindU (l : List UInt8) : Int := match l with
  | [] => 0
  | c :: _ => if c.toNat < 1 then 0 else if 4 < c.toNat then 0 else (c.toNat : Int)
theorem kindU_at {l : List UInt8} (h : 0 < l.length) : kindU l = if (l[0]).toNat < 1 then (0 : Int) else if 4 < (l[0]).toNat then (0 : Int) else ((l[0]).toNat : Int) := by
  cases l with
  | nil => simp at h
  | cons c r => rfl
/-- v is from lo to hi -/
def wthn (v lo hi : Int) : Bool := decide (lo ≤ v ∧ v ≤ hi)
set_option maxHeartbeats 1000000 in
theorem within_any (v lo hi : Int) (w : World) :
    Calls Tryz.prog 64 #[.int .i64 v, .int .i64 lo, .int .i64 hi] w fun e w' => e = .returned (.bool (wthn v lo hi)) ∧ w = w' := by
  by_cases h1 : lo ≤ v
  · by_cases h2 : v ≤ hi
    · have HV := Lib.hid (show wthn v lo hi = true by unfold wthn; simp only [decide_eq_true_eq]; exact ⟨h1, h2⟩)
      go_enter Tryz.func64, Tryz.ntmps64
      go_wp2_with fail
      go_ret
      exact ⟨by rw [HV.out]; rfl, rfl⟩
    · have HV := Lib.hid (show wthn v lo hi = false by unfold wthn; simp only [decide_eq_false_iff_not]; omega)
      have d2 : decide (v ≤ hi) = false := decide_eq_false h2
      clear h2
      go_enter Tryz.func64, Tryz.ntmps64
      go_wp2_with fail
      go_ret
      exact ⟨by rw [HV.out]; rfl, rfl⟩
  · have HV := Lib.hid (show wthn v lo hi = false by unfold wthn; simp only [decide_eq_false_iff_not]; omega)
    have d1 : decide (lo ≤ v) = false := decide_eq_false h1
    clear h1
    go_enter Tryz.func64, Tryz.ntmps64
    go_wp2_with fail
    go_ret
    exact ⟨by rw [HV.out]; rfl, rfl⟩
theorem within_yes (v lo hi : Int) (h : lo ≤ v ∧ v ≤ hi) (w : World) :
    Calls Tryz.prog 64 #[.int .i64 v, .int .i64 lo, .int .i64 hi] w fun e w' => e = .returned (.bool true) ∧ w = w' := by
  rw [← show wthn v lo hi = true by unfold wthn; simp only [decide_eq_true_eq]; exact h]; exact within_any v lo hi w
theorem within_no (v lo hi : Int) (h : v < lo ∨ hi < v) (w : World) :
    Calls Tryz.prog 64 #[.int .i64 v, .int .i64 lo, .int .i64 hi] w fun e w' => e = .returned (.bool false) ∧ w = w' := by
  rw [← show wthn v lo hi = false by unfold wthn; simp only [decide_eq_false_iff_not]; omega]; exact within_any v lo hi w
end Go.Proofs.YtcfmlgbocdjabaaGreat
