/- Kind and Name of a text, the program's and the reference's. -/
import Derived.Test.YtcfmlgbocdjabaaNm
import Derived.Test.YtcfmlgbocdjabaaCod
namespace Go.Proofs.Ytcfmlgbocdjabaa
open Go.RowKit
set_option linter.unusedVariables false
set_option linter.unusedSimpArgs false
attribute [local go_sem ↓] Go.wp_at_zero Go.wp_at_succ

/-- the kind of a text -/
def kindU (l : List UInt8) : Int := match l with
  | [] => 0
  | c :: _ => if c.toNat < 1 then 0 else if 4 < c.toNat then 0 else (c.toNat : Int)
theorem kindU_at {l : List UInt8} (h : 0 < l.length) : kindU l = if (l[0]).toNat < 1 then (0 : Int) else if 4 < (l[0]).toNat then (0 : Int) else ((l[0]).toNat : Int) := by
  cases l with
  | nil => simp at h
  | cons c r => rfl
set_option maxHeartbeats 1000000 in
theorem kind_any (A : Option Addr) (n c : Nat) (l : List UInt8) (w : World) (h : SlB w A n c l) :
    Calls Try.prog 17 #[.slice A n c] w fun e w' => e = .returned (.int .i64 (kindU l)) ∧ w = w' := by
  have hlen := h.len
  have hle := h.le
  have hcap := h.cap
  by_cases hn : n = 0
  · subst hn
    obtain rfl : l = [] := List.eq_nil_of_length_eq_zero hlen
    go_enter Try.func17, Try.ntmps17
    go_wp2_with fail
    go_ret
    exact ⟨rfl, rfl⟩
  · obtain ⟨b, o, rfl, hra, hbl⟩ := h.at (by omega)
    have hcell := byte_at hra 0 (by omega)
    rw [Nat.add_zero] at hcell
    have hk := kindU_at (l := l) (by omega)
    have hx := (l[0]'(by omega)).toNat_lt
    generalize (l[0]'(by omega)) = x at *
    have HK := Lib.hid hk
    have n0 : ((n : Int) == 0) = false := by simp; omega
    have n1 : (0 : Int) < (n : Int) := by omega
    clear hk hra hbl hlen h
    by_cases h1 : x.toNat < 1
    · have HV := Lib.hid (show kindU l = 0 by rw [HK.out, if_pos h1])
      have d1 : ((x.toNat : Int) < 1) := by omega
      clear HK h1
      go_enter Try.func17, Try.ntmps17
      go_wp2_with fail
      go_ret
      exact ⟨by rw [HV.out]; rfl, rfl⟩
    · by_cases h4 : 4 < x.toNat
      · have HV := Lib.hid (show kindU l = 0 by rw [HK.out, if_neg h1, if_pos h4])
        have d1 : decide ((x.toNat : Int) < 1) = false := decide_eq_false (by omega)
        have d2 : (4 : Int) < (x.toNat : Int) := by omega
        clear HK h1 h4
        go_enter Try.func17, Try.ntmps17
        go_wp2_with fail
        go_ret
        exact ⟨by rw [HV.out]; rfl, rfl⟩
      · have HV := Lib.hid (show kindU l = (x.toNat : Int) by rw [HK.out, if_neg h1, if_neg h4])
        have d1 : decide ((x.toNat : Int) < 1) = false := decide_eq_false (by omega)
        have d2 : decide ((4 : Int) < (x.toNat : Int)) = false := decide_eq_false (by omega)
        clear HK h1 h4
        go_enter Try.func17, Try.ntmps17
        go_wp2_with fail
        go_ret
        exact ⟨by rw [HV.out]; rfl, rfl⟩
/-- v is from lo to hi -/
def wthn (v lo hi : Int) : Bool := decide (lo ≤ v ∧ v ≤ hi)
set_option maxHeartbeats 1000000 in
theorem within_any (v lo hi : Int) (w : World) :
    Calls Try.prog 86 #[.int .i64 v, .int .i64 lo, .int .i64 hi] w fun e w' => e = .returned (.bool (wthn v lo hi)) ∧ w = w' := by
  by_cases h1 : lo ≤ v
  · by_cases h2 : v ≤ hi
    · have HV := Lib.hid (show wthn v lo hi = true by unfold wthn; simp only [decide_eq_true_eq]; exact ⟨h1, h2⟩)
      go_enter Try.func86, Try.ntmps86
      go_wp2_with fail
      go_ret
      exact ⟨by rw [HV.out]; rfl, rfl⟩
    · have HV := Lib.hid (show wthn v lo hi = false by unfold wthn; simp only [decide_eq_false_iff_not]; omega)
      have d2 : decide (v ≤ hi) = false := decide_eq_false h2
      clear h2
      go_enter Try.func86, Try.ntmps86
      go_wp2_with fail
      go_ret
      exact ⟨by rw [HV.out]; rfl, rfl⟩
  · have HV := Lib.hid (show wthn v lo hi = false by unfold wthn; simp only [decide_eq_false_iff_not]; omega)
    have d1 : decide (lo ≤ v) = false := decide_eq_false h1
    clear h1
    go_enter Try.func86, Try.ntmps86
    go_wp2_with fail
    go_ret
    exact ⟨by rw [HV.out]; rfl, rfl⟩
theorem within_yes (v lo hi : Int) (h : lo ≤ v ∧ v ≤ hi) (w : World) :
    Calls Try.prog 86 #[.int .i64 v, .int .i64 lo, .int .i64 hi] w fun e w' => e = .returned (.bool true) ∧ w = w' := by
  rw [← show wthn v lo hi = true by unfold wthn; simp only [decide_eq_true_eq]; exact h]; exact within_any v lo hi w
theorem within_no (v lo hi : Int) (h : v < lo ∨ hi < v) (w : World) :
    Calls Try.prog 86 #[.int .i64 v, .int .i64 lo, .int .i64 hi] w fun e w' => e = .returned (.bool false) ∧ w = w' := by
  rw [← show wthn v lo hi = false by unfold wthn; simp only [decide_eq_false_iff_not]; omega]; exact within_any v lo hi w
set_option maxHeartbeats 1000000 in
theorem name_any (A : Option Addr) (n c : Nat) (l : List UInt8) (w : World) (h : SlB w A n c l) (hm : n ≤ 140737488355328) :
    Calls Try.prog 50 #[.slice A n c] w fun e w' => e = .returned (.agg (nmc (sumU l))) ∧ Ext w w' := by
  have HB := Lib.hid (Blk.new w 23 zcs.toArray)
  have HE := Lib.hid ((Ext.refl w).alloc' (.cells zcs.toArray 23))
  have HS := Lib.hid (h.ext ((Ext.refl w).alloc' (.cells zcs.toArray 23)))
  clear h
  go_enter Try.func50, Try.ntmps50
  go_wp2_with fail
  refine (sum_any A n c l _ HS.out hm).mono ?_
  rintro e w1 ⟨rfl, he1⟩
  have hb := HB.out.ext he1
  have hst := run_storeN hb (sumU l)
  go_wp2_with fail
  refine bodyPost_ret (v := .agg (nmc (sumU l))) (retN rfl _ _ w.heap.size _ rfl (blkN hb _)) rfl ⟨rfl, Below.setCells' (HE.out.trans he1) (by omega) _ _⟩
end Go.Proofs.Ytcfmlgbocdjabaa
