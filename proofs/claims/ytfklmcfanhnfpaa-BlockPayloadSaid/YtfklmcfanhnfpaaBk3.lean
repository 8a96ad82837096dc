/- ids in strictly ascending order: block.validators over a function value; validBlock and its reference. -/
import Derived.Test.YtfklmcfanhnfpaaBk2
namespace Go.Proofs.Ytfklmcfanhnfpaa
open Go.RowKit
set_option linter.unusedVariables false
set_option linter.unusedSimpArgs false
attribute [local go_sem ↓] Go.wp_at_zero Go.wp_at_succ

/-- the id at i is an id of a validator, and greater than the one before it -/
def okId (ids : Nat → Int) (i : Nat) : Prop := 0 ≤ ids i ∧ ids i < 10 ∧ (0 < i → ids (i - 1) < ids i)
instance (ids : Nat → Int) (i : Nat) : Decidable (okId ids i) := by unfold okId; infer_instance
def okIds (ids : Nat → Int) (n : Nat) : Bool := decide (∀ i, i < n → okId ids i)
theorem okIds_no {ids : Nat → Int} {n k : Nat} (hk : k < n) (h : ¬ okId ids k) : okIds ids n = false := by
  unfold okIds; rw [decide_eq_false_iff_not]; exact fun hh => h (hh k hk)
theorem okIds_yes {ids : Nat → Int} {n : Nat} (h : ∀ i, i < n → okId ids i) : okIds ids n = true := by
  unfold okIds; rw [decide_eq_true_eq]; exact h
set_option maxRecDepth 100000 in
set_option maxHeartbeats 2000000 in
theorem validators_any (fn : Nat) (eg : ∀ args w, (callFunc fn args).run Try.prog w = .ok (.enter fn args) w) (ptr : Value) (ids : Nat → Int) (n : Nat) (hn : n ≤ 1000000) (w : World)
    (hid : ∀ i, i < n → Calls Try.prog fn #[.int .i64 (i : Int), ptr] w fun e w' => e = .returned (.int .i64 (ids i)) ∧ w = w') :
    Calls Try.prog 99 #[.int .i64 (n : Int), .func (.func fn) #[] #[ptr]] w fun e w' => e = .returned (.bool (okIds ids n)) ∧ w = w' := by
  have HID := Lib.hid hid
  clear hid
  go_enter Try.func99, Try.ntmps99
  go_wp2_with fail
  go_loop [7] (fun i => ∃ k : Nat, k ≤ n ∧ i = .int .i64 (k : Int) ∧ Hid (∀ j, j < k → okId ids j)) (fun i => n - (intOf i).toNat)
  case atStart => exact ⟨0, Nat.zero_le _, rfl, Lib.hid (fun j hj => by omega)⟩
  case round =>
    obtain ⟨k, hk, rfl, HP⟩ := hrel
    by_cases hlt : k < n
    · rcases Nat.eq_zero_or_pos k with rfl | hk0
      · have HK := Lib.hid (HID.out 0 hlt)
        obtain ⟨x, hx⟩ : ∃ x, ids 0 = x := ⟨_, rfl⟩
        rw [hx] at HK
        have HX := Lib.hid hx
        clear hx HID
        by_cases h0 : x < 0
        · have HF := Lib.hid (okIds_no hlt (fun h : okId ids 0 => by have := h.1; rw [HX.out] at this; omega))
          go_wp2_with fail
          refine HK.out.mono ?_
          rintro e w' ⟨rfl, rfl⟩
          go_wp2_with fail
          go_ret
          exact ⟨by rw [HF.out]; rfl, rfl⟩
        · have d0 : decide (x < 0) = false := decide_eq_false h0
          by_cases h1 : 10 ≤ x
          · have HF := Lib.hid (okIds_no hlt (fun h : okId ids 0 => by have := h.2.1; rw [HX.out] at this; omega))
            go_wp2_with fail
            refine HK.out.mono ?_
            rintro e w' ⟨rfl, rfl⟩
            go_wp2_with fail
            refine HK.out.mono ?_
            rintro e w' ⟨rfl, rfl⟩
            go_wp2_with fail
            go_ret
            exact ⟨by rw [HF.out]; rfl, rfl⟩
          · have d1 : decide (10 ≤ x) = false := decide_eq_false h1
            have HO := Lib.hid (show okId ids 0 from ⟨by rw [HX.out]; omega, by rw [HX.out]; omega, fun h => by omega⟩)
            go_wp2_with fail
            refine HK.out.mono ?_
            rintro e w' ⟨rfl, rfl⟩
            go_wp2_with fail
            refine HK.out.mono ?_
            rintro e w' ⟨rfl, rfl⟩
            go_wp2_with fail
            go_round
            case rel => exact ⟨1, by omega, rfl, Lib.hid (fun j hj => (show 0 = j by omega) ▸ HO.out)⟩
            case measure => simp [intOf]; omega
      · obtain ⟨j, rfl⟩ : ∃ j, k = j + 1 := ⟨k - 1, by omega⟩
        have HK := Lib.hid (HID.out (j + 1) hlt)
        have HJ := Lib.hid (HID.out j (by omega))
        obtain ⟨x, hx⟩ : ∃ x, ids (j + 1) = x := ⟨_, rfl⟩
        obtain ⟨y, hy⟩ : ∃ y, ids j = y := ⟨_, rfl⟩
        rw [hx, show (((j + 1 : Nat)) : Int) = (j : Int) + 1 from by omega] at HK
        rw [hy] at HJ
        have HX := Lib.hid hx
        have HY := Lib.hid hy
        clear hx hy HID
        rw [show (((j + 1 : Nat)) : Int) = (j : Int) + 1 from by omega]
        have j0 : (0 : Int) < (j : Int) + 1 := by omega
        have j1 : (j : Int) + 1 < (n : Int) := by omega
        by_cases h0 : x < 0
        · have HF := Lib.hid (okIds_no hlt (fun h : okId ids (j + 1) => by have := h.1; rw [HX.out] at this; omega))
          go_wp2_with fail
          refine HK.out.mono ?_
          rintro e w' ⟨rfl, rfl⟩
          go_wp2_with fail
          go_ret
          exact ⟨by rw [HF.out]; rfl, rfl⟩
        · have d0 : decide (x < 0) = false := decide_eq_false h0
          by_cases h1 : 10 ≤ x
          · have HF := Lib.hid (okIds_no hlt (fun h : okId ids (j + 1) => by have := h.2.1; rw [HX.out] at this; omega))
            go_wp2_with fail
            refine HK.out.mono ?_
            rintro e w' ⟨rfl, rfl⟩
            go_wp2_with fail
            refine HK.out.mono ?_
            rintro e w' ⟨rfl, rfl⟩
            go_wp2_with fail
            go_ret
            exact ⟨by rw [HF.out]; rfl, rfl⟩
          · have d1 : decide (10 ≤ x) = false := decide_eq_false h1
            by_cases h2 : x ≤ y
            · have HF := Lib.hid (okIds_no hlt (fun h : okId ids (j + 1) => by have := h.2.2 (by omega); rw [HX.out, show j + 1 - 1 = j from rfl, HY.out] at this; omega))
              go_wp2_with fail
              refine HK.out.mono ?_
              rintro e w' ⟨rfl, rfl⟩
              go_wp2_with fail
              refine HK.out.mono ?_
              rintro e w' ⟨rfl, rfl⟩
              go_wp2_with fail
              refine HJ.out.mono ?_
              rintro e w' ⟨rfl, rfl⟩
              go_wp2_with fail
              refine HK.out.mono ?_
              rintro e w' ⟨rfl, rfl⟩
              go_wp2_with fail
              go_ret
              exact ⟨by rw [HF.out]; rfl, rfl⟩
            · have d2 : decide (x ≤ y) = false := decide_eq_false h2
              have HO := Lib.hid (show okId ids (j + 1) from ⟨by rw [HX.out]; omega, by rw [HX.out]; omega, fun h => by rw [HX.out, show j + 1 - 1 = j from rfl, HY.out]; omega⟩)
              go_wp2_with fail
              refine HK.out.mono ?_
              rintro e w' ⟨rfl, rfl⟩
              go_wp2_with fail
              refine HK.out.mono ?_
              rintro e w' ⟨rfl, rfl⟩
              go_wp2_with fail
              refine HJ.out.mono ?_
              rintro e w' ⟨rfl, rfl⟩
              go_wp2_with fail
              refine HK.out.mono ?_
              rintro e w' ⟨rfl, rfl⟩
              go_wp2_with fail
              go_round
              case rel => exact ⟨j + 1 + 1, by omega, by go_num, Lib.hid (fun i hi => by
                rcases Nat.lt_or_ge i (j + 1) with h | h
                · exact HP.out i h
                · obtain rfl : i = j + 1 := by omega
                  exact HO.out)⟩
              case measure => simp [intOf]; omega
    · obtain rfl : k = n := by omega
      have HF := Lib.hid (okIds_yes HP.out)
      go_wp2_with fail
      go_ret
      exact ⟨by rw [HF.out]; rfl, rfl⟩
end Go.Proofs.Ytfklmcfanhnfpaa
