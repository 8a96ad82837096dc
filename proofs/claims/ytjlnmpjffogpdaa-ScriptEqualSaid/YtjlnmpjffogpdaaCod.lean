/- codec.Uint and its reference, over every offset and width. -/
import Derived.Test.YtjlnmpjffogpdaaApp
import Derived.Test.YtjlnmpjffogpdaaHash
namespace Go.Proofs.Ytjlnmpjffogpdaa
open Go.RowKit
set_option linter.unusedVariables false
set_option linter.unusedSimpArgs false
attribute [local go_sem ↓] Go.wp_at_zero Go.wp_at_succ

/-- n bytes follow the offset at -/
def flw (len at_ n : Int) : Bool := decide (0 ≤ at_ ∧ at_ ≤ len ∧ n ≤ len - at_)
set_option maxHeartbeats 1000000 in
theorem codFollow_any (A : Option Addr) (len c : Nat) (at_ n : Int) (w : World) (hl : len ≤ 9223372036854775807) :
    Calls Try.prog 108 #[.slice A len c, .int .i64 at_, .int .i64 n] w fun e w' => e = .returned (.bool (flw len at_ n)) ∧ w = w' := by
  by_cases h1 : 0 ≤ at_
  · by_cases h2 : at_ ≤ (len : Int)
    · by_cases h3 : n ≤ (len : Int) - at_
      · have hf : flw len at_ n = true := by unfold flw; simp only [decide_eq_true_eq]; exact ⟨h1, h2, h3⟩
        rw [hf]; clear hf
        go_enter Try.func108, Try.ntmps108
        go_wp2_with fail
        go_ret
        exact ⟨rfl, rfl⟩
      · have hf : flw len at_ n = false := by unfold flw; simp only [decide_eq_false_iff_not]; omega
        have h3' : decide (n ≤ (len : Int) - at_) = false := decide_eq_false h3
        rw [hf]; clear hf
        go_enter Try.func108, Try.ntmps108
        go_wp2_with fail
        go_ret
        exact ⟨rfl, rfl⟩
    · have hf : flw len at_ n = false := by unfold flw; simp only [decide_eq_false_iff_not]; omega
      have h2' : decide (at_ ≤ (len : Int)) = false := decide_eq_false h2
      rw [hf]; clear hf
      go_enter Try.func108, Try.ntmps108
      go_wp2_with fail
      go_ret
      exact ⟨rfl, rfl⟩
  · have hf : flw len at_ n = false := by unfold flw; simp only [decide_eq_false_iff_not]; omega
    have h1' : decide (0 ≤ at_) = false := decide_eq_false h1
    rw [hf]; clear hf
    go_enter Try.func108, Try.ntmps108
    go_wp2_with fail
    go_ret
    exact ⟨rfl, rfl⟩
theorem or_byte' (a : Nat) (c : UInt8) (ha : a < 72057594037927936) : bits .or .u64 (IntKind.u64.wrap ((a : Int) * 256)) (c.toNat : Int) = ((a * 256 + c.toNat : Nat) : Int) := or_byte a c ha
theorem pow_le7 (a k : Nat) (h : a < 256 ^ k) (hk : k < 8) : a < 72057594037927936 := Nat.lt_of_lt_of_le h (Nat.pow_le_pow_right (n := 256) (j := 7) (by omega) (by omega))
/-- the number that stands in 'width' bytes at an offset -/
def numAt (l : List UInt8) (at_ width : Nat) : Nat := beNat ((l.drop at_).take width)
set_option maxRecDepth 100000 in
set_option maxHeartbeats 1000000 in
theorem uint_yes (A : Option Addr) (n c : Nat) (l : List UInt8) (at_ width : Nat) (w : World) (h : SlB w A n c l) (h1 : 1 ≤ width) (h8 : width ≤ 8) (hf : at_ + width ≤ n) :
    Calls Try.prog 81 #[.slice A n c, .int .i64 (at_ : Int), .int .i64 (width : Int)] w fun e w' => e = .returned (.tuple #[.int .u64 (numAt l at_ width : Int), .bool true]) ∧ w = w' := by
  have hle := h.le
  have hcap := h.cap
  have hlen := h.len
  have e1 : decide ((width : Int) < 1) = false := decide_eq_false (by omega)
  have e2 : decide ((8 : Int) < (width : Int)) = false := decide_eq_false (by omega)
  have hfl : flw n at_ width = true := by unfold flw; simp only [decide_eq_true_eq]; omega
  have b1 : ¬ c = at_ := by omega
  obtain ⟨b, o, rfl, hra, hbl⟩ := h.at (by omega)
  go_enter Try.func81, Try.ntmps81
  go_wp2_with (go_at_call 108; refine (codFollow_any _ _ _ _ _ _ (by omega)).mono ?_; rintro e w1 ⟨rfl, rfl⟩; rw [hfl])
  go_loop [8, 31] (fun v i => ∃ k : Nat, k ≤ width ∧ i = .int .i64 (k : Int) ∧ v = .int .u64 ((numAt l at_ k : Nat) : Int)) (fun _ i => width - (intOf i).toNat)
  case atStart => exact ⟨0, by omega, rfl, by simp [numAt, beNat]⟩
  case round =>
    obtain ⟨k, hk, rfl, rfl⟩ := hrel
    by_cases hlt : k < width
    · have hcell := byte_at hra (at_ + k) (by omega)
      rw [← Nat.add_assoc] at hcell
      have hd : (l.drop at_)[k]'(by simp; omega) = l[at_ + k]'(by omega) := by simp
      have HS := Lib.hid (show numAt l at_ (k + 1) = numAt l at_ k * 256 + (l[at_ + k]'(by omega)).toNat by unfold numAt; rw [take_at _ _ (by simp; omega), beNat_snoc, hd])
      have hor := or_byte' (numAt l at_ k) (l[at_ + k]'(by omega)) (pow_le7 _ k (beNat_take_lt _ _ (by simp; omega)) (by omega))
      clear hd
      generalize numAt l at_ k = a at *
      generalize (l[at_ + k]'(by omega)) = x at *
      go_wp2_with fail
      go_round
      case rel => exact ⟨k + 1, by omega, by go_num, by rw [HS.out]; go_num⟩
      case measure => simp [intOf]; omega
    · obtain rfl : k = width := by omega
      go_wp2_with fail
      go_ret2
      exact ⟨rfl, rfl⟩
set_option maxRecDepth 100000 in
set_option maxHeartbeats 1000000 in
theorem uint_no (A : Option Addr) (n c : Nat) (at_ width : Int) (w : World) (hn : n ≤ 9223372036854775807) (h1 : 1 ≤ width) (h8 : width ≤ 8) (hf : flw n at_ width = false) :
    Calls Try.prog 81 #[.slice A n c, .int .i64 at_, .int .i64 width] w fun e w' => e = .returned (.tuple #[.int .u64 0, .bool false]) ∧ w = w' := by
  have e1 : decide (width < 1) = false := decide_eq_false (by omega)
  have e2 : decide (8 < width) = false := decide_eq_false (by omega)
  go_enter Try.func81, Try.ntmps81
  go_wp2_with (go_at_call 108; refine (codFollow_any _ _ _ _ _ _ (by omega)).mono ?_; rintro e w1 ⟨rfl, rfl⟩; rw [hf])
  go_ret2
  exact ⟨rfl, rfl⟩
end Go.Proofs.Ytjlnmpjffogpdaa
