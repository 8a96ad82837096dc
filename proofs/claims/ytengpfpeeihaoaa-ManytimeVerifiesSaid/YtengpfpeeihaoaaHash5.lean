import Derived.Test.YtengpfpeeihaoaaHash4
namespace Go.Proofs.Ytengpfpeeihaoaa
open Go.RowKit
set_option linter.unusedVariables false
set_option linter.unusedSimpArgs false
attribute [local go_sem ↓] Go.wp_at_zero Go.wp_at_succ

theorem or_shortZ (a k : Nat) (c : UInt8) (hk : k < 8) (ha : a < 256 ^ k) :
    bits .or .u64 ((a : Int) * 256 ^ (8 - k)) (IntKind.u64.wrap ((c.toNat : Int) * 2 ^ (56 - 8 * k))) = (((a * 256 + c.toNat) * 256 ^ (8 - (k + 1)) : Nat) : Int) := by
  have h := or_short a k c hk ha
  have e2 : 256 ^ (7 - k) = 2 ^ (56 - 8 * k) := by rw [show (256 : Nat) = 2 ^ 8 from rfl, ← Nat.pow_mul]; congr 1; omega
  rw [show 8 - (k + 1) = 7 - k from by omega]
  rw [← h, e2]; simp
theorem take_at (l : List UInt8) (k : Nat) (h : k < l.length) : l.take (k + 1) = l.take k ++ [l[k]] := List.take_succ_eq_append_getElem h
theorem beNat_take_lt (l : List UInt8) (k : Nat) (h : k ≤ l.length) : beNat (l.take k) < 256 ^ k := by
  have := beNat_lt (l.take k); rwa [List.length_take, Nat.min_eq_left h] at this
set_option maxRecDepth 100000 in
set_option maxHeartbeats 1000000 in
theorem refWord_short (A : Option Addr) (c : Nat) (l : List UInt8) (w : World) (hr : Rd w A (bcs l)) (h8 : l.length < 8) :
    Calls Try.prog 106 #[.slice A l.length c] w fun e w' => e = .returned (.int .u64 (un (wordU l))) ∧ Ext w w' := by
  have hlt : decide ((8 : Int) ≤ (l.length : Int)) = false := by simp; omega
  go_enter Try.func106, Try.ntmps106
  go_wp2
  go_loop [3, 4] (fun v i => ∃ k : Nat, k ≤ l.length ∧ i = .int .i64 k ∧ v = .int .u64 ((beNat (l.take k) * 256 ^ (8 - k) : Nat) : Int)) (fun _ i => l.length - (intOf i).toNat)
  case atStart => exact ⟨0, by omega, rfl, by simp [beNat]⟩
  case round =>
    obtain ⟨k, hk, rfl, rfl⟩ := hrel
    by_cases hlt' : k < l.length
    · obtain ⟨b, o, rfl, hra, hb⟩ := hr.at (by intro e; have := congrArg List.length e; simp [bcs] at this; subst this; simp at hlt')
      have hcell := byte_at hra k hlt'
      have HS := Lib.hid (show beNat (l.take (k + 1)) = beNat (l.take k) * 256 + l[k].toNat by rw [take_at _ _ hlt', beNat_snoc])
      have HO := Lib.hid (or_shortZ (beNat (l.take k)) k l[k] (by omega) (beNat_take_lt l k hk))
      generalize beNat (l.take k) = a at *
      go_wp2
      go_round
      case rel => exact ⟨k + 1, by omega, by go_num, by rw [HS.out, HO.out]⟩
      case measure => simp [intOf]; omega
    · obtain rfl : k = l.length := by omega
      have HS := Lib.hid (show ((beNat (l.take l.length) : Int) * 256 ^ (8 - l.length)) = un (wordU l) by rw [un_wordU, wordN_short l (by omega), List.take_length]; simp)
      generalize beNat (l.take l.length) = a at *
      go_wp2
      go_ret
      exact ⟨by rw [← HS.out]; rfl, Ext.refl w⟩
theorem refWord_any (A : Option Addr) (n c : Nat) (l : List UInt8) (w : World) (h : SlB w A n c l) :
    Calls Try.prog 106 #[.slice A n c] w fun e w' => e = .returned (.int .u64 (un (wordU l))) ∧ Ext w w' := by
  obtain ⟨rfl, h2, h3, hr⟩ := h
  rcases Nat.lt_or_ge l.length 8 with h | h
  · exact refWord_short A c l w hr h
  · exact refWord_long A c l w hr h (by omega)
end Go.Proofs.Ytengpfpeeihaoaa
