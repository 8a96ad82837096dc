import Derived.Test.YtfklmcfanhnfpaaHash2
namespace Go.Proofs.Ytfklmcfanhnfpaa
open Go.RowKit
set_option linter.unusedVariables false
set_option linter.unusedSimpArgs false
attribute [local go_sem ↓] Go.wp_at_zero Go.wp_at_succ

theorem eight (l : List UInt8) (h : 8 ≤ l.length) : ∃ c0 c1 c2 c3 c4 c5 c6 c7 r, l = c0 :: c1 :: c2 :: c3 :: c4 :: c5 :: c6 :: c7 :: r := by
  match l, h with
  | c0 :: c1 :: c2 :: c3 :: c4 :: c5 :: c6 :: c7 :: r, _ => exact ⟨c0, c1, c2, c3, c4, c5, c6, c7, r, rfl⟩
theorem word8_of (c0 c1 c2 c3 c4 c5 c6 c7 : UInt8) (r : List UInt8) : word8 c0 c1 c2 c3 c4 c5 c6 c7 = un (wordU (c0 :: c1 :: c2 :: c3 :: c4 :: c5 :: c6 :: c7 :: r)) := by
  rw [word8_eq, un_wordU, wordN_long _ (by simp)]; simp
set_option maxRecDepth 100000 in
set_option maxHeartbeats 1000000 in
theorem word_long (A : Option Addr) (c : Nat) (l : List UInt8) (w : World) (hr : Rd w A (bcs l)) (h8 : 8 ≤ l.length) (hm : l.length ≤ 9223372036854775807) :
    Calls Try.prog 87 #[.slice A l.length c] w fun e w' => e = .returned (.int .u64 (un (wordU l))) ∧ Ext w w' := by
  obtain ⟨c0, c1, c2, c3, c4, c5, c6, c7, r, rfl⟩ := eight l h8
  obtain ⟨b, o, rfl, hra, hb⟩ := hr.at (by simp [bcs])
  have HW := Lib.hid (word8_of c0 c1 c2 c3 c4 c5 c6 c7 r)
  have g0 := hra 0 _ rfl
  have g1 := hra 1 _ rfl
  have g2 := hra 2 _ rfl
  have g3 := hra 3 _ rfl
  have g4 := hra 4 _ rfl
  have g5 := hra 5 _ rfl
  have g6 := hra 6 _ rfl
  have g7 := hra 7 _ rfl
  rw [Nat.add_zero] at g0
  unfold bv at g0 g1 g2 g3 g4 g5 g6 g7
  generalize hn : (c0 :: c1 :: c2 :: c3 :: c4 :: c5 :: c6 :: c7 :: r).length = n at *
  have k0 : 0 < n := by omega
  have k1 : (1 : Int) < (n : Int) := by omega
  have k2 : (2 : Int) < (n : Int) := by omega
  have k3 : (3 : Int) < (n : Int) := by omega
  have k4 : (4 : Int) < (n : Int) := by omega
  have k5 : (5 : Int) < (n : Int) := by omega
  have k6 : (6 : Int) < (n : Int) := by omega
  have k7 : (7 : Int) < (n : Int) := by omega
  have h8' : (8 : Int) ≤ (n : Int) := by omega
  clear hr hra hn
  go_enter Try.func87, Try.ntmps87
  go_wp2
  go_quiet (fail)
  go_wp2
  go_ret
  exact ⟨by rw [← HW.out]; rfl, below_drewN (Ext.refl w) _⟩
set_option maxRecDepth 100000 in
set_option maxHeartbeats 1000000 in
theorem refWord_long (A : Option Addr) (c : Nat) (l : List UInt8) (w : World) (hr : Rd w A (bcs l)) (h8 : 8 ≤ l.length) (hm : l.length ≤ 9223372036854775807) :
    Calls Try.prog 90 #[.slice A l.length c] w fun e w' => e = .returned (.int .u64 (un (wordU l))) ∧ Ext w w' := by
  obtain ⟨c0, c1, c2, c3, c4, c5, c6, c7, r, rfl⟩ := eight l h8
  obtain ⟨b, o, rfl, hra, hb⟩ := hr.at (by simp [bcs])
  have HW := Lib.hid (word8_of c0 c1 c2 c3 c4 c5 c6 c7 r)
  have g0 := hra 0 _ rfl
  have g1 := hra 1 _ rfl
  have g2 := hra 2 _ rfl
  have g3 := hra 3 _ rfl
  have g4 := hra 4 _ rfl
  have g5 := hra 5 _ rfl
  have g6 := hra 6 _ rfl
  have g7 := hra 7 _ rfl
  rw [Nat.add_zero] at g0
  unfold bv at g0 g1 g2 g3 g4 g5 g6 g7
  generalize hn : (c0 :: c1 :: c2 :: c3 :: c4 :: c5 :: c6 :: c7 :: r).length = n at *
  have k0 : 0 < n := by omega
  have k1 : (1 : Int) < (n : Int) := by omega
  have k2 : (2 : Int) < (n : Int) := by omega
  have k3 : (3 : Int) < (n : Int) := by omega
  have k4 : (4 : Int) < (n : Int) := by omega
  have k5 : (5 : Int) < (n : Int) := by omega
  have k6 : (6 : Int) < (n : Int) := by omega
  have k7 : (7 : Int) < (n : Int) := by omega
  have h8' : (8 : Int) ≤ (n : Int) := by omega
  clear hr hra hn
  go_enter Try.func90, Try.ntmps90
  go_wp2
  go_quiet (fail)
  go_wp2
  go_ret
  exact ⟨by rw [← HW.out]; rfl, below_drewN (Ext.refl w) _⟩
end Go.Proofs.Ytfklmcfanhnfpaa
namespace Go.Proofs.Ytfklmcfanhnfpaa
open Go.RowKit
set_option linter.unusedVariables false
set_option linter.unusedSimpArgs false
attribute [local go_sem ↓] Go.wp_at_zero Go.wp_at_succ

theorem word_pad (l : List UInt8) (h : l.length < 8) : ofNm (l ++ List.replicate (8 - l.length) 0) = wordU l := by
  unfold ofNm wordU wordN
  rw [List.take_append, List.take_of_length_le (by omega), List.take_replicate, Nat.min_eq_left (by omega)]
theorem zcs_splice (l : List UInt8) (h : l.length < 8) : (splice zcs 0 (bcs l)).toArray = nmc (wordU l) := by
  rw [← word_pad l h, ← nmc_of _ (by simp; omega), bcs_append]
  rw [zcs_eq]
  simp only [splice, List.take_zero, List.nil_append, List.drop_replicate, bcs_length, Nat.zero_add]
  congr 2
  simp [bcs, bv]
set_option maxRecDepth 100000 in
set_option maxHeartbeats 1000000 in
theorem word_short (A : Option Addr) (c : Nat) (l : List UInt8) (w : World) (hr : Rd w A (bcs l)) (h8 : l.length < 8) :
    Calls Try.prog 87 #[.slice A l.length c] w fun e w' => e = .returned (.int .u64 (un (wordU l))) ∧ Ext w w' := by
  have hlt : decide ((8 : Int) ≤ (l.length : Int)) = false := by simp; omega
  have hr1 := hr.ext ((Ext.refl w).alloc' (.cells zcs.toArray 25))
  have hsp := Lib.hid (zcs_splice l h8)
  go_enter Try.func87, Try.ntmps87
  go_wp2_with (with_reducible refine wpList_copy_splice rfl _ _ _ _ rfl 5 Try.underlying22 (by kernel_rfl) _ _ _ _ _ _ rfl rfl w.heap.size 0 zcs 25 (heap_alloc_new w _) (bcs l) ?c1 ?c2 ?c3 (bcs_one l) w.heap.size w ((Ext.refl w).alloc' _) (Nat.le_refl _) ?_)
  case c1 => rw [bcs_length]; exact (Nat.min_eq_left (by omega)).symm
  case c2 => exact fun hp => hr1.src hp
  case c3 => rw [bcs_length]; show _ ≤ 8; omega
  intro w1 hb1 he1
  rw [hsp.out] at hb1
  go_wp2_with (first | (refine wpList_load_row rfl 25 _ rfl _ rfl 25 _ (0, 0) _ hb1.out Try.underlying25 rfl (size61 _) ?_) | (go_at_call 112; refine (number_any _ _).mono ?_; rintro e w2 ⟨rfl, he2⟩))
  go_ret
  exact ⟨rfl, Ext.trans he1 he2⟩
theorem word_any (A : Option Addr) (n c : Nat) (l : List UInt8) (w : World) (h : SlB w A n c l) :
    Calls Try.prog 87 #[.slice A n c] w fun e w' => e = .returned (.int .u64 (un (wordU l))) ∧ Ext w w' := by
  obtain ⟨rfl, h2, h3, hr⟩ := h
  rcases Nat.lt_or_ge l.length 8 with h | h
  · exact word_short A c l w hr h
  · exact word_long A c l w hr h (by omega)
theorem or_short (a k : Nat) (c : UInt8) (hk : k < 8) (ha : a < 256 ^ k) :
    bits .or .u64 ((a * 256 ^ (8 - k) : Nat) : Int) (IntKind.u64.wrap ((c.toNat : Int) * ((256 ^ (7 - k) : Nat) : Int))) = (((a * 256 + c.toNat) * 256 ^ (7 - k) : Nat) : Int) := by
  have hc : c.toNat < 256 := c.toNat_lt
  have e1 : 256 ^ (8 - k) = 2 ^ ((56 - 8 * k) + 8) := by rw [show (256 : Nat) = 2 ^ 8 from rfl, ← Nat.pow_mul]; congr 1; omega
  have e2 : 256 ^ (7 - k) = 2 ^ (56 - 8 * k) := by rw [show (256 : Nat) = 2 ^ 8 from rfl, ← Nat.pow_mul]; congr 1; omega
  have hb : a * 2 ^ ((56 - 8 * k) + 8) + c.toNat * 2 ^ (56 - 8 * k) < 18446744073709551616 := by
    rw [shift_step, ← e2]
    have h1 : (a * 256 + c.toNat) + 1 ≤ 256 ^ (k + 1) := by rw [Nat.pow_succ]; omega
    have h2 := Nat.mul_le_mul_right (256 ^ (7 - k)) h1
    rw [← Nat.pow_add, show k + 1 + (7 - k) = 8 from by omega, Nat.add_mul] at h2
    have h3 : 0 < 256 ^ (7 - k) := Nat.pow_pos (by omega)
    have h4 : (256 : Nat) ^ 8 = 18446744073709551616 := by decide
    omega
  rw [e1, e2, or_at a (56 - 8 * k) c (by omega) hb, shift_step]
end Go.Proofs.Ytfklmcfanhnfpaa
namespace Go.Proofs.Ytfklmcfanhnfpaa
open Go.RowKit
set_option linter.unusedVariables false
set_option linter.unusedSimpArgs false
attribute [local go_sem ↓] Go.wp_at_zero Go.wp_at_succ

theorem or_shortZ (a k : Nat) (c : UInt8) (hk : k < 8) (ha : a < 256 ^ k) :
    bits .or .u64 ((a : Int) * 256 ^ (8 - k)) (IntKind.u64.wrap ((c.toNat : Int) * 2 ^ (56 - 8 * k))) = (((a * 256 + c.toNat) * 256 ^ (8 - (k + 1)) : Nat) : Int) := by
  have h := or_short a k c hk ha
  have e2 : 256 ^ (7 - k) = 2 ^ (56 - 8 * k) := by rw [show (256 : Nat) = 2 ^ 8 from rfl, ← Nat.pow_mul]; congr 1; omega
  rw [show 8 - (k + 1) = 7 - k from by omega]
  rw [← h, e2]; simp
theorem take_at (l : List UInt8) (k : Nat) (h : k < l.length) : l.take (k + 1) = l.take k ++ [l[k]] := List.take_succ_eq_append_getElem h
theorem beNat_take_lt (l : List UInt8) (k : Nat) (h : k ≤ l.length) : beNat (l.take k) < 256 ^ k := by
  have := beNat_lt (l.take k); rwa [List.length_take, Nat.min_eq_left h] at this
set_option maxRecDepth 100000 in
set_option maxHeartbeats 1000000 in
theorem refWord_short (A : Option Addr) (c : Nat) (l : List UInt8) (w : World) (hr : Rd w A (bcs l)) (h8 : l.length < 8) :
    Calls Try.prog 90 #[.slice A l.length c] w fun e w' => e = .returned (.int .u64 (un (wordU l))) ∧ Ext w w' := by
  have hlt : decide ((8 : Int) ≤ (l.length : Int)) = false := by simp; omega
  go_enter Try.func90, Try.ntmps90
  go_wp2
  go_loop [3, 4] (fun v i => ∃ k : Nat, k ≤ l.length ∧ i = .int .i64 k ∧ v = .int .u64 ((beNat (l.take k) * 256 ^ (8 - k) : Nat) : Int)) (fun _ i => l.length - (intOf i).toNat)
  case atStart => exact ⟨0, by omega, rfl, by simp [beNat]⟩
  case round =>
    obtain ⟨k, hk, rfl, rfl⟩ := hrel
    by_cases hlt' : k < l.length
    · obtain ⟨b, o, rfl, hra, hb⟩ := hr.at (by intro e; have := congrArg List.length e; simp [bcs] at this; subst this; simp at hlt')
      have hcell := byte_at hra k hlt'
      have HS := Lib.hid (show beNat (l.take (k + 1)) = beNat (l.take k) * 256 + l[k].toNat by rw [take_at _ _ hlt', beNat_snoc])
      have HO := Lib.hid (or_shortZ (beNat (l.take k)) k l[k] (by omega) (beNat_take_lt l k hk))
      generalize beNat (l.take k) = a at *
      go_wp2
      go_round
      case rel => exact ⟨k + 1, by omega, by go_num, by rw [HS.out, HO.out]⟩
      case measure => simp [intOf]; omega
    · obtain rfl : k = l.length := by omega
      have HS := Lib.hid (show ((beNat (l.take l.length) : Int) * 256 ^ (8 - l.length)) = un (wordU l) by rw [un_wordU, wordN_short l (by omega), List.take_length]; simp)
      generalize beNat (l.take l.length) = a at *
      go_wp2
      go_ret
      exact ⟨by rw [← HS.out]; rfl, Ext.refl w⟩
theorem refWord_any (A : Option Addr) (n c : Nat) (l : List UInt8) (w : World) (h : SlB w A n c l) :
    Calls Try.prog 90 #[.slice A n c] w fun e w' => e = .returned (.int .u64 (un (wordU l))) ∧ Ext w w' := by
  obtain ⟨rfl, h2, h3, hr⟩ := h
  rcases Nat.lt_or_ge l.length 8 with h | h
  · exact refWord_short A c l w hr h
  · exact refWord_long A c l w hr h (by omega)
end Go.Proofs.Ytfklmcfanhnfpaa
