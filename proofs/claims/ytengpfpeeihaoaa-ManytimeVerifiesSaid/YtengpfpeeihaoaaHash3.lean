import Derived.Test.YtengpfpeeihaoaaHash2
namespace Go.Proofs.Ytengpfpeeihaoaa
open Go.RowKit
set_option linter.unusedVariables false
set_option linter.unusedSimpArgs false
attribute [local go_sem ↓] Go.wp_at_zero Go.wp_at_succ

theorem eight (l : List UInt8) (h : 8 ≤ l.length) : ∃ c0 c1 c2 c3 c4 c5 c6 c7 r, l = c0 :: c1 :: c2 :: c3 :: c4 :: c5 :: c6 :: c7 :: r := by
  match l, h with
  | c0 :: c1 :: c2 :: c3 :: c4 :: c5 :: c6 :: c7 :: r, _ => exact ⟨c0, c1, c2, c3, c4, c5, c6, c7, r, rfl⟩
theorem word8_of (c0 c1 c2 c3 c4 c5 c6 c7 : UInt8) (r : List UInt8) : word8 c0 c1 c2 c3 c4 c5 c6 c7 = un (wordU (c0 :: c1 :: c2 :: c3 :: c4 :: c5 :: c6 :: c7 :: r)) := by
  rw [word8_eq, un_wordU, wordN_long _ (by simp)]; simp
set_option maxRecDepth 100000 in
set_option maxHeartbeats 1000000 in
theorem word_long (A : Option Addr) (c : Nat) (l : List UInt8) (w : World) (hr : Rd w A (bcs l)) (h8 : 8 ≤ l.length) (hm : l.length ≤ 9223372036854775807) :
    Calls Try.prog 108 #[.slice A l.length c] w fun e w' => e = .returned (.int .u64 (un (wordU l))) ∧ Ext w w' := by
  obtain ⟨c0, c1, c2, c3, c4, c5, c6, c7, r, rfl⟩ := eight l h8
  obtain ⟨b, o, rfl, hra, hb⟩ := hr.at (by simp [bcs])
  have HW := Lib.hid (word8_of c0 c1 c2 c3 c4 c5 c6 c7 r)
  have g0 := hra 0 _ rfl
  have g1 := hra 1 _ rfl
  have g2 := hra 2 _ rfl
  have g3 := hra 3 _ rfl
  have g4 := hra 4 _ rfl
  have g5 := hra 5 _ rfl
  have g6 := hra 6 _ rfl
  have g7 := hra 7 _ rfl
  rw [Nat.add_zero] at g0
  unfold bv at g0 g1 g2 g3 g4 g5 g6 g7
  generalize hn : (c0 :: c1 :: c2 :: c3 :: c4 :: c5 :: c6 :: c7 :: r).length = n at *
  have k0 : 0 < n := by omega
  have k1 : (1 : Int) < (n : Int) := by omega
  have k2 : (2 : Int) < (n : Int) := by omega
  have k3 : (3 : Int) < (n : Int) := by omega
  have k4 : (4 : Int) < (n : Int) := by omega
  have k5 : (5 : Int) < (n : Int) := by omega
  have k6 : (6 : Int) < (n : Int) := by omega
  have k7 : (7 : Int) < (n : Int) := by omega
  have h8' : (8 : Int) ≤ (n : Int) := by omega
  clear hr hra hn
  go_enter Try.func108, Try.ntmps108
  go_wp2
  go_quiet (fail)
  go_wp2
  go_ret
  exact ⟨by rw [← HW.out]; rfl, below_drewN (Ext.refl w) _⟩
set_option maxRecDepth 100000 in
set_option maxHeartbeats 1000000 in
theorem refWord_long (A : Option Addr) (c : Nat) (l : List UInt8) (w : World) (hr : Rd w A (bcs l)) (h8 : 8 ≤ l.length) (hm : l.length ≤ 9223372036854775807) :
    Calls Try.prog 106 #[.slice A l.length c] w fun e w' => e = .returned (.int .u64 (un (wordU l))) ∧ Ext w w' := by
  obtain ⟨c0, c1, c2, c3, c4, c5, c6, c7, r, rfl⟩ := eight l h8
  obtain ⟨b, o, rfl, hra, hb⟩ := hr.at (by simp [bcs])
  have HW := Lib.hid (word8_of c0 c1 c2 c3 c4 c5 c6 c7 r)
  have g0 := hra 0 _ rfl
  have g1 := hra 1 _ rfl
  have g2 := hra 2 _ rfl
  have g3 := hra 3 _ rfl
  have g4 := hra 4 _ rfl
  have g5 := hra 5 _ rfl
  have g6 := hra 6 _ rfl
  have g7 := hra 7 _ rfl
  rw [Nat.add_zero] at g0
  unfold bv at g0 g1 g2 g3 g4 g5 g6 g7
  generalize hn : (c0 :: c1 :: c2 :: c3 :: c4 :: c5 :: c6 :: c7 :: r).length = n at *
  have k0 : 0 < n := by omega
  have k1 : (1 : Int) < (n : Int) := by omega
  have k2 : (2 : Int) < (n : Int) := by omega
  have k3 : (3 : Int) < (n : Int) := by omega
  have k4 : (4 : Int) < (n : Int) := by omega
  have k5 : (5 : Int) < (n : Int) := by omega
  have k6 : (6 : Int) < (n : Int) := by omega
  have k7 : (7 : Int) < (n : Int) := by omega
  have h8' : (8 : Int) ≤ (n : Int) := by omega
  clear hr hra hn
  go_enter Try.func106, Try.ntmps106
  go_wp2
  go_quiet (fail)
  go_wp2
  go_ret
  exact ⟨by rw [← HW.out]; rfl, below_drewN (Ext.refl w) _⟩
end Go.Proofs.Ytengpfpeeihaoaa
