import Derived.Test.YtfklmcfanhnfpaaMem
namespace Go.Proofs.Ytfklmcfanhnfpaa
open Go.RowKit
set_option linter.unusedVariables false
set_option linter.unusedSimpArgs false
attribute [local go_sem ↓] Go.wp_at_zero Go.wp_at_succ
attribute [local go_sem] un_nonneg
set_option maxHeartbeats 400000 in
theorem rotl13 (x : UInt64) (w : World) :
    Calls Try.prog 114 #[.int .u64 (un x), .int .u64 13] w fun e w' => e = .returned (.int .u64 (un (rot13 x))) ∧ w = w' := by
  have h := Lib.hid (un_rot13 x)
  have h0 := un_nonneg x
  go_enter Try.func114, Try.ntmps114
  go_wp2
  go_ret
  exact ⟨by rw [← h.out]; rfl, rfl⟩
set_option maxHeartbeats 400000 in
theorem rotl32 (x : UInt64) (w : World) :
    Calls Try.prog 114 #[.int .u64 (un x), .int .u64 32] w fun e w' => e = .returned (.int .u64 (un (rot32 x))) ∧ w = w' := by
  have h := Lib.hid (un_rot32 x)
  have h0 := un_nonneg x
  go_enter Try.func114, Try.ntmps114
  go_wp2
  go_ret
  exact ⟨by rw [← h.out]; rfl, rfl⟩
set_option maxHeartbeats 400000 in
theorem rotateLeft13 (x : UInt64) (w : World) :
    Calls Try.prog 113 #[.int .u64 (un x), .int .i64 13] w fun e w' => e = .returned (.int .u64 (un (rot13 x))) ∧ w = w' := by
  have h := Lib.hid (un_rot13 x)
  have h0 := un_nonneg x
  have hb : bits .and .u64 13 63 = 13 := by decide
  go_enter Try.func113, Try.ntmps113
  go_wp2
  go_ret
  exact ⟨by rw [← h.out]; rfl, rfl⟩
set_option maxHeartbeats 400000 in
theorem rotateLeft32 (x : UInt64) (w : World) :
    Calls Try.prog 113 #[.int .u64 (un x), .int .i64 32] w fun e w' => e = .returned (.int .u64 (un (rot32 x))) ∧ w = w' := by
  have h := Lib.hid (un_rot32 x)
  have h0 := un_nonneg x
  have hb : bits .and .u64 32 63 = 32 := by decide
  go_enter Try.func113, Try.ntmps113
  go_wp2
  go_ret
  exact ⟨by rw [← h.out]; rfl, rfl⟩
theorem refMix (x y : UInt64) (w : World) :
    Calls Try.prog 91 #[.int .u64 (un x), .int .u64 (un y)] w fun e w' => e = .returned (.tuple #[.int .u64 (un (mixX x y)), .int .u64 (un (mixY x y))]) ∧ w = w' := by
  have h1 := un_add x y
  have h2 := un_xor (rot13 y) (addU x y)
  have h3 := un_mulK (rot32 (addU x y))
  go_enter Try.func91, Try.ntmps91
  go_wp2_with fail
  refine (rotl13 y _).mono ?_
  rintro e w' ⟨rfl, rfl⟩
  go_wp2_with fail
  refine (rotl32 (addU x y) _).mono ?_
  rintro e w' ⟨rfl, rfl⟩
  go_wp2_with fail
  go_ret2
  exact ⟨rfl, rfl⟩
theorem mixTo_succ (n : Nat) (x y : UInt64) : mixTo (n + 1) x y = (mulK (rot32 (addU (mixTo n x y).1 (mixTo n x y).2)), xorU (rot13 (mixTo n x y).2) (addU (mixTo n x y).1 (mixTo n x y).2)) := by rw [mixTo]; unfold mixX mixY; rfl
set_option maxRecDepth 100000 in
set_option maxHeartbeats 1000000 in
theorem mix_any (n : Nat) (hn : n ≤ 100) (g : Nat) (T : TypeId) (x y : UInt64) (w : World) (hg : Blk w g T #[.int .u64 (un x), .int .u64 (un y)]) :
    Calls Try.prog 88 #[.pointer (some ⟨g, 0, none⟩), .int .i64 n] w fun e w' => e = .returned (.tuple #[]) ∧ Blk w' g T #[.int .u64 (un (mixTo n x y).1), .int .u64 (un (mixTo n x y).2)] ∧ Only g w w' := by
  go_enter Try.func88, Try.ntmps88
  go_wp2
  go_loopw [5] (fun i wr => ∃ (k : Nat), k ≤ n ∧ i = .int .i64 k ∧ Blk wr g T #[.int .u64 (un (mixTo k x y).1), .int .u64 (un (mixTo k x y).2)] ∧ Only g w wr) (fun i _ => n - (intOf i).toNat)
  case atStart => exact ⟨0, by omega, rfl, hg, Only.refl _ _⟩
  case round =>
    obtain ⟨k, hk, rfl, hgk, hon⟩ := hrel
    by_cases hlt : k < n
    · have hs := Lib.hid (mixTo_succ k x y)
      generalize (mixTo k x y).1 = a at *
      generalize (mixTo k x y).2 = b at *
      have hc0 := hgk.cell 0
      have hc1 := hgk.cell 1
      have hf0 := hgk.frozen 0
      have hf1 := hgk.frozen 1
      have h1 := un_add a b
      go_wp2
      go_region
      have hg1 := (hgk.set 0 (.int .u64 (un (addU a b)))).drew
      have ho1 := (hon.set 0 (.int .u64 (un (addU a b)))).drew
      simp at hg1
      generalize (wr.setCell ⟨g, 0, none⟩ (.int .u64 (un (addU a b)))).drew = w1 at *
      clear hc0 hc1 hf0 hf1 h1 hgk hon
      have hc0 := hg1.cell 0
      have hc1 := hg1.cell 1
      have hf0 := hg1.frozen 0
      have hf1 := hg1.frozen 1
      have h2 := un_xor (rot13 b) (addU a b)
      go_wp2
      go_still_tail 11, (by kernel_rfl)
      still_call ((rotateLeft13 _ _).mono fun _ _ h => ⟨h.1, h.2.symm⟩)
      repeat still_step
      refine wpStill_nil ?_
      have h3 := un_mulK (rot32 (addU a b))
      go_wp2_with (go_at_call 113; refine (rotateLeft32 _ _).mono ?_; rintro e w' ⟨rfl, rfl⟩)
      have hg2 := ((hg1.set 1 (.int .u64 (un (xorU (rot13 b) (addU a b))))).set 0 (.int .u64 (un (mulK (rot32 (addU a b)))))).drew
      have ho2 := ((ho1.set 1 (.int .u64 (un (xorU (rot13 b) (addU a b))))).set 0 (.int .u64 (un (mulK (rot32 (addU a b)))))).drew
      simp at hg2
      go_roundw
      case rel => exact ⟨k + 1, by omega, by go_num, by rw [hs.out]; exact hg2, ho2⟩
      case measure => simp [intOf]; omega
    · go_wp2
      go_end0
      obtain rfl : k = n := by omega
      exact ⟨rfl, hgk, hon⟩
end Go.Proofs.Ytfklmcfanhnfpaa
