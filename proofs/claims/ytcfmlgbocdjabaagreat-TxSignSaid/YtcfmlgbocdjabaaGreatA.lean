import Derived.Test.YtcfmlgbocdjabaaGreatRows
import Derived.WalkKit
import Derived.WalkSpells
import Derived.WalkLawsBesides
import Derived.Lib.Hide
import Derived.Deep.QuietTactic
import Derived.BigQuiet
import Derived.Test.YtcfmlgbocdjabaaGreatCod
import Derived.Test.YtcfmlgbocdjabaaGreatApp
import Derived.ProofKit
import Derived.OpenShut
import Derived.Deep.Slices
namespace Go.Proofs.YtcfmlgbocdjabaaGreat
open Go.RowKit

def capZ (n : Int) : Int := if n = 2 then 1024 else if n = 1 then 32 else 0
def sizeZ (n : Int) : Int := if n = 2 then 370 else if n = 1 then 186 else 0

theorem capacity_any (n : Int) (w : World) :
    Calls Tryz.prog 74 #[.int .i64 n] w fun e w' => e = .returned (.int .i64 (capZ n)) ∧ w = w' := by
  by_cases h2 : n = 2
  · subst h2
    go_enter Tryz.func74, Tryz.ntmps74
    go_wp2
    go_ret
    exact ⟨rfl, rfl⟩
  · by_cases h1 : n = 1
    · subst h1
      go_enter Tryz.func74, Tryz.ntmps74
      go_wp2
      go_ret
      exact ⟨rfl, rfl⟩
    · have e : capZ n = 0 := by simp [capZ, h1, h2]
      have b2 : (n == 2) = false := by simp [h2]
      have b1 : (n == 1) = false := by simp [h1]
      rw [e]; clear e h1 h2
      go_enter Tryz.func74, Tryz.ntmps74
      go_wp2
      go_ret
      exact ⟨rfl, rfl⟩

theorem refCapacity_any (n : Int) (w : World) :
    Calls Tryz.prog 81 #[.int .i64 n] w fun e w' => e = .returned (.int .i64 (capZ n)) ∧ w = w' := by
  by_cases h2 : n = 2
  · subst h2
    go_enter Tryz.func81, Tryz.ntmps81
    go_wp2
    go_ret
    exact ⟨rfl, rfl⟩
  · by_cases h1 : n = 1
    · subst h1
      go_enter Tryz.func81, Tryz.ntmps81
      go_wp2
      go_ret
      exact ⟨rfl, rfl⟩
    · have e : capZ n = 0 := by simp [capZ, h1, h2]
      have b2 : (n == 2) = false := by simp [h2]
      have b1 : (n == 1) = false := by simp [h1]
      rw [e]; clear e h1 h2
      go_enter Tryz.func81, Tryz.ntmps81
      go_wp2
      go_ret
      exact ⟨rfl, rfl⟩
end Go.Proofs.YtcfmlgbocdjabaaGreat
/- Capacity, Size of the program and of the reference; what a slice of integers that came in reads as. -/
namespace Go.Proofs.YtcfmlgbocdjabaaGreat
open Go.RowKit
set_option linter.unusedVariables false
set_option linter.unusedSimpArgs false

theorem size_any (n : Int) (w : World) :
    Calls Tryz.prog 48 #[.int .i64 n] w fun e w' => e = .returned (.int .i64 (sizeZ n)) ∧ w = w' := by
  by_cases h2 : n = 2
  · subst h2
    go_enter Tryz.func48, Tryz.ntmps48
    go_wp2
    go_ret
    exact ⟨rfl, rfl⟩
  · by_cases h1 : n = 1
    · subst h1
      go_enter Tryz.func48, Tryz.ntmps48
      go_wp2
      go_ret
      exact ⟨rfl, rfl⟩
    · have e : sizeZ n = 0 := by simp [sizeZ, h1, h2]
      have b2 : (n == 2) = false := by simp [h2]
      have b1 : (n == 1) = false := by simp [h1]
      rw [e]; clear e h1 h2
      go_enter Tryz.func48, Tryz.ntmps48
      go_wp2
      go_ret
      exact ⟨rfl, rfl⟩
theorem refSize_any (n : Int) (w : World) :
    Calls Tryz.prog 80 #[.int .i64 n] w fun e w' => e = .returned (.int .i64 (sizeZ n)) ∧ w = w' := by
  by_cases h2 : n = 2
  · subst h2
    go_enter Tryz.func80, Tryz.ntmps80
    go_wp2
    go_ret
    exact ⟨rfl, rfl⟩
  · by_cases h1 : n = 1
    · subst h1
      go_enter Tryz.func80, Tryz.ntmps80
      go_wp2
      go_ret
      exact ⟨rfl, rfl⟩
    · have e : sizeZ n = 0 := by simp [sizeZ, h1, h2]
      rw [e]; clear e
      by_cases hlo : n < 1
      · go_enter Tryz.func80, Tryz.ntmps80
        go_wp2
        go_ret
        exact ⟨rfl, rfl⟩
      · have hhi : 2 < n := by omega
        go_enter Tryz.func80, Tryz.ntmps80
        go_wp2
        go_ret
        exact ⟨rfl, rfl⟩
theorem num2 (l : List UInt8) (h : 2 ≤ l.length) : numAt l 0 2 = (l[0]'(by omega)).toNat * 256 + (l[1]'(by omega)).toNat := by
  unfold numAt
  match l, h with
  | a :: b :: r, _ => simp [beNat]
theorem or2 (x y : UInt8) : bits .or .i64 (IntKind.i64.wrap ((x.toNat : Int) * 256)) (y.toNat : Int) = ((x.toNat * 256 + y.toNat : Nat) : Int) := by
  have hx := x.toNat_lt
  have hy := y.toNat_lt
  have e : IntKind.i64.wrap ((x.toNat : Int) * 256) = ((x.toNat * 256 : Nat) : Int) := by rw [IntKind.wrap_i64]; omega
  have ho : x.toNat * 256 ||| y.toNat = x.toNat * 256 + y.toNat := by rw [show x.toNat * 256 = x.toNat * 2 ^ 8 from rfl, or_apart _ _ 8 (by omega)]
  have f : ∀ a : Nat, a < 9223372036854775808 → (BitVec.ofInt 64 (a : Int)).toNat = a := fun a ha => by
    rw [BitVec.ofInt_natCast, BitVec.toNat_ofNat]; exact Nat.mod_eq_of_lt (by omega)
  rw [e]
  show IntKind.i64.wrap ((BitVec.ofInt 64 ((x.toNat * 256 : Nat) : Int) ||| BitVec.ofInt 64 ((y.toNat : Nat) : Int)).toNat : Int) = _
  rw [BitVec.toNat_or, f _ (by omega), f _ (by omega), ho, IntKind.wrap_i64]
  omega
theorem or2b (x y : UInt8) : bits .or .i64 ((x.toNat : Int) * 256) (y.toNat : Int) = (x.toNat : Int) * 256 + (y.toNat : Int) := by
  have hx := x.toNat_lt
  have h := or2 x y
  rw [show IntKind.i64.wrap ((x.toNat : Int) * 256) = (x.toNat : Int) * 256 from by rw [IntKind.wrap_i64]; omega] at h
  rw [h]; omega
end Go.Proofs.YtcfmlgbocdjabaaGreat
