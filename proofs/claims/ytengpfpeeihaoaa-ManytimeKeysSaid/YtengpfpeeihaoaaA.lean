import Derived.Test.YtengpfpeeihaoaaRows
import Derived.WalkKit
import Derived.WalkSpells
import Derived.WalkLawsBesides
import Derived.Lib.Hide
import Derived.Deep.QuietTactic
import Derived.BigQuiet
namespace Go.Proofs.Ytengpfpeeihaoaa
open Go.RowKit

def capZ (n : Int) : Int := if n = 2 then 1024 else if n = 1 then 32 else 0
def sizeZ (n : Int) : Int := if n = 2 then 370 else if n = 1 then 186 else 0

theorem capacity_any (n : Int) (w : World) :
    Calls Try.prog 13 #[.int .i64 n] w fun e w' => e = .returned (.int .i64 (capZ n)) ∧ w = w' := by
  by_cases h2 : n = 2
  · subst h2
    go_enter Try.func13, Try.ntmps13
    go_wp2
    go_ret
    exact ⟨rfl, rfl⟩
  · by_cases h1 : n = 1
    · subst h1
      go_enter Try.func13, Try.ntmps13
      go_wp2
      go_ret
      exact ⟨rfl, rfl⟩
    · have e : capZ n = 0 := by simp [capZ, h1, h2]
      have b2 : (n == 2) = false := by simp [h2]
      have b1 : (n == 1) = false := by simp [h1]
      rw [e]; clear e h1 h2
      go_enter Try.func13, Try.ntmps13
      go_wp2
      go_ret
      exact ⟨rfl, rfl⟩

theorem refCapacity_any (n : Int) (w : World) :
    Calls Try.prog 14 #[.int .i64 n] w fun e w' => e = .returned (.int .i64 (capZ n)) ∧ w = w' := by
  by_cases h2 : n = 2
  · subst h2
    go_enter Try.func14, Try.ntmps14
    go_wp2
    go_ret
    exact ⟨rfl, rfl⟩
  · by_cases h1 : n = 1
    · subst h1
      go_enter Try.func14, Try.ntmps14
      go_wp2
      go_ret
      exact ⟨rfl, rfl⟩
    · have e : capZ n = 0 := by simp [capZ, h1, h2]
      have b2 : (n == 2) = false := by simp [h2]
      have b1 : (n == 1) = false := by simp [h1]
      rw [e]; clear e h1 h2
      go_enter Try.func14, Try.ntmps14
      go_wp2
      go_ret
      exact ⟨rfl, rfl⟩
end Go.Proofs.Ytengpfpeeihaoaa
