/- ManytimeKeys: a key object or nil, as one thing; names held to be unlike. -/
import Derived.Test.YtengpfpeeihaoaaKy6
import Derived.Test.YtengpfpeeihaoaaMSizes
namespace Go.Proofs.Ytengpfpeeihaoaa
open Go.RowKit
set_option linter.unusedVariables false
set_option linter.unusedSimpArgs false
/-- what NewKey returned, seen from a world W0 before it -/
def KeyVal (W0 : World) (seed : UInt64) (lv : Int) (p : Option Addr) (w : World) : Prop :=
  Ext W0 w ∧ ((p = none ∧ lv ≠ 1 ∧ lv ≠ 2) ∨ ∃ B M, p = some ⟨B, 0, none⟩ ∧ (lv = 1 ∨ lv = 2) ∧ KeyAt w B M seed lv ∧ W0.heap.size ≤ M)
theorem KeyVal.ext {W0 w w' : World} {seed : UInt64} {lv : Int} {p : Option Addr} (h : KeyVal W0 seed lv p w) (he : Ext w w') : KeyVal W0 seed lv p w' := by
  refine ⟨h.1.trans he, ?_⟩
  rcases h.2 with h | ⟨B, M, h1, h2, h3, h4⟩
  · exact .inl h
  · exact .inr ⟨B, M, h1, h2, h3.ext he, h4⟩
theorem kvNew {W0 w : World} (seed : UInt64) (lv : Int) (h : Ext W0 w) : Calls Try.prog 42 #[.agg (nmc seed), .int .i64 lv] w fun e w' => ∃ p, e = .returned (.pointer p) ∧ KeyVal W0 seed lv p w' := by
  by_cases h12 : lv = 1 ∨ lv = 2
  · refine (newKey_yes seed lv h12 w).mono fun e w' ⟨B, M, he, hK, hB, hM, hx⟩ => ⟨_, he, h.trans hx, .inr ⟨B, M, rfl, h12, hK, Nat.le_trans h.size hM⟩⟩
  · refine (newKey_no seed lv (by omega) (by omega) w).mono fun e w' ⟨he, hx⟩ => ⟨_, he, h.trans hx, .inl ⟨rfl, by omega, by omega⟩⟩
theorem kvPublic {W0 w : World} {seed : UInt64} {lv : Int} {p : Option Addr} (h : KeyVal W0 seed lv p w) : Calls Try.prog 43 #[.pointer p] w fun e w' => e = .returned (.agg (nmc (pubV seed lv))) ∧ KeyVal W0 seed lv p w' := by
  rcases h.2 with ⟨rfl, h1, h2⟩ | ⟨B, M, rfl, h12, hK, hM⟩
  · rw [show pubV seed lv = 0 from by unfold pubV; rw [if_neg (by omega)]]
    exact (kPublic_no w).mono fun e w' ⟨he, hx⟩ => ⟨he, h.ext hx⟩
  · rw [show pubV seed lv = pubU seed lv from by unfold pubV; rw [if_pos (by omega)]]
    refine (kPublic_yes seed B M lv (WalkArith.wf_i64 (by omega)) w hK).mono fun e w' ⟨he, hK2, hG⟩ => ⟨he, GM.toExt h.1 hG h.1.size hM, .inr ⟨B, M, rfl, h12, hK2, hM⟩⟩
theorem kvSign {W0 w : World} {seed : UInt64} {lv : Int} {p : Option Addr} (m : UInt64) (leaf : Int) (h : KeyVal W0 seed lv p w) : Calls Try.prog 44 #[.pointer p, .int .i64 leaf, .agg (nmc m)] w fun e w' => ∃ A n c, e = .returned (.tuple #[.slice A n c, .bool (sigU seed lv leaf m).isSome]) ∧ SlB w' A n c ((sigU seed lv leaf m).getD []) ∧ KeyVal W0 seed lv p w' := by
  rcases h.2 with ⟨rfl, h1, h2⟩ | ⟨B, M, rfl, h12, hK, hM⟩
  · rw [show sigU seed lv leaf m = none from by unfold sigU; rw [if_neg (by omega), if_neg (by omega)]]
    exact (kSign_nil leaf m w).mono fun e w' ⟨A, n, c, he, hs, hx⟩ => ⟨A, n, c, he, hs, h.ext hx⟩
  · exact (kSign_any seed m B M lv leaf h12 w hK).mono fun e w' ⟨A, n, c, he, hs, hK2, hG⟩ => ⟨A, n, c, he, hs, GM.toExt h.1 hG h.1.size hM, .inr ⟨B, M, rfl, h12, hK2, hM⟩⟩
/-- ints that came in -/
structure SlI (w : World) (A : Option Addr) (n c : Nat) (l : List Int) : Prop where
  len : l.length = n
  rd : Rd w A (ics l)
theorem SlI.ext {w w' : World} {A : Option Addr} {n c : Nat} {l : List Int} (h : SlI w A n c l) (e : Ext w w') : SlI w' A n c l := ⟨h.len, h.rd.ext e⟩
end Go.Proofs.Ytengpfpeeihaoaa
