/- What a law is told of its arguments: integers that came in. -/
import Derived.Test.YtengpfpeeihaoaaOpn
import Derived.Test.YtengpfpeeihaoaaKs
namespace Go.Proofs.Ytengpfpeeihaoaa
open Go.ChangeShapes Go.WideShapes Go.ChangeAt Go.RowKit
set_option linter.unusedVariables false
set_option linter.unusedSimpArgs false
theorem sli_of_row {w : World} {a : Option Addr} {len cap : Nat} {zs : List Int} (h : IsRow .i64 w a len cap zs) : ∃ l, SlI w a len cap l := by
  rcases h with ⟨rfl, rfl, rfl, rfl⟩ | ⟨x, rfl, hl, hm, hz, hc, hw⟩
  · exact ⟨[], rfl, .nil⟩
  · refine ⟨zs.take len, by simp; omega, ?_⟩
    by_cases h0 : len = 0
    · subst h0; exact .inl (by simp [ics])
    have hcell : ∀ j, j < len → w.cell? (x.add j) = some (.int .i64 (zs.getD j 0)) := fun j hj => hc j (by omega)
    have hx : x.spot = none := by
      have := hcell 0 (by omega)
      simp only [Addr.add, if_pos] at this
      unfold World.cell? at this
      cases hs : x.spot with
      | none => rfl
      | some p => rw [hs] at this; split at this <;> simp at this
    refine .inr ⟨x.block, x.off, by cases x; simp_all, fun j v hv => ?_⟩
    have hj : j < len := by have := (List.getElem?_eq_some_iff.1 hv).1; simp [ics] at this; omega
    have e : (⟨x.block, x.off + j, none⟩ : Addr) = x.add j := by
      cases x; simp only at hx; subst hx; rw [Addr.add_mid]
    rw [e, hcell j hj, ← hv]
    simp [ics, iv, hj, show j < zs.length from by omega]
/-- integers that came in -/
theorem open_is {H : Type} {enc : TypeId × Value → H} {W : World} {base : Nat} {held : Bool} {a : Option Addr} {n c : Nat} {d : DataW H} {p : List MemPlace}
    (h : DataW.Trod enc Try.prog W base (fun _ => true) held 68 (.slice a n c) d p) : ∃ l, SlI W a n c l ∧ n ≤ 9223372036854775807 := by
  obtain ⟨fuel, hf⟩ := h
  rcases open_ints Try.underlying68 Try.underlying3 (by kernel_rfl) hf with ⟨hcs, _⟩ | ⟨x, l, c', zs, hcs, _, hl, hm, hz, hx, hcell, hwz⟩
  · simp [Value.cells] at hcs
    obtain ⟨rfl, rfl, rfl⟩ := hcs
    exact ⟨[], ⟨rfl, .nil⟩, by omega⟩
  · simp [Value.cells] at hcs
    obtain ⟨rfl, rfl, rfl⟩ := hcs
    have hz' : zs.length = c := by simpa using hz
    obtain ⟨l, hs⟩ := sli_of_row (.inr ⟨_, rfl, hl, hm, hz', hcell, hwz⟩)
    exact ⟨l, hs, by simp only [maxLen] at hm; omega⟩
end Go.Proofs.Ytengpfpeeihaoaa
