/- Slices of one's own, and bytes that came in: small facts. -/
import Derived.Test.YtfklmcfanhnfpaaApp
namespace Go.Proofs.Ytfklmcfanhnfpaa
open Go.RowKit
set_option linter.unusedVariables false
set_option linter.unusedSimpArgs false

theorem own_at {w : World} {base n c : Nat} {e : TypeId} {size : Nat} {A : Option Addr} {xs : List Value} (h : w.ownsRow base e size (.slice A n c) n xs) (hn : 0 < n) : ∃ g, A = some ⟨g, 0, none⟩ ∧ base ≤ g ∧ w.rangeAt g 0 xs := by
  rcases h.2 with ⟨hv, h0⟩ | ⟨g, cap, cur, hv, hb, hh, _⟩
  · omega
  · injection hv with hA; subst hA
    refine ⟨g, rfl, hb, fun j v hv => ?_⟩
    have := h.cells (g := g) rfl j v hv
    rwa [Addr.add_mid] at this
theorem own_cap {w : World} {A : Option Addr} {n c : Nat} {base : Nat} {e : TypeId} {size : Nat} {xs : List Value} (h : w.ownsRow base e size (.slice A n c) n xs) : n ≤ c ∧ c ≤ 9223372036854775807 := by
  rcases h.2 with ⟨hv, hn⟩ | ⟨g, cap, cur, hv, _, _, hc, hm, _⟩
  · injection hv; omega
  · injection hv with _ _ hc'; subst hc'; exact ⟨hc, hm⟩
theorem own_mono {w : World} {base base' : Nat} {e : TypeId} {size : Nat} {v : Value} {n : Nat} {xs : List Value} (h : w.ownsRow base e size v n xs) (hb : base' ≤ base) : w.ownsRow base' e size v n xs := by
  refine ⟨h.1, ?_⟩
  rcases h.2 with h2 | ⟨g, cap, cur, hv, hg, r⟩
  · exact .inl h2
  · exact .inr ⟨g, cap, cur, hv, by omega, r⟩
/-- what a law is told of a slice of integers that came in: nil, or a row of cells up to its capacity -/
def IsRow (k : IntKind) (w : World) (a : Option Addr) (len cap : Nat) (zs : List Int) : Prop :=
  (a = none ∧ len = 0 ∧ cap = 0 ∧ zs = []) ∨
  ∃ x, a = some x ∧ len ≤ cap ∧ cap ≤ maxLen ∧ zs.length = cap ∧ (∀ i, i < zs.length → w.cell? (x.add i) = some (.int k (zs.getD i 0))) ∧ ∀ n ∈ zs, (Lit.int k n).wf = true
theorem wf_u8 {n : Int} (h : (Lit.int .u8 n).wf = true) : 0 ≤ n ∧ n < 256 := by
  have : 0 ≤ n ∧ n ≤ 255 := by simpa [Lit.wf, IntKind.min, IntKind.max, IntKind.signed, IntKind.bits] using h
  omega
theorem slb_of_row {w : World} {a : Option Addr} {len cap : Nat} {zs : List Int} (h : IsRow .u8 w a len cap zs) : ∃ l, SlB w a len cap l := by
  rcases h with ⟨rfl, rfl, rfl, rfl⟩ | ⟨x, rfl, hl, hm, hz, hc, hw⟩
  · exact ⟨[], SlB.nil w⟩
  · refine ⟨(zs.take len).map toB, by simp; omega, hl, hm, ?_⟩
    by_cases h0 : len = 0
    · subst h0; exact .inl (by simp [bcs])
    have hcell : ∀ j, j < len → w.cell? (x.add j) = some (.int .u8 ((toB (zs.getD j 0)).toNat : Int)) := by
      intro j hj
      rw [hc j (by omega), ← toB_eq]
      have hb := wf_u8 (hw (zs.getD j 0) (by
        have : zs.getD j 0 = zs[j]'(by omega) := by simp [show j < zs.length from by omega]
        rw [this]; exact List.getElem_mem _))
      rw [Int.emod_eq_of_lt hb.1 hb.2]
    have hx : x.spot = none := by
      have := hcell 0 (by omega)
      simp only [Addr.add, if_pos] at this
      unfold World.cell? at this
      cases hs : x.spot with
      | none => rfl
      | some p => rw [hs] at this; split at this <;> simp at this
    refine .inr ⟨x.block, x.off, by cases x; simp_all, fun j v hv => ?_⟩
    have hj : j < len := by have := (List.getElem?_eq_some_iff.1 hv).1; simp [bcs] at this; omega
    have e : (⟨x.block, x.off + j, none⟩ : Addr) = x.add j := by
      cases x; simp only at hx; subst hx; rw [Addr.add_mid]
    rw [e, hcell j hj, ← hv]
    simp [bcs, bv, hj, show j < zs.length from by omega]
end Go.Proofs.Ytfklmcfanhnfpaa
/- string(b): the string of some bytes. -/
namespace Go.Proofs.Ytfklmcfanhnfpaa
open Go.RowKit
set_option linter.unusedVariables false
set_option linter.unusedSimpArgs false
/-- the string of some bytes -/
def strV (l : List UInt8) : ByteArray := ⟨l.toArray⟩
theorem strV_inj {l l' : List UInt8} (h : strV l = strV l') : l = l' := by
  unfold strV at h; injection h with h; exact List.toArray_inj h
theorem strV_list {l l' : List UInt8} (h : (strV l).toList = (strV l').toList) : l = l' := by
  rw [ByteArray.toList_eq, ByteArray.toList_eq] at h; exact h
theorem run_strV {w : World} {A : Option Addr} {n c : Nat} {l : List UInt8} (h : SlB w A n c l) : (convert 22 9 (.slice A n c)).run Try.prog w = .ok (.string (strV l)) w := by
  have hl := h.len
  rcases A with _ | ad
  · obtain rfl : l = [] := by
      rcases h.rd with h | ⟨b, o, h, _⟩
      · have := congrArg List.length h; rw [bcs_length] at this; exact List.length_eq_zero_iff.1 this
      · cases h
    exact run_convert_bytes_nil w _ _ Try.underlying22 Try.underlying5 n c _ Try.underlying9
  · subst hl
    exact run_convert_bytes_back w _ _ _ ad c l Try.underlying22 Try.underlying5 Try.underlying9 (fun j hj => by
      obtain ⟨b, o, e, hr, _⟩ := h.at (by omega)
      injection e with e; subst e
      rw [Addr.add_mid]; exact byte_at hr j hj)
end Go.Proofs.Ytfklmcfanhnfpaa
