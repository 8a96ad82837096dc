/- What a law is told of its arguments: names and bytes that came in. -/
import Derived.Test.YtcfmlgbocdjabaaApp
import Derived.WalkKit
import Derived.ProofKit
import Derived.OpenShut
import Derived.ShutString
import Derived.ChangeOld
import Derived.Below
import Derived.SizedLaws
namespace Go.Proofs.Ytcfmlgbocdjabaa
open Go.ChangeShapes Go.WideShapes Go.ChangeAt Go.RowKit
set_option linter.unusedVariables false
set_option linter.unusedSimpArgs false
theorem cellsNm : Try.prog.cellsOf 23 = 8 := by kernel_rfl
theorem cellsB1 : Try.prog.cellsOf 5 = 1 := by kernel_rfl
set_option maxRecDepth 100000 in
/-- the cells of a name that came in -/
theorem open_nmc {H : Type} {enc : TypeId × Value → H} {W : World} {base fuel : Nat} {held : Bool} {cs : List Value} {x : DataW H × List MemPlace}
    (h : DataW.trod enc Try.prog W base (fun _ => true) held fuel 23 cs = some x) : ∃ n : UInt64, cs = (nmc n).toList := by
  obtain ⟨xs, m, _, _, hl, hxl, hf⟩ := DataW.trod_array Try.underlying23 h
  rw [cellsNm] at hl
  rw [cellsB1] at hf
  have hb : ∀ i, i < 8 → ∃ b : UInt8, cs[i]? = some (.int .u8 (b.toNat : Int)) := by
    intro i hi
    have h1 := hf i hi
    rw [List.getElem?_eq_getElem (by omega)] at h1
    obtain ⟨z, e, _, wz⟩ := DataW.trod_int Try.underlying5 h1
    have h2 := wf_u8 wz
    refine ⟨toB z, ?_⟩
    rw [← toB_eq, Int.emod_eq_of_lt h2.1 h2.2]
    have h3 : ((cs.drop (i * 1)).take 1)[0]? = some (.int .u8 z) := by rw [e]; rfl
    rw [List.getElem?_take_of_lt (by omega), List.getElem?_drop] at h3
    simpa using h3
  have hc : ∃ l : List UInt8, l.length = 8 ∧ cs = bcs l := by
    match cs, hl, hb with
    | [c0, c1, c2, c3, c4, c5, c6, c7], _, hb =>
      obtain ⟨b0, e0⟩ := hb 0 (by omega)
      have e0 : c0 = .int .u8 (b0.toNat : Int) := Option.some.inj e0
      obtain ⟨b1, e1⟩ := hb 1 (by omega)
      have e1 : c1 = .int .u8 (b1.toNat : Int) := Option.some.inj e1
      obtain ⟨b2, e2⟩ := hb 2 (by omega)
      have e2 : c2 = .int .u8 (b2.toNat : Int) := Option.some.inj e2
      obtain ⟨b3, e3⟩ := hb 3 (by omega)
      have e3 : c3 = .int .u8 (b3.toNat : Int) := Option.some.inj e3
      obtain ⟨b4, e4⟩ := hb 4 (by omega)
      have e4 : c4 = .int .u8 (b4.toNat : Int) := Option.some.inj e4
      obtain ⟨b5, e5⟩ := hb 5 (by omega)
      have e5 : c5 = .int .u8 (b5.toNat : Int) := Option.some.inj e5
      obtain ⟨b6, e6⟩ := hb 6 (by omega)
      have e6 : c6 = .int .u8 (b6.toNat : Int) := Option.some.inj e6
      obtain ⟨b7, e7⟩ := hb 7 (by omega)
      have e7 : c7 = .int .u8 (b7.toNat : Int) := Option.some.inj e7
      exact ⟨[b0, b1, b2, b3, b4, b5, b6, b7], rfl, by rw [e0, e1, e2, e3, e4, e5, e6, e7]; rfl⟩
  obtain ⟨l, hl8, rfl⟩ := hc
  exact ⟨ofNm l, by rw [nmc_toList, nmb_ofNm l hl8]⟩
set_option maxRecDepth 100000 in
theorem open_nm {H : Type} {enc : TypeId × Value → H} {W : World} {base b0 : Nat} {held : Bool} {v : Value} {d : DataW H} {p : List MemPlace} (hv : Value.okWide Try.prog W .any b0 23 v)
    (h : DataW.Trod enc Try.prog W base (fun _ => true) held 23 v d p) : ∃ n : UInt64, v = .agg (nmc n) := by
  obtain ⟨fuel, hf⟩ := h
  obtain ⟨n, hn⟩ := open_nmc hf
  simp only [Value.okWide, Try.underlying23] at hv
  obtain ⟨cs, rfl, _, _⟩ := hv
  refine ⟨n, ?_⟩
  simp only [Value.cells] at hn
  congr 1
  exact Array.toList_inj.1 hn
/-- bytes that came in -/
theorem open_bs {H : Type} {enc : TypeId × Value → H} {W : World} {base : Nat} {held : Bool} {a : Option Addr} {n c : Nat} {d : DataW H} {p : List MemPlace}
    (h : DataW.Trod enc Try.prog W base (fun _ => true) held 28 (.slice a n c) d p) : ∃ l, SlB W a n c l ∧ ((n = 0 ∧ c = 0) ∨ ∃ e s, d = .slice e s ∧ e.length + s.length = c) := by
  obtain ⟨fuel, hf⟩ := h
  rcases open_ints Try.underlying28 Try.underlying5 (by kernel_rfl) hf with ⟨hcs, _⟩ | ⟨x, l, c', zs, hcs, _, hl, hm, hz, hx, hcell, hwz⟩
  · simp [Value.cells] at hcs
    obtain ⟨rfl, rfl, rfl⟩ := hcs
    exact ⟨[], SlB.nil _, .inl ⟨rfl, rfl⟩⟩
  · simp [Value.cells] at hcs
    obtain ⟨rfl, rfl, rfl⟩ := hcs
    have hz' : zs.length = c := by simpa using hz
    simp only [Prod.mk.injEq] at hx
    obtain ⟨l, hs⟩ := slb_of_row (.inr ⟨_, rfl, hl, hm, hz', hcell, hwz⟩)
    refine ⟨l, hs, .inr ⟨_, _, hx.1, ?_⟩⟩
    simp [lits, hz']; omega
theorem bytesB1 : Try.prog.bytesOf 5 = 1 := by kernel_rfl
theorem open_byte {z : Int} (h : (Lit.int .u8 z).wf = true) : ∃ b : UInt8, z = (b.toNat : Int) := by
  have h2 := wf_u8 h
  exact ⟨toB z, by rw [← toB_eq, Int.emod_eq_of_lt h2.1 h2.2]⟩
end Go.Proofs.Ytcfmlgbocdjabaa
