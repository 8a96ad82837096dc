/- What a law is told of an argument of the type Call: its cells. -/
import Derived.Test.YtengpfpeeihaoaaOwn
import Derived.Deep.Slices
import Derived.WalkKit
import Derived.ProofKit
import Derived.OpenShut
import Derived.ShutString
import Derived.ChangeOld
import Derived.Below
namespace Go.Proofs.Ytengpfpeeihaoaa
open Go.ChangeShapes Go.WideShapes Go.ChangeAt Go.RowKit
set_option linter.unusedVariables false
set_option linter.unusedSimpArgs false

theorem cellsInt : Try.prog.cellsOf 3 = 1 := by kernel_rfl
theorem cellsU8 : Try.prog.cellsOf 5 = 1 := by kernel_rfl
theorem cellsBytes : Try.prog.cellsOf 22 = 1 := by kernel_rfl
theorem cellsParcel : Try.prog.cellsOf 35 = 3 := by kernel_rfl
theorem cellsCall : Try.prog.cellsOf 46 = 8 := by kernel_rfl

theorem list3 {α : Type} {l : List α} (h : l.length = 3) : ∃ a b c, l = [a, b, c] := by
  match l, h with
  | [a, b, c], _ => exact ⟨a, b, c, rfl⟩
theorem list6 {α : Type} {l : List α} (h : l.length = 6) : ∃ a b c d e f, l = [a, b, c, d, e, f] := by
  match l, h with
  | [a, b, c, d, e, f], _ => exact ⟨a, b, c, d, e, f, rfl⟩
theorem list8 {α : Type} {l : List α} (h : l.length = 8) : ∃ a b c d e f g i, l = [a, b, c, d, e, f, g, i] := by
  match l, h with
  | [a, b, c, d, e, f, g, i], _ => exact ⟨a, b, c, d, e, f, g, i, rfl⟩
theorem open_row {H : Type} {enc : TypeId × Value → H} {w : World} {base : Nat} {held : Bool} {fuel : Nat} {cs : List Value} {x : DataW H × List MemPlace}
    (h : DataW.trod enc Try.prog w base (fun _ => true) held fuel 22 cs = some x) : ∃ a n c zs, cs = [.slice a n c] ∧ IsRow .u8 w a n c zs := by
  rcases open_ints Try.underlying22 Try.underlying5 cellsU8 h with ⟨hcs, _⟩ | ⟨x, l, c, zs, hcs, _, hl, hm, hz, _, hcell, hwz⟩
  · exact ⟨_, _, _, [], hcs, .inl ⟨rfl, rfl, rfl, rfl⟩⟩
  · exact ⟨_, _, _, zs, hcs, .inr ⟨_, rfl, hl, hm, by simpa using hz, hcell, hwz⟩⟩
theorem open_parcel {H : Type} {enc : TypeId × Value → H} {w : World} {base : Nat} {held : Bool} {fuel : Nat} {cs : List Value} {x : DataW H × List MemPlace}
    (h : DataW.trod enc Try.prog w base (fun _ => true) held fuel 35 cs = some x) :
    ∃ f t a n c zs, cs = [.int .i64 f, .int .i64 t, .slice a n c] ∧ (Lit.int .i64 f).wf = true ∧ (Lit.int .i64 t).wf = true ∧ IsRow .u8 w a n c zs := by
  obtain ⟨xs, m, _, _, hl, hxl, hf⟩ := DataW.trod_struct Try.underlying35 h
  rw [cellsParcel] at hl
  obtain ⟨c0, c1, c2, rfl⟩ := list3 hl
  obtain ⟨x0, x1, x2, rfl⟩ := list3 (show xs.length = 3 from hxl)
  have h0 : DataW.trod enc Try.prog w base (fun _ => true) held m 3 (([c0, c1, c2].drop 0).take (Try.prog.cellsOf 3)) = some x0 := hf 0 _ rfl
  rw [cellsInt] at h0
  have h0 : DataW.trod enc Try.prog w base (fun _ => true) held m 3 [c0] = some x0 := h0
  have h1 : DataW.trod enc Try.prog w base (fun _ => true) held m 3 (([c0, c1, c2].drop 1).take (Try.prog.cellsOf 3)) = some x1 := hf 1 _ rfl
  rw [cellsInt] at h1
  have h1 : DataW.trod enc Try.prog w base (fun _ => true) held m 3 [c1] = some x1 := h1
  have h2 : DataW.trod enc Try.prog w base (fun _ => true) held m 22 (([c0, c1, c2].drop 2).take (Try.prog.cellsOf 22)) = some x2 := hf 2 _ rfl
  rw [cellsBytes] at h2
  have h2 : DataW.trod enc Try.prog w base (fun _ => true) held m 22 [c2] = some x2 := h2
  obtain ⟨f, e0, _, w0⟩ := DataW.trod_int Try.underlying3 h0
  obtain ⟨t, e1, _, w1⟩ := DataW.trod_int Try.underlying3 h1
  obtain ⟨a, n, c, zs, e2, hr⟩ := open_row h2
  simp only [List.cons.injEq, and_true] at e0 e1 e2
  exact ⟨f, t, a, n, c, zs, by rw [e0, e1, e2], w0, w1, hr⟩
theorem open_call {H : Type} {enc : TypeId × Value → H} {w : World} {base : Nat} {held : Bool} {fuel : Nat} {cs : List Value} {x : DataW H × List MemPlace}
    (h : DataW.trod enc Try.prog w base (fun _ => true) held fuel 46 cs = some x) :
    ∃ i0 i1 i2 i3 y f t a n c zs, cs = [.int .i64 i0, .int .i64 i1, .int .i64 i2, .int .i64 i3, .int .u8 y, .int .i64 f, .int .i64 t, .slice a n c] ∧
  (Lit.int .i64 i0).wf = true ∧ (Lit.int .i64 i1).wf = true ∧ (Lit.int .i64 i2).wf = true ∧ (Lit.int .i64 i3).wf = true ∧ (Lit.int .u8 y).wf = true ∧ (Lit.int .i64 f).wf = true ∧ (Lit.int .i64 t).wf = true ∧ IsRow .u8 w a n c zs := by
  obtain ⟨xs, m, _, _, hl, hxl, hf⟩ := DataW.trod_struct Try.underlying46 h
  rw [cellsCall] at hl
  obtain ⟨c0, c1, c2, c3, c4, c5, c6, c7, rfl⟩ := list8 hl
  obtain ⟨x0, x1, x2, x3, x4, x5, rfl⟩ := list6 (show xs.length = 6 from hxl)
  have h0 : DataW.trod enc Try.prog w base (fun _ => true) held m 3 (([c0, c1, c2, c3, c4, c5, c6, c7].drop 0).take (Try.prog.cellsOf 3)) = some x0 := hf 0 _ rfl
  rw [cellsInt] at h0
  have h0 : DataW.trod enc Try.prog w base (fun _ => true) held m 3 [c0] = some x0 := h0
  have h1 : DataW.trod enc Try.prog w base (fun _ => true) held m 3 (([c0, c1, c2, c3, c4, c5, c6, c7].drop 1).take (Try.prog.cellsOf 3)) = some x1 := hf 1 _ rfl
  rw [cellsInt] at h1
  have h1 : DataW.trod enc Try.prog w base (fun _ => true) held m 3 [c1] = some x1 := h1
  have h2 : DataW.trod enc Try.prog w base (fun _ => true) held m 3 (([c0, c1, c2, c3, c4, c5, c6, c7].drop 2).take (Try.prog.cellsOf 3)) = some x2 := hf 2 _ rfl
  rw [cellsInt] at h2
  have h2 : DataW.trod enc Try.prog w base (fun _ => true) held m 3 [c2] = some x2 := h2
  have h3 : DataW.trod enc Try.prog w base (fun _ => true) held m 3 (([c0, c1, c2, c3, c4, c5, c6, c7].drop 3).take (Try.prog.cellsOf 3)) = some x3 := hf 3 _ rfl
  rw [cellsInt] at h3
  have h3 : DataW.trod enc Try.prog w base (fun _ => true) held m 3 [c3] = some x3 := h3
  have h4 : DataW.trod enc Try.prog w base (fun _ => true) held m 5 (([c0, c1, c2, c3, c4, c5, c6, c7].drop 4).take (Try.prog.cellsOf 5)) = some x4 := hf 4 _ rfl
  rw [cellsU8] at h4
  have h4 : DataW.trod enc Try.prog w base (fun _ => true) held m 5 [c4] = some x4 := h4
  have h5 : DataW.trod enc Try.prog w base (fun _ => true) held m 35 (([c0, c1, c2, c3, c4, c5, c6, c7].drop 5).take (Try.prog.cellsOf 35)) = some x5 := hf 5 _ rfl
  rw [cellsParcel] at h5
  have h5 : DataW.trod enc Try.prog w base (fun _ => true) held m 35 [c5, c6, c7] = some x5 := h5
  obtain ⟨i0, e0, _, w0⟩ := DataW.trod_int Try.underlying3 h0
  obtain ⟨i1, e1, _, w1⟩ := DataW.trod_int Try.underlying3 h1
  obtain ⟨i2, e2, _, w2⟩ := DataW.trod_int Try.underlying3 h2
  obtain ⟨i3, e3, _, w3⟩ := DataW.trod_int Try.underlying3 h3
  obtain ⟨y, e4, _, w4⟩ := DataW.trod_int Try.underlying5 h4
  obtain ⟨f, t, a, n, c, zs, e5, w5, w6, hr⟩ := open_parcel h5
  simp only [List.cons.injEq, and_true] at e0 e1 e2 e3 e4 e5
  exact ⟨i0, i1, i2, i3, y, f, t, a, n, c, zs, by rw [e0, e1, e2, e3, e4, e5.1, e5.2.1, e5.2.2], w0, w1, w2, w3, w4, w5, w6, hr⟩
end Go.Proofs.Ytengpfpeeihaoaa
