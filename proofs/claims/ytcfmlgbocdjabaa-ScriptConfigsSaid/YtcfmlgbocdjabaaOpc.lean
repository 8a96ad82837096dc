/- What a law is told of an argument of the type world.Config. -/
import Derived.Test.YtcfmlgbocdjabaaOpn
import Derived.Test.YtcfmlgbocdjabaaSc7
namespace Go.Proofs.Ytcfmlgbocdjabaa
open Go.ChangeShapes Go.WideShapes Go.ChangeAt Go.RowKit Go.Deep
set_option linter.unusedVariables false
set_option linter.unusedSimpArgs false
theorem cellsC15 : Try.prog.cellsOf 67 = 15 := by kernel_rfl
theorem cellsM1 : Try.prog.cellsOf 65 = 1 := by kernel_rfl
theorem list8 {α : Type} {l : List α} (h : l.length = 8) : ∃ a b c d e f g k, l = [a, b, c, d, e, f, g, k] := by
  match l, h with
  | [a, b, c, d, e, f, g, k], _ => exact ⟨a, b, c, d, e, f, g, k, rfl⟩
set_option maxRecDepth 100000 in
/-- a configuration that came in -/
theorem open_cf {H : Type} {enc : TypeId × Value → H} {W : World} {base b0 : Nat} {held : Bool} {v : Value} {d : DataW H} {q : List MemPlace} (hv : Value.okWide Try.prog W .any b0 67 v)
    (h : DataW.Trod enc Try.prog W base (fun _ => true) held 67 v d q) : ∃ c : Cf, v = .agg (cfA c) ∧ wfCf c := by
  obtain ⟨fuel, hf⟩ := h
  simp only [Value.okWide, Try.underlying67] at hv
  obtain ⟨cs, rfl, _, _⟩ := hv
  obtain ⟨xs, m, _, _, hl, hxl, hg⟩ := DataW.trod_struct Try.underlying67 hf
  rw [cellsC15] at hl
  obtain ⟨cs⟩ := cs
  simp only [Value.cells] at hl hg
  obtain ⟨x0, x1, x2, x3, x4, x5, x6, x7, rfl⟩ := list8 (show xs.length = 8 from hxl)
  have h0 : DataW.trod enc Try.prog W base (fun _ => true) held m 3 ((cs.drop 0).take (Try.prog.cellsOf 3)) = some x0 := hg 0 _ rfl
  have h1 : DataW.trod enc Try.prog W base (fun _ => true) held m 3 ((cs.drop 1).take (Try.prog.cellsOf 3)) = some x1 := hg 1 _ rfl
  have h2 : DataW.trod enc Try.prog W base (fun _ => true) held m 3 ((cs.drop 2).take (Try.prog.cellsOf 3)) = some x2 := hg 2 _ rfl
  have h3 : DataW.trod enc Try.prog W base (fun _ => true) held m 3 ((cs.drop 3).take (Try.prog.cellsOf 3)) = some x3 := hg 3 _ rfl
  have h4 : DataW.trod enc Try.prog W base (fun _ => true) held m 3 ((cs.drop 4).take (Try.prog.cellsOf 3)) = some x4 := hg 4 _ rfl
  have h5 : DataW.trod enc Try.prog W base (fun _ => true) held m 65 ((cs.drop 5).take (Try.prog.cellsOf 65)) = some x5 := hg 5 _ rfl
  have h6 : DataW.trod enc Try.prog W base (fun _ => true) held m 65 ((cs.drop 6).take (Try.prog.cellsOf 65)) = some x6 := hg 6 _ rfl
  have h7 : DataW.trod enc Try.prog W base (fun _ => true) held m 23 ((cs.drop 7).take (Try.prog.cellsOf 23)) = some x7 := hg 7 _ rfl
  rw [cellsI1] at h0 h1 h2 h3 h4
  rw [cellsM1] at h5 h6
  rw [cellsNm] at h7
  obtain ⟨mm, e0, _, w0⟩ := DataW.trod_int Try.underlying3 h0
  obtain ⟨v, e1, _, w1⟩ := DataW.trod_int Try.underlying3 h1
  obtain ⟨a, e2, _, w2⟩ := DataW.trod_int Try.underlying3 h2
  obtain ⟨st, e3, _, w3⟩ := DataW.trod_int Try.underlying3 h3
  obtain ⟨ba, e4, _, w4⟩ := DataW.trod_int Try.underlying3 h4
  obtain ⟨tw, e5, _, w5⟩ := DataW.trod_int Try.underlying65 h5
  obtain ⟨li, e6, _, w6⟩ := DataW.trod_int Try.underlying65 h6
  obtain ⟨sd, e7⟩ := open_nmc h7
  rw [nmc_toList, bcs_nb8] at e7
  refine ⟨⟨mm, v, a, st, ba, tw, li, sd⟩, ?_, ⟨w0, w1, w2, w3, w4, w5, w6⟩⟩
  congr 1
  apply Array.toList_inj.1
  show cs = _
  have e : cs = cs.drop 0 := rfl
  rw [e, cut_at cs 0 1, e0, cut_at cs (0 + 1) 1, e1, cut_at cs (0 + 1 + 1) 1, e2, cut_at cs (0 + 1 + 1 + 1) 1, e3, cut_at cs (0 + 1 + 1 + 1 + 1) 1, e4, cut_at cs (0 + 1 + 1 + 1 + 1 + 1) 1, e5, cut_at cs (0 + 1 + 1 + 1 + 1 + 1 + 1) 1, e6, cut_at cs (0 + 1 + 1 + 1 + 1 + 1 + 1 + 1) 8, e7, List.drop_of_length_le (by omega)]
  rfl
end Go.Proofs.Ytcfmlgbocdjabaa
