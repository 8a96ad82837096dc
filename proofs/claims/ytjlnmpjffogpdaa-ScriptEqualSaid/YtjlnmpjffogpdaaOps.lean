/- A step that came in. -/
import Derived.Test.YtjlnmpjffogpdaaOpv
import Derived.Test.YtjlnmpjffogpdaaSt1
namespace Go.Proofs.Ytjlnmpjffogpdaa
open Go.ChangeShapes Go.WideShapes Go.ChangeAt Go.RowKit Go.Deep
set_option linter.unusedVariables false
set_option linter.unusedSimpArgs false

theorem cellsSp36 : Try.prog.cellsOf 35 = 36 := by kernel_rfl
theorem cellsSI1 : Try.prog.cellsOf 22 = 1 := by kernel_rfl
theorem listOf14 {α : Type} {l : List α} (h : l.length = 14) : ∃ x0 x1 x2 x3 x4 x5 x6 x7 x8 x9 x10 x11 x12 x13, l = [x0, x1, x2, x3, x4, x5, x6, x7, x8, x9, x10, x11, x12, x13] := by
  match l, h with
  | [x0, x1, x2, x3, x4, x5, x6, x7, x8, x9, x10, x11, x12, x13], _ => exact ⟨x0, x1, x2, x3, x4, x5, x6, x7, x8, x9, x10, x11, x12, x13, rfl⟩
section
variable {H : Type} {enc : TypeId × Value → H} {w : World} {base fuel : Nat} {held : Bool} {cs : List Value} {x : DataW H × List MemPlace}
theorem open_intc (h : DataW.trod enc Try.prog w base (fun _ => true) held fuel 3 cs = some x) : ∃ z : Int, cs = RowT.enc z ∧ RowT.ok z w := by
  obtain ⟨z, e, _, _⟩ := DataW.trod_int Try.underlying3 h
  exact ⟨z, e, trivial⟩
theorem open_opG (h : DataW.trod enc Try.prog w base (fun _ => true) held fuel 58 cs = some x) : ∃ R : OpR, cs = RowT.enc R ∧ RowT.ok R w := open_op h
theorem open_isG (h : DataW.trod enc Try.prog w base (fun _ => true) held fuel 22 cs = some x) : ∃ A n c, ∃ L : List Int, cs = [.slice A n c] ∧ SlG w A n c L :=
  open_rowsG Try.underlying22 cellsI1 (fun h => open_intc h) (fun y a v hv hc => by have e := Option.some.inj hv; subst e; exact spot_none' hc) h
theorem open_opsG (h : DataW.trod enc Try.prog w base (fun _ => true) held fuel 23 cs = some x) : ∃ A n c, ∃ L : List OpR, cs = [.slice A n c] ∧ SlG w A n c L :=
  open_rowsG Try.underlying23 cellsO23 (fun h => open_opG h) (fun y a v hv hc => by have e := Option.some.inj hv; subst e; exact spot_none' hc) h
theorem open_vwG (h : DataW.trod enc Try.prog w base (fun _ => true) held fuel 32 cs = some x) : ∃ A n c, ∃ L : List SgR, ∃ B m d, ∃ X : List TeR, cs = [.slice A n c, .slice B m d] ∧ (SlG w A n c L ∧ SlG w B m d X) := open_vwc h
set_option maxRecDepth 100000 in
/-- the cells of a step that came in -/
theorem open_spc (h : DataW.trod enc Try.prog w base (fun _ => true) held fuel 35 cs = some x) : ∃ S : StR, cs = spL S ∧ S.ok w := by
  obtain ⟨xs, m, _, _, hl, hxl, hg⟩ := DataW.trod_struct Try.underlying35 h
  rw [cellsSp36] at hl
  obtain ⟨x0, x1, x2, x3, x4, x5, x6, x7, x8, x9, x10, x11, x12, x13, rfl⟩ := listOf14 (show xs.length = 14 from hxl)
  have h0 : DataW.trod enc Try.prog w base (fun _ => true) held m 3 ((cs.drop 0).take (Try.prog.cellsOf 3)) = some x0 := hg 0 _ rfl
  rw [cellsI1] at h0
  have h1 : DataW.trod enc Try.prog w base (fun _ => true) held m 3 ((cs.drop 1).take (Try.prog.cellsOf 3)) = some x1 := hg 1 _ rfl
  rw [cellsI1] at h1
  have h2 : DataW.trod enc Try.prog w base (fun _ => true) held m 3 ((cs.drop 2).take (Try.prog.cellsOf 3)) = some x2 := hg 2 _ rfl
  rw [cellsI1] at h2
  have h3 : DataW.trod enc Try.prog w base (fun _ => true) held m 3 ((cs.drop 3).take (Try.prog.cellsOf 3)) = some x3 := hg 3 _ rfl
  rw [cellsI1] at h3
  have h4 : DataW.trod enc Try.prog w base (fun _ => true) held m 3 ((cs.drop 4).take (Try.prog.cellsOf 3)) = some x4 := hg 4 _ rfl
  rw [cellsI1] at h4
  have h5 : DataW.trod enc Try.prog w base (fun _ => true) held m 22 ((cs.drop 5).take (Try.prog.cellsOf 22)) = some x5 := hg 5 _ rfl
  rw [cellsSI1] at h5
  have h6 : DataW.trod enc Try.prog w base (fun _ => true) held m 3 ((cs.drop 6).take (Try.prog.cellsOf 3)) = some x6 := hg 6 _ rfl
  rw [cellsI1] at h6
  have h7 : DataW.trod enc Try.prog w base (fun _ => true) held m 3 ((cs.drop 7).take (Try.prog.cellsOf 3)) = some x7 := hg 7 _ rfl
  rw [cellsI1] at h7
  have h8 : DataW.trod enc Try.prog w base (fun _ => true) held m 23 ((cs.drop 8).take (Try.prog.cellsOf 23)) = some x8 := hg 8 _ rfl
  rw [cellsSO] at h8
  have h9 : DataW.trod enc Try.prog w base (fun _ => true) held m 28 ((cs.drop 9).take (Try.prog.cellsOf 28)) = some x9 := hg 9 _ rfl
  rw [cellsVt22] at h9
  have h10 : DataW.trod enc Try.prog w base (fun _ => true) held m 3 ((cs.drop 31).take (Try.prog.cellsOf 3)) = some x10 := hg 10 _ rfl
  rw [cellsI1] at h10
  have h11 : DataW.trod enc Try.prog w base (fun _ => true) held m 3 ((cs.drop 32).take (Try.prog.cellsOf 3)) = some x11 := hg 11 _ rfl
  rw [cellsI1] at h11
  have h12 : DataW.trod enc Try.prog w base (fun _ => true) held m 32 ((cs.drop 33).take (Try.prog.cellsOf 32)) = some x12 := hg 12 _ rfl
  rw [cellsVw2] at h12
  have h13 : DataW.trod enc Try.prog w base (fun _ => true) held m 33 ((cs.drop 35).take (Try.prog.cellsOf 33)) = some x13 := hg 13 _ rfl
  rw [cellsSB] at h13
  obtain ⟨k, e0, _, w0⟩ := DataW.trod_int Try.underlying3 h0
  obtain ⟨pr, e1, _, w1⟩ := DataW.trod_int Try.underlying3 h1
  obtain ⟨to, e2, _, w2⟩ := DataW.trod_int Try.underlying3 h2
  obtain ⟨at_, e3, _, w3⟩ := DataW.trod_int Try.underlying3 h3
  obtain ⟨gr, e4, _, w4⟩ := DataW.trod_int Try.underlying3 h4
  obtain ⟨A1, n1, c1, pk, e5, w5⟩ := open_isG h5
  obtain ⟨ac, e6, _, w6⟩ := DataW.trod_int Try.underlying3 h6
  obtain ⟨sq, e7, _, w7⟩ := DataW.trod_int Try.underlying3 h7
  obtain ⟨A2, n2, c2, ops, e8, w8⟩ := open_opsG h8
  obtain ⟨v, e9, w9⟩ := open_vtc h9
  obtain ⟨par, e10, _, w10⟩ := DataW.trod_int Try.underlying3 h10
  obtain ⟨val, e11, _, w11⟩ := DataW.trod_int Try.underlying3 h11
  obtain ⟨A3, n3, c3, vs, A4, n4, c4, xs, e12, w12⟩ := open_vwG h12
  obtain ⟨A5, n5, c5, da, e13, w13⟩ := open_rowB h13
  refine ⟨⟨k, pr, to, at_, gr, A1, n1, c1, pk, ac, sq, A2, n2, c2, ops, v, par, val, A3, n3, c3, vs, A4, n4, c4, xs, A5, n5, c5, da⟩, ?_, ⟨w5, w8, w9, w12.1, w12.2, w13⟩⟩
  have e : cs = cs.drop 0 := rfl
  rw [e, cut_at cs (0) 1, e0, cut_at cs (0 + 1) 1, e1, cut_at cs (0 + 1 + 1) 1, e2, cut_at cs (0 + 1 + 1 + 1) 1, e3, cut_at cs (0 + 1 + 1 + 1 + 1) 1, e4, cut_at cs (0 + 1 + 1 + 1 + 1 + 1) 1, e5, cut_at cs (0 + 1 + 1 + 1 + 1 + 1 + 1) 1, e6, cut_at cs (0 + 1 + 1 + 1 + 1 + 1 + 1 + 1) 1, e7, cut_at cs (0 + 1 + 1 + 1 + 1 + 1 + 1 + 1 + 1) 1, e8, cut_at cs (0 + 1 + 1 + 1 + 1 + 1 + 1 + 1 + 1 + 1) 22, e9, cut_at cs (0 + 1 + 1 + 1 + 1 + 1 + 1 + 1 + 1 + 1 + 22) 1, e10, cut_at cs (0 + 1 + 1 + 1 + 1 + 1 + 1 + 1 + 1 + 1 + 22 + 1) 1, e11, cut_at cs (0 + 1 + 1 + 1 + 1 + 1 + 1 + 1 + 1 + 1 + 22 + 1 + 1) 2, e12, cut_at cs (0 + 1 + 1 + 1 + 1 + 1 + 1 + 1 + 1 + 1 + 22 + 1 + 1 + 2) 1, e13, List.drop_of_length_le (by omega)]
  rfl
end
set_option maxRecDepth 100000 in
/-- a step that came in -/
theorem open_step {H : Type} {enc : TypeId × Value → H} {W : World} {base b0 : Nat} {held : Bool} {v : Value} {d : DataW H} {q : List MemPlace} (hv : Value.okWide Try.prog W .any b0 35 v)
    (h : DataW.Trod enc Try.prog W base (fun _ => true) held 35 v d q) : ∃ S : StR, v = .agg (spA S) ∧ S.ok W := by
  obtain ⟨fuel, hf⟩ := h
  simp only [Value.okWide, Try.underlying35] at hv
  obtain ⟨cs, rfl, _, _⟩ := hv
  obtain ⟨S, e, hT⟩ := open_spc hf
  refine ⟨S, ?_, hT⟩
  congr 1
  apply Array.toList_inj.1
  exact e
end Go.Proofs.Ytjlnmpjffogpdaa
