/- What a law is told of an argument of the type api.Block. -/
import Derived.Test.YtcfmlgbocdjabaaOpn
import Derived.Test.YtcfmlgbocdjabaaBk2
import Derived.Deep.Slices
namespace Go.Proofs.Ytcfmlgbocdjabaa
open Go.ChangeShapes Go.WideShapes Go.ChangeAt Go.RowKit Go.Deep
set_option linter.unusedVariables false
set_option linter.unusedSimpArgs false
theorem cellsI1 : Try.prog.cellsOf 3 = 1 := by kernel_rfl
theorem cellsC9 : Try.prog.cellsOf 94 = 9 := by kernel_rfl
theorem cellsB9 : Try.prog.cellsOf 26 = 9 := by kernel_rfl
theorem cellsSC : Try.prog.cellsOf 24 = 1 := by kernel_rfl
theorem spot_none' {w : World} {x : Addr} {k : IntKind} {n : Int} (h : w.cell? x = some (.int k n)) : x.spot = none := by
  unfold World.cell? at h
  cases hs : x.spot with
  | none => rfl
  | some p => rw [hs] at h; split at h <;> simp at h
/-- the cells of a pair that came in -/
theorem open_choice {H : Type} {enc : TypeId × Value → H} {w : World} {base fuel : Nat} {held : Bool} {cs : List Value} {x : DataW H × List MemPlace}
    (h : DataW.trod enc Try.prog w base (fun _ => true) held fuel 94 cs = some x) : ∃ y, cs = chL y := by
  obtain ⟨xs, m, _, _, hl, hxl, hf⟩ := DataW.trod_struct Try.underlying94 h
  rw [cellsC9] at hl
  have hx2 : xs.length = 2 := hxl
  obtain ⟨x0, x1, rfl⟩ : ∃ a b, xs = [a, b] := by
    match xs, hx2 with
    | [a, b], _ => exact ⟨a, b, rfl⟩
  have h0 : DataW.trod enc Try.prog w base (fun _ => true) held m 3 ((cs.drop 0).take (Try.prog.cellsOf 3)) = some x0 := hf 0 _ rfl
  have h1 : DataW.trod enc Try.prog w base (fun _ => true) held m 23 ((cs.drop 1).take (Try.prog.cellsOf 23)) = some x1 := hf 1 _ rfl
  rw [cellsI1] at h0
  rw [cellsNm] at h1
  obtain ⟨z, e0, _, _⟩ := DataW.trod_int Try.underlying3 h0
  obtain ⟨v, e1⟩ := open_nmc h1
  refine ⟨(z, v), ?_⟩
  cases cs with
  | nil => simp at hl
  | cons c r =>
    simp only [List.drop_zero, List.take_succ_cons, List.take_zero, List.cons.injEq, and_true] at e0
    simp only [List.drop_succ_cons, List.drop_zero] at e1
    rw [List.take_of_length_le (by simp at hl; omega)] at e1
    rw [e0, e1, nmc_toList]; rfl
/-- items one behind the other make a list -/
theorem rows_list {w : World} {b o : Nat} : ∀ (n : Nat), (∀ j, j < n → ∃ y, w.rangeAt b (o + j * 9) (chL y)) → ∃ L, L.length = n ∧ w.rangeAt b o (chc L) := by
  intro n
  induction n with
  | zero => intro _; exact ⟨[], rfl, fun j v hv => by simp [chc] at hv⟩
  | succ n ih =>
    intro h
    obtain ⟨L, hL, hr⟩ := ih (fun j hj => h j (by omega))
    obtain ⟨y, hy⟩ := h n (by omega)
    refine ⟨L ++ [y], by simp [hL], ?_⟩
    rw [chc_append, chc_cons, chc_nil, List.append_nil]
    refine rangeAt_append hr ?_
    rw [chc_length, hL]; exact hy
theorem open_choices {H : Type} {enc : TypeId × Value → H} {W : World} {base fuel : Nat} {held : Bool} {cs : List Value} {x : DataW H × List MemPlace}
    (h : DataW.trod enc Try.prog W base (fun _ => true) held fuel 24 cs = some x) : ∃ A n c L, cs = [.slice A n c] ∧ SlC W A n c L := by
  rcases open_slice Try.underlying24 h with ⟨hcs, _⟩ | ⟨x, l, c', m, n, D, Pl, hcs, _, hl, hm, hmm, _, hi⟩
  · exact ⟨none, 0, 0, [], hcs, SlC.nil W⟩
  · rw [if_pos rfl] at hmm
    subst hmm
    have hcell : ∀ j, j < l → ∃ y, ∀ q v, (chL y)[q]? = some v → W.cell? ((x.add (j * 9)).add q) = some v := by
      intro j hj
      obtain ⟨cs', hc, ht⟩ := hi j (by omega)
      obtain ⟨y, rfl⟩ := open_choice ht
      rw [cellsC9] at hc
      obtain ⟨_, hln, hat⟩ := World.cells?_some hc
      refine ⟨y, fun q v hv => ?_⟩
      have hq := (List.getElem?_eq_some_iff.1 hv).1
      have := hat q (by rw [chL_length] at hq; omega)
      rw [this, hv]
    rcases Nat.eq_zero_or_pos l with rfl | h0
    · exact ⟨_, 0, _, [], hcs, rfl, Nat.zero_le _, by unfold maxLen at hm; omega, .nil⟩
    · have hx : x.spot = none := by
        obtain ⟨y, hy⟩ := hcell 0 h0
        have := hy 0 (.int .i64 y.1) rfl
        have e0 : ((x.add (0 * 9)).add 0) = x := by simp [Addr.add]
        rw [e0] at this
        exact spot_none' this
      obtain ⟨bl, ol, sp⟩ := x
      simp only at hx
      subst hx
      obtain ⟨L, hL, hr⟩ := rows_list (w := W) (b := bl) (o := ol) l (fun j hj => by
        obtain ⟨y, hy⟩ := hcell j hj
        refine ⟨y, fun q v hv => ?_⟩
        have := hy q v hv
        rwa [Addr.add_mid, Addr.add_mid] at this)
      exact ⟨_, l, _, L, hcs, hL, hl, by unfold maxLen at hm; omega, .inr ⟨bl, ol, rfl, hr⟩⟩
set_option maxRecDepth 100000 in
/-- a block that came in -/
theorem open_block {H : Type} {enc : TypeId × Value → H} {W : World} {base b0 : Nat} {held : Bool} {v : Value} {d : DataW H} {q : List MemPlace} (hv : Value.okWide Try.prog W .any b0 26 v)
    (h : DataW.Trod enc Try.prog W base (fun _ => true) held 26 v d q) : ∃ p A n c L, v = .agg (blkC p A n c) ∧ SlC W A n c L := by
  obtain ⟨fuel, hf⟩ := h
  simp only [Value.okWide, Try.underlying26] at hv
  obtain ⟨cs, rfl, _, _⟩ := hv
  obtain ⟨xs, m, _, _, hl, hxl, hg⟩ := DataW.trod_struct Try.underlying26 hf
  rw [cellsB9] at hl
  simp only [Value.cells] at hl hg
  have hx2 : xs.length = 2 := hxl
  obtain ⟨x0, x1, rfl⟩ : ∃ a b, xs = [a, b] := by
    match xs, hx2 with
    | [a, b], _ => exact ⟨a, b, rfl⟩
  have h0 : DataW.trod enc Try.prog W base (fun _ => true) held m 23 ((cs.toList.drop 0).take (Try.prog.cellsOf 23)) = some x0 := hg 0 _ rfl
  have h1 : DataW.trod enc Try.prog W base (fun _ => true) held m 24 ((cs.toList.drop 8).take (Try.prog.cellsOf 24)) = some x1 := hg 1 _ rfl
  rw [cellsNm] at h0
  rw [cellsSC] at h1
  obtain ⟨p, e0⟩ := open_nmc h0
  obtain ⟨A, n, c, L, e1, hS⟩ := open_choices h1
  refine ⟨p, A, n, c, L, ?_, hS⟩
  congr 1
  apply Array.toList_inj.1
  rw [List.drop_zero, nmc_toList, bcs_nb8] at e0
  rw [List.take_of_length_le (by rw [List.length_drop]; omega)] at e1
  have e := List.take_append_drop 8 cs.toList
  rw [e0, e1] at e
  exact e.symm
end Go.Proofs.Ytcfmlgbocdjabaa
