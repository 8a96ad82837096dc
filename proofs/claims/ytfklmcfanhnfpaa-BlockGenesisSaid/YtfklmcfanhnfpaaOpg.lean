/- What a law is told of an argument of the type api.Genesis. -/
import Derived.Test.YtfklmcfanhnfpaaOpb
import Derived.Test.YtfklmcfanhnfpaaGn1
namespace Go.Proofs.Ytfklmcfanhnfpaa
open Go.ChangeShapes Go.WideShapes Go.ChangeAt Go.RowKit Go.Deep
set_option linter.unusedVariables false
set_option linter.unusedSimpArgs false
theorem cellsG5 : Try.prog.cellsOf 50 = 5 := by kernel_rfl
theorem cellsSN : Try.prog.cellsOf 47 = 1 := by kernel_rfl
theorem cellsSI : Try.prog.cellsOf 48 = 1 := by kernel_rfl
theorem rows_names {w : World} {b o : Nat} : ∀ (n : Nat), (∀ j, j < n → ∃ y, w.rangeAt b (o + j * 8) (bcs (nmb y))) → ∃ L, L.length = n ∧ w.rangeAt b o (ncs L) := by
  intro n
  induction n with
  | zero => intro _; exact ⟨[], rfl, fun j v hv => by simp [ncs] at hv⟩
  | succ n ih =>
    intro h
    obtain ⟨L, hL, hr⟩ := ih (fun j hj => h j (by omega))
    obtain ⟨y, hy⟩ := h n (by omega)
    refine ⟨L ++ [y], by simp [hL], ?_⟩
    rw [ncs_append, ncs_cons, ncs_nil, List.append_nil]
    refine rangeAt_append hr ?_
    rw [ncs_length, hL]; exact hy
theorem open_names {H : Type} {enc : TypeId × Value → H} {W : World} {base fuel : Nat} {held : Bool} {cs : List Value} {x : DataW H × List MemPlace}
    (h : DataW.trod enc Try.prog W base (fun _ => true) held fuel 47 cs = some x) : ∃ A n c L, cs = [.slice A n c] ∧ SlN W A n c L := by
  rcases open_slice Try.underlying47 h with ⟨hcs, _⟩ | ⟨x, l, c', m, n, D, Pl, hcs, _, hl, hm, hmm, _, hi⟩
  · exact ⟨none, 0, 0, [], hcs, rfl, Nat.le_refl _, Nat.zero_le _, .nil⟩
  · rw [if_pos rfl] at hmm
    subst hmm
    have hcell : ∀ j, j < l → ∃ y, ∀ q v, (bcs (nmb y))[q]? = some v → W.cell? ((x.add (j * 8)).add q) = some v := by
      intro j hj
      obtain ⟨cs', hc, ht⟩ := hi j (by omega)
      obtain ⟨y, hy⟩ := open_nmc ht
      rw [nmc_toList] at hy
      subst hy
      rw [cellsNm] at hc
      obtain ⟨_, hln, hat⟩ := World.cells?_some hc
      refine ⟨y, fun q v hv => ?_⟩
      have hq := (List.getElem?_eq_some_iff.1 hv).1
      have := hat q (by rw [bcs_length, nmb_length] at hq; omega)
      rw [this, hv]
    rcases Nat.eq_zero_or_pos l with rfl | h0
    · exact ⟨_, 0, _, [], hcs, rfl, Nat.zero_le _, by unfold maxLen at hm; omega, .nil⟩
    · have hx : x.spot = none := by
        obtain ⟨y, hy⟩ := hcell 0 h0
        have := hy 0 (.int .u8 (nb8 y 0)) (by rw [bcs_nb8]; rfl)
        have e0 : ((x.add (0 * 8)).add 0) = x := by simp [Addr.add]
        rw [e0] at this
        exact spot_none' this
      obtain ⟨bl, ol, sp⟩ := x
      simp only at hx
      subst hx
      obtain ⟨L, hL, hr⟩ := rows_names (w := W) (b := bl) (o := ol) l (fun j hj => by
        obtain ⟨y, hy⟩ := hcell j hj
        refine ⟨y, fun q v hv => ?_⟩
        have := hy q v hv
        rwa [Addr.add_mid, Addr.add_mid] at this)
      exact ⟨_, l, _, L, hcs, hL, hl, by unfold maxLen at hm; omega, .inr ⟨bl, ol, rfl, hr⟩⟩
theorem slz_of_row {w : World} {a : Option Addr} {len cap : Nat} {zs : List Int} (h : IsRow .i64 w a len cap zs) : ∃ l, SlZ w a len cap l := by
  rcases h with ⟨rfl, rfl, rfl, rfl⟩ | ⟨x, rfl, hl, hm, hz, hc, hw⟩
  · exact ⟨[], SlZ.nil w⟩
  · refine ⟨zs.take len, by simp; omega, hl, by unfold maxLen at hm; omega, ?_⟩
    by_cases h0 : len = 0
    · subst h0; exact .inl (by simp [ics])
    have hcell : ∀ j, j < len → w.cell? (x.add j) = some (.int .i64 (zs.getD j 0)) := fun j hj => hc j (by omega)
    have hx : x.spot = none := by
      have := hcell 0 (by omega)
      simp only [Addr.add, if_pos] at this
      exact spot_none' this
    refine .inr ⟨x.block, x.off, by cases x; simp_all, fun j v hv => ?_⟩
    have hj : j < len := by have := (List.getElem?_eq_some_iff.1 hv).1; simp [ics] at this; omega
    have e : (⟨x.block, x.off + j, none⟩ : Addr) = x.add j := by
      cases x; simp only at hx; subst hx; rw [Addr.add_mid]
    rw [e, hcell j hj, ← hv]
    simp [ics, iv, hj, show j < zs.length from by omega]
theorem open_zs {H : Type} {enc : TypeId × Value → H} {W : World} {base fuel : Nat} {held : Bool} {cs : List Value} {x : DataW H × List MemPlace}
    (h : DataW.trod enc Try.prog W base (fun _ => true) held fuel 48 cs = some x) : ∃ A n c l, cs = [.slice A n c] ∧ SlZ W A n c l := by
  rcases open_ints Try.underlying48 Try.underlying3 cellsI1 h with ⟨hcs, _⟩ | ⟨x, l, c, zs, hcs, _, hl, hm, hz, _, hcell, hwz⟩
  · exact ⟨_, _, _, [], hcs, SlZ.nil W⟩
  · obtain ⟨l', hs⟩ := slz_of_row (.inr ⟨_, rfl, hl, hm, by simpa using hz, hcell, hwz⟩)
    exact ⟨_, _, _, l', hcs, hs⟩
set_option maxRecDepth 100000 in
/-- a genesis that came in -/
theorem open_gen {H : Type} {enc : TypeId × Value → H} {W : World} {base b0 : Nat} {held : Bool} {v : Value} {d : DataW H} {q : List MemPlace} (hv : Value.okWide Try.prog W .any b0 50 v)
    (h : DataW.Trod enc Try.prog W base (fun _ => true) held 50 v d q) : ∃ N Z A1 n1 c1 A2 n2 c2 A3 n3 c3 V Ac Bl, v = .agg (genC N Z A1 n1 c1 A2 n2 c2 A3 n3 c3) ∧ SlN W A1 n1 c1 V ∧ SlN W A2 n2 c2 Ac ∧ SlZ W A3 n3 c3 Bl := by
  obtain ⟨fuel, hf⟩ := h
  simp only [Value.okWide, Try.underlying50] at hv
  obtain ⟨cs, rfl, _, _⟩ := hv
  obtain ⟨xs, m, _, _, hl, hxl, hg⟩ := DataW.trod_struct Try.underlying50 hf
  rw [cellsG5] at hl
  simp only [Value.cells] at hl hg
  have hx5 : xs.length = 5 := hxl
  obtain ⟨x0, x1, x2, x3, x4, rfl⟩ : ∃ a b c d e, xs = [a, b, c, d, e] := by
    match xs, hx5 with
    | [a, b, c, d, e], _ => exact ⟨a, b, c, d, e, rfl⟩
  obtain ⟨cs⟩ := cs
  simp only at hl hg
  obtain ⟨c0, c1, c2, c3, c4, rfl⟩ : ∃ a b c d e, cs = [a, b, c, d, e] := by
    match cs, hl with
    | [a, b, c, d, e], _ => exact ⟨a, b, c, d, e, rfl⟩
  have h0 : DataW.trod enc Try.prog W base (fun _ => true) held m 3 (([c0, c1, c2, c3, c4].drop 0).take (Try.prog.cellsOf 3)) = some x0 := hg 0 _ rfl
  have h1 : DataW.trod enc Try.prog W base (fun _ => true) held m 3 (([c0, c1, c2, c3, c4].drop 1).take (Try.prog.cellsOf 3)) = some x1 := hg 1 _ rfl
  have h2 : DataW.trod enc Try.prog W base (fun _ => true) held m 47 (([c0, c1, c2, c3, c4].drop 2).take (Try.prog.cellsOf 47)) = some x2 := hg 2 _ rfl
  have h3 : DataW.trod enc Try.prog W base (fun _ => true) held m 47 (([c0, c1, c2, c3, c4].drop 3).take (Try.prog.cellsOf 47)) = some x3 := hg 3 _ rfl
  have h4 : DataW.trod enc Try.prog W base (fun _ => true) held m 48 (([c0, c1, c2, c3, c4].drop 4).take (Try.prog.cellsOf 48)) = some x4 := hg 4 _ rfl
  rw [cellsI1] at h0 h1
  rw [cellsSN] at h2 h3
  rw [cellsSI] at h4
  obtain ⟨N, e0, _, _⟩ := DataW.trod_int Try.underlying3 h0
  obtain ⟨Z, e1, _, _⟩ := DataW.trod_int Try.underlying3 h1
  obtain ⟨A1, n1, d1, V, e2, s1⟩ := open_names h2
  obtain ⟨A2, n2, d2, Ac, e3, s2⟩ := open_names h3
  obtain ⟨A3, n3, d3, Bl, e4, s3⟩ := open_zs h4
  simp only [List.drop_zero, List.drop_succ_cons, List.take_succ_cons, List.take_zero, List.cons.injEq, and_true] at e0 e1 e2 e3 e4
  exact ⟨N, Z, A1, n1, d1, A2, n2, d2, A3, n3, d3, V, Ac, Bl, by rw [e0, e1, e2, e3, e4], s1, s2, s3⟩
end Go.Proofs.Ytfklmcfanhnfpaa
