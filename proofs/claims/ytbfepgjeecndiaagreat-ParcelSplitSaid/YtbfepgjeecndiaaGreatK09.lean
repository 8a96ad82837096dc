/- Votes, signed votes, texts and views that came in. -/
import Derived.Test.YtbfepgjeecndiaaGreatK06
namespace Go.Proofs.YtbfepgjeecndiaaGreat
set_option maxRecDepth 100000
open Go.ChangeShapes Go.WideShapes Go.ChangeAt Go.RowKit Go.Deep
set_option linter.unusedVariables false
set_option linter.unusedSimpArgs false
theorem cellsMk1 : Tryz.prog.cellsOf 42 = 1 := by kernel_rfl
theorem cellsVt22 : Tryz.prog.cellsOf 46 = 22 := by kernel_rfl
theorem cellsSg23 : Tryz.prog.cellsOf 48 = 23 := by kernel_rfl
theorem cellsSSg1 : Tryz.prog.cellsOf 22 = 1 := by kernel_rfl
theorem cellsSTe1 : Tryz.prog.cellsOf 23 = 1 := by kernel_rfl
theorem cellsVw2 : Tryz.prog.cellsOf 25 = 2 := by kernel_rfl
theorem listOf8 {α : Type} {l : List α} (h : l.length = 8) : ∃ x0 x1 x2 x3 x4 x5 x6 x7, l = [x0, x1, x2, x3, x4, x5, x6, x7] := by
 match l, h with
 | [x0, x1, x2, x3, x4, x5, x6, x7], _ => exact ⟨x0, x1, x2, x3, x4, x5, x6, x7, rfl⟩
section
variable {H : Type} {enc : TypeId × Value → H} {w : World} {base fuel : Nat} {held : Bool} {cs : List Value} {x : DataW H × List MemPlace}
theorem spot_slice {a : Addr} {A : Option Addr} {n c : Nat} (h : w.cell? a = some (.slice A n c)) : a.spot = none := by
 unfold World.cell? at h
 cases hs : a.spot with
 | none => rfl
 | some p => rw [hs] at h; split at h <;> simp at h
theorem open_rowsG {α : Type} [RowT α] {t e : TypeId} (ht : Tryz.prog.underlying t = some (.slice e)) (hsz : Tryz.prog.cellsOf e = RowT.sz α)
  (hel : ∀ {fuel : Nat} {cs : List Value} {x : DataW H × List MemPlace}, DataW.trod enc Tryz.prog w base (fun _ => true) held fuel e cs = some x → ∃ y : α, cs = RowT.enc y ∧ RowT.ok y w)
  (hone : ∀ (y : α) (a : Addr) (v : Value), (RowT.enc y)[0]? = some v → w.cell? a = some v → a.spot = none)
  (h : DataW.trod enc Tryz.prog w base (fun _ => true) held fuel t cs = some x) : ∃ A n c, ∃ L : List α, cs = [.slice A n c] ∧ SlG w A n c L := by
 rcases open_slice ht h with ⟨hcs, _⟩ | ⟨x, l, c', m, n, D, Pl, hcs, _, hl, hm, hmm, _, hi⟩
 ·exact ⟨none, 0, 0, [], hcs, SlG.nil w⟩
 ·rw [if_pos rfl] at hmm
  subst hmm
  have hcell : ∀ j, j < l → ∃ y : α, (∀ q v, (RowT.enc y)[q]? = some v → w.cell? ((x.add (j * RowT.sz α)).add q) = some v) ∧ RowT.ok y w := by
   intro j hj
   obtain ⟨cs', hc, ht⟩ := hi j (by omega)
   obtain ⟨y, rfl, hyo⟩ := hel ht
   rw [hsz] at hc
   obtain ⟨_, hln, hat⟩ := World.cells?_some hc
   refine ⟨y, fun q v hv => ?_, hyo⟩
   have hq := (List.getElem?_eq_some_iff.1 hv).1
   have := hat q (by rw [RowT.len] at hq; omega)
   rw [this, hv]
  rcases Nat.eq_zero_or_pos l with rfl | h0
  ·exact ⟨_, 0, _, [], hcs, rfl, Nat.zero_le _, by unfold maxLen at hm; omega, .nil, fun R hR => by cases hR⟩
  ·have hx : x.spot = none := by
    obtain ⟨y, hy, _⟩ := hcell 0 h0
    have hp : 0 < (RowT.enc y).length := by rw [RowT.len]; exact RowT.pos
    have := hy 0 _ (List.getElem?_eq_getElem hp)
    have e0 : ((x.add (0 * RowT.sz α)).add 0) = x := by simp [Addr.add]
    rw [e0] at this
    exact hone y x _ (List.getElem?_eq_getElem hp) this
   obtain ⟨bl, ol, sp⟩ := x
   simp only at hx
   subst hx
   obtain ⟨L, hL, hr, hok⟩ := rows_G (α := α) (w := w) (b := bl) (o := ol) rfl l (fun j hj => by
    obtain ⟨y, hy, hyo⟩ := hcell j hj
    refine ⟨y, fun q v hv => ?_, hyo⟩
    have := hy q v hv
    rwa [Addr.add_mid, Addr.add_mid] at this)
   exact ⟨_, l, _, L, hcs, hL, hl, by unfold maxLen at hm; omega, .inr ⟨bl, ol, rfl, hr⟩, hok⟩
theorem open_vtc (h : DataW.trod enc Tryz.prog w base (fun _ => true) held fuel 46 cs = some x) : ∃ v : VtR, cs = vtL v ∧ v.wf := by
 obtain ⟨xs, m, _, _, hl, hxl, hg⟩ := DataW.trod_struct Tryz.underlying46 h
 rw [cellsVt22] at hl
 obtain ⟨x0, x1, x2, x3, x4, x5, x6, x7, rfl⟩ := listOf8 (show xs.length = 8 from hxl)
 have h0 : DataW.trod enc Tryz.prog w base (fun _ => true) held m 3 ((cs.drop 0).take (Tryz.prog.cellsOf 3)) = some x0 := hg 0 _ rfl
 rw [cellsI1] at h0
 have h1 : DataW.trod enc Tryz.prog w base (fun _ => true) held m 3 ((cs.drop 1).take (Tryz.prog.cellsOf 3)) = some x1 := hg 1 _ rfl
 rw [cellsI1] at h1
 have h2 : DataW.trod enc Tryz.prog w base (fun _ => true) held m 3 ((cs.drop 2).take (Tryz.prog.cellsOf 3)) = some x2 := hg 2 _ rfl
 rw [cellsI1] at h2
 have h3 : DataW.trod enc Tryz.prog w base (fun _ => true) held m 3 ((cs.drop 3).take (Tryz.prog.cellsOf 3)) = some x3 := hg 3 _ rfl
 rw [cellsI1] at h3
 have h4 : DataW.trod enc Tryz.prog w base (fun _ => true) held m 3 ((cs.drop 4).take (Tryz.prog.cellsOf 3)) = some x4 := hg 4 _ rfl
 rw [cellsI1] at h4
 have h5 : DataW.trod enc Tryz.prog w base (fun _ => true) held m 42 ((cs.drop 5).take (Tryz.prog.cellsOf 42)) = some x5 := hg 5 _ rfl
 rw [cellsMk1] at h5
 have h6 : DataW.trod enc Tryz.prog w base (fun _ => true) held m 44 ((cs.drop 6).take (Tryz.prog.cellsOf 44)) = some x6 := hg 6 _ rfl
 rw [cellsNm] at h6
 have h7 : DataW.trod enc Tryz.prog w base (fun _ => true) held m 44 ((cs.drop 14).take (Tryz.prog.cellsOf 44)) = some x7 := hg 7 _ rfl
 rw [cellsNm] at h7
 obtain ⟨k, e0, _, w0⟩ := DataW.trod_int Tryz.underlying3 h0
 obtain ⟨sl, e1, _, w1⟩ := DataW.trod_int Tryz.underlying3 h1
 obtain ⟨ro, e2, _, w2⟩ := DataW.trod_int Tryz.underlying3 h2
 obtain ⟨ch, e3, _, w3⟩ := DataW.trod_int Tryz.underlying3 h3
 obtain ⟨si, e4, _, w4⟩ := DataW.trod_int Tryz.underlying3 h4
 obtain ⟨su, e5, _, w5⟩ := DataW.trod_int Tryz.underlying42 h5
 obtain ⟨pa, e6⟩ := open_nmc h6
 rw [nmc_toList, bcs_nb8] at e6
 obtain ⟨va, e7⟩ := open_nmc h7
 rw [nmc_toList, bcs_nb8] at e7
 refine ⟨⟨k, sl, ro, ch, si, su, pa, va⟩, ?_, ⟨w0, w1, w2, w3, w4, w5⟩⟩
 have e : cs = cs.drop 0 := rfl
 rw [e, cut_at cs (0) 1, e0, cut_at cs (0 + 1) 1, e1, cut_at cs (0 + 1 + 1) 1, e2, cut_at cs (0 + 1 + 1 + 1) 1, e3, cut_at cs (0 + 1 + 1 + 1 + 1) 1, e4, cut_at cs (0 + 1 + 1 + 1 + 1 + 1) 1, e5, cut_at cs (0 + 1 + 1 + 1 + 1 + 1 + 1) 8, e6, cut_at cs (0 + 1 + 1 + 1 + 1 + 1 + 1 + 8) 8, e7, List.drop_of_length_le (by omega)]
 rfl
theorem open_sgc (h : DataW.trod enc Tryz.prog w base (fun _ => true) held fuel 48 cs = some x) : ∃ S : SgR, cs = sgL S ∧ S.ok w := by
 obtain ⟨xs, m, _, _, hl, hxl, hg⟩ := DataW.trod_struct Tryz.underlying48 h
 rw [cellsSg23] at hl
 obtain ⟨x0, x1, rfl⟩ := list2 (show xs.length = 2 from hxl)
 have h0 : DataW.trod enc Tryz.prog w base (fun _ => true) held m 46 ((cs.drop 0).take (Tryz.prog.cellsOf 46)) = some x0 := hg 0 _ rfl
 rw [cellsVt22] at h0
 have h1 : DataW.trod enc Tryz.prog w base (fun _ => true) held m 28 ((cs.drop 22).take (Tryz.prog.cellsOf 28)) = some x1 := hg 1 _ rfl
 rw [cellsSB] at h1
 obtain ⟨v, e0, w0⟩ := open_vtc h0
 obtain ⟨A, n, c, sig, e1, w1⟩ := open_rowB h1
 refine ⟨⟨v, A, n, c, sig⟩, ?_, ⟨w0, w1⟩⟩
 have e : cs = cs.drop 0 := rfl
 rw [e, cut_at cs (0) 22, e0, cut_at cs (0 + 22) 1, e1, List.drop_of_length_le (by omega)]
 rfl
theorem open_tec (h : DataW.trod enc Tryz.prog w base (fun _ => true) held fuel 28 cs = some x) : ∃ T : TeR, cs = teL T ∧ T.ok w := by
 obtain ⟨A, n, c, l, e, hs⟩ := open_rowB h
 exact ⟨⟨A, n, c, l⟩, e, hs⟩
theorem open_tes (h : DataW.trod enc Tryz.prog w base (fun _ => true) held fuel 23 cs = some x) : ∃ A n c, ∃ L : List TeR, cs = [.slice A n c] ∧ SlG w A n c L :=
 open_rowsG Tryz.underlying23 cellsSB (fun h => open_tec h) (fun y a v hv hc => spot_slice (by have e := Option.some.inj hv; subst e; exact hc)) h
end
end Go.Proofs.YtbfepgjeecndiaaGreat
