/- What a law is told of its arguments: names and bytes that came in. -/
import Derived.Test.YtjlnmpjffogpdaaApp
import Derived.WalkKit
import Derived.ProofKit
import Derived.OpenShut
import Derived.ShutString
import Derived.ChangeOld
import Derived.Below
import Derived.SizedLaws
import Derived.Test.YtjlnmpjffogpdaaBk2
import Derived.Deep.Slices
import Derived.Test.YtjlnmpjffogpdaaPlB
namespace Go.Proofs.Ytjlnmpjffogpdaa
open Go.ChangeShapes Go.WideShapes Go.ChangeAt Go.RowKit
set_option linter.unusedVariables false
set_option linter.unusedSimpArgs false
theorem cellsNm : Try.prog.cellsOf 26 = 8 := by kernel_rfl
theorem cellsB1 : Try.prog.cellsOf 5 = 1 := by kernel_rfl
set_option maxRecDepth 100000 in
/-- the cells of a name that came in -/
theorem open_nmc {H : Type} {enc : TypeId × Value → H} {W : World} {base fuel : Nat} {held : Bool} {cs : List Value} {x : DataW H × List MemPlace}
    (h : DataW.trod enc Try.prog W base (fun _ => true) held fuel 26 cs = some x) : ∃ n : UInt64, cs = (nmc n).toList := by
  obtain ⟨xs, m, _, _, hl, hxl, hf⟩ := DataW.trod_array Try.underlying26 h
  rw [cellsNm] at hl
  rw [cellsB1] at hf
  have hb : ∀ i, i < 8 → ∃ b : UInt8, cs[i]? = some (.int .u8 (b.toNat : Int)) := by
    intro i hi
    have h1 := hf i hi
    rw [List.getElem?_eq_getElem (by omega)] at h1
    obtain ⟨z, e, _, wz⟩ := DataW.trod_int Try.underlying5 h1
    have h2 := wf_u8 wz
    refine ⟨toB z, ?_⟩
    rw [← toB_eq, Int.emod_eq_of_lt h2.1 h2.2]
    have h3 : ((cs.drop (i * 1)).take 1)[0]? = some (.int .u8 z) := by rw [e]; rfl
    rw [List.getElem?_take_of_lt (by omega), List.getElem?_drop] at h3
    simpa using h3
  have hc : ∃ l : List UInt8, l.length = 8 ∧ cs = bcs l := by
    match cs, hl, hb with
    | [c0, c1, c2, c3, c4, c5, c6, c7], _, hb =>
      obtain ⟨b0, e0⟩ := hb 0 (by omega)
      have e0 : c0 = .int .u8 (b0.toNat : Int) := Option.some.inj e0
      obtain ⟨b1, e1⟩ := hb 1 (by omega)
      have e1 : c1 = .int .u8 (b1.toNat : Int) := Option.some.inj e1
      obtain ⟨b2, e2⟩ := hb 2 (by omega)
      have e2 : c2 = .int .u8 (b2.toNat : Int) := Option.some.inj e2
      obtain ⟨b3, e3⟩ := hb 3 (by omega)
      have e3 : c3 = .int .u8 (b3.toNat : Int) := Option.some.inj e3
      obtain ⟨b4, e4⟩ := hb 4 (by omega)
      have e4 : c4 = .int .u8 (b4.toNat : Int) := Option.some.inj e4
      obtain ⟨b5, e5⟩ := hb 5 (by omega)
      have e5 : c5 = .int .u8 (b5.toNat : Int) := Option.some.inj e5
      obtain ⟨b6, e6⟩ := hb 6 (by omega)
      have e6 : c6 = .int .u8 (b6.toNat : Int) := Option.some.inj e6
      obtain ⟨b7, e7⟩ := hb 7 (by omega)
      have e7 : c7 = .int .u8 (b7.toNat : Int) := Option.some.inj e7
      exact ⟨[b0, b1, b2, b3, b4, b5, b6, b7], rfl, by rw [e0, e1, e2, e3, e4, e5, e6, e7]; rfl⟩
  obtain ⟨l, hl8, rfl⟩ := hc
  exact ⟨ofNm l, by rw [nmc_toList, nmb_ofNm l hl8]⟩
set_option maxRecDepth 100000 in
theorem open_nm {H : Type} {enc : TypeId × Value → H} {W : World} {base b0 : Nat} {held : Bool} {v : Value} {d : DataW H} {p : List MemPlace} (hv : Value.okWide Try.prog W .any b0 26 v)
    (h : DataW.Trod enc Try.prog W base (fun _ => true) held 26 v d p) : ∃ n : UInt64, v = .agg (nmc n) := by
  obtain ⟨fuel, hf⟩ := h
  obtain ⟨n, hn⟩ := open_nmc hf
  simp only [Value.okWide, Try.underlying26] at hv
  obtain ⟨cs, rfl, _, _⟩ := hv
  refine ⟨n, ?_⟩
  simp only [Value.cells] at hn
  congr 1
  exact Array.toList_inj.1 hn
/-- bytes that came in -/
theorem open_bs {H : Type} {enc : TypeId × Value → H} {W : World} {base : Nat} {held : Bool} {a : Option Addr} {n c : Nat} {d : DataW H} {p : List MemPlace}
    (h : DataW.Trod enc Try.prog W base (fun _ => true) held 33 (.slice a n c) d p) : ∃ l, SlB W a n c l ∧ ((n = 0 ∧ c = 0) ∨ ∃ e s, d = .slice e s ∧ e.length + s.length = c) := by
  obtain ⟨fuel, hf⟩ := h
  rcases open_ints Try.underlying33 Try.underlying5 (by kernel_rfl) hf with ⟨hcs, _⟩ | ⟨x, l, c', zs, hcs, _, hl, hm, hz, hx, hcell, hwz⟩
  · simp [Value.cells] at hcs
    obtain ⟨rfl, rfl, rfl⟩ := hcs
    exact ⟨[], SlB.nil _, .inl ⟨rfl, rfl⟩⟩
  · simp [Value.cells] at hcs
    obtain ⟨rfl, rfl, rfl⟩ := hcs
    have hz' : zs.length = c := by simpa using hz
    simp only [Prod.mk.injEq] at hx
    obtain ⟨l, hs⟩ := slb_of_row (.inr ⟨_, rfl, hl, hm, hz', hcell, hwz⟩)
    refine ⟨l, hs, .inr ⟨_, _, hx.1, ?_⟩⟩
    simp [lits, hz']; omega
theorem bytesB1 : Try.prog.bytesOf 5 = 1 := by kernel_rfl
theorem open_byte {z : Int} (h : (Lit.int .u8 z).wf = true) : ∃ b : UInt8, z = (b.toNat : Int) := by
  have h2 := wf_u8 h
  exact ⟨toB z, by rw [← toB_eq, Int.emod_eq_of_lt h2.1 h2.2]⟩
end Go.Proofs.Ytjlnmpjffogpdaa
/- What a law is told of an argument of the type api.Block. -/
namespace Go.Proofs.Ytjlnmpjffogpdaa
open Go.ChangeShapes Go.WideShapes Go.ChangeAt Go.RowKit Go.Deep
set_option linter.unusedVariables false
set_option linter.unusedSimpArgs false
theorem cellsI1 : Try.prog.cellsOf 3 = 1 := by kernel_rfl
theorem spot_none' {w : World} {x : Addr} {k : IntKind} {n : Int} (h : w.cell? x = some (.int k n)) : x.spot = none := by
  unfold World.cell? at h
  cases hs : x.spot with
  | none => rfl
  | some p => rw [hs] at h; split at h <;> simp at h
/-- items one behind the other make a list -/
theorem rows_list {w : World} {b o : Nat} : ∀ (n : Nat), (∀ j, j < n → ∃ y, w.rangeAt b (o + j * 9) (chL y)) → ∃ L, L.length = n ∧ w.rangeAt b o (chc L) := by
  intro n
  induction n with
  | zero => intro _; exact ⟨[], rfl, fun j v hv => by simp [chc] at hv⟩
  | succ n ih =>
    intro h
    obtain ⟨L, hL, hr⟩ := ih (fun j hj => h j (by omega))
    obtain ⟨y, hy⟩ := h n (by omega)
    refine ⟨L ++ [y], by simp [hL], ?_⟩
    rw [chc_append, chc_cons, chc_nil, List.append_nil]
    refine rangeAt_append hr ?_
    rw [chc_length, hL]; exact hy
end Go.Proofs.Ytjlnmpjffogpdaa
/- What a law is told of arguments of the types api.Tx, api.SignedTx, api.Payload. -/
namespace Go.Proofs.Ytjlnmpjffogpdaa
open Go.ChangeShapes Go.WideShapes Go.ChangeAt Go.RowKit Go.Deep
set_option linter.unusedVariables false
set_option linter.unusedSimpArgs false
theorem cellsO23 : Try.prog.cellsOf 58 = 23 := by kernel_rfl
theorem cellsT3 : Try.prog.cellsOf 143 = 3 := by kernel_rfl
theorem cellsT4 : Try.prog.cellsOf 145 = 4 := by kernel_rfl
theorem cellsSB : Try.prog.cellsOf 33 = 1 := by kernel_rfl
theorem cellsSO : Try.prog.cellsOf 23 = 1 := by kernel_rfl
section
variable {H : Type} {enc : TypeId × Value → H} {w : World} {base fuel : Nat} {held : Bool} {cs : List Value} {x : DataW H × List MemPlace}
/-- bytes inside something that came in -/
theorem open_rowB (h : DataW.trod enc Try.prog w base (fun _ => true) held fuel 33 cs = some x) : ∃ a n c l, cs = [.slice a n c] ∧ SlB w a n c l := by
  rcases open_ints Try.underlying33 Try.underlying5 cellsB1 h with ⟨hcs, _⟩ | ⟨x, l, c, zs, hcs, _, hl, hm, hz, _, hcell, hwz⟩
  · exact ⟨_, _, _, [], hcs, SlB.nil w⟩
  · obtain ⟨l', hs⟩ := slb_of_row (.inr ⟨_, rfl, hl, hm, by simpa using hz, hcell, hwz⟩)
    exact ⟨_, _, _, l', hcs, hs⟩
theorem cut_at {α : Type} (cs : List α) (a n : Nat) : cs.drop a = (cs.drop a).take n ++ cs.drop (a + n) := by
  rw [← List.drop_drop, List.take_append_drop]
theorem list9 {α : Type} {l : List α} (h : l.length = 9) : ∃ a b c d e f g i j, l = [a, b, c, d, e, f, g, i, j] := by
  match l, h with
  | [a, b, c, d, e, f, g, i, j], _ => exact ⟨a, b, c, d, e, f, g, i, j, rfl⟩
set_option maxRecDepth 100000 in
/-- the cells of an operation that came in -/
theorem open_op (h : DataW.trod enc Try.prog w base (fun _ => true) held fuel 58 cs = some x) : ∃ R : OpR, cs = opL R ∧ R.ok w := by
  obtain ⟨xs, m, _, _, hl, hxl, hg⟩ := DataW.trod_struct Try.underlying58 h
  rw [cellsO23] at hl
  obtain ⟨x0, x1, x2, x3, x4, x5, x6, x7, x8, rfl⟩ := list9 (show xs.length = 9 from hxl)
  have h0 : DataW.trod enc Try.prog w base (fun _ => true) held m 3 ((cs.drop 0).take (Try.prog.cellsOf 3)) = some x0 := hg 0 _ rfl
  have h1 : DataW.trod enc Try.prog w base (fun _ => true) held m 3 ((cs.drop 1).take (Try.prog.cellsOf 3)) = some x1 := hg 1 _ rfl
  have h2 : DataW.trod enc Try.prog w base (fun _ => true) held m 3 ((cs.drop 2).take (Try.prog.cellsOf 3)) = some x2 := hg 2 _ rfl
  have h3 : DataW.trod enc Try.prog w base (fun _ => true) held m 3 ((cs.drop 3).take (Try.prog.cellsOf 3)) = some x3 := hg 3 _ rfl
  have h4 : DataW.trod enc Try.prog w base (fun _ => true) held m 3 ((cs.drop 4).take (Try.prog.cellsOf 3)) = some x4 := hg 4 _ rfl
  have h5 : DataW.trod enc Try.prog w base (fun _ => true) held m 26 ((cs.drop 5).take (Try.prog.cellsOf 26)) = some x5 := hg 5 _ rfl
  have h6 : DataW.trod enc Try.prog w base (fun _ => true) held m 26 ((cs.drop 13).take (Try.prog.cellsOf 26)) = some x6 := hg 6 _ rfl
  have h7 : DataW.trod enc Try.prog w base (fun _ => true) held m 33 ((cs.drop 21).take (Try.prog.cellsOf 33)) = some x7 := hg 7 _ rfl
  have h8 : DataW.trod enc Try.prog w base (fun _ => true) held m 33 ((cs.drop 22).take (Try.prog.cellsOf 33)) = some x8 := hg 8 _ rfl
  rw [cellsI1] at h0 h1 h2 h3 h4
  rw [cellsNm] at h5 h6
  rw [cellsSB] at h7 h8
  obtain ⟨k, e0, _, _⟩ := DataW.trod_int Try.underlying3 h0
  obtain ⟨to, e1, _, _⟩ := DataW.trod_int Try.underlying3 h1
  obtain ⟨am, e2, _, _⟩ := DataW.trod_int Try.underlying3 h2
  obtain ⟨ul, e3, _, _⟩ := DataW.trod_int Try.underlying3 h3
  obtain ⟨va, e4, _, _⟩ := DataW.trod_int Try.underlying3 h4
  obtain ⟨lk, e5⟩ := open_nmc h5
  obtain ⟨hs, e6⟩ := open_nmc h6
  obtain ⟨A1, n1, c1, pre, e7, s1⟩ := open_rowB h7
  obtain ⟨A2, n2, c2, prf, e8, s2⟩ := open_rowB h8
  rw [nmc_toList, bcs_nb8] at e5 e6
  refine ⟨⟨k, to, am, ul, va, lk, hs, A1, n1, c1, pre, A2, n2, c2, prf⟩, ?_, ⟨s1, s2⟩⟩
  have e : cs = cs.drop 0 := rfl
  rw [e, cut_at cs 0 1, e0, cut_at cs (0 + 1) 1, e1, cut_at cs (0 + 1 + 1) 1, e2, cut_at cs (0 + 1 + 1 + 1) 1, e3, cut_at cs (0 + 1 + 1 + 1 + 1) 1, e4, cut_at cs (0 + 1 + 1 + 1 + 1 + 1) 8, e5, cut_at cs (0 + 1 + 1 + 1 + 1 + 1 + 8) 8, e6, cut_at cs (0 + 1 + 1 + 1 + 1 + 1 + 8 + 8) 1, e7, cut_at cs (0 + 1 + 1 + 1 + 1 + 1 + 8 + 8 + 1) 1, e8, List.drop_of_length_le (by omega)]
  rfl
theorem rows_ops {b o : Nat} : ∀ (n : Nat), (∀ j, j < n → ∃ y : OpR, w.rangeAt b (o + j * 23) (opL y) ∧ y.ok w) → ∃ L : List OpR, L.length = n ∧ w.rangeAt b o (ocs L) ∧ ∀ R, R ∈ L → R.ok w := by
  intro n
  induction n with
  | zero => intro _; exact ⟨[], rfl, fun j v hv => by simp [ocs] at hv, fun R hR => by cases hR⟩
  | succ n ih =>
    intro h
    obtain ⟨L, hL, hr, hok⟩ := ih (fun j hj => h j (by omega))
    obtain ⟨y, hy, hyo⟩ := h n (by omega)
    refine ⟨L ++ [y], by simp [hL], ?_, ?_⟩
    · rw [ocs_append, ocs_cons, ocs_nil, List.append_nil]
      refine rangeAt_append hr ?_
      rw [ocs_length, hL]; exact hy
    · intro R hR
      rcases List.mem_append.1 hR with hR | hR
      · exact hok R hR
      · rw [List.mem_singleton.1 hR]; exact hyo
theorem open_ops (h : DataW.trod enc Try.prog w base (fun _ => true) held fuel 23 cs = some x) : ∃ A n c L, cs = [.slice A n c] ∧ SlO w A n c L := by
  rcases open_slice Try.underlying23 h with ⟨hcs, _⟩ | ⟨x, l, c', m, n, D, Pl, hcs, _, hl, hm, hmm, _, hi⟩
  · exact ⟨none, 0, 0, [], hcs, SlO.nil w⟩
  · rw [if_pos rfl] at hmm
    subst hmm
    have hcell : ∀ j, j < l → ∃ y : OpR, (∀ q v, (opL y)[q]? = some v → w.cell? ((x.add (j * 23)).add q) = some v) ∧ y.ok w := by
      intro j hj
      obtain ⟨cs', hc, ht⟩ := hi j (by omega)
      obtain ⟨y, rfl, hyo⟩ := open_op ht
      rw [cellsO23] at hc
      obtain ⟨_, hln, hat⟩ := World.cells?_some hc
      refine ⟨y, fun q v hv => ?_, hyo⟩
      have hq := (List.getElem?_eq_some_iff.1 hv).1
      have := hat q (by rw [opL_length] at hq; omega)
      rw [this, hv]
    rcases Nat.eq_zero_or_pos l with rfl | h0
    · exact ⟨_, 0, _, [], hcs, rfl, Nat.zero_le _, by unfold maxLen at hm; omega, .nil, fun R hR => by cases hR⟩
    · have hx : x.spot = none := by
        obtain ⟨y, hy, _⟩ := hcell 0 h0
        have := hy 0 (.int .i64 y.k) rfl
        have e0 : ((x.add (0 * 23)).add 0) = x := by simp [Addr.add]
        rw [e0] at this
        exact spot_none' this
      obtain ⟨bl, ol, sp⟩ := x
      simp only at hx
      subst hx
      obtain ⟨L, hL, hr, hok⟩ := rows_ops (w := w) (b := bl) (o := ol) l (fun j hj => by
        obtain ⟨y, hy, hyo⟩ := hcell j hj
        refine ⟨y, fun q v hv => ?_, hyo⟩
        have := hy q v hv
        rwa [Addr.add_mid, Addr.add_mid] at this)
      exact ⟨_, l, _, L, hcs, hL, hl, by unfold maxLen at hm; omega, .inr ⟨bl, ol, rfl, hr⟩, hok⟩
theorem list2 {α : Type} {l : List α} (h : l.length = 2) : ∃ a b, l = [a, b] := by
  match l, h with
  | [a, b], _ => exact ⟨a, b, rfl⟩
theorem list3' {α : Type} {l : List α} (h : l.length = 3) : ∃ a b c, l = [a, b, c] := by
  match l, h with
  | [a, b, c], _ => exact ⟨a, b, c, rfl⟩
theorem list4 {α : Type} {l : List α} (h : l.length = 4) : ∃ a b c d, l = [a, b, c, d] := by
  match l, h with
  | [a, b, c, d], _ => exact ⟨a, b, c, d, rfl⟩
theorem open_txc (h : DataW.trod enc Try.prog w base (fun _ => true) held fuel 143 cs = some x) : ∃ ac sq A n c L, cs = [.int .i64 ac, .int .i64 sq, .slice A n c] ∧ SlO w A n c L := by
  obtain ⟨xs, m, _, _, hl, hxl, hf⟩ := DataW.trod_struct Try.underlying143 h
  rw [cellsT3] at hl
  obtain ⟨c0, c1, c2, rfl⟩ := list3' hl
  obtain ⟨x0, x1, x2, rfl⟩ := list3' (show xs.length = 3 from hxl)
  have h0 : DataW.trod enc Try.prog w base (fun _ => true) held m 3 (([c0, c1, c2].drop 0).take (Try.prog.cellsOf 3)) = some x0 := hf 0 _ rfl
  have h1 : DataW.trod enc Try.prog w base (fun _ => true) held m 3 (([c0, c1, c2].drop 1).take (Try.prog.cellsOf 3)) = some x1 := hf 1 _ rfl
  have h2 : DataW.trod enc Try.prog w base (fun _ => true) held m 23 (([c0, c1, c2].drop 2).take (Try.prog.cellsOf 23)) = some x2 := hf 2 _ rfl
  rw [cellsI1] at h0 h1
  rw [cellsSO] at h2
  obtain ⟨ac, e0, _, _⟩ := DataW.trod_int Try.underlying3 h0
  obtain ⟨sq, e1, _, _⟩ := DataW.trod_int Try.underlying3 h1
  obtain ⟨A, n, c, L, e2, hs⟩ := open_ops h2
  simp only [List.drop_zero, List.drop_succ_cons, List.take_succ_cons, List.take_zero, List.cons.injEq, and_true] at e0 e1 e2
  exact ⟨ac, sq, A, n, c, L, by rw [e0, e1, e2], hs⟩
theorem open_stc (h : DataW.trod enc Try.prog w base (fun _ => true) held fuel 145 cs = some x) : ∃ T : TxR, cs = tL T ∧ T.ok w := by
  obtain ⟨xs, m, _, _, hl, hxl, hf⟩ := DataW.trod_struct Try.underlying145 h
  rw [cellsT4] at hl
  obtain ⟨c0, c1, c2, c3, rfl⟩ := list4 hl
  obtain ⟨x0, x1, rfl⟩ := list2 (show xs.length = 2 from hxl)
  have h0 : DataW.trod enc Try.prog w base (fun _ => true) held m 143 (([c0, c1, c2, c3].drop 0).take (Try.prog.cellsOf 143)) = some x0 := hf 0 _ rfl
  have h1 : DataW.trod enc Try.prog w base (fun _ => true) held m 33 (([c0, c1, c2, c3].drop 3).take (Try.prog.cellsOf 33)) = some x1 := hf 1 _ rfl
  rw [cellsT3] at h0
  rw [cellsSB] at h1
  obtain ⟨ac, sq, A, n, c, L, e0, hs⟩ := open_txc h0
  obtain ⟨S, k, d, sig, e1, hg⟩ := open_rowB h1
  simp only [List.drop_zero, List.drop_succ_cons, List.take_succ_cons, List.take_zero, List.cons.injEq, and_true] at e0 e1
  exact ⟨⟨ac, sq, A, n, c, S, k, d, L, sig⟩, by rw [e0.1, e0.2.1, e0.2.2, e1]; rfl, ⟨hs, hg⟩⟩
theorem rows_txs {b o : Nat} : ∀ (n : Nat), (∀ j, j < n → ∃ y : TxR, w.rangeAt b (o + j * 4) (tL y) ∧ y.ok w) → ∃ L : List TxR, L.length = n ∧ w.rangeAt b o (tcs L) ∧ ∀ R, R ∈ L → R.ok w := by
  intro n
  induction n with
  | zero => intro _; exact ⟨[], rfl, fun j v hv => by simp [tcs] at hv, fun R hR => by cases hR⟩
  | succ n ih =>
    intro h
    obtain ⟨L, hL, hr, hok⟩ := ih (fun j hj => h j (by omega))
    obtain ⟨y, hy, hyo⟩ := h n (by omega)
    refine ⟨L ++ [y], by simp [hL], ?_, ?_⟩
    · rw [tcs_append, tcs_cons, tcs_nil, List.append_nil]
      refine rangeAt_append hr ?_
      rw [tcs_length, hL]; exact hy
    · intro R hR
      rcases List.mem_append.1 hR with hR | hR
      · exact hok R hR
      · rw [List.mem_singleton.1 hR]; exact hyo
end
set_option maxRecDepth 100000 in
/-- a transaction with its signature that came in -/
theorem open_signed {H : Type} {enc : TypeId × Value → H} {W : World} {base b0 : Nat} {held : Bool} {v : Value} {d : DataW H} {q : List MemPlace} (hv : Value.okWide Try.prog W .any b0 145 v)
    (h : DataW.Trod enc Try.prog W base (fun _ => true) held 145 v d q) : ∃ T : TxR, v = .agg (tA T) ∧ T.ok W := by
  obtain ⟨fuel, hf⟩ := h
  simp only [Value.okWide, Try.underlying145] at hv
  obtain ⟨cs, rfl, _, _⟩ := hv
  obtain ⟨T, e, hT⟩ := open_stc hf
  refine ⟨T, ?_, hT⟩
  congr 1
  apply Array.toList_inj.1
  exact e
set_option maxRecDepth 100000 in
/-- a transaction that came in -/
theorem open_tx {H : Type} {enc : TypeId × Value → H} {W : World} {base b0 : Nat} {held : Bool} {v : Value} {d : DataW H} {q : List MemPlace} (hv : Value.okWide Try.prog W .any b0 143 v)
    (h : DataW.Trod enc Try.prog W base (fun _ => true) held 143 v d q) : ∃ ac sq A n c L, v = .agg (txA ac sq A n c) ∧ SlO W A n c L := by
  obtain ⟨fuel, hf⟩ := h
  simp only [Value.okWide, Try.underlying143] at hv
  obtain ⟨cs, rfl, _, _⟩ := hv
  obtain ⟨ac, sq, A, n, c, L, e, hT⟩ := open_txc hf
  refine ⟨ac, sq, A, n, c, L, ?_, hT⟩
  congr 1
  apply Array.toList_inj.1
  exact e
end Go.Proofs.Ytjlnmpjffogpdaa
