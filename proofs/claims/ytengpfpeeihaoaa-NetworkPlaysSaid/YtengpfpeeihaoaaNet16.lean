/- Take where there is a network. -/
import Derived.Test.YtengpfpeeihaoaaNet15
namespace Go.Proofs.Ytengpfpeeihaoaa
open Go.RowKit
set_option linter.unusedVariables false
set_option linter.unusedSimpArgs false

set_option maxRecDepth 100000 in
set_option maxHeartbeats 2000000 in
theorem take_no (i : Int) (base b : Nat) (p : Int) (A : Option Addr) (n c : Nat) (L : List Pc) (w : World) (hN : Net w base b p A n c L) (hi : i < 0 ∨ (n : Int) ≤ i) (hn : n ≤ 4096) :
    Calls Try.prog 24 #[.pointer (some ⟨b, 0, none⟩), .int .i64 i] w fun e w' => e = .returned (.tuple #[pcv 0 0 none 0 0, .bool false]) ∧ Ext w w' := by
  have HG := Lib.hid (get_no i base b p A n c L _ (hN.ext ((Ext.refl w).alloc' (.cells (pcs 0 0 none 0 0) 35))) hn hi)
  clear hN hi
  go_enter Try.func24, Try.ntmps24
  go_wp2_with fail
  refine HG.out.mono ?_
  rintro e w1 ⟨rfl, he⟩
  have hb0 := (Blk.new w 35 (pcs 0 0 none 0 0)).ext he
  have hlt := hb0.lt
  have hne : ¬ w.heap.size = w1.heap.size := by omega
  have c0 : w1.cell? ⟨w.heap.size, 0, none⟩ = some (.int .i64 0) := hb0.cell 0
  have c1 : w1.cell? ⟨w.heap.size, 1, none⟩ = some (.int .i64 0) := hb0.cell 1
  have c2 : w1.cell? ⟨w.heap.size, 2, none⟩ = some (.slice none 0 0) := hb0.cell 2
  have f0 := hb0.frozen 0
  have f1 := hb0.frozen 1
  have f2 := hb0.frozen 2
  go_wp2_with fail
  have hE := ((Ext.refl w).alloc' _).trans he
  refine bodyPost_ret (v := .tuple #[pcv 0 0 none 0 0, .bool false]) (retPV rfl _ _ w.heap.size 0 0 none 0 0 _ rfl rfl ((((hb0.set 0 _).set 1 _).set 2 _).alloc _)) rfl ⟨rfl, Ext.alloc' (Below.setCell (Below.setCell (Below.setCell hE (Nat.le_refl _) _) (Nat.le_refl _) _) (Nat.le_refl _) _) _⟩
theorem rowP_ones (L : List Pc) : ∀ u ∈ rowP L, u.oneCell' = true := by
  induction L with
  | nil => intro u hu; cases hu
  | cons p r ih =>
    intro u hu
    rw [show rowP (p :: r) = rowP [p] ++ rowP r from by rw [← rowP_append]; rfl, List.mem_append] at hu
    rcases hu with h | h
    · exact rowP_one' p u h
    · exact ih u h
theorem rowP_dropP (L : List Pc) : ∀ k, (rowP L).drop (k * 3) = rowP (L.drop k) := by
  induction L with
  | nil => intro k; simp [rowP]
  | cons p r ih =>
    intro k
    cases k with
    | zero => simp
    | succ k =>
      show (p.cs ++ rowP r).drop _ = rowP (r.drop k)
      rw [← ih k, show (k + 1) * 3 = 3 + k * 3 from by omega, ← List.drop_drop]
      rfl
/-- what stands behind Take: the row cut, the parcel laid into the result -/
theorem take_end {w w9 : World} {base b g j c : Nat} {p : Int} {L' : List Pc} {xs : List Value} {f t : Int} {a1 : Option Addr} {m k1 : Nat} {l : List UInt8}
    (hle : base ≤ b) (hb : Blk w9 b 77 #[.int .i64 p, .slice (some ⟨g, 0, none⟩) (j + 1) c]) (ho : w9.ownsRow base 35 3 (.slice (some ⟨g, 0, none⟩) (j + 1) c) (j + 1) xs)
    (hx : xs.take (j * 3) = rowP L') (hB : Below base w w9) (hK : Kept w w9 b (some g)) (hO : OwnB w9 (w.heap.size + 1) 5 a1 m k1 l) (hblt : b < w.heap.size) (hglt : g < w.heap.size) (hgb : g ≠ b)
    {w' : World} (hw' : w' = (((w9.setCell ⟨b, 1, none⟩ (.slice (some ⟨g, 0, none⟩) j c)).setCell ⟨w.heap.size, 0, none⟩ (.int .i64 f)).setCell ⟨w.heap.size, 1, none⟩ (.int .i64 t)).setCell ⟨w.heap.size, 2, none⟩ (.slice a1 m k1)) :
    OwnB w' w.heap.size 5 a1 m k1 l ∧ Net w' base b p (some ⟨g, 0, none⟩) j c L' ∧ Below base w w' ∧ Kept w w' b (some g) := by
  subst hw'
  have hg : Value.ownBlock (.slice (some ⟨g, 0, none⟩) j c) = some g := rfl
  have hr : Value.ownBlock (.slice (some ⟨g, 0, none⟩) j c) ≠ some w.heap.size := fun h => by rw [hg] at h; injection h with h; omega
  have hbb : Value.ownBlock (.slice (some ⟨g, 0, none⟩) j c) ≠ some b := fun h => by rw [hg] at h; injection h with h; exact hgb h
  have hown := own_cut ho (i := j) (by omega) (by simp)
  rw [hx] at hown
  refine ⟨?_, ⟨hle, ?_, ?_⟩, ?_, ⟨?_, ?_⟩⟩
  · unfold OwnB at hO ⊢
    exact own_mono (ownsRow_setCell_below (ownsRow_setCell_below (ownsRow_setCell_below (ownsRow_setCell_below hO (Nat.lt_succ_of_lt hblt) _) (Nat.lt_succ_self _) _) (Nat.lt_succ_self _) _) (Nat.lt_succ_self _) _) (Nat.le_succ _)
  · exact (((hb.set 1 _).far (p := ⟨w.heap.size, 0, none⟩) (Nat.ne_of_lt hblt) _).far (p := ⟨w.heap.size, 1, none⟩) (Nat.ne_of_lt hblt) _).far (p := ⟨w.heap.size, 2, none⟩) (Nat.ne_of_lt hblt) _
  · exact own_far (own_far (own_far (own_far hown hbb _) hr _) hr _) hr _
  · exact Below.setCell (Below.setCell (Below.setCell (Below.setCell hB hle _) (by show base ≤ w.heap.size; omega) _) (by show base ≤ w.heap.size; omega) _) (by show base ≤ w.heap.size; omega) _
  · simp only [World.setCell, Array.size_modify]; exact hK.size
  · intro k hk hkb hkr
    rw [Below.heap_setCell _ _ _ _ (show k ≠ w.heap.size from by omega), Below.heap_setCell _ _ _ _ (show k ≠ w.heap.size from by omega), Below.heap_setCell _ _ _ _ (show k ≠ w.heap.size from by omega), Below.heap_setCell _ _ _ _ (show k ≠ b from hkb)]
    exact hK.block k hk hkb hkr
set_option maxRecDepth 100000 in
set_option maxHeartbeats 4000000 in
theorem take_ok (i : Nat) (base b : Nat) (p : Int) (A : Option Addr) (n c : Nat) (L : List Pc) (l : List UInt8) (w : World) (hN : Net w base b p A n c L) (hi : i < n) (hn : n ≤ 4096)
    (hs : SlB w (nthP L i).a (nthP L i).n (nthP L i).c l) (hm : (nthP L i).n ≤ 140737488355328) :
    Calls Try.prog 24 #[.pointer (some ⟨b, 0, none⟩), .int .i64 (i : Int)] w fun e w' => ∃ a' c', e = .returned (.tuple #[pcv (nthP L i).f (nthP L i).t a' (nthP L i).n c', .bool true]) ∧ OwnB w' w.heap.size 5 a' (nthP L i).n c' l ∧
      Net w' base b p A (n - 1) c (L.eraseIdx i) ∧ Below base w w' ∧ Kept w w' b (Value.ownBlock (.slice A n c)) := by
  obtain ⟨j, rfl⟩ : ∃ j, n = j + 1 := ⟨n - 1, by omega⟩
  rw [Nat.add_sub_cancel]
  have hE0 : Ext w (w.alloc (.cells (pcs 0 0 none 0 0) 35)) := (Ext.refl w).alloc' _
  have hlen := hN.len
  have hbb := Blk.new w 35 (pcs 0 0 none 0 0)
  have HG := Lib.hid (get_ok i base b p A (j + 1) c L l _ (hN.ext hE0) hi hn (hs.ext hE0) hm)
  obtain ⟨g, rfl, hgb, hg, _⟩ := own_at3 hN.own (by omega)
  obtain ⟨hcap1, hcap2⟩ := own_cap hN.own
  have HN0 := Lib.hid hN
  have HER := Lib.hid (erase_row L i (by omega))
  have hblt := hN.blk.lt
  have hble := hN.le
  generalize (nthP L i).f = f at *
  generalize (nthP L i).t = t at *
  generalize (nthP L i).a = a at *
  generalize (nthP L i).n = m at *
  generalize (nthP L i).c = k at *
  have i0 : (0 : Int) ≤ (i : Int) := by omega
  have i1 : (i : Int) < ((j + 1 : Nat) : Int) := by omega
  have HL := Lib.hid hlen
  clear hN hlen
  go_enter Try.func24, Try.ntmps24
  go_wp2_with fail
  refine HG.out.mono ?_
  rintro e w1 ⟨a1, k1, rfl, hO1, he1⟩
  have hE1 := (hE0.trans he1).alloc' (.cells (pcs f t a1 m k1) 35)
  have hbx := Blk.new w1 35 (pcs f t a1 m k1)
  have hO := hO1.ext ((Ext.refl w1).alloc' (.cells (pcs f t a1 m k1) 35))
  have hbr := (hbb.ext he1).alloc (.cells (pcs f t a1 m k1) 35)
  have c1 : (w1.alloc (.cells (pcs f t a1 m k1) 35)).cell? ⟨b, 1, none⟩ = some (.slice (some ⟨g, 0, none⟩) (j + 1) c) := (HN0.out.ext hE1).blk.cell 1
  have hw1 : w.heap.size < w1.heap.size := by have := he1.size; simp at this; omega
  go_wp2_with fail
  clear c1
  generalize (w1.alloc (.cells (pcs f t a1 m k1) 35)) = W at *
  have HN1 := Lib.hid (HN0.out.ext hE1.drew')
  have c1 : W.drew.cell? ⟨b, 1, none⟩ = some (.slice (some ⟨g, 0, none⟩) (j + 1) c) := HN1.out.blk.cell 1
  have ha1 : i ≤ j + 1 := by omega
  have ha2 : i ≤ c := by omega
  have ha3 : ¬ c = i := by omega
  have ha4 : i ≤ j := by omega
  have ha5 : i + 1 ≤ c := by omega
  have ha6 : j ≤ c := by omega
  have ha7 : ¬ c = j := by omega
  have HMIN := Lib.hid (show Nat.min (j - i) (j + 1 - i) = j - i from Nat.min_eq_left (by omega))
  have HCS := Lib.hid (show (rowP (L.drop (i + 1))).length = Nat.min (j - i) (j + 1 - i) * 3 from by
    rw [rowP_length, List.length_drop, HL.out, HMIN.out]; omega)
  have HFIT := Lib.hid (show i * 3 + (rowP (L.drop (i + 1))).length ≤ (j + 1) * 3 from by
    rw [rowP_length, List.length_drop, HL.out]; omega)
  have HONE := Lib.hid (show ∀ v ∈ rowP (L.drop (i + 1)), v.oneCell' = true from rowP_ones _)
  have HSRC := Lib.hid (show ∀ j v, (rowP (L.drop (i + 1)))[j]? = some v → W.drew.cell? ((⟨g, (i + 1) * 3, none⟩ : Addr).add j) = some v from fun j v hv => by
    obtain ⟨g', hgg, _, _, hra⟩ := own_at3 HN1.out.own (by omega)
    obtain rfl : g = g' := by injection hgg with h1; injection h1
    have hd := rangeAt_drop hra (k := (i + 1) * 3)
    rw [Nat.zero_add, rowP_dropP] at hd
    rw [Addr.add_mid]; exact hd j v hv)
  have e1 : IntKind.i64.wrap ((i : Int) + 1) = (i : Int) + 1 := IntWalk.i64_in _ (by omega)
  have e2 : (0 : Int) ≤ (i : Int) + 1 := by omega
  have e3 : ((i : Int) + 1).toNat = i + 1 := by omega
  have e4 : (i : Int) + 1 ≤ (j : Int) + 1 := by omega
  have e5 : (i : Int) ≤ (j : Int) + 1 := by omega
  have hgb' : some b ≠ some g := fun e => HN1.out.ne e.symm
  by_cases hci : c = i + 1
  · obtain rfl : i = j := by omega
    subst hci
    have HC0 := Lib.hid (show (rowP (L.drop (i + 1))).length = Nat.min 0 1 * 3 from by rw [rowP_length, List.length_drop, HL.out]; show (i + 1 - (i + 1)) * 3 = 0; omega)
    have HP := Lib.hid (show 0 < (rowP (L.drop (i + 1))).length → False from fun h => by rw [HC0.out] at h; exact absurd h (by decide))
    go_region_law ((refine step_copyG parcelsE rfl (.tmp 27) (.tmp 34) rfl base g (i * 3) (i + 1) (i + 1) (rowP L) HN1.out.own (some ⟨g, i * 3, none⟩) (some ⟨g, 0, none⟩) 1 1 0 0 (by rfl) (by rfl) (rowP (L.drop (i + 1))) HC0.out (fun h => (HP.out h).elim) HFIT.out HONE.out ?_; intro w2 hO2 hg2; have hb2 := HN1.out.blk.grown hg2 hgb'; have q1 : w2.cell? ⟨b, 1, none⟩ = some (.slice (some ⟨g, 0, none⟩) (i + 1) (i + 1)) := hb2.cell 1; have HO2 := Lib.hid hO2; have hcl := fun ty => run_clearP w2 ty g (i * 3) 1 1 (by omega) (fun k hk => by rw [HO2.out.cellAt (i * 3 + k) (by omega), List.getElem?_eq_getElem (by rw [HO2.out.1]; omega)]; rfl) (fun k hk => HO2.out.frozenAt _)))
    all_goals
      obtain ⟨xs9, o1, o2, o3⟩ := own_over (Builtin.zeroCells (pcs 0 0 none 0 0) 1).toList (i * 3) w2 _ HO2.out
      generalize w2.setCells g (i * 3) (Builtin.zeroCells (pcs 0 0 none 0 0) 1).toList = w9 at *
      have hgr : W.drew.grownBy w9 (some g) := Grown.trans hg2 o3
      have hb9 := HN1.out.blk.grown hgr hgb'
      have hgw : some w.heap.size ≠ some g := fun e => by injection e with e; omega
      have hgw1 : some w1.heap.size ≠ some g := fun e => by injection e with e; omega
      have hx9 := hbx.drew.grown hgr hgw1
      have hr9 := hbr.drew.grown hgr hgw
      have z1 : w9.cell? ⟨b, 1, none⟩ = some (.slice (some ⟨g, 0, none⟩) (i + 1) (i + 1)) := hb9.cell 1
      have z2 := hb9.frozen 1
      have x0 : w9.cell? ⟨w1.heap.size, 0, none⟩ = some (.int .i64 f) := hx9.cell 0
      have x1 : w9.cell? ⟨w1.heap.size, 1, none⟩ = some (.int .i64 t) := hx9.cell 1
      have x2 : w9.cell? ⟨w1.heap.size, 2, none⟩ = some (.slice a1 m k1) := hx9.cell 2
      have r0 : w9.cell? ⟨w.heap.size, 0, none⟩ = some (.int .i64 0) := hr9.cell 0
      have r1 : w9.cell? ⟨w.heap.size, 1, none⟩ = some (.int .i64 0) := hr9.cell 1
      have r2 : w9.cell? ⟨w.heap.size, 2, none⟩ = some (.slice none 0 0) := hr9.cell 2
      have s0 := hr9.frozen 0
      have s1 := hr9.frozen 1
      have s2 := hr9.frozen 2
      have n1 : ¬ b = w1.heap.size := by omega
      have n2 : ¬ w1.heap.size = b := by omega
      have n3 : ¬ b = w.heap.size := by omega
      have n4 : ¬ w.heap.size = b := by omega
      have hB9 : Below base w w9 := Below.grown (hE1.drew'.mono (by omega)) hgr (by have := hE1.size; show base ≤ W.heap.size; omega) (fun k hk => by injection hk with hk; omega)
      have hK9 : Kept w w9 b (some g) := ⟨Nat.le_trans hE1.size hgr.size, fun k hk hkb hkg => (hgr.block k (Nat.lt_of_lt_of_le hk hE1.size) hkg).trans (hE1.block k hk)⟩
      have hO9 : OwnB w9 (w.heap.size + 1) 5 a1 m k1 l := by
        have := hO.drew
        unfold OwnB at this ⊢
        rw [show (w.alloc (.cells (pcs 0 0 none 0 0) 35)).heap.size = w.heap.size + 1 from by simp] at this
        exact own_grown this hgr (fun k hk => by injection hk with hk; omega)
      have HX9 := Lib.hid (show xs9.take (i * 3) = rowP (L.eraseIdx i) from by rw [o2, ← HER.out, HL.out]; rfl)
      have HEND := Lib.hid (take_end (f := f) (t := t) hble hb9 o1 HX9.out hB9 hK9 hO9 hblt hg (fun e => hgb' (by rw [e])) rfl)
      have HR := Lib.hid ((((hr9.far (p := ⟨b, 1, none⟩) n4 (.slice (some ⟨g, 0, none⟩) i (i + 1))).set 0 (.int .i64 f)).set 1 (.int .i64 t)).set 2 (.slice a1 m k1))
      clear hb9 hx9 hr9 o1 o2 o3 hB9 hK9 hO9 hgr
      go_wp2_with fail
      refine bodyPost_ret (v := .tuple #[pcv f t a1 m k1, .bool true]) (retPV rfl _ _ w.heap.size f t a1 m k1 _ rfl rfl HR.out) rfl ⟨a1, k1, rfl, HEND.out⟩
  · go_region_law ((refine step_copyG parcelsE rfl (.tmp 27) (.tmp 34) rfl base g (i * 3) (j + 1) c (rowP L) HN1.out.own (some ⟨g, i * 3, none⟩) (some ⟨g, (i + 1) * 3, none⟩) (j + 1 - i) (c - i) (j - i) (c - (i + 1)) (by rfl) (by rfl) (rowP (L.drop (i + 1))) HCS.out (fun _ => ⟨rfl, _, rfl, HSRC.out⟩) HFIT.out HONE.out ?_; intro w2 hO2 hg2; have hb2 := HN1.out.blk.grown hg2 hgb'; have q1 : w2.cell? ⟨b, 1, none⟩ = some (.slice (some ⟨g, 0, none⟩) (j + 1) c) := hb2.cell 1; have HO2 := Lib.hid hO2; have hcl := fun ty => run_clearP w2 ty g (j * 3) 1 (c - j) (by omega) (fun k hk => by rw [HO2.out.cellAt (j * 3 + k) (by omega), List.getElem?_eq_getElem (by rw [HO2.out.1]; omega)]; rfl) (fun k hk => HO2.out.frozenAt _)))
    all_goals
      obtain ⟨xs9, o1, o2, o3⟩ := own_over (Builtin.zeroCells (pcs 0 0 none 0 0) 1).toList (j * 3) w2 _ HO2.out
      generalize w2.setCells g (j * 3) (Builtin.zeroCells (pcs 0 0 none 0 0) 1).toList = w9 at *
      have hgr : W.drew.grownBy w9 (some g) := Grown.trans hg2 o3
      have hb9 := HN1.out.blk.grown hgr hgb'
      have hgw : some w.heap.size ≠ some g := fun e => by injection e with e; omega
      have hgw1 : some w1.heap.size ≠ some g := fun e => by injection e with e; omega
      have hx9 := hbx.drew.grown hgr hgw1
      have hr9 := hbr.drew.grown hgr hgw
      have z1 : w9.cell? ⟨b, 1, none⟩ = some (.slice (some ⟨g, 0, none⟩) (j + 1) c) := hb9.cell 1
      have z2 := hb9.frozen 1
      have x0 : w9.cell? ⟨w1.heap.size, 0, none⟩ = some (.int .i64 f) := hx9.cell 0
      have x1 : w9.cell? ⟨w1.heap.size, 1, none⟩ = some (.int .i64 t) := hx9.cell 1
      have x2 : w9.cell? ⟨w1.heap.size, 2, none⟩ = some (.slice a1 m k1) := hx9.cell 2
      have r0 : w9.cell? ⟨w.heap.size, 0, none⟩ = some (.int .i64 0) := hr9.cell 0
      have r1 : w9.cell? ⟨w.heap.size, 1, none⟩ = some (.int .i64 0) := hr9.cell 1
      have r2 : w9.cell? ⟨w.heap.size, 2, none⟩ = some (.slice none 0 0) := hr9.cell 2
      have s0 := hr9.frozen 0
      have s1 := hr9.frozen 1
      have s2 := hr9.frozen 2
      have n1 : ¬ b = w1.heap.size := by omega
      have n2 : ¬ w1.heap.size = b := by omega
      have n3 : ¬ b = w.heap.size := by omega
      have n4 : ¬ w.heap.size = b := by omega
      have hB9 : Below base w w9 := Below.grown (hE1.drew'.mono (by omega)) hgr (by have := hE1.size; show base ≤ W.heap.size; omega) (fun k hk => by injection hk with hk; omega)
      have hK9 : Kept w w9 b (some g) := ⟨Nat.le_trans hE1.size hgr.size, fun k hk hkb hkg => (hgr.block k (Nat.lt_of_lt_of_le hk hE1.size) hkg).trans (hE1.block k hk)⟩
      have hO9 : OwnB w9 (w.heap.size + 1) 5 a1 m k1 l := by
        have := hO.drew
        unfold OwnB at this ⊢
        rw [show (w.alloc (.cells (pcs 0 0 none 0 0) 35)).heap.size = w.heap.size + 1 from by simp] at this
        exact own_grown this hgr (fun k hk => by injection hk with hk; omega)
      have HX9 := Lib.hid (show xs9.take (j * 3) = rowP (L.eraseIdx i) from by rw [o2, ← HER.out, HL.out]; rfl)
      have HEND := Lib.hid (take_end (f := f) (t := t) hble hb9 o1 HX9.out hB9 hK9 hO9 hblt hg (fun e => hgb' (by rw [e])) rfl)
      have HR := Lib.hid ((((hr9.far (p := ⟨b, 1, none⟩) n4 (.slice (some ⟨g, 0, none⟩) j c)).set 0 (.int .i64 f)).set 1 (.int .i64 t)).set 2 (.slice a1 m k1))
      clear hb9 hx9 hr9 o1 o2 o3 hB9 hK9 hO9 hgr
      go_wp2_with fail
      refine bodyPost_ret (v := .tuple #[pcv f t a1 m k1, .bool true]) (retPV rfl _ _ w.heap.size f t a1 m k1 _ rfl rfl HR.out) rfl ⟨a1, k1, rfl, HEND.out⟩
end Go.Proofs.Ytengpfpeeihaoaa
