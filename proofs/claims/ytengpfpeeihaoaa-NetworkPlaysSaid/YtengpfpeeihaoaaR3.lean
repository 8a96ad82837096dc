/- The reference's network: Take. -/
import Derived.Test.YtengpfpeeihaoaaR2
namespace Go.Proofs.Ytengpfpeeihaoaa
open Go.RowKit
set_option linter.unusedVariables false
set_option linter.unusedSimpArgs false

set_option maxRecDepth 100000 in
set_option maxHeartbeats 2000000 in
theorem rtake_no (i : Int) (base b : Nat) (p : Int) (A : Option Addr) (n c : Nat) (L : List Pc) (w : World) (hN : RNet w base b p A n c L) (hi : i < 0 ∨ (n : Int) ≤ i) (hn : n ≤ 4096) :
    Calls Try.prog 28 #[.pointer (some ⟨b, 0, none⟩), .int .i64 i] w fun e w' => e = .returned (.tuple #[pcv 0 0 none 0 0, .bool false]) ∧ Ext w w' := by
  have hlt := hN.blk.lt
  have c1 : (w.alloc (.cells (pcs 0 0 none 0 0) 48)).cell? ⟨b, 1, none⟩ = some (.slice A n c) := (hN.blk.alloc _).cell 1
  clear hN
  by_cases h0 : i < 0
  · clear hi
    go_enter Try.func28, Try.ntmps28
    go_wp2_with fail
    refine bodyPost_ret (v := .tuple #[pcv 0 0 none 0 0, .bool false]) (rretPV rfl _ _ w.heap.size 0 0 none 0 0 _ rfl rfl (Blk.new _ _ _)) rfl ⟨rfl, (Ext.refl w).alloc' _⟩
  · have h1 : (0 : Int) ≤ i := by omega
    have h2 : (n : Int) ≤ i := by omega
    clear hi h0
    go_enter Try.func28, Try.ntmps28
    go_wp2_with fail
    refine bodyPost_ret (v := .tuple #[pcv 0 0 none 0 0, .bool false]) (rretPV rfl _ _ w.heap.size 0 0 none 0 0 _ rfl rfl (Blk.new _ _ _)) rfl ⟨rfl, (Ext.refl w).alloc' _⟩
theorem rtake_end {w w2 w' : World} {base b : Nat} {p : Int} {A0 : Option Addr} {n0 c0 : Nat} {L0 L' : List Pc} {A2 : Option Addr} {j c2 : Nat} {f t : Int} {a : Option Addr} {m k : Nat}
    (hN : RNet w base b p A0 n0 c0 L0) (he : Ext w w2) (hO : w2.ownsRow (w.heap.size + 1) 48 3 (.slice A2 j c2) j (rowP L'))
    (hw' : w' = (((w2.setCell ⟨b, 1, none⟩ (.slice A2 j c2)).setCell ⟨w.heap.size, 0, none⟩ (.int .i64 f)).setCell ⟨w.heap.size, 1, none⟩ (.int .i64 t)).setCell ⟨w.heap.size, 2, none⟩ (.slice a m k)) :
    RNet w' base b p A2 j c2 L' ∧ Below base w w' ∧ Kept w w' b (Value.ownBlock (.slice A0 n0 c0)) := by
  subst hw'
  have hblt := hN.blk.lt
  have hle := hN.le
  have hb2 := hN.blk.ext he
  refine ⟨⟨hle, ?_, ?_⟩, ?_, ⟨?_, ?_⟩⟩
  · exact (((hb2.set 1 _).far (p := ⟨w.heap.size, 0, none⟩) (Nat.ne_of_lt hblt) _).far (p := ⟨w.heap.size, 1, none⟩) (Nat.ne_of_lt hblt) _).far (p := ⟨w.heap.size, 2, none⟩) (Nat.ne_of_lt hblt) _
  · exact own_mono (ownsRow_setCell_below (ownsRow_setCell_below (ownsRow_setCell_below (ownsRow_setCell_below hO (Nat.lt_succ_of_lt hblt) _) (Nat.lt_succ_self _) _) (Nat.lt_succ_self _) _) (Nat.lt_succ_self _) _) (by omega)
  · exact Below.setCell (Below.setCell (Below.setCell (Below.setCell (he.mono (by omega)) hle _) (by show base ≤ w.heap.size; omega) _) (by show base ≤ w.heap.size; omega) _) (by show base ≤ w.heap.size; omega) _
  · simp only [World.setCell, Array.size_modify]; exact he.size
  · intro k hk hkb hkr
    rw [Below.heap_setCell _ _ _ _ (show k ≠ w.heap.size from by omega), Below.heap_setCell _ _ _ _ (show k ≠ w.heap.size from by omega), Below.heap_setCell _ _ _ _ (show k ≠ w.heap.size from by omega), Below.heap_setCell _ _ _ _ (show k ≠ b from hkb)]
    exact he.block k hk
set_option maxRecDepth 100000 in
set_option maxHeartbeats 4000000 in
theorem rtake_ok (i : Nat) (base b : Nat) (p : Int) (A : Option Addr) (n c : Nat) (L : List Pc) (w : World) (hN : RNet w base b p A n c L) (hi : i < n) (hn : n ≤ 4096) :
    Calls Try.prog 28 #[.pointer (some ⟨b, 0, none⟩), .int .i64 (i : Int)] w fun e w' => ∃ A' c', e = .returned (.tuple #[pcv (nthP L i).f (nthP L i).t (nthP L i).a (nthP L i).n (nthP L i).c, .bool true]) ∧
      RNet w' base b p A' (n - 1) c' (L.eraseIdx i) ∧ Below base w w' ∧ Kept w w' b (Value.ownBlock (.slice A n c)) := by
  obtain ⟨j, rfl⟩ : ∃ j, n = j + 1 := ⟨n - 1, by omega⟩
  rw [Nat.add_sub_cancel]
  have hlen := hN.len
  have hE0 : Ext w (w.alloc (.cells (pcs 0 0 none 0 0) 48)) := (Ext.refl w).alloc' _
  have hbb := Blk.new w 48 (pcs 0 0 none 0 0)
  obtain ⟨g, rfl, hgb, hg, hra⟩ := rown_at3 hN.own (by omega)
  obtain ⟨hcap1, hcap2⟩ := own_cap hN.own
  have HN0 := Lib.hid hN
  obtain ⟨e0, e1, e2⟩ := own_cells3 (hN.ext hE0).own (by omega : i < L.length)
  have hblt := hN.blk.lt
  have hble := hN.le
  generalize (nthP L i).f = f at *
  generalize (nthP L i).t = t at *
  generalize (nthP L i).a = a at *
  generalize (nthP L i).n = m at *
  generalize (nthP L i).c = k at *
  have i0 : (0 : Int) ≤ (i : Int) := by omega
  have i1 : (i : Int) < ((j + 1 : Nat) : Int) := by omega
  have HL := Lib.hid hlen
  have c1 : (w.alloc (.cells (pcs 0 0 none 0 0) 48)).cell? ⟨b, 1, none⟩ = some (.slice (some ⟨g, 0, none⟩) (j + 1) c) := (hN.blk.alloc _).cell 1
  clear hN hlen hra
  go_enter Try.func28, Try.ntmps28
  go_wp2_with fail
  have hEW : Ext w ((w.alloc (.cells (pcs 0 0 none 0 0) 48)).alloc (.cells (pcs f t a m k) 48)).drew := (hE0.alloc' _).drew'
  have hbr : Blk ((w.alloc (.cells (pcs 0 0 none 0 0) 48)).alloc (.cells (pcs f t a m k) 48)).drew w.heap.size 48 (pcs 0 0 none 0 0) := (hbb.alloc _).drew
  have hbx : Blk ((w.alloc (.cells (pcs 0 0 none 0 0) 48)).alloc (.cells (pcs f t a m k) 48)).drew (w.heap.size + 1) 48 (pcs f t a m k) := (Blk.newAt _ _ _ _ (by simp)).drew
  have HWS := Lib.hid (show ((w.alloc (.cells (pcs 0 0 none 0 0) 48)).alloc (.cells (pcs f t a m k) 48)).heap.size = w.heap.size + 1 + 1 from by simp)
  clear c1 e0 e1 e2 hE0 hbb
  generalize (w.alloc (.cells (pcs 0 0 none 0 0) 48)).alloc (.cells (pcs f t a m k) 48) = W at *
  have HN1 := Lib.hid (HN0.out.ext hEW)
  have hbW := HN1.out.blk
  have c1 : W.drew.cell? ⟨b, 1, none⟩ = some (.slice (some ⟨g, 0, none⟩) (j + 1) c) := hbW.cell 1
  have HRA := Lib.hid (show W.drew.rangeAt g 0 (rowP L) from fun j v hj => by have := HN1.out.own.cells (g := g) rfl j v hj; rwa [Addr.add_mid] at this)
  have HR1 := Lib.hid (show Rd W.drew (some ⟨g, 0, none⟩) (rowP (L.take i)) from .inr ⟨g, 0, rfl, by rw [← rowP_take]; exact rangeAt_take HRA.out⟩)
  have HL1 := Lib.hid (show (rowP (L.take i)).length = i * 3 from by rw [rowP_length, List.length_take, HL.out, Nat.min_eq_left (by omega)])
  have HER := Lib.hid (show rowP (L.eraseIdx i) = rowP (L.take i) ++ rowP (L.drop (i + 1)) from by rw [← rowP_append, List.eraseIdx_eq_take_drop_succ])
  have ha1 : i ≤ j + 1 := by omega
  have ha2 : i ≤ c := by omega
  have ha4 : i ≤ j := by omega
  have ha5 : i + 1 ≤ c := by omega
  have q1 : IntKind.i64.wrap ((i : Int) + 1) = (i : Int) + 1 := IntWalk.i64_in _ (by omega)
  have q2 : (0 : Int) ≤ (i : Int) + 1 := by omega
  have q3 : ((i : Int) + 1).toNat = i + 1 := by omega
  have q4 : (i : Int) + 1 ≤ (j : Int) + 1 := by omega
  have q5 : (i : Int) ≤ (j : Int) + 1 := by omega
  have q6 : (i : Int) ≤ (c : Int) := by omega
  by_cases hci : c = i + 1
  · obtain rfl : i = j := by omega
    subst hci
    have HR2 := Lib.hid (show Rd W.drew (some ⟨g, 0, none⟩) (rowP (L.drop (i + 1))) from .inl (by rw [List.drop_eq_nil_of_le (by have := HL.out; omega)]; rfl))
    have HL2 := Lib.hid (show (rowP (L.drop (i + 1))).length = 0 * 3 from by rw [List.drop_eq_nil_of_le (by have := HL.out; omega)]; rfl)
    go_region_law (first | (refine step_app (o := ⟨some 33, _, _, _, _, _⟩) rparcelsE rfl (.const (.slice none 0 0)) (.tmp 32) rfl W.drew.heap.size none 0 0 [] (by rfl) (World.ownsRow_nil _ _ _ _) (some ⟨g, 0, none⟩) i (i + 1) (rowP (L.take i)) (by rfl) HR1.out HL1.out (rowP_ones _) (by omega) (by omega) (Nat.le_refl _) W.drew (Ext.refl _) ?_; intro A1 k1 w1 hO1' he1 hs1; have hO1 : w1.ownsRow W.drew.heap.size 48 3 (.slice A1 i k1) i (rowP (L.take i)) := (by simpa using hO1'); have hbW1 := hbW.ext he1; have y1 : w1.cell? ⟨b, 1, none⟩ = some (.slice (some ⟨g, 0, none⟩) (i + 1) (i + 1)) := hbW1.cell 1) | (refine step_app (o := ⟨some 41, _, _, _, _, _⟩) rparcelsE rfl (.tmp 33) (.tmp 40) rfl W.drew.heap.size A1 i k1 (rowP (L.take i)) (by rfl) hO1 (some ⟨g, 0, none⟩) 0 0 (rowP (L.drop (i + 1))) (by rfl) (HR2.out.ext he1) HL2.out (rowP_ones _) (by omega) (by omega) hs1 W.drew he1 ?_; intro A2 k2 w2 hO2' he2 hs2; have hb2 := hbW.ext he2; have hp2 := hbx.ext he2; have hr2 := hbr.ext he2; have x1 : w2.cell? ⟨b, 1, none⟩ = some (.slice (some ⟨g, 0, none⟩) (i + 1) (i + 1)) := hb2.cell 1; have x2 := hb2.frozen 1))
    all_goals
      have z0 : w2.cell? ⟨w.heap.size + 1, 0, none⟩ = some (.int .i64 f) := hp2.cell 0
      have z1 : w2.cell? ⟨w.heap.size + 1, 1, none⟩ = some (.int .i64 t) := hp2.cell 1
      have z2 : w2.cell? ⟨w.heap.size + 1, 2, none⟩ = some (.slice a m k) := hp2.cell 2
      have r0 : w2.cell? ⟨w.heap.size, 0, none⟩ = some (.int .i64 0) := hr2.cell 0
      have r1 : w2.cell? ⟨w.heap.size, 1, none⟩ = some (.int .i64 0) := hr2.cell 1
      have r2 : w2.cell? ⟨w.heap.size, 2, none⟩ = some (.slice none 0 0) := hr2.cell 2
      have s0 := hr2.frozen 0
      have s1 := hr2.frozen 1
      have s2 := hr2.frozen 2
      have n1 : ¬ b = w.heap.size + 1 := by omega
      have n2 : ¬ w.heap.size + 1 = b := by omega
      have n3 : ¬ b = w.heap.size := by omega
      have n4 : ¬ w.heap.size = b := by omega
      have hO2 : w2.ownsRow (w.heap.size + 1) 48 3 (.slice A2 i k2) i (rowP (L.eraseIdx i)) := by
        rw [HER.out]
        have h := own_mono hO2' (show w.heap.size + 1 ≤ W.drew.heap.size from by have := HWS.out; show w.heap.size + 1 ≤ W.heap.size; omega)
        exact h
      have HEND := Lib.hid (rtake_end (f := f) (t := t) (a := a) (m := m) (k := k) HN0.out (hEW.trans he2) hO2 rfl)
      have HR := Lib.hid ((((hr2.far (p := ⟨b, 1, none⟩) n4 (.slice A2 i k2)).set 0 (.int .i64 f)).set 1 (.int .i64 t)).set 2 (.slice a m k))
      clear hb2 hp2 hr2 hO2 hO2'
      go_wp2_with fail
      refine bodyPost_ret (v := .tuple #[pcv f t a m k, .bool true]) (rretPV rfl _ _ w.heap.size f t a m k _ rfl rfl HR.out) rfl ⟨A2, k2, rfl, HEND.out⟩
  · have HR2 := Lib.hid (show Rd W.drew (some ⟨g, (i + 1) * 3, none⟩) (rowP (L.drop (i + 1))) from .inr ⟨g, (i + 1) * 3, rfl, by have := rangeAt_drop HRA.out (k := (i + 1) * 3); rwa [Nat.zero_add, rowP_dropP] at this⟩)
    have HL2 := Lib.hid (show (rowP (L.drop (i + 1))).length = (j - i) * 3 from by rw [rowP_length, List.length_drop, HL.out]; omega)
    go_region_law (first | (refine step_app (o := ⟨some 33, _, _, _, _, _⟩) rparcelsE rfl (.const (.slice none 0 0)) (.tmp 32) rfl W.drew.heap.size none 0 0 [] (by rfl) (World.ownsRow_nil _ _ _ _) (some ⟨g, 0, none⟩) i c (rowP (L.take i)) (by rfl) HR1.out HL1.out (rowP_ones _) (by omega) (by omega) (Nat.le_refl _) W.drew (Ext.refl _) ?_; intro A1 k1 w1 hO1' he1 hs1; have hO1 : w1.ownsRow W.drew.heap.size 48 3 (.slice A1 i k1) i (rowP (L.take i)) := (by simpa using hO1'); have hbW1 := hbW.ext he1; have y1 : w1.cell? ⟨b, 1, none⟩ = some (.slice (some ⟨g, 0, none⟩) (j + 1) c) := hbW1.cell 1) | (refine step_app (o := ⟨some 41, _, _, _, _, _⟩) rparcelsE rfl (.tmp 33) (.tmp 40) rfl W.drew.heap.size A1 i k1 (rowP (L.take i)) (by rfl) hO1 (some ⟨g, (i + 1) * 3, none⟩) (j - i) (c - (i + 1)) (rowP (L.drop (i + 1))) (by rfl) (HR2.out.ext he1) HL2.out (rowP_ones _) (by omega) (by omega) hs1 W.drew he1 ?_; intro A2 k2 w2 hO2' he2 hs2; have hb2 := hbW.ext he2; have hp2 := hbx.ext he2; have hr2 := hbr.ext he2; have x1 : w2.cell? ⟨b, 1, none⟩ = some (.slice (some ⟨g, 0, none⟩) (j + 1) c) := hb2.cell 1; have x2 := hb2.frozen 1))
    all_goals
      have z0 : w2.cell? ⟨w.heap.size + 1, 0, none⟩ = some (.int .i64 f) := hp2.cell 0
      have z1 : w2.cell? ⟨w.heap.size + 1, 1, none⟩ = some (.int .i64 t) := hp2.cell 1
      have z2 : w2.cell? ⟨w.heap.size + 1, 2, none⟩ = some (.slice a m k) := hp2.cell 2
      have r0 : w2.cell? ⟨w.heap.size, 0, none⟩ = some (.int .i64 0) := hr2.cell 0
      have r1 : w2.cell? ⟨w.heap.size, 1, none⟩ = some (.int .i64 0) := hr2.cell 1
      have r2 : w2.cell? ⟨w.heap.size, 2, none⟩ = some (.slice none 0 0) := hr2.cell 2
      have s0 := hr2.frozen 0
      have s1 := hr2.frozen 1
      have s2 := hr2.frozen 2
      have n1 : ¬ b = w.heap.size + 1 := by omega
      have n2 : ¬ w.heap.size + 1 = b := by omega
      have n3 : ¬ b = w.heap.size := by omega
      have n4 : ¬ w.heap.size = b := by omega
      have hO2 : w2.ownsRow (w.heap.size + 1) 48 3 (.slice A2 j k2) j (rowP (L.eraseIdx i)) := by
        rw [HER.out]
        have h := own_mono hO2' (show w.heap.size + 1 ≤ W.drew.heap.size from by have := HWS.out; show w.heap.size + 1 ≤ W.heap.size; omega)
        rw [show i + (j - i) = j from by omega] at h; exact h
      have HEND := Lib.hid (rtake_end (f := f) (t := t) (a := a) (m := m) (k := k) HN0.out (hEW.trans he2) hO2 rfl)
      have HR := Lib.hid ((((hr2.far (p := ⟨b, 1, none⟩) n4 (.slice A2 j k2)).set 0 (.int .i64 f)).set 1 (.int .i64 t)).set 2 (.slice a m k))
      clear hb2 hp2 hr2 hO2 hO2'
      go_wp2_with fail
      refine bodyPost_ret (v := .tuple #[pcv f t a m k, .bool true]) (rretPV rfl _ _ w.heap.size f t a m k _ rfl rfl HR.out) rfl ⟨A2, k2, rfl, HEND.out⟩
end Go.Proofs.Ytengpfpeeihaoaa
