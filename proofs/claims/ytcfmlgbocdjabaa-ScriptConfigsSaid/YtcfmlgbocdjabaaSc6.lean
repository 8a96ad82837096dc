/- DecodeConfig (the reference's). -/
import Derived.Test.YtcfmlgbocdjabaaSc5
namespace Go.Proofs.Ytcfmlgbocdjabaa
open Go.RowKit
set_option linter.unusedVariables false
set_option linter.unusedSimpArgs false
attribute [local go_sem ↓] Go.wp_at_zero Go.wp_at_succ
variable {D : Nat}
theorem cf_cs {s : Option (List UInt8)} {m : Nat} (h : (rTk 8 s).length = 0 ∨ (rTk 8 s).length = 8) (hm : (rTk 8 s).length = m) : (bcs (rTk 8 s)).length = Nat.min m 8 := by
  rw [bcs_length, ← hm]
  rcases h with h | h <;> rw [h] <;> rfl
theorem cf_fit {s : Option (List UInt8)} {k : Nat} (h : (rTk 8 s).length = 0 ∨ (rTk 8 s).length = 8) (hk : k = 15) : 7 + (bcs (rTk 8 s)).length ≤ k := by
  rw [bcs_length]; omega
theorem slb_cells {w : World} {A : Option Addr} {m c : Nat} {l : List UInt8} (h : SlB w A m c l) (h0 : 0 < (bcs l).length) : ∃ ad, A = some ad ∧ ∀ (j : Nat) (v : Value), (bcs l)[j]? = some v → w.cell? (ad.add j) = some v := by
  have hl := h.len
  rw [bcs_length] at h0
  obtain ⟨b, o, rfl, hr, _⟩ := h.at (by omega)
  exact ⟨⟨b, o, none⟩, rfl, fun j v hj => cell_add (hr j v hj)⟩

theorem rn1 (B : Nat) (s : Option (List UInt8)) (w : World) (h : CurAt 141 D w B s) (hs : s.isSome = true) : Calls Try.prog 94 #[.pointer (some ⟨B, 0, none⟩), .int .i64 1] w fun e w' => e = .returned (.int .i64 (rI 1 s)) ∧ CurAt 141 D w' B (rRest 1 s) ∧ w.grownBy w' (some B) := (rnum38_any 1 (by omega) (by omega) B s w h).mono (fun e w' ⟨z, he, hz, hc, hg⟩ => ⟨by rw [he, hz hs], hc, hg⟩)
theorem rm1 (B : Nat) (s : Option (List UInt8)) (w : World) (h : CurAt 141 D w B s) : Calls Try.prog 94 #[.pointer (some ⟨B, 0, none⟩), .int .i64 1] w fun e w' => ∃ z, e = .returned (.int .i64 z) ∧ CurAt 141 D w' B (rRest 1 s) ∧ w.grownBy w' (some B) := (rnum38_any 1 (by omega) (by omega) B s w h).mono (fun e w' ⟨z, he, _, hc, hg⟩ => ⟨z, he, hc, hg⟩)
theorem rn2 (B : Nat) (s : Option (List UInt8)) (w : World) (h : CurAt 141 D w B s) (hs : s.isSome = true) : Calls Try.prog 94 #[.pointer (some ⟨B, 0, none⟩), .int .i64 2] w fun e w' => e = .returned (.int .i64 (rI 2 s)) ∧ CurAt 141 D w' B (rRest 2 s) ∧ w.grownBy w' (some B) := (rnum38_any 2 (by omega) (by omega) B s w h).mono (fun e w' ⟨z, he, hz, hc, hg⟩ => ⟨by rw [he, hz hs], hc, hg⟩)
theorem rm2 (B : Nat) (s : Option (List UInt8)) (w : World) (h : CurAt 141 D w B s) : Calls Try.prog 94 #[.pointer (some ⟨B, 0, none⟩), .int .i64 2] w fun e w' => ∃ z, e = .returned (.int .i64 z) ∧ CurAt 141 D w' B (rRest 2 s) ∧ w.grownBy w' (some B) := (rnum38_any 2 (by omega) (by omega) B s w h).mono (fun e w' ⟨z, he, _, hc, hg⟩ => ⟨z, he, hc, hg⟩)
theorem rn8 (B : Nat) (s : Option (List UInt8)) (w : World) (h : CurAt 141 D w B s) (hs : s.isSome = true) : Calls Try.prog 94 #[.pointer (some ⟨B, 0, none⟩), .int .i64 8] w fun e w' => e = .returned (.int .i64 (rI 8 s)) ∧ CurAt 141 D w' B (rRest 8 s) ∧ w.grownBy w' (some B) := (rnum38_any 8 (by omega) (by omega) B s w h).mono (fun e w' ⟨z, he, hz, hc, hg⟩ => ⟨by rw [he, hz hs], hc, hg⟩)
theorem rm8 (B : Nat) (s : Option (List UInt8)) (w : World) (h : CurAt 141 D w B s) : Calls Try.prog 94 #[.pointer (some ⟨B, 0, none⟩), .int .i64 8] w fun e w' => ∃ z, e = .returned (.int .i64 z) ∧ CurAt 141 D w' B (rRest 8 s) ∧ w.grownBy w' (some B) := (rnum38_any 8 (by omega) (by omega) B s w h).mono (fun e w' ⟨z, he, _, hc, hg⟩ => ⟨z, he, hc, hg⟩)
theorem by8 (B : Nat) (s : Option (List UInt8)) (w : World) (h : CurAt 141 D w B s) : Calls Try.prog 95 #[.pointer (some ⟨B, 0, none⟩), .int .i64 8] w (TkOut 141 D B 8 s w) := bytes38_any 8 (by omega) (by omega) B s w h
section
variable {o : Oper} {a : Act} {w : World} {ops : Array Oper} {rest : List Oper} {Q : Exit → Act → World → Prop}
theorem wpList_storeCr (hgd : o.guard = none) (x y : Operand) (ho : o.op = .store 70 x y) (g : Nat) (cs : Array Value) (hx : a.eval x = .pointer (some ⟨g, 0, none⟩)) (hy : a.eval y = .agg cs) (ht : w.there g 0 15) (hs : cs.size = 15) (h1 : cs.all (·.oneCell') = true)
    (h : wpList Try.prog ops Q rest (a.put o.dst undef) (w.setCells g 0 cs.toList)) : wpList Try.prog ops Q (o :: rest) a w :=
  wpList_store_mid hgd 70 x y ho g 0 cs hx hy (by rw [hs]; exact ht) (by rw [hs]; kernel_rfl) h1 h
theorem wpList_newCr (hgd : o.guard = none) (x y : Operand) (ho : o.op = .store 70 x y) (cs : Array Value) (hcs : cs.size = 15) (ds : Array Value) (hds : ds.size = 15) (h1 : ds.all (·.oneCell') = true) (hx : a.eval x = .pointer (some ⟨w.heap.size, 0, none⟩)) (hy : a.eval y = .agg ds)
    (h : wpList Try.prog ops Q rest (a.put o.dst undef) (w.alloc (.cells ds 70))) : wpList Try.prog ops Q (o :: rest) a (w.alloc (.cells cs 70)) := by
  have ht := there_of_blk (Blk.new w 70 cs)
  rw [hcs] at ht
  refine wpList_store_mid hgd 70 x y ho w.heap.size 0 ds hx hy (by rw [hds]; exact ht) (by rw [hds]; kernel_rfl) h1 ?_
  rw [setCells_whole w 70 cs ds (by rw [hcs, hds])]
  exact h
end
set_option maxRecDepth 100000 in
set_option maxHeartbeats 4000000 in
theorem refDecCfg_any (A : Option Addr) (n c : Nat) (l : List UInt8) (w : World) (h : SlB w A n c l) (hn : n ≤ 140737488355328) : Calls Try.prog 42 #[.slice A n c] w (CfdOut w (decCf l)) := by
  have hlen := h.len
  have HR0 := Lib.hid (Blk.new w 70 zero15)
  have HE0 := Lib.hid ((Ext.refl w).alloc' (.cells zero15 70))
  by_cases h31 : n = 31
  · subst h31
    have HS0 := Lib.hid (CdS.start 70 141 A 31 c l w h (by omega))
    have HSL := Lib.hid (fun (W : World) (hw : Ext w W) => h.ext hw)
    have henc := encCf_of l hlen
    have hend := (cfEnd_nil l).2 hlen
    have hdc : decCf l = if eCf (cfOf (some l)) = true then some (cfOf (some l)) else none := by
      unfold decCf
      by_cases he : eCf (cfOf (some l)) = true
      · rw [if_pos ⟨hlen, he⟩, if_pos he]
      · rw [if_neg (fun hh => he hh.2), if_neg he]
    obtain ⟨out, hout⟩ : ∃ out, decCf l = out := ⟨_, rfl⟩
    rw [hout] at hdc ⊢
    unfold cfEnd at hend
    obtain ⟨s0, hs0⟩ : ∃ s0, some l = s0 := ⟨_, rfl⟩
    have hC : cfOf s0 = cfOf s0 := rfl
    conv at hC => rhs; unfold cfOf
    rw [hs0] at HS0 henc hend hdc
    obtain ⟨s1, hs1⟩ : ∃ x, rRest 1 s0 = x := ⟨_, rfl⟩
    obtain ⟨m, hm⟩ : ∃ x, rI 1 s0 = x := ⟨_, rfl⟩
    rw [hs1, hm] at hC; rw [hs1] at hend
    obtain ⟨s2, hs2⟩ : ∃ x, rRest 1 s1 = x := ⟨_, rfl⟩
    obtain ⟨v, hv⟩ : ∃ x, rI 1 s1 = x := ⟨_, rfl⟩
    rw [hs2, hv] at hC; rw [hs2] at hend
    obtain ⟨s3, hs3⟩ : ∃ x, rRest 1 s2 = x := ⟨_, rfl⟩
    obtain ⟨a, ha⟩ : ∃ x, rI 1 s2 = x := ⟨_, rfl⟩
    rw [hs3, ha] at hC; rw [hs3] at hend
    obtain ⟨s4, hs4⟩ : ∃ x, rRest 8 s3 = x := ⟨_, rfl⟩
    obtain ⟨st, hst⟩ : ∃ x, rI 8 s3 = x := ⟨_, rfl⟩
    rw [hs4, hst] at hC; rw [hs4] at hend
    obtain ⟨s5, hs5⟩ : ∃ x, rRest 8 s4 = x := ⟨_, rfl⟩
    obtain ⟨ba, hba⟩ : ∃ x, rI 8 s4 = x := ⟨_, rfl⟩
    rw [hs5, hba] at hC; rw [hs5] at hend
    obtain ⟨s6, hs6⟩ : ∃ x, rRest 2 s5 = x := ⟨_, rfl⟩
    obtain ⟨tw, htw⟩ : ∃ x, rI 2 s5 = x := ⟨_, rfl⟩
    rw [hs6, htw] at hC; rw [hs6] at hend
    obtain ⟨s7, hs7⟩ : ∃ x, rRest 2 s6 = x := ⟨_, rfl⟩
    obtain ⟨li, hli⟩ : ∃ x, rI 2 s6 = x := ⟨_, rfl⟩
    rw [hs7, hli] at hC; rw [hs7] at hend
    have htk : (rTk 8 s7).length = 8 := by
      rcases rTk_cases 8 s7 with ⟨_, _, h3⟩ | ⟨h3, _⟩
      · rw [h3] at hend; cases hend
      · exact h3
    have hnm := rName_tk htk
    obtain ⟨sd, hsd⟩ : ∃ x, rName s7 = x := ⟨_, rfl⟩
    rw [hsd] at hC hnm
    rw [hC] at henc hdc
    have up : ∀ (k : Nat) (x : Option (List UInt8)), (rRest k x).isSome = true → x.isSome = true := fun k x h => by cases x with | none => cases h | some r => rfl
    have hx7 : s7.isSome = true := up 8 s7 (by rw [hend]; rfl)
    have hx6 : s6.isSome = true := up 2 s6 (by rw [hs7]; exact hx7)
    have hx5 : s5.isSome = true := up 2 s5 (by rw [hs6]; exact hx6)
    have hx4 : s4.isSome = true := up 8 s4 (by rw [hs5]; exact hx5)
    have hx3 : s3.isSome = true := up 8 s3 (by rw [hs4]; exact hx4)
    have hx2 : s2.isSome = true := up 1 s2 (by rw [hs3]; exact hx3)
    have hx1 : s1.isSome = true := up 1 s1 (by rw [hs2]; exact hx2)
    have hx0 : s0.isSome = true := up 1 s0 (by rw [hs1]; exact hx1)
    have HEND := Lib.hid hend
    have HRD1 := Lib.hid (fun (W : World) (hw : CurAt 141 w.heap.size W (w.heap.size + 1) s0) => show Calls Try.prog 94 #[.pointer (some ⟨w.heap.size + 1, 0, none⟩), .int .i64 1] W (fun e w' => e = .returned (.int .i64 m) ∧ CurAt 141 w.heap.size w' (w.heap.size + 1) s1 ∧ W.grownBy w' (some (w.heap.size + 1))) from by rw [← hm, ← hs1]; exact rn1 _ s0 W hw hx0)
    have HRD2 := Lib.hid (fun (W : World) (hw : CurAt 141 w.heap.size W (w.heap.size + 1) s1) => show Calls Try.prog 94 #[.pointer (some ⟨w.heap.size + 1, 0, none⟩), .int .i64 1] W (fun e w' => e = .returned (.int .i64 v) ∧ CurAt 141 w.heap.size w' (w.heap.size + 1) s2 ∧ W.grownBy w' (some (w.heap.size + 1))) from by rw [← hv, ← hs2]; exact rn1 _ s1 W hw hx1)
    have HRD3 := Lib.hid (fun (W : World) (hw : CurAt 141 w.heap.size W (w.heap.size + 1) s2) => show Calls Try.prog 94 #[.pointer (some ⟨w.heap.size + 1, 0, none⟩), .int .i64 1] W (fun e w' => e = .returned (.int .i64 a) ∧ CurAt 141 w.heap.size w' (w.heap.size + 1) s3 ∧ W.grownBy w' (some (w.heap.size + 1))) from by rw [← ha, ← hs3]; exact rn1 _ s2 W hw hx2)
    have HRD4 := Lib.hid (fun (W : World) (hw : CurAt 141 w.heap.size W (w.heap.size + 1) s3) => show Calls Try.prog 94 #[.pointer (some ⟨w.heap.size + 1, 0, none⟩), .int .i64 8] W (fun e w' => e = .returned (.int .i64 st) ∧ CurAt 141 w.heap.size w' (w.heap.size + 1) s4 ∧ W.grownBy w' (some (w.heap.size + 1))) from by rw [← hst, ← hs4]; exact rn8 _ s3 W hw hx3)
    have HRD5 := Lib.hid (fun (W : World) (hw : CurAt 141 w.heap.size W (w.heap.size + 1) s4) => show Calls Try.prog 94 #[.pointer (some ⟨w.heap.size + 1, 0, none⟩), .int .i64 8] W (fun e w' => e = .returned (.int .i64 ba) ∧ CurAt 141 w.heap.size w' (w.heap.size + 1) s5 ∧ W.grownBy w' (some (w.heap.size + 1))) from by rw [← hba, ← hs5]; exact rn8 _ s4 W hw hx4)
    have HRD6 := Lib.hid (fun (W : World) (hw : CurAt 141 w.heap.size W (w.heap.size + 1) s5) => show Calls Try.prog 94 #[.pointer (some ⟨w.heap.size + 1, 0, none⟩), .int .i64 2] W (fun e w' => e = .returned (.int .i64 tw) ∧ CurAt 141 w.heap.size w' (w.heap.size + 1) s6 ∧ W.grownBy w' (some (w.heap.size + 1))) from by rw [← htw, ← hs6]; exact rn2 _ s5 W hw hx5)
    have HRD7 := Lib.hid (fun (W : World) (hw : CurAt 141 w.heap.size W (w.heap.size + 1) s6) => show Calls Try.prog 94 #[.pointer (some ⟨w.heap.size + 1, 0, none⟩), .int .i64 2] W (fun e w' => e = .returned (.int .i64 li) ∧ CurAt 141 w.heap.size w' (w.heap.size + 1) s7 ∧ W.grownBy w' (some (w.heap.size + 1))) from by rw [← hli, ← hs7]; exact rn2 _ s6 W hw hx6)
    have HNM := Lib.hid hnm
    have HTL := Lib.hid htk
    have HENC := Lib.hid henc
    have HDC := Lib.hid hdc
    clear up hx0 hx1 hx2 hx3 hx4 hx5 hx6 hx7 hs0 hs1 hs2 hs3 hs4 hs5 hs6 hs7 hm hv ha hst hba htw hli hsd hC hend htk hnm henc hdc hout h HR0
    go_enter Try.func42, Try.ntmps42
    go_wp2_with fail
    refine (HRD1.out _ HS0.out.cur).mono ?_
    rintro e w1 ⟨rfl, hc1, hg1⟩
    have HS1 := Lib.hid (HS0.out.read hc1 hg1)
    clear hc1 hg1 HRD1
    go_wp2_with fail
    refine (HRD2.out _ HS1.out.cur).mono ?_
    rintro e w2 ⟨rfl, hc2, hg2⟩
    have HS2 := Lib.hid (HS1.out.read hc2 hg2)
    clear hc2 hg2 HRD2
    go_wp2_with fail
    refine (HRD3.out _ HS2.out.cur).mono ?_
    rintro e w3 ⟨rfl, hc3, hg3⟩
    have HS3 := Lib.hid (HS2.out.read hc3 hg3)
    clear hc3 hg3 HRD3
    go_wp2_with fail
    refine (HRD4.out _ HS3.out.cur).mono ?_
    rintro e w4 ⟨rfl, hc4, hg4⟩
    have HS4 := Lib.hid (HS3.out.read hc4 hg4)
    clear hc4 hg4 HRD4
    go_wp2_with fail
    refine (HRD5.out _ HS4.out.cur).mono ?_
    rintro e w5 ⟨rfl, hc5, hg5⟩
    have HS5 := Lib.hid (HS4.out.read hc5 hg5)
    clear hc5 hg5 HRD5
    go_wp2_with fail
    refine (HRD6.out _ HS5.out.cur).mono ?_
    rintro e w6 ⟨rfl, hc6, hg6⟩
    have HS6 := Lib.hid (HS5.out.read hc6 hg6)
    clear hc6 hg6 HRD6
    go_wp2_with fail
    refine (HRD7.out _ HS6.out.cur).mono ?_
    rintro e w7 ⟨rfl, hc7, hg7⟩
    have HS7 := Lib.hid (HS6.out.read hc7 hg7)
    clear hc7 hg7 HRD7
    clear HS0 HS1 HS2 HS3 HS4 HS5 HS6
    go_wp2_with (first | (with_reducible refine wpList_newCr rfl (.tmp 5) (.tmp 25) rfl _ rfl (cfZ m v a st ba tw li) rfl (cfZ_all _ _ _ _ _ _ _) rfl rfl ?_))
    have HX8 := Lib.hid (HS7.out.ext ((Ext.refl w7).alloc' (.cells (cfZ m v a st ba tw li) 70)))
    have HBX := Lib.hid (Blk.new w7 70 (cfZ m v a st ba tw li))
    have hX := (Ext.refl (w7.alloc (.cells (cfZ m v a st ba tw li) 70))).drew'
    obtain ⟨X, hXe⟩ : ∃ X, w7.heap.size = X := ⟨_, rfl⟩
    rw [hXe] at HBX ⊢
    have hX0 : w.heap.size + 1 < X := by rw [← hXe]; exact HS7.out.cur.lt
    generalize w7.alloc (.cells (cfZ m v a st ba tw li) 70) = W8 at *
    have HXX := Lib.hid hX0
    clear hXe hX0
    have hfz := fun (k : Nat) => HBX.out.frozen k
    have HSZ := Lib.hid (show X < W8.heap.size from HBX.out.lt)
    go_region_law (first | (go_simp; go_at_call 95; refine (by8 (w.heap.size + 1) s7 _ (HX8.out.cur.ext hX)).mono ?_; rintro e w9 ⟨A9, m9, c9, rfl, hs9, hc9, hg9⟩; obtain rfl : m9 = 8 := (by rw [← hs9.len]; exact HTL.out); obtain ⟨b9, o9, rfl, hr9, _⟩ := hs9.at (by omega); have HX9 := Lib.hid ((HX8.out.ext hX).read hc9 hg9); have HB9 := Lib.hid ((HBX.out.ext hX).grown hg9 (fun e => by injection e with e; have := HXX.out; omega)); have HR9 := Lib.hid hr9; clear hs9 hc9 hg9 hr9) | (refine step_copy_splice rfl (.tmp 27) (.tmp 29) _ _ rfl 5 Try.underlying28 (by kernel_rfl) (some ⟨X, 7, none⟩) (some ⟨b9, o9, none⟩) 8 8 8 c9 (by rfl) (by rfl) X 7 (cfZ m v a st ba tw li).toList 70 HB9.out (bcs (rTk 8 s7)) (by rw [bcs_length, HTL.out]; rfl) (fun _ => ⟨rfl, _, rfl, fun j u hj => cell_add (HR9.out j u hj)⟩) (by rw [bcs_length, HTL.out]; exact Nat.le_of_ble_eq_true rfl) (bcs_one _) X _ (Below.refl _ _) (Nat.le_refl _) ?_; intro w10 hb10 he10) | fail "ARM")
    all_goals (
      have HBC := Lib.hid (show Blk w10 X 70 (cfA ⟨m, v, a, st, ba, tw, li, sd⟩) from by
        have := hb10.out
        rw [← HNM.out, cf_splice, Array.toArray_toList] at this
        exact this)
      have HE10 := Lib.hid (show Ext w w10 from Below.trans HX9.out.low (Below.mono he10 (Nat.le_of_lt (Nat.lt_of_lt_of_le (Nat.lt_succ_self _) (Nat.le_of_lt HXX.out)))))
      have HR10 := Lib.hid (HX9.out.res.below he10 (Nat.lt_of_lt_of_le (Nat.lt_succ_self _) (Nat.le_of_lt HXX.out)))
      have HWH := Lib.hid (show Calls Try.prog 96 #[.pointer (some ⟨w.heap.size + 1, 0, none⟩)] w10 (fun e w' => e = .returned (.bool true) ∧ Ext w10 w') from by
        have hcur : CurAt 141 w.heap.size w10 (w.heap.size + 1) (rRest 8 s7) := HX9.out.cur.low (he10.block _ HXX.out) (fun b hb => he10.block b (Nat.lt_trans hb (Nat.lt_trans (Nat.lt_succ_self _) HXX.out)))
        have := whole38_any (w.heap.size + 1) (rRest 8 s7) w10 hcur
        rw [HEND.out, decide_eq_true rfl] at this
        exact this)
      clear hb10 he10 hX hfz HX9 HB9 HR9
      go_wp2_with fail
      refine HWH.out.mono ?_
      rintro e wz ⟨rfl, hez⟩
      have HBC := Lib.hid (HBC.out.ext hez)
      have HE10 := Lib.hid (HE10.out.trans hez)
      have HR10 := Lib.hid (HR10.out.ext hez)
      have hr := range_cf HBC.out
      clear hez HWH
      generalize wz = w10 at *
      cases hv : eCf ⟨m, v, a, st, ba, tw, li, sd⟩ with
      | false =>
        have HOUT := Lib.hid (show out = none by rw [HDC.out, if_neg (by rw [hv]; decide)])
        go_wp2_with (first | (with_reducible refine wpList_loadCf_ref rfl (.tmp 5) rfl X rfl ⟨m, v, a, st, ba, tw, li, sd⟩ hr ?_))
        refine (refEncCfg_no ⟨m, v, a, st, ba, tw, li, sd⟩ hv w10).mono ?_
        rintro e w11 ⟨rfl, he11⟩
        have HE11 := Lib.hid (HE10.out.trans he11)
        have HR11 := Lib.hid (HR10.out.ext he11)
        have htz : w11.there w.heap.size 0 15 := there_of_blk HR11.out
        have hst := blk_whole (ds := zero15) HR11.out rfl
        clear he11 hr hv
        go_wp2_with (first | (with_reducible refine wpList_storeCr rfl (.tmp 2) (.tmp 42) rfl w.heap.size zero15 rfl rfl htz rfl (cfZ_all _ _ _ _ _ _ _) ?_))
        exact bodyPost_ret (v := .tuple #[.agg zero15, .int .i64 4]) (retCV rfl _ _ w.heap.size _ _ rfl rfl (run_loadVar_row _ _ _ _ _ (0, 0) _ hst Try.underlying70 rfl (by kernel_rfl))) rfl ⟨Below.setCells' HE11.out (Nat.le_refl _) _ _, .inl ⟨HOUT.out, rfl⟩⟩
      | true =>
        have HOUT := Lib.hid (show out = some ⟨m, v, a, st, ba, tw, li, sd⟩ by rw [HDC.out, if_pos hv])
        go_wp2_with (first | (with_reducible refine wpList_loadCf_ref rfl (.tmp 5) rfl X rfl ⟨m, v, a, st, ba, tw, li, sd⟩ hr ?_))
        refine (refEncCfg_yes ⟨m, v, a, st, ba, tw, li, sd⟩ hv w10).mono ?_
        rintro e w11 ⟨A11, c11, rfl, hO11, he11⟩
        have HE11 := Lib.hid (HE10.out.trans he11)
        have HR11 := Lib.hid (HR10.out.ext he11)
        have HC11 := Lib.hid (HBC.out.ext he11)
        clear he11 hr hv hO11
        have htz : w11.there w.heap.size 0 15 := there_of_blk HR11.out
        have hst := blk_whole (ds := cfA ⟨m, v, a, st, ba, tw, li, sd⟩) HR11.out rfl
        have hr := range_cf HC11.out
        go_wp2_with (first | (with_reducible refine wpList_loadCf_ref rfl (.tmp 5) rfl X rfl ⟨m, v, a, st, ba, tw, li, sd⟩ hr ?_) | (with_reducible refine wpList_storeCr rfl (.tmp 2) (.tmp 43) rfl w.heap.size (cfA ⟨m, v, a, st, ba, tw, li, sd⟩) rfl rfl htz rfl (cfA_all _) ?_))
        exact bodyPost_ret (v := .tuple #[.agg (cfA ⟨m, v, a, st, ba, tw, li, sd⟩), .int .i64 0]) (retCV rfl _ _ w.heap.size _ _ rfl rfl (run_loadVar_row _ _ _ _ _ (0, 0) _ hst Try.underlying70 rfl (by kernel_rfl))) rfl ⟨Below.setCells' HE11.out (Nat.le_refl _) _ _, .inr ⟨_, HOUT.out, rfl⟩⟩)
  · have HOUT := Lib.hid (show decCf l = none by unfold decCf; rw [if_neg (fun hh => h31 (by rw [← hlen]; exact hh.1))])
    have HS0 := Lib.hid (CdS.start 70 141 A n c l w h hn)
    have HND := Lib.hid (show cfEnd (some l) ≠ some [] from fun hh => h31 (by rw [← hlen]; exact (cfEnd_nil l).1 hh))
    obtain ⟨s0, hs0⟩ : ∃ s0, some l = s0 := ⟨_, rfl⟩
    rw [hs0] at HS0 HND
    unfold cfEnd at HND
    clear h hlen h31 HR0 hs0
    go_enter Try.func42, Try.ntmps42
    go_wp2_with fail
    refine (rm1 (w.heap.size + 1) s0 _ HS0.out.cur).mono ?_
    rintro e w1 ⟨z1, rfl, hc1, hg1⟩
    have HS1 := Lib.hid (HS0.out.read hc1 hg1)
    obtain ⟨s1, hs1⟩ : ∃ x, rRest 1 s0 = x := ⟨_, rfl⟩
    rw [hs1] at HS1 HND
    clear hc1 hg1 hs1
    go_wp2_with fail
    refine (rm1 (w.heap.size + 1) s1 _ HS1.out.cur).mono ?_
    rintro e w2 ⟨z2, rfl, hc2, hg2⟩
    have HS2 := Lib.hid (HS1.out.read hc2 hg2)
    obtain ⟨s2, hs2⟩ : ∃ x, rRest 1 s1 = x := ⟨_, rfl⟩
    rw [hs2] at HS2 HND
    clear hc2 hg2 hs2
    go_wp2_with fail
    refine (rm1 (w.heap.size + 1) s2 _ HS2.out.cur).mono ?_
    rintro e w3 ⟨z3, rfl, hc3, hg3⟩
    have HS3 := Lib.hid (HS2.out.read hc3 hg3)
    obtain ⟨s3, hs3⟩ : ∃ x, rRest 1 s2 = x := ⟨_, rfl⟩
    rw [hs3] at HS3 HND
    clear hc3 hg3 hs3
    go_wp2_with fail
    refine (rm8 (w.heap.size + 1) s3 _ HS3.out.cur).mono ?_
    rintro e w4 ⟨z4, rfl, hc4, hg4⟩
    have HS4 := Lib.hid (HS3.out.read hc4 hg4)
    obtain ⟨s4, hs4⟩ : ∃ x, rRest 8 s3 = x := ⟨_, rfl⟩
    rw [hs4] at HS4 HND
    clear hc4 hg4 hs4
    go_wp2_with fail
    refine (rm8 (w.heap.size + 1) s4 _ HS4.out.cur).mono ?_
    rintro e w5 ⟨z5, rfl, hc5, hg5⟩
    have HS5 := Lib.hid (HS4.out.read hc5 hg5)
    obtain ⟨s5, hs5⟩ : ∃ x, rRest 8 s4 = x := ⟨_, rfl⟩
    rw [hs5] at HS5 HND
    clear hc5 hg5 hs5
    go_wp2_with fail
    refine (rm2 (w.heap.size + 1) s5 _ HS5.out.cur).mono ?_
    rintro e w6 ⟨z6, rfl, hc6, hg6⟩
    have HS6 := Lib.hid (HS5.out.read hc6 hg6)
    obtain ⟨s6, hs6⟩ : ∃ x, rRest 2 s5 = x := ⟨_, rfl⟩
    rw [hs6] at HS6 HND
    clear hc6 hg6 hs6
    go_wp2_with fail
    refine (rm2 (w.heap.size + 1) s6 _ HS6.out.cur).mono ?_
    rintro e w7 ⟨z7, rfl, hc7, hg7⟩
    have HS7 := Lib.hid (HS6.out.read hc7 hg7)
    obtain ⟨s7, hs7⟩ : ∃ x, rRest 2 s6 = x := ⟨_, rfl⟩
    rw [hs7] at HS7 HND
    clear hc7 hg7 hs7
    clear HS0 HS1 HS2 HS3 HS4 HS5 HS6
    go_wp2_with (first | (with_reducible refine wpList_newCr rfl (.tmp 5) (.tmp 25) rfl _ rfl (cfZ z1 z2 z3 z4 z5 z6 z7) rfl (cfZ_all _ _ _ _ _ _ _) rfl rfl ?_))
    have HX8 := Lib.hid (HS7.out.ext ((Ext.refl w7).alloc' (.cells (cfZ z1 z2 z3 z4 z5 z6 z7) 70)))
    have HBX := Lib.hid (Blk.new w7 70 (cfZ z1 z2 z3 z4 z5 z6 z7))
    have hX := (Ext.refl (w7.alloc (.cells (cfZ z1 z2 z3 z4 z5 z6 z7) 70))).drew'
    obtain ⟨X, hXe⟩ : ∃ X, w7.heap.size = X := ⟨_, rfl⟩
    rw [hXe] at HBX ⊢
    have hX0 : w.heap.size + 1 < X := by rw [← hXe]; exact HS7.out.cur.lt
    generalize w7.alloc (.cells (cfZ z1 z2 z3 z4 z5 z6 z7) 70) = W8 at *
    have HXX := Lib.hid hX0
    clear hXe hX0
    have hfz := fun (k : Nat) => HBX.out.frozen k
    have htl : (rTk 8 s7).length = 0 ∨ (rTk 8 s7).length = 8 := by
      rcases rTk_cases 8 s7 with ⟨h3, _⟩ | ⟨h3, _⟩
      · left; rw [h3]; rfl
      · right; exact h3
    have HTL := Lib.hid htl
    clear htl
    go_region_law (first | (go_simp; go_at_call 95; refine (by8 (w.heap.size + 1) s7 _ (HX8.out.cur.ext hX)).mono ?_; rintro e w9 ⟨A9, m9, c9, rfl, hs9, hc9, hg9⟩; have hm9 := hs9.len; have HX9 := Lib.hid ((HX8.out.ext hX).read hc9 hg9); have HB9 := Lib.hid ((HBX.out.ext hX).grown hg9 (fun e => by injection e with e; have := HXX.out; omega)); have HR9 := Lib.hid hs9; have HM9 := Lib.hid hm9; clear hs9 hc9 hg9 hm9) | (refine step_copy_splice rfl (.tmp 27) (.tmp 29) _ _ rfl 5 Try.underlying28 (by kernel_rfl) (some ⟨X, 7, none⟩) A9 8 8 m9 c9 (by rfl) (by rfl) X 7 (cfZ z1 z2 z3 z4 z5 z6 z7).toList 70 HB9.out (bcs (rTk 8 s7)) (cf_cs HTL.out HM9.out) (fun h0 => ⟨rfl, slb_cells HR9.out h0⟩) (cf_fit HTL.out rfl) (bcs_one _) X _ (Below.refl _ _) (Nat.le_refl _) ?_; intro w10 hb10 he10) | fail "ARM")
    all_goals (
      have HE10 := Lib.hid (show Ext w w10 from Below.trans HX9.out.low (Below.mono he10 (Nat.le_of_lt (Nat.lt_of_lt_of_le (Nat.lt_succ_self _) (Nat.le_of_lt HXX.out)))))
      have HR10 := Lib.hid (HX9.out.res.below he10 (Nat.lt_of_lt_of_le (Nat.lt_succ_self _) (Nat.le_of_lt HXX.out)))
      have HWH := Lib.hid (show Calls Try.prog 96 #[.pointer (some ⟨w.heap.size + 1, 0, none⟩)] w10 (fun e w' => e = .returned (.bool false) ∧ Ext w10 w') from by
        have hcur : CurAt 141 w.heap.size w10 (w.heap.size + 1) (rRest 8 s7) := HX9.out.cur.low (he10.block _ HXX.out) (fun b hb => he10.block b (Nat.lt_trans hb (Nat.lt_trans (Nat.lt_succ_self _) HXX.out)))
        have := whole38_any (w.heap.size + 1) (rRest 8 s7) w10 hcur
        rw [decide_eq_false HND.out] at this
        exact this)
      clear hb10 he10 hX hfz HX9 HB9 HR9
      go_wp2_with fail
      refine HWH.out.mono ?_
      rintro e w11 ⟨rfl, he11⟩
      have HE11 := Lib.hid (HE10.out.trans he11)
      have HR11 := Lib.hid (HR10.out.ext he11)
      have htz : w11.there w.heap.size 0 15 := there_of_blk HR11.out
      have hst := blk_whole (ds := zero15) HR11.out rfl
      clear he11
      go_wp2_with (first | (with_reducible refine wpList_storeCr rfl (.tmp 2) (.tmp 34) rfl w.heap.size zero15 rfl rfl htz rfl (cfZ_all _ _ _ _ _ _ _) ?_))
      exact bodyPost_ret (v := .tuple #[.agg zero15, .int .i64 4]) (retCV rfl _ _ w.heap.size _ _ rfl rfl (run_loadVar_row _ _ _ _ _ (0, 0) _ hst Try.underlying70 rfl (by kernel_rfl))) rfl ⟨Below.setCells' HE11.out (Nat.le_refl _) _ _, .inl ⟨HOUT.out, rfl⟩⟩)
end Go.Proofs.Ytcfmlgbocdjabaa
