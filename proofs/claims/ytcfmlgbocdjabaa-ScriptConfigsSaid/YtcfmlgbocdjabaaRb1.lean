/- The reference's ValidBlock, EncodeBlock. -/
import Derived.Test.YtcfmlgbocdjabaaBd2
namespace Go.Proofs.Ytcfmlgbocdjabaa
open Go.RowKit
set_option linter.unusedVariables false
set_option linter.unusedSimpArgs false
attribute [local go_sem ↓] Go.wp_at_zero Go.wp_at_succ

theorem within_q (b : Bool) (v lo hi : Int) (hb : wthn v lo hi = b) (w : World) :
    Calls Try.prog 86 #[.int .i64 v, .int .i64 lo, .int .i64 hi] w fun e w' => e = .returned (.bool b) ∧ w' = w := by
  rw [← hb]; exact (within_any v lo hi w).mono fun e w' ⟨h1, h2⟩ => ⟨h1, h2.symm⟩
theorem wthn_yes {v lo hi : Int} (h : lo ≤ v ∧ v ≤ hi) : wthn v lo hi = true := by unfold wthn; simp only [decide_eq_true_eq]; exact h
theorem wthn_no {v lo hi : Int} (h : v < lo ∨ hi < v) : wthn v lo hi = false := by unfold wthn; simp only [decide_eq_false_iff_not]; omega
set_option maxRecDepth 100000 in
set_option maxHeartbeats 4000000 in
theorem refValidBlock_any (p : UInt64) (A : Option Addr) (n c : Nat) (L : List (Int × UInt64)) (w : World) (hS : SlC w A n c L) (hn : n ≤ 1000000) :
    Calls Try.prog 53 #[.agg (blkC p A n c)] w fun e w' => e = .returned (.bool (vldBlk L)) ∧ Ext w w' := by
  have hlen := hS.len
  have hE := (Ext.refl w).alloc' (.cells (blkC p A n c) 26)
  have HV := Lib.hid (show vldBlk L = (decide (1 ≤ n ∧ n ≤ 7) && okIds (idN L) n) by unfold vldBlk; rw [hlen])
  have HB := Lib.hid (Blk.new w 26 (blkC p A n c))
  have HS := Lib.hid hS
  have HE := Lib.hid hE
  have HLEN := Lib.hid hlen
  clear hS hE hlen
  by_cases h7 : 1 ≤ n ∧ n ≤ 7
  · have HR := Lib.hid (show vldBlk L = okIds (idN L) n by rw [HV.out, decide_eq_true h7, Bool.true_and])
    obtain ⟨b, o, rfl, hr0, hb0⟩ := HS.out.at (by omega)
    have HR0 := Lib.hid hr0
    have HB0 := Lib.hid hb0
    have HW := Lib.hid (within_yes (n : Int) 1 7 (by omega))
    clear hr0 hb0 HS HV
    go_enter Try.func53, Try.ntmps53
    go_wp2_with fail
    refine (HW.out _).mono ?_
    rintro e w1 ⟨rfl, rfl⟩
    go_wp2_with fail
    go_loopw [3] (fun i wr => ∃ k : Nat, k ≤ n ∧ i = .int .i64 (k : Int) ∧ Hid (∀ j, j < k → okId (idN L) j) ∧ Ext (w.alloc (.cells (blkC p (some ⟨b, o, none⟩) n c) 26)) wr) (fun i _ => n - (intOf i).toNat)
    case atStart => exact ⟨0, Nat.zero_le _, rfl, Lib.hid (fun j hj => by omega), Ext.refl _⟩
    case round =>
      obtain ⟨k, hk, rfl, HP, hX⟩ := hrel
      have HX := Lib.hid hX
      have hc8 : wr.cell? ⟨w.heap.size, 8, none⟩ = some (.slice (some ⟨b, o, none⟩) n c) := (HB.out.ext hX).cell 8
      have hra := rangeAt_keep HR0.out ((HE.out.trans hX).block b HB0.out)
      have HRA := Lib.hid hra
      clear hX hra
      by_cases hlt : k < n
      · have hid := id_at HRA.out (k := k) (by rw [HLEN.out]; exact hlt)
        have i0 : (0 : Int) ≤ (k : Int) := by omega
        have i1 : (k : Int) < (n : Int) := by omega
        by_cases hw : 0 ≤ idN L k ∧ idN L k ≤ 9
        · have HQ := Lib.hid (within_q true (idN L k) 0 9 (wthn_yes hw))
          rcases Nat.eq_zero_or_pos k with rfl | hk0
          · have HO := Lib.hid (show okId (idN L) 0 from ⟨hw.1, by omega, fun h => by omega⟩)
            rw [Nat.zero_mul, Nat.add_zero] at hid
            obtain ⟨x, hx⟩ : ∃ x, idN L 0 = x := ⟨_, rfl⟩
            rw [hx] at hid HQ
            clear hw hx
            go_wp2_with fail
            go_quiet ((go_at_call 86; exact Calls.quiet_of_same (HQ.out _)))
            go_wp2_with fail
            go_roundw
            case rel => exact ⟨1, by omega, rfl, Lib.hid (fun j hj => (show 0 = j by omega) ▸ HO.out), HX.out.trans (drewN_ext _ _)⟩
            case measure => simp [intOf]; omega
          · obtain ⟨j, rfl⟩ : ∃ j, k = j + 1 := ⟨k - 1, by omega⟩
            have hjd := id_at HRA.out (k := j) (by rw [HLEN.out]; omega)
            have HO := Lib.hid (fun (h : idN L j < idN L (j + 1)) => show okId (idN L) (j + 1) from ⟨hw.1, by omega, fun _ => h⟩)
            have HF := Lib.hid (fun (h : ¬ idN L j < idN L (j + 1)) => okIds_no hlt (fun hh : okId (idN L) (j + 1) => h (hh.2.2 (by omega))))
            obtain ⟨x, hx⟩ : ∃ x, idN L (j + 1) = x := ⟨_, rfl⟩
            obtain ⟨y, hy⟩ : ∃ y, idN L j = y := ⟨_, rfl⟩
            rw [hx] at hid HQ HO HF
            rw [hy] at hjd HO HF
            rw [show (((j + 1 : Nat)) : Int) = (j : Int) + 1 from by omega] at i0 i1 ⊢
            have j0 : (0 : Int) < (j : Int) + 1 := by omega
            have j2 : (0 : Int) ≤ (j : Int) := by omega
            have j3 : (j : Int) < (n : Int) := by omega
            have j4 : IntKind.i64.wrap ((j : Int) + 1 - 1) = (j : Int) := by rw [IntKind.wrap_i64]; omega
            have t1 : ((j : Int) + 1).toNat = j + 1 := by omega
            have HI := Lib.hid (show (j : Int) + 1 < (n : Int) from i1)
            clear hw hx hy
            by_cases hxy : x ≤ y
            · have HFF := Lib.hid (HF.out (by omega))
              go_wp2_with fail
              go_quiet ((go_at_call 86; exact Calls.quiet_of_same (HQ.out _)))
              go_wp2_with fail
              go_ret
              exact ⟨by rw [HR.out, HFF.out]; rfl, HE.out.trans (HX.out.trans (drewN_ext _ _))⟩
            · have d2 : decide (x ≤ y) = false := decide_eq_false hxy
              have HOO := Lib.hid (HO.out (by omega))
              go_wp2_with fail
              go_quiet ((go_at_call 86; exact Calls.quiet_of_same (HQ.out _)))
              go_wp2_with fail
              go_roundw
              case rel => exact ⟨j + 1 + 1, by omega, by go_num, Lib.hid (fun i hi => by
                rcases Nat.lt_or_ge i (j + 1) with h | h
                · exact HP.out i h
                · obtain rfl : i = j + 1 := by omega
                  exact HOO.out), HX.out.trans (drewN_ext _ _)⟩
              case measure => simp [intOf]; omega
        · have HQ := Lib.hid (within_q false (idN L k) 0 9 (wthn_no (by omega)))
          have HFF := Lib.hid (okIds_no hlt (fun hh : okId (idN L) k => hw ⟨hh.1, by have := hh.2.1; omega⟩))
          rcases Nat.eq_zero_or_pos k with rfl | hk0
          · rw [Nat.zero_mul, Nat.add_zero] at hid
            obtain ⟨x, hx⟩ : ∃ x, idN L 0 = x := ⟨_, rfl⟩
            rw [hx] at hid HQ
            clear hw hx
            go_wp2_with fail
            go_quiet ((go_at_call 86; exact Calls.quiet_of_same (HQ.out _)))
            go_wp2_with fail
            go_ret
            exact ⟨by rw [HR.out, HFF.out]; rfl, HE.out.trans (HX.out.trans (drewN_ext _ _))⟩
          · obtain ⟨x, hx⟩ : ∃ x, idN L k = x := ⟨_, rfl⟩
            rw [hx] at hid HQ
            clear hw hx
            go_wp2_with fail
            go_quiet ((go_at_call 86; exact Calls.quiet_of_same (HQ.out _)))
            go_wp2_with fail
            go_ret
            exact ⟨by rw [HR.out, HFF.out]; rfl, HE.out.trans (HX.out.trans (drewN_ext _ _))⟩
      · obtain rfl : k = n := by omega
        have HFF := Lib.hid (okIds_yes HP.out)
        go_wp2_with fail
        go_ret
        exact ⟨by rw [HR.out, HFF.out]; rfl, HE.out.trans HX.out⟩
  · have HRF := Lib.hid (show vldBlk L = false by rw [HV.out, decide_eq_false h7, Bool.false_and])
    have HW := Lib.hid (within_no (n : Int) 1 7 (by omega))
    clear HV HS
    go_enter Try.func53, Try.ntmps53
    go_wp2_with fail
    refine (HW.out _).mono ?_
    rintro e w1 ⟨rfl, rfl⟩
    go_wp2_with fail
    go_ret
    exact ⟨by rw [HRF.out]; rfl, HE.out⟩
end Go.Proofs.Ytcfmlgbocdjabaa
/- The reference's EncodeBlock. -/
namespace Go.Proofs.Ytcfmlgbocdjabaa
open Go.RowKit
set_option linter.unusedVariables false
set_option linter.unusedSimpArgs false
attribute [local go_sem ↓] Go.wp_at_zero Go.wp_at_succ

theorem beI_one (z : Int) : beI 1 z = [toB z] := by
  unfold beI beBytes beBytes toB
  simp only [List.nil_append]
  congr 2
  omega
theorem refNum1_any (A : Option Addr) (n c : Nat) (l : List UInt8) (z : Int) (w : World) (h : SlB w A n c l) (hn : n ≤ 140737488351232) :
    Calls Try.prog 54 #[.slice A n c, .int .i64 z, .int .i64 1] w fun e w' => ∃ A' c', e = .returned (.slice A' (n + 1) c') ∧ OwnB w' w.heap.size 5 A' (n + 1) c' (l ++ [toB z]) ∧ Ext w w' := by
  rw [← beI_one]; exact refNum_any A n c l z 1 (by omega) (by omega) w h hn
theorem pair_cells {w : World} {b o : Nat} {x : Int} {v : UInt64} (h : w.rangeAt b o (chL (x, v))) : w.cell? ⟨b, o, none⟩ = some (.int .i64 x) ∧ (∀ i, i < 8 → w.cell? ⟨b, o + 1 + i, none⟩ = some (.int .u8 (nb8 v i))) ∧ w.cell? ⟨b, o + 1, none⟩ = some (.int .u8 (nb8 v 0)) := by
  have h1 := cells8At (rangeAt_drop (k := 1) h)
  exact ⟨h 0 _ rfl, h1, h1 0 (by omega)⟩
theorem refEncBlock_no (p : UInt64) (A : Option Addr) (n c : Nat) (L : List (Int × UInt64)) (w : World) (hS : SlC w A n c L) (hn : n ≤ 1000000) (hv : vldBlk L = false) :
    Calls Try.prog 14 #[.agg (blkC p A n c)] w fun e w' => e = .returned (.tuple #[.slice none 0 0, .int .i64 1]) ∧ Ext w w' := by
  have hE := (Ext.refl w).alloc' (.cells (blkC p A n c) 26)
  have HV := Lib.hid (refValidBlock_any p A n c L _ (hS.ext hE) hn)
  rw [hv] at HV
  have HE := Lib.hid hE
  clear hS hE hv
  go_enter Try.func14, Try.ntmps14
  go_wp2_with fail
  refine HV.out.mono ?_
  rintro e w1 ⟨rfl, he1⟩
  go_wp2_with fail
  go_ret2
  exact ⟨rfl, HE.out.trans he1⟩
set_option maxRecDepth 100000 in
set_option maxHeartbeats 4000000 in
theorem refEncBlock_yes (p : UInt64) (A : Option Addr) (n c : Nat) (L : List (Int × UInt64)) (w : World) (hS : SlC w A n c L) (hv : vldBlk L = true) :
    Calls Try.prog 14 #[.agg (blkC p A n c)] w fun e w' => ∃ A' n' c', e = .returned (.tuple #[.slice A' n' c', .int .i64 0]) ∧ SlB w' A' n' c' (encBlk p L) ∧ Ext w w' := by
  have hl := vldBlk_len hv
  have hlen := hS.len
  have hn7 : n ≤ 7 := by omega
  have hn1 : 1 ≤ n := by omega
  have hE := (Ext.refl w).alloc' (.cells (blkC p A n c) 26)
  have hB := Blk.new w 26 (blkC p A n c)
  obtain ⟨b, o, rfl, hr0, hb0⟩ := hS.at (by omega)
  have HV := Lib.hid (refValidBlock_any p _ n c L _ (hS.ext hE) (by omega))
  rw [hv] at HV
  have HE := Lib.hid hE
  have HB := Lib.hid hB
  have HR0 := Lib.hid hr0
  have HLEN := Lib.hid hlen
  have HBL := Lib.hid hb0
  clear hS hE hv hB hl hr0 hlen hb0
  go_enter Try.func14, Try.ntmps14
  go_wp2_with fail
  refine HV.out.mono ?_
  rintro e w1 ⟨rfl, he1⟩
  have HE1 := Lib.hid (HE.out.trans he1)
  have HQ := Lib.hid (fun (W : World) (h : Ext w1 W) => show (∀ i, i < 8 → W.cell? ⟨w.heap.size, i, none⟩ = some (.int .u8 (nb8 p i))) ∧ W.cell? ⟨w.heap.size, 8, none⟩ = some (.slice (some ⟨b, o, none⟩) n c) from
    ⟨fun i hi => by have := cells8At (blkC_range ((HB.out.ext he1).ext h)) i hi; rwa [Nat.zero_add] at this, ((HB.out.ext he1).ext h).cell 8⟩)
  have HP := Lib.hid (fun (W : World) (h : Ext w1 W) (k : Nat) (hk : k < n) => pair_cells (item_at (rangeAt_keep HR0.out ((HE1.out.trans h).block b HBL.out)) (k := k) (by rw [HLEN.out]; exact hk)))
  have hXd := (Ext.refl w1).drew'
  have hXa := ((Ext.refl w1).alloc' (.cells #[.int .u8 3] 5)).drew'
  have HSa := Lib.hid ((SlB.new1 w1 5 3 3 w1.heap.size rfl rfl).ext (Ext.refl _).drew')
  clear he1 HV HB
  go_wp2_with fail
  go_region_held3 (fun w' => (∀ i, i < 8 → w'.cell? ⟨w.heap.size, i, none⟩ = some (.int .u8 (nb8 p i))) ∧ w'.cell? ⟨w.heap.size, 8, none⟩ = some (.slice (some ⟨b, o, none⟩) n c)) (first | (with_reducible exact HQ.out _ hXd) | (with_reducible exact HQ.out _ hXa) | (with_reducible exact HQ.out _ hX3) | (with_reducible exact HQ.out _ hX2) | fail "CELLS") (first | (go_at_call 55; (with_reducible refine (refNm_any _ 1 1 [3] p _ HSa.out (by omega)).mono ?_); rintro e w2 ⟨A2, c2, rfl, hO2, he2⟩; have hX2 := Ext.trans hXa he2; have HS2 := Lib.hid hO2.sl; clear hO2 he2) | (go_at_call 54; (with_reducible refine (refNum1_any _ 9 _ _ (n : Int) _ HS2.out (by omega)).mono ?_); rintro e w3 ⟨A3, c3, rfl, hO3, he3⟩; have hX3 := Ext.trans hX2 he3; have HS3 := Lib.hid hO3.sl; clear hO3 he3) | fail "ARM")
  have HX3 := Lib.hid hX3
  clear hX3 hX2 hXd hXa HS2 HSa
  go_wp2_with fail
  go_loopw [5, 4] (fun i v wr => ∃ (k : Nat) (A4 : Option Addr) (c4 : Nat), k ≤ n ∧ i = .int .i64 (k : Int) ∧ v = .slice A4 (10 + 9 * k) c4 ∧ SlB wr A4 (10 + 9 * k) c4 ([3] ++ nmb p ++ [toB (n : Int)] ++ encC (L.take k)) ∧ Ext w1 wr) (fun i _ _ => n - (intOf i).toNat)
  case atStart => exact ⟨0, A3, c3, Nat.zero_le _, rfl, rfl, by simpa [encC] using HS3.out, HX3.out⟩
  case round =>
    obtain ⟨k, A4, c4, hk, rfl, rfl, hO, hE⟩ := hrel
    have HO := Lib.hid (hO.ext (Ext.refl wr).drew')
    have HO0 := Lib.hid hO
    have HEr := Lib.hid hE
    have hXd := Ext.drew' hE
    obtain ⟨_, hc8⟩ := HQ.out _ hE
    clear hO hE HX3 HS3
    by_cases hlt : k < n
    · have HTK := Lib.hid (take_nthC (L := L) (k := k) (by rw [HLEN.out]; exact hlt))
      have HP' := Lib.hid (fun (W : World) (h : Ext w1 W) => HP.out W h k hlt)
      have i0 : (0 : Int) ≤ (k : Int) := by omega
      have i1 : (k : Int) < (n : Int) := by omega
      obtain ⟨x, hx⟩ : ∃ x, idN L k = x := ⟨_, rfl⟩
      obtain ⟨v, hv⟩ : ∃ v, vlN L k = v := ⟨_, rfl⟩
      rw [hx, hv] at HTK HP'
      have HPQ := Lib.hid (fun (W : World) (h : Ext w1 W) => show W.cell? ⟨w.heap.size, 8, none⟩ = some (.slice (some ⟨b, o, none⟩) n c) ∧ W.cell? ⟨b, o + k * 9, none⟩ = some (.int .i64 x) ∧ (∀ i, i < 8 → W.cell? ⟨b, o + k * 9 + 1 + i, none⟩ = some (.int .u8 (nb8 v i))) ∧ W.cell? ⟨b, o + k * 9 + 1, none⟩ = some (.int .u8 (nb8 v 0)) from ⟨(HQ.out W h).2, HP'.out W h⟩)
      clear hx hv
      go_wp2_with fail
      go_region_held3 (fun w' => w'.cell? ⟨w.heap.size, 8, none⟩ = some (.slice (some ⟨b, o, none⟩) n c) ∧ w'.cell? ⟨b, o + k * 9, none⟩ = some (.int .i64 x) ∧ (∀ i, i < 8 → w'.cell? ⟨b, o + k * 9 + 1 + i, none⟩ = some (.int .u8 (nb8 v i))) ∧ w'.cell? ⟨b, o + k * 9 + 1, none⟩ = some (.int .u8 (nb8 v 0))) (first | (with_reducible exact HPQ.out _ hXd) | (with_reducible exact HPQ.out _ hX6) | (with_reducible exact HPQ.out _ hX5) | fail "CELLS") (first | (go_at_call 54; (with_reducible refine (refNum1_any _ _ _ _ x _ HO.out (by omega)).mono ?_); rintro e w5 ⟨A5, c5, rfl, hO5, he5⟩; have hX5 := Ext.trans hXd he5; have HS5 := Lib.hid hO5.sl; clear hO5 he5) | (go_at_call 55; (with_reducible refine (refNm_any _ _ _ _ v _ HS5.out (by omega)).mono ?_); rintro e w6 ⟨A6, c6, rfl, hO6, he6⟩; have hX6 := Ext.trans hX5 he6; have HS6 := Lib.hid hO6.sl; clear hO6 he6) | fail "ARM")
      have HO7 := Lib.hid (show SlB w6 A6 (10 + 9 * (k + 1)) c6 ([3] ++ nmb p ++ [toB (n : Int)] ++ encC (L.take (k + 1))) by
        rw [HTK.out, encC_append, show 10 + 9 * (k + 1) = 10 + 9 * k + 1 + 8 by omega]
        have := HS6.out
        simpa [encC] using this)
      have HX6 := Lib.hid hX6
      clear HS6 HS5 HO hX6 hX5 hXd hc8
      go_wp2_with fail
      go_roundw
      case rel => exact ⟨k + 1, A6, c6, by omega, by go_num, by congr 1, HO7.out, HX6.out⟩
      case measure => simp [intOf]; omega
    · obtain rfl : k = n := by omega
      go_wp2_with fail
      go_ret2
      refine ⟨A4, 10 + 9 * k, c4, rfl, ?_, HE1.out.trans HEr.out⟩
      have := HO0.out
      unfold encBlk
      rw [List.take_of_length_le (Nat.le_of_eq HLEN.out)] at this
      rw [HLEN.out]
      exact this
end Go.Proofs.Ytcfmlgbocdjabaa
