/- The reference's EncodeBlock. -/
import Derived.Test.YtfklmcfanhnfpaaRb1
namespace Go.Proofs.Ytfklmcfanhnfpaa
open Go.RowKit
set_option linter.unusedVariables false
set_option linter.unusedSimpArgs false
attribute [local go_sem ↓] Go.wp_at_zero Go.wp_at_succ

theorem beI_one (z : Int) : beI 1 z = [toB z] := by
  unfold beI beBytes beBytes toB
  simp only [List.nil_append]
  congr 2
  omega
theorem refNum1_any (A : Option Addr) (n c : Nat) (l : List UInt8) (z : Int) (w : World) (h : SlB w A n c l) (hn : n ≤ 140737488351232) :
    Calls Try.prog 51 #[.slice A n c, .int .i64 z, .int .i64 1] w fun e w' => ∃ A' c', e = .returned (.slice A' (n + 1) c') ∧ OwnB w' w.heap.size 5 A' (n + 1) c' (l ++ [toB z]) ∧ Ext w w' := by
  rw [← beI_one]; exact refNum_any A n c l z 1 (by omega) (by omega) w h hn
theorem pair_cells {w : World} {b o : Nat} {x : Int} {v : UInt64} (h : w.rangeAt b o (chL (x, v))) : w.cell? ⟨b, o, none⟩ = some (.int .i64 x) ∧ (∀ i, i < 8 → w.cell? ⟨b, o + 1 + i, none⟩ = some (.int .u8 (nb8 v i))) ∧ w.cell? ⟨b, o + 1, none⟩ = some (.int .u8 (nb8 v 0)) := by
  have h1 := cells8At (rangeAt_drop (k := 1) h)
  exact ⟨h 0 _ rfl, h1, h1 0 (by omega)⟩
theorem refEncBlock_no (p : UInt64) (A : Option Addr) (n c : Nat) (L : List (Int × UInt64)) (w : World) (hS : SlC w A n c L) (hn : n ≤ 1000000) (hv : vldBlk L = false) :
    Calls Try.prog 23 #[.agg (blkC p A n c)] w fun e w' => e = .returned (.tuple #[.slice none 0 0, .int .i64 1]) ∧ Ext w w' := by
  have hE := (Ext.refl w).alloc' (.cells (blkC p A n c) 41)
  have HV := Lib.hid (refValidBlock_any p A n c L _ (hS.ext hE) hn)
  rw [hv] at HV
  have HE := Lib.hid hE
  clear hS hE hv
  go_enter Try.func23, Try.ntmps23
  go_wp2_with fail
  refine HV.out.mono ?_
  rintro e w1 ⟨rfl, he1⟩
  go_wp2_with fail
  go_ret2
  exact ⟨rfl, HE.out.trans he1⟩
set_option maxRecDepth 100000 in
set_option maxHeartbeats 4000000 in
theorem refEncBlock_yes (p : UInt64) (A : Option Addr) (n c : Nat) (L : List (Int × UInt64)) (w : World) (hS : SlC w A n c L) (hv : vldBlk L = true) :
    Calls Try.prog 23 #[.agg (blkC p A n c)] w fun e w' => ∃ A' n' c', e = .returned (.tuple #[.slice A' n' c', .int .i64 0]) ∧ SlB w' A' n' c' (encBlk p L) ∧ Ext w w' := by
  have hl := vldBlk_len hv
  have hlen := hS.len
  have hn7 : n ≤ 7 := by omega
  have hn1 : 1 ≤ n := by omega
  have hE := (Ext.refl w).alloc' (.cells (blkC p A n c) 41)
  have hB := Blk.new w 41 (blkC p A n c)
  obtain ⟨b, o, rfl, hr0, hb0⟩ := hS.at (by omega)
  have HV := Lib.hid (refValidBlock_any p _ n c L _ (hS.ext hE) (by omega))
  rw [hv] at HV
  have HE := Lib.hid hE
  have HB := Lib.hid hB
  have HR0 := Lib.hid hr0
  have HLEN := Lib.hid hlen
  have HBL := Lib.hid hb0
  clear hS hE hv hB hl hr0 hlen hb0
  go_enter Try.func23, Try.ntmps23
  go_wp2_with fail
  refine HV.out.mono ?_
  rintro e w1 ⟨rfl, he1⟩
  have HE1 := Lib.hid (HE.out.trans he1)
  have HQ := Lib.hid (fun (W : World) (h : Ext w1 W) => show (∀ i, i < 8 → W.cell? ⟨w.heap.size, i, none⟩ = some (.int .u8 (nb8 p i))) ∧ W.cell? ⟨w.heap.size, 8, none⟩ = some (.slice (some ⟨b, o, none⟩) n c) from
    ⟨fun i hi => by have := cells8At (blkC_range ((HB.out.ext he1).ext h)) i hi; rwa [Nat.zero_add] at this, ((HB.out.ext he1).ext h).cell 8⟩)
  have HP := Lib.hid (fun (W : World) (h : Ext w1 W) (k : Nat) (hk : k < n) => pair_cells (item_at (rangeAt_keep HR0.out ((HE1.out.trans h).block b HBL.out)) (k := k) (by rw [HLEN.out]; exact hk)))
  have hXd := (Ext.refl w1).drew'
  have hXa := ((Ext.refl w1).alloc' (.cells #[.int .u8 3] 5)).drew'
  have HSa := Lib.hid ((SlB.new1 w1 5 3 3 w1.heap.size rfl rfl).ext (Ext.refl _).drew')
  clear he1 HV HB
  go_wp2_with fail
  go_region_held3 (fun w' => (∀ i, i < 8 → w'.cell? ⟨w.heap.size, i, none⟩ = some (.int .u8 (nb8 p i))) ∧ w'.cell? ⟨w.heap.size, 8, none⟩ = some (.slice (some ⟨b, o, none⟩) n c)) (first | (with_reducible exact HQ.out _ hXd) | (with_reducible exact HQ.out _ hXa) | (with_reducible exact HQ.out _ hX3) | (with_reducible exact HQ.out _ hX2) | fail "CELLS") (first | (go_at_call 60; (with_reducible refine (refNm_any _ 1 1 [3] p _ HSa.out (by omega)).mono ?_); rintro e w2 ⟨A2, c2, rfl, hO2, he2⟩; have hX2 := Ext.trans hXa he2; have HS2 := Lib.hid hO2.sl; clear hO2 he2) | (go_at_call 51; (with_reducible refine (refNum1_any _ 9 _ _ (n : Int) _ HS2.out (by omega)).mono ?_); rintro e w3 ⟨A3, c3, rfl, hO3, he3⟩; have hX3 := Ext.trans hX2 he3; have HS3 := Lib.hid hO3.sl; clear hO3 he3) | fail "ARM")
  have HX3 := Lib.hid hX3
  clear hX3 hX2 hXd hXa HS2 HSa
  go_wp2_with fail
  go_loopw [5, 4] (fun i v wr => ∃ (k : Nat) (A4 : Option Addr) (c4 : Nat), k ≤ n ∧ i = .int .i64 (k : Int) ∧ v = .slice A4 (10 + 9 * k) c4 ∧ SlB wr A4 (10 + 9 * k) c4 ([3] ++ nmb p ++ [toB (n : Int)] ++ encC (L.take k)) ∧ Ext w1 wr) (fun i _ _ => n - (intOf i).toNat)
  case atStart => exact ⟨0, A3, c3, Nat.zero_le _, rfl, rfl, by simpa [encC] using HS3.out, HX3.out⟩
  case round =>
    obtain ⟨k, A4, c4, hk, rfl, rfl, hO, hE⟩ := hrel
    have HO := Lib.hid (hO.ext (Ext.refl wr).drew')
    have HO0 := Lib.hid hO
    have HEr := Lib.hid hE
    have hXd := Ext.drew' hE
    obtain ⟨_, hc8⟩ := HQ.out _ hE
    clear hO hE HX3 HS3
    by_cases hlt : k < n
    · have HTK := Lib.hid (take_nthC (L := L) (k := k) (by rw [HLEN.out]; exact hlt))
      have HP' := Lib.hid (fun (W : World) (h : Ext w1 W) => HP.out W h k hlt)
      have i0 : (0 : Int) ≤ (k : Int) := by omega
      have i1 : (k : Int) < (n : Int) := by omega
      obtain ⟨x, hx⟩ : ∃ x, idN L k = x := ⟨_, rfl⟩
      obtain ⟨v, hv⟩ : ∃ v, vlN L k = v := ⟨_, rfl⟩
      rw [hx, hv] at HTK HP'
      have HPQ := Lib.hid (fun (W : World) (h : Ext w1 W) => show W.cell? ⟨w.heap.size, 8, none⟩ = some (.slice (some ⟨b, o, none⟩) n c) ∧ W.cell? ⟨b, o + k * 9, none⟩ = some (.int .i64 x) ∧ (∀ i, i < 8 → W.cell? ⟨b, o + k * 9 + 1 + i, none⟩ = some (.int .u8 (nb8 v i))) ∧ W.cell? ⟨b, o + k * 9 + 1, none⟩ = some (.int .u8 (nb8 v 0)) from ⟨(HQ.out W h).2, HP'.out W h⟩)
      clear hx hv
      go_wp2_with fail
      go_region_held3 (fun w' => w'.cell? ⟨w.heap.size, 8, none⟩ = some (.slice (some ⟨b, o, none⟩) n c) ∧ w'.cell? ⟨b, o + k * 9, none⟩ = some (.int .i64 x) ∧ (∀ i, i < 8 → w'.cell? ⟨b, o + k * 9 + 1 + i, none⟩ = some (.int .u8 (nb8 v i))) ∧ w'.cell? ⟨b, o + k * 9 + 1, none⟩ = some (.int .u8 (nb8 v 0))) (first | (with_reducible exact HPQ.out _ hXd) | (with_reducible exact HPQ.out _ hX6) | (with_reducible exact HPQ.out _ hX5) | fail "CELLS") (first | (go_at_call 51; (with_reducible refine (refNum1_any _ _ _ _ x _ HO.out (by omega)).mono ?_); rintro e w5 ⟨A5, c5, rfl, hO5, he5⟩; have hX5 := Ext.trans hXd he5; have HS5 := Lib.hid hO5.sl; clear hO5 he5) | (go_at_call 60; (with_reducible refine (refNm_any _ _ _ _ v _ HS5.out (by omega)).mono ?_); rintro e w6 ⟨A6, c6, rfl, hO6, he6⟩; have hX6 := Ext.trans hX5 he6; have HS6 := Lib.hid hO6.sl; clear hO6 he6) | fail "ARM")
      have HO7 := Lib.hid (show SlB w6 A6 (10 + 9 * (k + 1)) c6 ([3] ++ nmb p ++ [toB (n : Int)] ++ encC (L.take (k + 1))) by
        rw [HTK.out, encC_append, show 10 + 9 * (k + 1) = 10 + 9 * k + 1 + 8 by omega]
        have := HS6.out
        simpa [encC] using this)
      have HX6 := Lib.hid hX6
      clear HS6 HS5 HO hX6 hX5 hXd hc8
      go_wp2_with fail
      go_roundw
      case rel => exact ⟨k + 1, A6, c6, by omega, by go_num, by congr 1, HO7.out, HX6.out⟩
      case measure => simp [intOf]; omega
    · obtain rfl : k = n := by omega
      go_wp2_with fail
      go_ret2
      refine ⟨A4, 10 + 9 * k, c4, rfl, ?_, HE1.out.trans HEr.out⟩
      have := HO0.out
      unfold encBlk
      rw [List.take_of_length_le (Nat.le_of_eq HLEN.out)] at this
      rw [HLEN.out]
      exact this
end Go.Proofs.Ytfklmcfanhnfpaa
