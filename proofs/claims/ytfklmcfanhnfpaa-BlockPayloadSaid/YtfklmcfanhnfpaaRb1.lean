/- The reference's ValidBlock, EncodeBlock. -/
import Derived.Test.YtfklmcfanhnfpaaBd2
namespace Go.Proofs.Ytfklmcfanhnfpaa
open Go.RowKit
set_option linter.unusedVariables false
set_option linter.unusedSimpArgs false
attribute [local go_sem ↓] Go.wp_at_zero Go.wp_at_succ

theorem within_q (b : Bool) (v lo hi : Int) (hb : wthn v lo hi = b) (w : World) :
    Calls Try.prog 46 #[.int .i64 v, .int .i64 lo, .int .i64 hi] w fun e w' => e = .returned (.bool b) ∧ w' = w := by
  rw [← hb]; exact (within_any v lo hi w).mono fun e w' ⟨h1, h2⟩ => ⟨h1, h2.symm⟩
theorem wthn_yes {v lo hi : Int} (h : lo ≤ v ∧ v ≤ hi) : wthn v lo hi = true := by unfold wthn; simp only [decide_eq_true_eq]; exact h
theorem wthn_no {v lo hi : Int} (h : v < lo ∨ hi < v) : wthn v lo hi = false := by unfold wthn; simp only [decide_eq_false_iff_not]; omega
set_option maxRecDepth 100000 in
set_option maxHeartbeats 4000000 in
theorem refValidBlock_any (p : UInt64) (A : Option Addr) (n c : Nat) (L : List (Int × UInt64)) (w : World) (hS : SlC w A n c L) (hn : n ≤ 1000000) :
    Calls Try.prog 59 #[.agg (blkC p A n c)] w fun e w' => e = .returned (.bool (vldBlk L)) ∧ Ext w w' := by
  have hlen := hS.len
  have hE := (Ext.refl w).alloc' (.cells (blkC p A n c) 41)
  have HV := Lib.hid (show vldBlk L = (decide (1 ≤ n ∧ n ≤ 7) && okIds (idN L) n) by unfold vldBlk; rw [hlen])
  have HB := Lib.hid (Blk.new w 41 (blkC p A n c))
  have HS := Lib.hid hS
  have HE := Lib.hid hE
  have HLEN := Lib.hid hlen
  clear hS hE hlen
  by_cases h7 : 1 ≤ n ∧ n ≤ 7
  · have HR := Lib.hid (show vldBlk L = okIds (idN L) n by rw [HV.out, decide_eq_true h7, Bool.true_and])
    obtain ⟨b, o, rfl, hr0, hb0⟩ := HS.out.at (by omega)
    have HR0 := Lib.hid hr0
    have HB0 := Lib.hid hb0
    have HW := Lib.hid (within_yes (n : Int) 1 7 (by omega))
    clear hr0 hb0 HS HV
    go_enter Try.func59, Try.ntmps59
    go_wp2_with fail
    refine (HW.out _).mono ?_
    rintro e w1 ⟨rfl, rfl⟩
    go_wp2_with fail
    go_loopw [3] (fun i wr => ∃ k : Nat, k ≤ n ∧ i = .int .i64 (k : Int) ∧ Hid (∀ j, j < k → okId (idN L) j) ∧ Ext (w.alloc (.cells (blkC p (some ⟨b, o, none⟩) n c) 41)) wr) (fun i _ => n - (intOf i).toNat)
    case atStart => exact ⟨0, Nat.zero_le _, rfl, Lib.hid (fun j hj => by omega), Ext.refl _⟩
    case round =>
      obtain ⟨k, hk, rfl, HP, hX⟩ := hrel
      have HX := Lib.hid hX
      have hc8 : wr.cell? ⟨w.heap.size, 8, none⟩ = some (.slice (some ⟨b, o, none⟩) n c) := (HB.out.ext hX).cell 8
      have hra := rangeAt_keep HR0.out ((HE.out.trans hX).block b HB0.out)
      have HRA := Lib.hid hra
      clear hX hra
      by_cases hlt : k < n
      · have hid := id_at HRA.out (k := k) (by rw [HLEN.out]; exact hlt)
        have i0 : (0 : Int) ≤ (k : Int) := by omega
        have i1 : (k : Int) < (n : Int) := by omega
        by_cases hw : 0 ≤ idN L k ∧ idN L k ≤ 9
        · have HQ := Lib.hid (within_q true (idN L k) 0 9 (wthn_yes hw))
          rcases Nat.eq_zero_or_pos k with rfl | hk0
          · have HO := Lib.hid (show okId (idN L) 0 from ⟨hw.1, by omega, fun h => by omega⟩)
            rw [Nat.zero_mul, Nat.add_zero] at hid
            obtain ⟨x, hx⟩ : ∃ x, idN L 0 = x := ⟨_, rfl⟩
            rw [hx] at hid HQ
            clear hw hx
            go_wp2_with fail
            go_quiet ((go_at_call 46; exact Calls.quiet_of_same (HQ.out _)))
            go_wp2_with fail
            go_roundw
            case rel => exact ⟨1, by omega, rfl, Lib.hid (fun j hj => (show 0 = j by omega) ▸ HO.out), HX.out.trans (drewN_ext _ _)⟩
            case measure => simp [intOf]; omega
          · obtain ⟨j, rfl⟩ : ∃ j, k = j + 1 := ⟨k - 1, by omega⟩
            have hjd := id_at HRA.out (k := j) (by rw [HLEN.out]; omega)
            have HO := Lib.hid (fun (h : idN L j < idN L (j + 1)) => show okId (idN L) (j + 1) from ⟨hw.1, by omega, fun _ => h⟩)
            have HF := Lib.hid (fun (h : ¬ idN L j < idN L (j + 1)) => okIds_no hlt (fun hh : okId (idN L) (j + 1) => h (hh.2.2 (by omega))))
            obtain ⟨x, hx⟩ : ∃ x, idN L (j + 1) = x := ⟨_, rfl⟩
            obtain ⟨y, hy⟩ : ∃ y, idN L j = y := ⟨_, rfl⟩
            rw [hx] at hid HQ HO HF
            rw [hy] at hjd HO HF
            rw [show (((j + 1 : Nat)) : Int) = (j : Int) + 1 from by omega] at i0 i1 ⊢
            have j0 : (0 : Int) < (j : Int) + 1 := by omega
            have j2 : (0 : Int) ≤ (j : Int) := by omega
            have j3 : (j : Int) < (n : Int) := by omega
            have j4 : IntKind.i64.wrap ((j : Int) + 1 - 1) = (j : Int) := by rw [IntKind.wrap_i64]; omega
            have t1 : ((j : Int) + 1).toNat = j + 1 := by omega
            have HI := Lib.hid (show (j : Int) + 1 < (n : Int) from i1)
            clear hw hx hy
            by_cases hxy : x ≤ y
            · have HFF := Lib.hid (HF.out (by omega))
              go_wp2_with fail
              go_quiet ((go_at_call 46; exact Calls.quiet_of_same (HQ.out _)))
              go_wp2_with fail
              go_ret
              exact ⟨by rw [HR.out, HFF.out]; rfl, HE.out.trans (HX.out.trans (drewN_ext _ _))⟩
            · have d2 : decide (x ≤ y) = false := decide_eq_false hxy
              have HOO := Lib.hid (HO.out (by omega))
              go_wp2_with fail
              go_quiet ((go_at_call 46; exact Calls.quiet_of_same (HQ.out _)))
              go_wp2_with fail
              go_roundw
              case rel => exact ⟨j + 1 + 1, by omega, by go_num, Lib.hid (fun i hi => by
                rcases Nat.lt_or_ge i (j + 1) with h | h
                · exact HP.out i h
                · obtain rfl : i = j + 1 := by omega
                  exact HOO.out), HX.out.trans (drewN_ext _ _)⟩
              case measure => simp [intOf]; omega
        · have HQ := Lib.hid (within_q false (idN L k) 0 9 (wthn_no (by omega)))
          have HFF := Lib.hid (okIds_no hlt (fun hh : okId (idN L) k => hw ⟨hh.1, by have := hh.2.1; omega⟩))
          rcases Nat.eq_zero_or_pos k with rfl | hk0
          · rw [Nat.zero_mul, Nat.add_zero] at hid
            obtain ⟨x, hx⟩ : ∃ x, idN L 0 = x := ⟨_, rfl⟩
            rw [hx] at hid HQ
            clear hw hx
            go_wp2_with fail
            go_quiet ((go_at_call 46; exact Calls.quiet_of_same (HQ.out _)))
            go_wp2_with fail
            go_ret
            exact ⟨by rw [HR.out, HFF.out]; rfl, HE.out.trans (HX.out.trans (drewN_ext _ _))⟩
          · obtain ⟨x, hx⟩ : ∃ x, idN L k = x := ⟨_, rfl⟩
            rw [hx] at hid HQ
            clear hw hx
            go_wp2_with fail
            go_quiet ((go_at_call 46; exact Calls.quiet_of_same (HQ.out _)))
            go_wp2_with fail
            go_ret
            exact ⟨by rw [HR.out, HFF.out]; rfl, HE.out.trans (HX.out.trans (drewN_ext _ _))⟩
      · obtain rfl : k = n := by omega
        have HFF := Lib.hid (okIds_yes HP.out)
        go_wp2_with fail
        go_ret
        exact ⟨by rw [HR.out, HFF.out]; rfl, HE.out.trans HX.out⟩
  · have HRF := Lib.hid (show vldBlk L = false by rw [HV.out, decide_eq_false h7, Bool.false_and])
    have HW := Lib.hid (within_no (n : Int) 1 7 (by omega))
    clear HV HS
    go_enter Try.func59, Try.ntmps59
    go_wp2_with fail
    refine (HW.out _).mono ?_
    rintro e w1 ⟨rfl, rfl⟩
    go_wp2_with fail
    go_ret
    exact ⟨by rw [HRF.out]; rfl, HE.out⟩
end Go.Proofs.Ytfklmcfanhnfpaa
