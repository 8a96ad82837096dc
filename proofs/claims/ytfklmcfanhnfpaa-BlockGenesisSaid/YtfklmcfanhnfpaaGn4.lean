/- The reference's EncodeGenesis. -/
import Derived.Test.YtfklmcfanhnfpaaGn3
namespace Go.Proofs.Ytfklmcfanhnfpaa
open Go.RowKit
set_option linter.unusedVariables false
set_option linter.unusedSimpArgs false
attribute [local go_sem ↓] Go.wp_at_zero Go.wp_at_succ

theorem refNum6_any (A : Option Addr) (n c : Nat) (l : List UInt8) (z : Int) (w : World) (h : SlB w A n c l) (hn : n ≤ 140737488351232) :
    Calls Try.prog 51 #[.slice A n c, .int .i64 z, .int .i64 6] w fun e w' => ∃ A' c', e = .returned (.slice A' (n + 6) c') ∧ OwnB w' w.heap.size 5 A' (n + 6) c' (l ++ beI 6 z) ∧ Ext w w' :=
  refNum_any A n c l z 6 (by omega) (by omega) w h hn
theorem refEncGenesis_no (N Z : Int) (A1 : Option Addr) (n1 c1 : Nat) (A2 : Option Addr) (n2 c2 : Nat) (A3 : Option Addr) (n3 c3 : Nat) (l : List Int) (w : World) (hS : SlZ w A3 n3 c3 l) (hm1 : n1 ≤ 9223372036854775807) (hm2 : n2 ≤ 9223372036854775807) (hv : vldG N Z n1 n2 n3 l = false) :
    Calls Try.prog 27 #[.agg (genC N Z A1 n1 c1 A2 n2 c2 A3 n3 c3)] w fun e w' => e = .returned (.tuple #[.slice none 0 0, .int .i64 1]) ∧ Ext w w' := by
  have hE := (Ext.refl w).alloc' (.cells (genC N Z A1 n1 c1 A2 n2 c2 A3 n3 c3) 50)
  have HV := Lib.hid (refValGenesis_any N Z A1 n1 c1 A2 n2 c2 A3 n3 c3 l _ (hS.ext hE) hm1 hm2)
  rw [hv] at HV
  have HE := Lib.hid hE
  clear hS hE hv
  go_enter Try.func27, Try.ntmps27
  go_wp2_with fail
  refine HV.out.mono ?_
  rintro e w1 ⟨rfl, he1⟩
  go_wp2_with fail
  go_ret2
  exact ⟨rfl, HE.out.trans he1⟩
set_option maxRecDepth 100000 in
set_option maxHeartbeats 8000000 in
theorem refEncGenesis_yes (N Z : Int) (A1 : Option Addr) (n1 c1 : Nat) (A2 : Option Addr) (n2 c2 : Nat) (A3 : Option Addr) (n3 c3 : Nat) (V Ac : List UInt64) (Bl : List Int) (w : World) (hS1 : SlN w A1 n1 c1 V) (hS2 : SlN w A2 n2 c2 Ac) (hS3 : SlZ w A3 n3 c3 Bl) (hv : vldG N Z n1 n2 n3 Bl = true) :
    Calls Try.prog 27 #[.agg (genC N Z A1 n1 c1 A2 n2 c2 A3 n3 c3)] w fun e w' => ∃ A' n' c', e = .returned (.tuple #[.slice A' n' c', .int .i64 0]) ∧ SlB w' A' n' c' (encG N Z V Ac Bl) ∧ Ext w w' := by
  obtain ⟨⟨g0, g1, g2, g3, g4, g5, g6, rfl, g8, g9⟩, hbl⟩ := headG_of hv
  have hl1 := hS1.len
  have hl2 := hS2.len
  have hl3 := hS3.len
  have hE := (Ext.refl w).alloc' (.cells (genC N Z A1 n1 c1 A2 n3 c2 A3 n3 c3) 50)
  obtain ⟨b1, o1, rfl, hr1, hb1⟩ := hS1.at (by omega)
  obtain ⟨b2, o2, rfl, hr2, hb2⟩ := hS2.at (by omega)
  obtain ⟨b3, o3, rfl, hr3, hb3⟩ := hS3.at (by omega)
  have HV := Lib.hid (refValGenesis_any N Z (some ⟨b1, o1, none⟩) n1 c1 (some ⟨b2, o2, none⟩) n3 c2 (some ⟨b3, o3, none⟩) n3 c3 Bl _ (hS3.ext hE) (by omega) (by omega))
  rw [hv] at HV
  have HE := Lib.hid hE
  have HB := Lib.hid (Blk.new w 50 (genC N Z (some ⟨b1, o1, none⟩) n1 c1 (some ⟨b2, o2, none⟩) n3 c2 (some ⟨b3, o3, none⟩) n3 c3))
  have HR1 := Lib.hid hr1
  have HR2 := Lib.hid hr2
  have HR3 := Lib.hid hr3
  have HBL1 := Lib.hid hb1
  have HBL2 := Lib.hid hb2
  have HBL3 := Lib.hid hb3
  have HL1 := Lib.hid hl1
  have HL2 := Lib.hid hl2
  have HL3 := Lib.hid hl3
  clear hS1 hS2 hS3 hv hE hr1 hr2 hr3 hb1 hb2 hb3 hl1 hl2 hl3 hbl
  go_enter Try.func27, Try.ntmps27
  go_wp2_with fail
  refine HV.out.mono ?_
  rintro e w1 ⟨rfl, he1⟩
  have HE1 := Lib.hid (HE.out.trans he1)
  have HB1 := Lib.hid (HB.out.ext he1)
  have HQ := Lib.hid (fun (W : World) (h : Ext w1 W) => show W.cell? ⟨w.heap.size, 0, none⟩ = some (.int .i64 N) ∧ W.cell? ⟨w.heap.size, 1, none⟩ = some (.int .i64 Z) ∧ W.cell? ⟨w.heap.size, 2, none⟩ = some (.slice (some ⟨b1, o1, none⟩) n1 c1) from ⟨(HB1.out.ext h).cell 0, (HB1.out.ext h).cell 1, (HB1.out.ext h).cell 2⟩)
  have hXd := (Ext.refl w1).drew'
  have hXa := ((Ext.refl w1).alloc' (.cells #[.int .u8 1] 5)).drew'
  have HSa := Lib.hid ((SlB.new1 w1 5 1 1 w1.heap.size rfl rfl).ext (Ext.refl _).drew')
  clear he1 HV HB
  go_wp2_with fail
  go_region_held3 (fun w' => w'.cell? ⟨w.heap.size, 0, none⟩ = some (.int .i64 N) ∧ w'.cell? ⟨w.heap.size, 1, none⟩ = some (.int .i64 Z) ∧ w'.cell? ⟨w.heap.size, 2, none⟩ = some (.slice (some ⟨b1, o1, none⟩) n1 c1)) (first | (with_reducible exact HQ.out _ hXd) | (with_reducible exact HQ.out _ hXa) | (with_reducible exact HQ.out _ hX4) | (with_reducible exact HQ.out _ hX3) | (with_reducible exact HQ.out _ hX2) | fail "CELLS") (first | (go_at_call 51; (with_reducible refine (refNum1_any _ 1 1 [1] N _ HSa.out (by omega)).mono ?_); rintro e w2 ⟨A2', c2', rfl, hO2, he2⟩; have hX2 := Ext.trans hXa he2; have HS2 := Lib.hid hO2.sl; clear hO2 he2) | (go_at_call 51; (with_reducible refine (refNum6_any _ 2 _ _ Z _ HS2.out (by omega)).mono ?_); rintro e w3 ⟨A3', c3', rfl, hO3, he3⟩; have hX3 := Ext.trans hX2 he3; have HS3 := Lib.hid hO3.sl; clear hO3 he3) | (go_at_call 51; (with_reducible refine (refNum1_any _ 8 _ _ (n1 : Int) _ HS3.out (by omega)).mono ?_); rintro e w4 ⟨A4, c4, rfl, hO4, he4⟩; have hX4 := Ext.trans hX3 he4; have HS4 := Lib.hid hO4.sl; clear hO4 he4) | fail "ARM")
  have HX4 := Lib.hid hX4
  clear hX4 hX3 hX2 hXd hXa HS2 HS3 HSa
  go_wp2_with fail
  go_loopw [5, 4] (fun i v wr => ∃ (k : Nat) (A6 : Option Addr) (c6 : Nat), k ≤ n1 ∧ i = .int .i64 (k : Int) ∧ v = .slice A6 (9 + 8 * k) c6 ∧ SlB wr A6 (9 + 8 * k) c6 ([1, toB N] ++ beI 6 Z ++ [toB (n1 : Int)] ++ (V.take k).flatMap nmb) ∧ Ext w1 wr) (fun i _ _ => n1 - (intOf i).toNat)
  case atStart => exact ⟨0, A4, c4, Nat.zero_le _, rfl, rfl, by simpa using HS4.out, HX4.out⟩
  case round =>
    obtain ⟨k, A6, c6, hk, rfl, rfl, hO, hX⟩ := hrel
    have HO := Lib.hid hO
    have HX := Lib.hid hX
    have q2 : wr.cell? ⟨w.heap.size, 2, none⟩ = some (.slice (some ⟨b1, o1, none⟩) n1 c1) := (HB1.out.ext hX).cell 2
    clear hO hX HS4 HX4
    by_cases hlt : k < n1
    · have hr := nm_at (rangeAt_keep HR1.out ((Ext.trans HE1.out HX.out).block b1 HBL1.out)) (k := k) (by rw [HL1.out]; exact hlt)
      have HTK := Lib.hid (take_nmN (l := V) (k := k) (by rw [HL1.out]; exact hlt))
      have i0 : (0 : Int) ≤ (k : Int) := by omega
      have i1 : (k : Int) < (n1 : Int) := by omega
      obtain ⟨x, hx⟩ : ∃ x, nmN V k = x := ⟨_, rfl⟩
      rw [hx] at HTK hr
      clear hx
      go_wp2_with (first | (with_reducible refine wpList_loadN rfl (.tmp 32) rfl b1 (o1 + k * 8) rfl x hr ?_))
      refine (refNm_any _ _ _ _ x _ HO.out (by omega)).mono ?_
      rintro e w5 ⟨A7, c7, rfl, hO5, he5⟩
      have HO5 := Lib.hid (show SlB w5 A7 (9 + 8 * (k + 1)) c7 ([1, toB N] ++ beI 6 Z ++ [toB (n1 : Int)] ++ (V.take (k + 1)).flatMap nmb) by
        rw [HTK.out, List.flatMap_append, show 9 + 8 * (k + 1) = 9 + 8 * k + 8 by omega]
        simpa using hO5.sl)
      have HX5 := Lib.hid (Ext.trans HX.out he5)
      clear hO5 HO hr he5 q2
      go_wp2_with fail
      go_roundw
      case rel => exact ⟨k + 1, A7, c7, by omega, by go_num, by congr 1, HO5.out, HX5.out⟩
      case measure => simp [intOf]; omega
    · obtain rfl : k = n1 := by omega
      have HOp := Lib.hid (show SlB wr A6 (9 + 8 * k) c6 (preG N Z V) by
        have := HO.out
        rw [List.take_of_length_le (Nat.le_of_eq HL1.out)] at this
        unfold preG; rw [HL1.out]; exact this)
      have q4 : wr.cell? ⟨w.heap.size, 3, none⟩ = some (.slice (some ⟨b2, o2, none⟩) n3 c2) := (HB1.out.ext HX.out).cell 3
      clear HO
      go_wp2_with fail
      refine (refNum1_any _ _ _ _ (n3 : Int) _ HOp.out (by omega)).mono ?_
      rintro e w5 ⟨A7, c7, rfl, hO5, he5⟩
      have HO5 := Lib.hid hO5.sl
      have HX5 := Lib.hid (Ext.trans HX.out he5)
      clear hO5 he5 HOp q4 q2
      go_wp2_with fail
      go_loopw [6, 4] (fun i v wr => ∃ (j : Nat) (A8 : Option Addr) (c8 : Nat), j ≤ n3 ∧ i = .int .i64 (j : Int) ∧ v = .slice A8 (9 + 8 * k + 1 + 14 * j) c8 ∧ SlB wr A8 (9 + 8 * k + 1 + 14 * j) c8 (preG N Z V ++ [toB (n3 : Int)] ++ encAB Ac Bl j) ∧ Ext w1 wr) (fun i _ _ => n3 - (intOf i).toNat)
      case atStart => exact ⟨0, A7, c7, Nat.zero_le _, rfl, rfl, by simpa [encAB] using HO5.out, HX5.out⟩
      case round =>
        obtain ⟨j, A8, c8, hj, rfl, rfl, hO, hX⟩ := hrel
        have HO0 := Lib.hid hO
        have HO := Lib.hid (hO.ext (Ext.refl wr).drew')
        have HXj := Lib.hid hX
        have hXd := Ext.drew' hX
        have q3 : wr.cell? ⟨w.heap.size, 3, none⟩ = some (.slice (some ⟨b2, o2, none⟩) n3 c2) := (HB1.out.ext hX).cell 3
        clear hO hX HO5 HX5
        by_cases hlt2 : j < n3
        · have HQ2 := Lib.hid (fun (W : World) (h : Ext w1 W) => show W.cell? ⟨w.heap.size, 3, none⟩ = some (.slice (some ⟨b2, o2, none⟩) n3 c2) ∧ W.cell? ⟨w.heap.size, 4, none⟩ = some (.slice (some ⟨b3, o3, none⟩) n3 c3) ∧ (∀ i, i < 8 → W.cell? ⟨b2, o2 + j * 8 + i, none⟩ = some (.int .u8 (nb8 (nmN Ac j) i))) ∧ W.cell? ⟨b2, o2 + j * 8, none⟩ = some (.int .u8 (nb8 (nmN Ac j) 0)) ∧ W.cell? ⟨b3, o3 + j, none⟩ = some (.int .i64 (nthZ Bl j)) from
            ⟨(HB1.out.ext h).cell 3, (HB1.out.ext h).cell 4, cells8At (nm_at (rangeAt_keep HR2.out ((Ext.trans HE1.out h).block b2 HBL2.out)) (by rw [HL2.out]; exact hlt2)), cells8At (nm_at (rangeAt_keep HR2.out ((Ext.trans HE1.out h).block b2 HBL2.out)) (by rw [HL2.out]; exact hlt2)) 0 (by omega), int_at (rangeAt_keep HR3.out ((Ext.trans HE1.out h).block b3 HBL3.out)) (by rw [HL3.out]; exact hlt2)⟩)
          have HAB := Lib.hid (encAB_succ Ac Bl j)
          have i0 : (0 : Int) ≤ (j : Int) := by omega
          have i1 : (j : Int) < (n3 : Int) := by omega
          obtain ⟨x, hx⟩ : ∃ x, nmN Ac j = x := ⟨_, rfl⟩
          obtain ⟨z, hz⟩ : ∃ z, nthZ Bl j = z := ⟨_, rfl⟩
          rw [hx, hz] at HQ2 HAB
          clear hx hz
          go_wp2_with fail
          go_region_held3 (fun w' => w'.cell? ⟨w.heap.size, 3, none⟩ = some (.slice (some ⟨b2, o2, none⟩) n3 c2) ∧ w'.cell? ⟨w.heap.size, 4, none⟩ = some (.slice (some ⟨b3, o3, none⟩) n3 c3) ∧ (∀ i, i < 8 → w'.cell? ⟨b2, o2 + j * 8 + i, none⟩ = some (.int .u8 (nb8 x i))) ∧ w'.cell? ⟨b2, o2 + j * 8, none⟩ = some (.int .u8 (nb8 x 0)) ∧ w'.cell? ⟨b3, o3 + j, none⟩ = some (.int .i64 z)) (first | (with_reducible exact HQ2.out _ hXd) | (with_reducible exact HQ2.out _ hX7) | (with_reducible exact HQ2.out _ hX6) | fail "CELLS") (first | (go_at_call 60; (with_reducible refine (refNm_any _ _ _ _ x _ HO.out (by omega)).mono ?_); rintro e w6 ⟨A9, c9, rfl, hO6, he6⟩; have hX6 := Ext.trans hXd he6; have HS6 := Lib.hid hO6.sl; clear hO6 he6) | (go_at_call 51; (with_reducible refine (refNum6_any _ _ _ _ z _ HS6.out (by omega)).mono ?_); rintro e w7 ⟨A10, c10, rfl, hO7, he7⟩; have hX7 := Ext.trans hX6 he7; have HS7 := Lib.hid hO7.sl; clear hO7 he7) | fail "ARM")
          all_goals (
            have HO8 := Lib.hid (show SlB w7 A10 (9 + 8 * k + 1 + 14 * (j + 1)) c10 (preG N Z V ++ [toB (n3 : Int)] ++ encAB Ac Bl (j + 1)) by
              rw [HAB.out, show 9 + 8 * k + 1 + 14 * (j + 1) = 9 + 8 * k + 1 + 14 * j + 8 + 6 by omega]
              have := HS7.out
              simpa using this)
            have HX7 := Lib.hid hX7
            clear HS7 HS6 HO hX7 hX6 hXd q3
            go_wp2_with fail
            go_roundw
            case rel => exact ⟨j + 1, A10, c10, by omega, by go_num, by congr 1, HO8.out, HX7.out⟩
            case measure => simp [intOf]; omega)
        · obtain rfl : j = n3 := by omega
          go_wp2_with fail
          go_ret2
          refine ⟨A8, 9 + 8 * k + 1 + 14 * j, c8, rfl, ?_, Ext.trans HE1.out HXj.out⟩
          have := HO0.out
          unfold encG
          rw [HL2.out]
          exact this
end Go.Proofs.Ytfklmcfanhnfpaa
