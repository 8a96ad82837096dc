/- Verify (the reference's) at two levels, and for whatever bytes. (Printed by gen_rver.py.) -/
import Derived.Test.YtcfmlgbocdjabaaGreatVer7
namespace Go.Proofs.YtcfmlgbocdjabaaGreat
open Go.RowKit
set_option linter.unusedVariables false
set_option linter.unusedSimpArgs false

set_option maxRecDepth 100000 in
set_option maxHeartbeats 4000000 in
theorem refVerify_two (pub m : UInt64) (A : Option Addr) (len c : Nat) (l : List UInt8) (w : World) (h : SlB w A len c l) (hn : (len : Int) = 370) (hlf : numAt l 0 2 < 1024) :
    Calls Tryz.prog 35 #[.agg (nmc pub), .int .i64 2, .agg (nmc m), .slice A len c] w fun e w' => e = .returned (.bool (decide (climbU l 186 (numAt l 0 2 / 32) (climbU l 2 (numAt l 0 2 % 32) m) = pub))) ∧ Ext w w' := by
  have hE := ((Ext.refl w).alloc' (.cells (nmc pub) 23)).alloc' (.cells (nmc m) 23)
  have hbp := (Blk.new w 23 (nmc pub)).alloc (.cells (nmc m) 23)
  have hbm : Blk ((w.alloc (.cells (nmc pub) 23)).alloc (.cells (nmc m) 23)) (w.heap.size + 1) 23 (nmc m) := Blk.newAt _ _ _ _ (by simp)
  have hlen : len ≤ 140737488355328 := by omega
  have hl' := h.len
  obtain ⟨b, o, rfl, hra, hbl⟩ := (h.ext hE).at (by omega)
  have hc0 := byte_at hra 0 (by omega)
  have hc1 := byte_at hra 1 (by omega)
  rw [Nat.add_zero] at hc0
  have HN := Lib.hid (num2 l (by omega))
  have HE0 := Lib.hid hE
  have HP0 := Lib.hid hbp
  have HM0 := Lib.hid hbm
  have HS0 := Lib.hid (h.ext hE)
  clear h hE hbp hbm hra
  rw [HN.out] at hlf ⊢
  clear HN
  generalize (l[0]'(by omega)) = x at *
  generalize (l[1]'(by omega)) = y at *
  have hxy := or2b x y
  have hx256 : (x.toNat : Int) < 256 := by have := x.toNat_lt; omega
  have hy256 : (y.toNat : Int) < 256 := by have := y.toNat_lt; omega
  have e1 : (1 : Int) < (len : Int) := by omega
  have e2 : (0 : Int) < (len : Int) := by omega
  have eN : ((len : Int) != 370) = false := by rw [hn]; rfl
  have HNN := Lib.hid hn
  clear hn

  go_enter Tryz.func35, Tryz.ntmps35
  go_wp2_with (go_at_call 80; refine (refSize_any 2 _).mono ?_; rintro e w1 ⟨rfl, rfl⟩; rw [show sizeZ 2 = 370 from rfl])
  go_quiet (fail)
  go_upto_region 6 with (go_at_call 81; refine (refCapacity_any 2 _).mono ?_; rintro e w1 ⟨rfl, rfl⟩; rw [show capZ 2 = 1024 from rfl])
  have hdn := below_drewN (Ext.refl ((w.alloc (.cells (nmc pub) 23)).alloc (.cells (nmc m) 23))) nq
  have HE0 := Lib.hid (HE0.out.trans hdn)
  have HP0 := Lib.hid (HP0.out.ext hdn)
  have HM0 := Lib.hid (HM0.out.ext hdn)
  have HS0 := Lib.hid (HS0.out.ext hdn)
  clear hdn hc0 hc1 hbl
  generalize ((w.alloc (.cells (nmc pub) 23)).alloc (.cells (nmc m) 23)).drewN nq = W0 at *
  go_cut [10, 11] (fun t1 t2 wx => ∃ g : Nat, t1 = .pointer (some ⟨g, 0, none⟩) ∧ t2 = .bool true ∧ Blk wx g 23 (nmc (oneRec m (namesU l 2 18))) ∧ Ext W0 wx)
  case first =>
    have HSS := Lib.hid (fun (w' : World) (hx : Ext W0.drew w') => cells8 (HM0.out.drew.ext hx))
    have hX := Ext.refl W0.drew
    have HSL := Lib.hid (HS0.out.ext (Ext.refl W0).drew')
    have HAD := Lib.hid (fun (o : Obj) => (show Ext W0.drew (W0.alloc o).drew from ((Ext.refl W0.drew).alloc' o : Ext W0.drew (W0.drew.alloc o))))
    have HZ := Lib.hid (show (2 : Int) = ((2 : Nat) : Int) from rfl)
    have HF := Lib.hid (show 2 + 144 ≤ len ∧ 2 ≤ 1000 by have := HNN.out; omega)
    go_region_held3 (fun w' => (∀ i, i < 8 → w'.cell? ⟨(w.heap.size + 1), i, none⟩ = some (.int .u8 (nb8 m i)))) (first | (with_reducible exact HSS.out _ hX) | (with_reducible exact HSS.out _ (HAD.out _)) | (with_reducible exact HSS.out _ (hX.alloc' _)) | (with_reducible exact HSS.out _ HW9.out)) (first | (go_at_call 83; first | ((with_reducible refine (refList18 _ len c l 2 _ HZ.out _ (HSL.out.ext hX) HF.out hlen).mono ?_); rintro e w1 ⟨A1, k1, rfl, hsl1, he1⟩; have hX := hX.trans he1) | ((with_reducible refine (refList18 _ len c l 2 _ HZ.out _ (HSL.out.ext (HAD.out _)) HF.out hlen).mono ?_); rintro e w1 ⟨A1, k1, rfl, hsl1, he1⟩; have hq := (Blk.new W0 23 zcs.toArray).drew.ext he1; have hX := (HAD.out _).trans he1)) | (go_at_call 82; first | ((with_reducible refine (refRecover_any m _ _ _ _ hsl1).mono ?_); rintro e w2 ⟨rfl, he2⟩; have hX := hX.trans he2; first | (have hq2 := hq.ext he2; have hst := run_storeN hq2 (oneRec m (namesU l 2 18)); have HW9 := Lib.hid (stN hX hq2 (Nat.le_refl _) (oneRec m (namesU l 2 18)))) | (have hst := run_storeNewN w2 w2.heap.size rfl (oneRec m (namesU l 2 18)); have HW9 := Lib.hid (hX.alloc' (.cells (nmc (oneRec m (namesU l 2 18))) 23)))) | ((with_reducible refine (refRecover_any m _ _ _ _ (hsl1.ext ((Ext.refl _).alloc' _))).mono ?_); rintro e w2 ⟨rfl, he2⟩; have hq2 := (Blk.new w1 23 zcs.toArray).ext he2; have HG2 := Lib.hid hX.size; have hX := (hX.alloc' _).trans he2; have hst := run_storeN hq2 (oneRec m (namesU l 2 18)); have HW9 := Lib.hid (stN hX hq2 HG2.out (oneRec m (namesU l 2 18))))))
    all_goals
      go_wp2_with fail
      go_meet
      first | exact ⟨_, rfl, rfl, blkN hq2 (oneRec m (namesU l 2 18)), (Ext.refl W0).drew'.trans HW9.out⟩ | exact ⟨_, rfl, rfl, Blk.new w2 23 (nmc (oneRec m (namesU l 2 18))), (Ext.refl W0).drew'.trans HW9.out⟩
  case rest =>
    obtain ⟨g6, rfl, rfl, hb6, he6⟩ := hcut
    obtain ⟨W6, hWW⟩ : ∃ W6, wc = W6 := ⟨_, rfl⟩
    rw [hWW] at hb6 he6 ⊢
    clear hWW
    have HB6 := Lib.hid hb6
    have HX6 := Lib.hid he6
    have HS6 := Lib.hid (HS0.out.ext he6)
    have HE6 := Lib.hid (HE0.out.trans he6)
    have HP6 := Lib.hid (HP0.out.ext he6)
    clear hb6 he6
    have HJ7 := Lib.hid (show ((x.toNat : Int) * 256 + (y.toNat : Int)).tmod 32 = (((x.toNat * 256 + y.toNat) % 32 : Nat) : Int) by rw [Int.tmod_eq_emod_of_nonneg (by omega)]; omega)
    go_upto_region 7 with (fail)
    go_cut [12, 13] (fun t1 t2 wx => ∃ g : Nat, t1 = .pointer (some ⟨g, 0, none⟩) ∧ t2 = .bool true ∧ Blk wx g 23 (nmc (compU (oneRec m (namesU l 2 18)) ((x.toNat * 256 + y.toNat) % 32) 32 (namesU l 146 5))) ∧ Ext W6 wx)
    case first =>
      have HSS := Lib.hid (fun (w' : World) (hx : Ext W6.drew w') => cells8 (HB6.out.drew.ext hx))
      have hX := Ext.refl W6.drew
      have HSL := Lib.hid (HS6.out.ext (Ext.refl W6).drew')
      have HAD := Lib.hid (fun (o : Obj) => (show Ext W6.drew (W6.alloc o).drew from ((Ext.refl W6.drew).alloc' o : Ext W6.drew (W6.drew.alloc o))))
      have HZ := Lib.hid (show (146 : Int) = ((146 : Nat) : Int) from rfl)
      have HF := Lib.hid (show 146 + 40 ≤ len ∧ 146 ≤ 1000 by have := HNN.out; omega)
      have HD := Lib.hid (dep32 ((x.toNat * 256 + y.toNat) % 32) (by omega))
      have HJL := Lib.hid (show ((x.toNat * 256 + y.toNat) % 32) < 32 by omega)
      go_region_held3 (fun w' => (∀ i, i < 8 → w'.cell? ⟨g6, i, none⟩ = some (.int .u8 (nb8 (oneRec m (namesU l 2 18)) i)))) (first | (with_reducible exact HSS.out _ hX) | (with_reducible exact HSS.out _ (HAD.out _)) | (with_reducible exact HSS.out _ (hX.alloc' _)) | (with_reducible exact HSS.out _ HW9.out)) (first | (go_at_call 83; first | ((with_reducible refine (refList5 _ len c l 146 _ HZ.out _ (HSL.out.ext hX) HF.out hlen).mono ?_); rintro e w1 ⟨A1, k1, rfl, hsl1, he1⟩; have hX := hX.trans he1) | ((with_reducible refine (refList5 _ len c l 146 _ HZ.out _ (HSL.out.ext (HAD.out _)) HF.out hlen).mono ?_); rintro e w1 ⟨A1, k1, rfl, hsl1, he1⟩; have hq := (Blk.new W6 23 zcs.toArray).drew.ext he1; have hX := (HAD.out _).trans he1)) | (go_at_call 84; first | ((with_reducible refine (refFollow32 (oneRec m (namesU l 2 18)) ((x.toNat * 256 + y.toNat) % 32) _ _ _ _ _ HJ7.out HD.out HJL.out hsl1).mono ?_); rintro e w2 ⟨rfl, he2⟩; have hX := hX.trans he2; first | (have hq2 := hq.ext he2; have hst := run_storeN hq2 (compU (oneRec m (namesU l 2 18)) ((x.toNat * 256 + y.toNat) % 32) 32 (namesU l 146 5)); have HW9 := Lib.hid (stN hX hq2 (Nat.le_refl _) (compU (oneRec m (namesU l 2 18)) ((x.toNat * 256 + y.toNat) % 32) 32 (namesU l 146 5)))) | (have hst := run_storeNewN w2 w2.heap.size rfl (compU (oneRec m (namesU l 2 18)) ((x.toNat * 256 + y.toNat) % 32) 32 (namesU l 146 5)); have HW9 := Lib.hid (hX.alloc' (.cells (nmc (compU (oneRec m (namesU l 2 18)) ((x.toNat * 256 + y.toNat) % 32) 32 (namesU l 146 5))) 23)))) | ((with_reducible refine (refFollow32 (oneRec m (namesU l 2 18)) ((x.toNat * 256 + y.toNat) % 32) _ _ _ _ _ HJ7.out HD.out HJL.out (hsl1.ext ((Ext.refl _).alloc' _))).mono ?_); rintro e w2 ⟨rfl, he2⟩; have hq2 := (Blk.new w1 23 zcs.toArray).ext he2; have HG2 := Lib.hid hX.size; have hX := (hX.alloc' _).trans he2; have hst := run_storeN hq2 (compU (oneRec m (namesU l 2 18)) ((x.toNat * 256 + y.toNat) % 32) 32 (namesU l 146 5)); have HW9 := Lib.hid (stN hX hq2 HG2.out (compU (oneRec m (namesU l 2 18)) ((x.toNat * 256 + y.toNat) % 32) 32 (namesU l 146 5))))))
      all_goals
        go_wp2_with fail
        go_meet
        first | exact ⟨_, rfl, rfl, blkN hq2 (compU (oneRec m (namesU l 2 18)) ((x.toNat * 256 + y.toNat) % 32) 32 (namesU l 146 5)), (Ext.refl W6).drew'.trans HW9.out⟩ | exact ⟨_, rfl, rfl, Blk.new w2 23 (nmc (compU (oneRec m (namesU l 2 18)) ((x.toNat * 256 + y.toNat) % 32) 32 (namesU l 146 5))), (Ext.refl W6).drew'.trans HW9.out⟩
    case rest =>
      obtain ⟨g7, rfl, rfl, hb7, he7⟩ := hcut
      obtain ⟨W7, hWW⟩ : ∃ W7, wc = W7 := ⟨_, rfl⟩
      rw [hWW] at hb7 he7 ⊢
      clear hWW
      have HB7 := Lib.hid hb7
      have HX7 := Lib.hid he7
      have HS7 := Lib.hid (HS6.out.ext he7)
      have HE7 := Lib.hid (HE6.out.trans he7)
      have HP7 := Lib.hid (HP6.out.ext he7)
      clear hb7 he7
      go_upto_region 10 with (fail)
      go_cut [14, 15] (fun t1 t2 wx => ∃ g : Nat, t1 = .pointer (some ⟨g, 0, none⟩) ∧ t2 = .bool true ∧ Blk wx g 23 (nmc (oneRec (compU (oneRec m (namesU l 2 18)) ((x.toNat * 256 + y.toNat) % 32) 32 (namesU l 146 5)) (namesU l 186 18))) ∧ Ext W7 wx)
      case first =>
        have HSS := Lib.hid (fun (w' : World) (hx : Ext W7.drew w') => cells8 (HB7.out.drew.ext hx))
        have hX := Ext.refl W7.drew
        have HSL := Lib.hid (HS7.out.ext (Ext.refl W7).drew')
        have HAD := Lib.hid (fun (o : Obj) => (show Ext W7.drew (W7.alloc o).drew from ((Ext.refl W7.drew).alloc' o : Ext W7.drew (W7.drew.alloc o))))
        have HZ := Lib.hid (show (186 : Int) = ((186 : Nat) : Int) from rfl)
        have HF := Lib.hid (show 186 + 144 ≤ len ∧ 186 ≤ 1000 by have := HNN.out; omega)
        go_region_held3 (fun w' => (∀ i, i < 8 → w'.cell? ⟨g7, i, none⟩ = some (.int .u8 (nb8 (compU (oneRec m (namesU l 2 18)) ((x.toNat * 256 + y.toNat) % 32) 32 (namesU l 146 5)) i)))) (first | (with_reducible exact HSS.out _ hX) | (with_reducible exact HSS.out _ (HAD.out _)) | (with_reducible exact HSS.out _ (hX.alloc' _)) | (with_reducible exact HSS.out _ HW9.out)) (first | (go_at_call 83; first | ((with_reducible refine (refList18 _ len c l 186 _ HZ.out _ (HSL.out.ext hX) HF.out hlen).mono ?_); rintro e w1 ⟨A1, k1, rfl, hsl1, he1⟩; have hX := hX.trans he1) | ((with_reducible refine (refList18 _ len c l 186 _ HZ.out _ (HSL.out.ext (HAD.out _)) HF.out hlen).mono ?_); rintro e w1 ⟨A1, k1, rfl, hsl1, he1⟩; have hq := (Blk.new W7 23 zcs.toArray).drew.ext he1; have hX := (HAD.out _).trans he1)) | (go_at_call 82; first | ((with_reducible refine (refRecover_any (compU (oneRec m (namesU l 2 18)) ((x.toNat * 256 + y.toNat) % 32) 32 (namesU l 146 5)) _ _ _ _ hsl1).mono ?_); rintro e w2 ⟨rfl, he2⟩; have hX := hX.trans he2; first | (have hq2 := hq.ext he2; have hst := run_storeN hq2 (oneRec (compU (oneRec m (namesU l 2 18)) ((x.toNat * 256 + y.toNat) % 32) 32 (namesU l 146 5)) (namesU l 186 18)); have HW9 := Lib.hid (stN hX hq2 (Nat.le_refl _) (oneRec (compU (oneRec m (namesU l 2 18)) ((x.toNat * 256 + y.toNat) % 32) 32 (namesU l 146 5)) (namesU l 186 18)))) | (have hst := run_storeNewN w2 w2.heap.size rfl (oneRec (compU (oneRec m (namesU l 2 18)) ((x.toNat * 256 + y.toNat) % 32) 32 (namesU l 146 5)) (namesU l 186 18)); have HW9 := Lib.hid (hX.alloc' (.cells (nmc (oneRec (compU (oneRec m (namesU l 2 18)) ((x.toNat * 256 + y.toNat) % 32) 32 (namesU l 146 5)) (namesU l 186 18))) 23)))) | ((with_reducible refine (refRecover_any (compU (oneRec m (namesU l 2 18)) ((x.toNat * 256 + y.toNat) % 32) 32 (namesU l 146 5)) _ _ _ _ (hsl1.ext ((Ext.refl _).alloc' _))).mono ?_); rintro e w2 ⟨rfl, he2⟩; have hq2 := (Blk.new w1 23 zcs.toArray).ext he2; have HG2 := Lib.hid hX.size; have hX := (hX.alloc' _).trans he2; have hst := run_storeN hq2 (oneRec (compU (oneRec m (namesU l 2 18)) ((x.toNat * 256 + y.toNat) % 32) 32 (namesU l 146 5)) (namesU l 186 18)); have HW9 := Lib.hid (stN hX hq2 HG2.out (oneRec (compU (oneRec m (namesU l 2 18)) ((x.toNat * 256 + y.toNat) % 32) 32 (namesU l 146 5)) (namesU l 186 18))))))
        all_goals
          go_wp2_with fail
          go_meet
          first | exact ⟨_, rfl, rfl, blkN hq2 (oneRec (compU (oneRec m (namesU l 2 18)) ((x.toNat * 256 + y.toNat) % 32) 32 (namesU l 146 5)) (namesU l 186 18)), (Ext.refl W7).drew'.trans HW9.out⟩ | exact ⟨_, rfl, rfl, Blk.new w2 23 (nmc (oneRec (compU (oneRec m (namesU l 2 18)) ((x.toNat * 256 + y.toNat) % 32) 32 (namesU l 146 5)) (namesU l 186 18))), (Ext.refl W7).drew'.trans HW9.out⟩
      case rest =>
        obtain ⟨g10, rfl, rfl, hb10, he10⟩ := hcut
        obtain ⟨W10, hWW⟩ : ∃ W10, wc = W10 := ⟨_, rfl⟩
        rw [hWW] at hb10 he10 ⊢
        clear hWW
        have HB10 := Lib.hid hb10
        have HX10 := Lib.hid he10
        have HS10 := Lib.hid (HS7.out.ext he10)
        have HE10 := Lib.hid (HE7.out.trans he10)
        have HP10 := Lib.hid (HP7.out.ext he10)
        clear hb10 he10
        have HJ11 := Lib.hid (show IntKind.i64.wrap (((x.toNat : Int) * 256 + (y.toNat : Int)).tdiv 32) = (((x.toNat * 256 + y.toNat) / 32 : Nat) : Int) by rw [Int.tdiv_eq_ediv_of_nonneg (by omega), IntKind.wrap_i64]; omega)
        go_upto_region 11 with (fail)
        go_cut [16, 17] (fun t1 t2 wx => ∃ g : Nat, t1 = .pointer (some ⟨g, 0, none⟩) ∧ t2 = .bool true ∧ Blk wx g 23 (nmc (compU (oneRec (compU (oneRec m (namesU l 2 18)) ((x.toNat * 256 + y.toNat) % 32) 32 (namesU l 146 5)) (namesU l 186 18)) ((x.toNat * 256 + y.toNat) / 32) 32 (namesU l 330 5))) ∧ Ext W10 wx)
        case first =>
          have HSS := Lib.hid (fun (w' : World) (hx : Ext W10.drew w') => cells8 (HB10.out.drew.ext hx))
          have hX := Ext.refl W10.drew
          have HSL := Lib.hid (HS10.out.ext (Ext.refl W10).drew')
          have HAD := Lib.hid (fun (o : Obj) => (show Ext W10.drew (W10.alloc o).drew from ((Ext.refl W10.drew).alloc' o : Ext W10.drew (W10.drew.alloc o))))
          have HZ := Lib.hid (show (330 : Int) = ((330 : Nat) : Int) from rfl)
          have HF := Lib.hid (show 330 + 40 ≤ len ∧ 330 ≤ 1000 by have := HNN.out; omega)
          have HD := Lib.hid (dep32 ((x.toNat * 256 + y.toNat) / 32) (by omega))
          have HJL := Lib.hid (show ((x.toNat * 256 + y.toNat) / 32) < 32 by omega)
          go_region_held3 (fun w' => (∀ i, i < 8 → w'.cell? ⟨g10, i, none⟩ = some (.int .u8 (nb8 (oneRec (compU (oneRec m (namesU l 2 18)) ((x.toNat * 256 + y.toNat) % 32) 32 (namesU l 146 5)) (namesU l 186 18)) i)))) (first | (with_reducible exact HSS.out _ hX) | (with_reducible exact HSS.out _ (HAD.out _)) | (with_reducible exact HSS.out _ (hX.alloc' _)) | (with_reducible exact HSS.out _ HW9.out)) (first | (go_at_call 83; first | ((with_reducible refine (refList5 _ len c l 330 _ HZ.out _ (HSL.out.ext hX) HF.out hlen).mono ?_); rintro e w1 ⟨A1, k1, rfl, hsl1, he1⟩; have hX := hX.trans he1) | ((with_reducible refine (refList5 _ len c l 330 _ HZ.out _ (HSL.out.ext (HAD.out _)) HF.out hlen).mono ?_); rintro e w1 ⟨A1, k1, rfl, hsl1, he1⟩; have hq := (Blk.new W10 23 zcs.toArray).drew.ext he1; have hX := (HAD.out _).trans he1)) | (go_at_call 84; first | ((with_reducible refine (refFollow32 (oneRec (compU (oneRec m (namesU l 2 18)) ((x.toNat * 256 + y.toNat) % 32) 32 (namesU l 146 5)) (namesU l 186 18)) ((x.toNat * 256 + y.toNat) / 32) _ _ _ _ _ HJ11.out HD.out HJL.out hsl1).mono ?_); rintro e w2 ⟨rfl, he2⟩; have hX := hX.trans he2; first | (have hq2 := hq.ext he2; have hst := run_storeN hq2 (compU (oneRec (compU (oneRec m (namesU l 2 18)) ((x.toNat * 256 + y.toNat) % 32) 32 (namesU l 146 5)) (namesU l 186 18)) ((x.toNat * 256 + y.toNat) / 32) 32 (namesU l 330 5)); have HW9 := Lib.hid (stN hX hq2 (Nat.le_refl _) (compU (oneRec (compU (oneRec m (namesU l 2 18)) ((x.toNat * 256 + y.toNat) % 32) 32 (namesU l 146 5)) (namesU l 186 18)) ((x.toNat * 256 + y.toNat) / 32) 32 (namesU l 330 5)))) | (have hst := run_storeNewN w2 w2.heap.size rfl (compU (oneRec (compU (oneRec m (namesU l 2 18)) ((x.toNat * 256 + y.toNat) % 32) 32 (namesU l 146 5)) (namesU l 186 18)) ((x.toNat * 256 + y.toNat) / 32) 32 (namesU l 330 5)); have HW9 := Lib.hid (hX.alloc' (.cells (nmc (compU (oneRec (compU (oneRec m (namesU l 2 18)) ((x.toNat * 256 + y.toNat) % 32) 32 (namesU l 146 5)) (namesU l 186 18)) ((x.toNat * 256 + y.toNat) / 32) 32 (namesU l 330 5))) 23)))) | ((with_reducible refine (refFollow32 (oneRec (compU (oneRec m (namesU l 2 18)) ((x.toNat * 256 + y.toNat) % 32) 32 (namesU l 146 5)) (namesU l 186 18)) ((x.toNat * 256 + y.toNat) / 32) _ _ _ _ _ HJ11.out HD.out HJL.out (hsl1.ext ((Ext.refl _).alloc' _))).mono ?_); rintro e w2 ⟨rfl, he2⟩; have hq2 := (Blk.new w1 23 zcs.toArray).ext he2; have HG2 := Lib.hid hX.size; have hX := (hX.alloc' _).trans he2; have hst := run_storeN hq2 (compU (oneRec (compU (oneRec m (namesU l 2 18)) ((x.toNat * 256 + y.toNat) % 32) 32 (namesU l 146 5)) (namesU l 186 18)) ((x.toNat * 256 + y.toNat) / 32) 32 (namesU l 330 5)); have HW9 := Lib.hid (stN hX hq2 HG2.out (compU (oneRec (compU (oneRec m (namesU l 2 18)) ((x.toNat * 256 + y.toNat) % 32) 32 (namesU l 146 5)) (namesU l 186 18)) ((x.toNat * 256 + y.toNat) / 32) 32 (namesU l 330 5))))))
          all_goals
            go_wp2_with fail
            go_meet
            first | exact ⟨_, rfl, rfl, blkN hq2 (compU (oneRec (compU (oneRec m (namesU l 2 18)) ((x.toNat * 256 + y.toNat) % 32) 32 (namesU l 146 5)) (namesU l 186 18)) ((x.toNat * 256 + y.toNat) / 32) 32 (namesU l 330 5)), (Ext.refl W10).drew'.trans HW9.out⟩ | exact ⟨_, rfl, rfl, Blk.new w2 23 (nmc (compU (oneRec (compU (oneRec m (namesU l 2 18)) ((x.toNat * 256 + y.toNat) % 32) 32 (namesU l 146 5)) (namesU l 186 18)) ((x.toNat * 256 + y.toNat) / 32) 32 (namesU l 330 5))), (Ext.refl W10).drew'.trans HW9.out⟩
        case rest =>
          obtain ⟨g11, rfl, rfl, hb11, he11⟩ := hcut
          obtain ⟨W11, hWW⟩ : ∃ W11, wc = W11 := ⟨_, rfl⟩
          rw [hWW] at hb11 he11 ⊢
          clear hWW
          have HB11 := Lib.hid hb11
          have HX11 := Lib.hid he11
          have HS11 := Lib.hid (HS10.out.ext he11)
          have HE11 := Lib.hid (HE10.out.trans he11)
          have HP11 := Lib.hid (HP10.out.ext he11)
          clear hb11 he11
          have hq := fun w => run_eqN (compU (oneRec (compU (oneRec m (namesU l 2 18)) ((x.toNat * 256 + y.toNat) % 32) 32 (namesU l 146 5)) (namesU l 186 18)) ((x.toNat * 256 + y.toNat) / 32) 32 (namesU l 330 5)) pub w
          have hr := rangeN HB11.out
          have hpp := rangeN HP11.out
          go_wp2_with (first | (with_reducible refine wpList_loadN rfl (.tmp 16) rfl g11 0 rfl (compU (oneRec (compU (oneRec m (namesU l 2 18)) ((x.toNat * 256 + y.toNat) % 32) 32 (namesU l 146 5)) (namesU l 186 18)) ((x.toNat * 256 + y.toNat) / 32) 32 (namesU l 330 5)) hr ?_) | (with_reducible refine wpList_loadN rfl (.tmp 4) rfl w.heap.size 0 rfl pub hpp ?_))
          go_ret
          exact ⟨rfl, HE11.out⟩
set_option maxRecDepth 100000 in
set_option maxHeartbeats 2000000 in
theorem refVerify_far (pub m : UInt64) (lv : Int) (A : Option Addr) (len c : Nat) (l : List UInt8) (w : World) (h : SlB w A len c l) (hs : sizeZ lv = (len : Int)) (hlv : lv = 1 ∨ lv = 2) (hlf : capZ lv ≤ (numAt l 0 2 : Int)) :
    Calls Tryz.prog 35 #[.agg (nmc pub), .int .i64 lv, .agg (nmc m), .slice A len c] w fun e w' => e = .returned (.bool false) ∧ Ext w w' := by
  have hE := ((Ext.refl w).alloc' (.cells (nmc pub) 23)).alloc' (.cells (nmc m) 23)
  have h186 : 186 ≤ len := by rcases hlv with rfl | rfl <;> (have : (len : Int) = _ := hs.symm; simp [sizeZ] at hs; omega)
  have hl' := h.len
  obtain ⟨b, o, rfl, hra, hbl⟩ := (h.ext hE).at (by omega)
  have hc0 := byte_at hra 0 (by omega)
  have hc1 := byte_at hra 1 (by omega)
  rw [Nat.add_zero] at hc0
  have HN := Lib.hid (num2 l (by omega))
  have HE0 := Lib.hid hE
  have hcap := h.cap
  have hle := h.le
  clear h hE hra
  rw [HN.out] at hlf
  clear HN
  generalize (l[0]'(by omega)) = x at *
  generalize (l[1]'(by omega)) = y at *
  have hxy := or2b x y
  have hx256 : (x.toNat : Int) < 256 := by have := x.toNat_lt; omega
  have hy256 : (y.toNat : Int) < 256 := by have := y.toNat_lt; omega
  have e1 : (1 : Int) < (len : Int) := by omega
  have e2 : (0 : Int) < (len : Int) := by omega
  have eN : ((len : Int) != sizeZ lv) = false := by rw [hs]; simp
  have e3 : decide (lv < 1) = false := decide_eq_false (by omega)
  have e4 : decide ((2 : Int) < lv) = false := decide_eq_false (by omega)
  have e5 : capZ lv ≤ (x.toNat : Int) * 256 + (y.toNat : Int) := by have := hlf; omega
  clear hs hlf hlv
  generalize hcz : capZ lv = cz at *
  generalize hsz : sizeZ lv = sz at *
  have HC := Lib.hid hcz
  have HS := Lib.hid hsz
  clear hcz hsz
  go_enter Tryz.func35, Tryz.ntmps35
  go_wp2_with (go_at_call 80; refine (refSize_any lv _).mono ?_; rintro e w1 ⟨rfl, rfl⟩; rw [HS.out])
  go_quiet (fail)
  go_wp2_with (go_at_call 81; refine (refCapacity_any lv _).mono ?_; rintro e w1 ⟨rfl, rfl⟩; rw [HC.out])
  go_ret
  exact ⟨rfl, below_drewN HE0.out _⟩
set_option maxRecDepth 100000 in
set_option maxHeartbeats 2000000 in
theorem refVerify_no (pub m : UInt64) (lv : Int) (A : Option Addr) (len c : Nat) (l : List UInt8) (w : World) (h : SlB w A len c l) (hno : ¬ (lv = 1 ∨ lv = 2) ∨ sizeZ lv ≠ (len : Int)) :
    Calls Tryz.prog 35 #[.agg (nmc pub), .int .i64 lv, .agg (nmc m), .slice A len c] w fun e w' => e = .returned (.bool false) ∧ Ext w w' := by
  have hE := ((Ext.refl w).alloc' (.cells (nmc pub) 23)).alloc' (.cells (nmc m) 23)
  have HE := Lib.hid hE
  have hcap := h.cap
  have hle := h.le
  clear h hE
  by_cases h1 : lv < 1
  · have e3 : decide (lv < 1) = true := decide_eq_true h1
    clear hno
    go_enter Tryz.func35, Tryz.ntmps35
    go_wp2_with fail
    go_ret
    exact ⟨rfl, HE.out⟩
  · have e3 : decide (lv < 1) = false := decide_eq_false h1
    by_cases h2 : 2 < lv
    · have e4 : decide ((2 : Int) < lv) = true := decide_eq_true h2
      clear hno
      go_enter Tryz.func35, Tryz.ntmps35
      go_wp2_with fail
      go_ret
      exact ⟨rfl, HE.out⟩
    · have e4 : decide ((2 : Int) < lv) = false := decide_eq_false h2
      have hs : sizeZ lv ≠ (len : Int) := by
        rcases hno with h | h
        · exact absurd (by omega) h
        · exact h
      have b1 : ((len : Int) != sizeZ lv) = true := by rw [bne_iff_ne]; exact fun e => hs e.symm
      clear hno hs
      generalize hsz : sizeZ lv = sz at *
      have HS := Lib.hid hsz
      clear hsz
      go_enter Tryz.func35, Tryz.ntmps35
      go_wp2_with (go_at_call 80; refine (refSize_any lv _).mono ?_; rintro e w1 ⟨rfl, rfl⟩; rw [HS.out])
      go_ret
      exact ⟨rfl, HE.out⟩
theorem refVerify_any (pub m : UInt64) (lv : Int) (A : Option Addr) (n c : Nat) (l : List UInt8) (w : World) (h : SlB w A n c l) :
    Calls Tryz.prog 35 #[.agg (nmc pub), .int .i64 lv, .agg (nmc m), .slice A n c] w fun e w' => e = .returned (.bool (verU pub lv m l)) ∧ Ext w w' := by
  have hlen := h.len
  by_cases hs : sizeZ lv = (n : Int)
  · by_cases h12 : lv = 1 ∨ lv = 2
    · by_cases hc : capZ lv ≤ (numAt l 0 2 : Int)
      · rw [verU_far pub lv m l hc]
        exact refVerify_far pub m lv A n c l w h hs h12 hc
      · rcases h12 with rfl | rfl
        · have hlf : numAt l 0 2 < 32 := by have : ¬ (32 : Int) ≤ (numAt l 0 2 : Int) := hc; omega
          have hn : (n : Int) = 186 := hs.symm
          have hv : verU pub 1 m l = decide (climbU l 2 (numAt l 0 2 % 32) m = pub) := by
            unfold verU; rw [if_pos rfl, decide_eq_true (show l.length = 186 by omega), decide_eq_true hlf]; rfl
          rw [hv]
          exact refVerify_one pub m A n c l w h hn hlf
        · have hlf : numAt l 0 2 < 1024 := by have : ¬ (1024 : Int) ≤ (numAt l 0 2 : Int) := hc; omega
          have hn : (n : Int) = 370 := hs.symm
          have hv : verU pub 2 m l = decide (climbU l 186 (numAt l 0 2 / 32) (climbU l 2 (numAt l 0 2 % 32) m) = pub) := by
            unfold verU; rw [if_neg (by decide), if_pos rfl, decide_eq_true (show l.length = 370 by omega), decide_eq_true hlf]; rfl
          rw [hv]
          exact refVerify_two pub m A n c l w h hn hlf
    · have hv : verU pub lv m l = false := by unfold verU; rw [if_neg (fun e => h12 (.inl e)), if_neg (fun e => h12 (.inr e))]
      rw [hv]
      exact refVerify_no pub m lv A n c l w h (.inl h12)
  · rw [verU_short pub lv m l (by rw [hlen]; exact hs)]
    exact refVerify_no pub m lv A n c l w h (.inr hs)
end Go.Proofs.YtcfmlgbocdjabaaGreat
