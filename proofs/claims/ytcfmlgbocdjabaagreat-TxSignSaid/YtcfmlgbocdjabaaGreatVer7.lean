/- Verify (the reference's) at one level. (Printed by gen_rver.py.) -/
import Derived.Test.YtcfmlgbocdjabaaGreatVer6
import Derived.Deep.DeepCutAuto
namespace Go.Proofs.YtcfmlgbocdjabaaGreat
open Go.RowKit
set_option linter.unusedVariables false
set_option linter.unusedSimpArgs false

theorem refList18 (A : Option Addr) (len c : Nat) (l : List UInt8) (at_ : Nat) (z : Int) (hz : z = (at_ : Int)) (w : World) (h : SlB w A len c l) (hf : at_ + 144 ≤ len ∧ at_ ≤ 1000) (hl : len ≤ 140737488355328) :
    Calls Tryz.prog 83 #[.slice A len c, .int .i64 z, .int .i64 18] w fun e w' => ∃ A' c', e = .returned (.slice A' 18 c') ∧ SlN w' A' 18 c' (namesU l at_ 18) ∧ Ext w w' := by
  subst hz; exact refList_any A len c l at_ 18 w h (by omega) (by omega) hf.2 hl
theorem refList5 (A : Option Addr) (len c : Nat) (l : List UInt8) (at_ : Nat) (z : Int) (hz : z = (at_ : Int)) (w : World) (h : SlB w A len c l) (hf : at_ + 40 ≤ len ∧ at_ ≤ 1000) (hl : len ≤ 140737488355328) :
    Calls Tryz.prog 83 #[.slice A len c, .int .i64 z, .int .i64 5] w fun e w' => ∃ A' c', e = .returned (.slice A' 5 c') ∧ SlN w' A' 5 c' (namesU l at_ 5) ∧ Ext w w' := by
  subst hz; exact refList_any A len c l at_ 5 w h (by omega) (by omega) hf.2 hl
theorem refFollow32 (leaf : UInt64) (j : Nat) (q : Int) (A : Option Addr) (c : Nat) (ns : List UInt64) (w : World) (hq : q = (j : Int)) (hd : depU j 32 = 5) (hj : j < 32) (h : SlN w A 5 c ns) :
    Calls Tryz.prog 84 #[.agg (nmc leaf), .int .i64 q, .int .i64 32, .slice A 5 c] w fun e w' => e = .returned (.tuple #[.agg (nmc (compU leaf j 32 ns)), .bool true]) ∧ Ext w w' := by
  subst hq; exact refFollow_yes leaf 32 j 5 A c ns w (by omega) hj hd.symm h
set_option maxRecDepth 100000 in
set_option maxHeartbeats 4000000 in
theorem refVerify_one (pub m : UInt64) (A : Option Addr) (len c : Nat) (l : List UInt8) (w : World) (h : SlB w A len c l) (hn : (len : Int) = 186) (hlf : numAt l 0 2 < 32) :
    Calls Tryz.prog 35 #[.agg (nmc pub), .int .i64 1, .agg (nmc m), .slice A len c] w fun e w' => e = .returned (.bool (decide (climbU l 2 (numAt l 0 2 % 32) m = pub))) ∧ Ext w w' := by
  have hE := ((Ext.refl w).alloc' (.cells (nmc pub) 23)).alloc' (.cells (nmc m) 23)
  have hbp := (Blk.new w 23 (nmc pub)).alloc (.cells (nmc m) 23)
  have hbm : Blk ((w.alloc (.cells (nmc pub) 23)).alloc (.cells (nmc m) 23)) (w.heap.size + 1) 23 (nmc m) := Blk.newAt _ _ _ _ (by simp)
  have hlen : len ≤ 140737488355328 := by omega
  have hl' := h.len
  obtain ⟨b, o, rfl, hra, hbl⟩ := (h.ext hE).at (by omega)
  have hc0 := byte_at hra 0 (by omega)
  have hc1 := byte_at hra 1 (by omega)
  rw [Nat.add_zero] at hc0
  have HN := Lib.hid (num2 l (by omega))
  have HE0 := Lib.hid hE
  have HP0 := Lib.hid hbp
  have HM0 := Lib.hid hbm
  have HS0 := Lib.hid (h.ext hE)
  clear h hE hbp hbm hra
  rw [HN.out] at hlf ⊢
  clear HN
  generalize (l[0]'(by omega)) = x at *
  generalize (l[1]'(by omega)) = y at *
  have hxy := or2b x y
  have hx256 : (x.toNat : Int) < 256 := by have := x.toNat_lt; omega
  have hy256 : (y.toNat : Int) < 256 := by have := y.toNat_lt; omega
  have e1 : (1 : Int) < (len : Int) := by omega
  have e2 : (0 : Int) < (len : Int) := by omega
  have eN : ((len : Int) != 186) = false := by rw [hn]; rfl
  have HNN := Lib.hid hn
  clear hn

  go_enter Tryz.func35, Tryz.ntmps35
  go_wp2_with (go_at_call 80; refine (refSize_any 1 _).mono ?_; rintro e w1 ⟨rfl, rfl⟩; rw [show sizeZ 1 = 186 from rfl])
  go_quiet (fail)
  go_upto_region 6 with (go_at_call 81; refine (refCapacity_any 1 _).mono ?_; rintro e w1 ⟨rfl, rfl⟩; rw [show capZ 1 = 32 from rfl])
  have hdn := below_drewN (Ext.refl ((w.alloc (.cells (nmc pub) 23)).alloc (.cells (nmc m) 23))) nq
  have HE0 := Lib.hid (HE0.out.trans hdn)
  have HP0 := Lib.hid (HP0.out.ext hdn)
  have HM0 := Lib.hid (HM0.out.ext hdn)
  have HS0 := Lib.hid (HS0.out.ext hdn)
  clear hdn hc0 hc1 hbl
  generalize ((w.alloc (.cells (nmc pub) 23)).alloc (.cells (nmc m) 23)).drewN nq = W0 at *
  go_cut [10, 11] (fun t1 t2 wx => ∃ g : Nat, t1 = .pointer (some ⟨g, 0, none⟩) ∧ t2 = .bool true ∧ Blk wx g 23 (nmc (oneRec m (namesU l 2 18))) ∧ Ext W0 wx)
  case first =>
    have HSS := Lib.hid (fun (w' : World) (hx : Ext W0.drew w') => cells8 (HM0.out.drew.ext hx))
    have hX := Ext.refl W0.drew
    have HSL := Lib.hid (HS0.out.ext (Ext.refl W0).drew')
    have HAD := Lib.hid (fun (o : Obj) => (show Ext W0.drew (W0.alloc o).drew from ((Ext.refl W0.drew).alloc' o : Ext W0.drew (W0.drew.alloc o))))
    have HZ := Lib.hid (show (2 : Int) = ((2 : Nat) : Int) from rfl)
    have HF := Lib.hid (show 2 + 144 ≤ len ∧ 2 ≤ 1000 by have := HNN.out; omega)
    go_region_held3 (fun w' => (∀ i, i < 8 → w'.cell? ⟨(w.heap.size + 1), i, none⟩ = some (.int .u8 (nb8 m i)))) (first | (with_reducible exact HSS.out _ hX) | (with_reducible exact HSS.out _ (HAD.out _)) | (with_reducible exact HSS.out _ (hX.alloc' _)) | (with_reducible exact HSS.out _ HW9.out)) (first | (go_at_call 83; first | ((with_reducible refine (refList18 _ len c l 2 _ HZ.out _ (HSL.out.ext hX) HF.out hlen).mono ?_); rintro e w1 ⟨A1, k1, rfl, hsl1, he1⟩; have hX := hX.trans he1) | ((with_reducible refine (refList18 _ len c l 2 _ HZ.out _ (HSL.out.ext (HAD.out _)) HF.out hlen).mono ?_); rintro e w1 ⟨A1, k1, rfl, hsl1, he1⟩; have hq := (Blk.new W0 23 zcs.toArray).drew.ext he1; have hX := (HAD.out _).trans he1)) | (go_at_call 82; first | ((with_reducible refine (refRecover_any m _ _ _ _ hsl1).mono ?_); rintro e w2 ⟨rfl, he2⟩; have hX := hX.trans he2; first | (have hq2 := hq.ext he2; have hst := run_storeN hq2 (oneRec m (namesU l 2 18)); have HW9 := Lib.hid (stN hX hq2 (Nat.le_refl _) (oneRec m (namesU l 2 18)))) | (have hst := run_storeNewN w2 w2.heap.size rfl (oneRec m (namesU l 2 18)); have HW9 := Lib.hid (hX.alloc' (.cells (nmc (oneRec m (namesU l 2 18))) 23)))) | ((with_reducible refine (refRecover_any m _ _ _ _ (hsl1.ext ((Ext.refl _).alloc' _))).mono ?_); rintro e w2 ⟨rfl, he2⟩; have hq2 := (Blk.new w1 23 zcs.toArray).ext he2; have HG2 := Lib.hid hX.size; have hX := (hX.alloc' _).trans he2; have hst := run_storeN hq2 (oneRec m (namesU l 2 18)); have HW9 := Lib.hid (stN hX hq2 HG2.out (oneRec m (namesU l 2 18))))))
    all_goals
      go_wp2_with fail
      go_meet
      first | exact ⟨_, rfl, rfl, blkN hq2 (oneRec m (namesU l 2 18)), (Ext.refl W0).drew'.trans HW9.out⟩ | exact ⟨_, rfl, rfl, Blk.new w2 23 (nmc (oneRec m (namesU l 2 18))), (Ext.refl W0).drew'.trans HW9.out⟩
  case rest =>
    obtain ⟨g6, rfl, rfl, hb6, he6⟩ := hcut
    obtain ⟨W6, hWW⟩ : ∃ W6, wc = W6 := ⟨_, rfl⟩
    rw [hWW] at hb6 he6 ⊢
    clear hWW
    have HB6 := Lib.hid hb6
    have HX6 := Lib.hid he6
    have HS6 := Lib.hid (HS0.out.ext he6)
    have HE6 := Lib.hid (HE0.out.trans he6)
    have HP6 := Lib.hid (HP0.out.ext he6)
    clear hb6 he6
    have HJ7 := Lib.hid (show ((x.toNat : Int) * 256 + (y.toNat : Int)).tmod 32 = (((x.toNat * 256 + y.toNat) % 32 : Nat) : Int) by rw [Int.tmod_eq_emod_of_nonneg (by omega)]; omega)
    go_upto_region 7 with (fail)
    go_cut [12, 13] (fun t1 t2 wx => ∃ g : Nat, t1 = .pointer (some ⟨g, 0, none⟩) ∧ t2 = .bool true ∧ Blk wx g 23 (nmc (compU (oneRec m (namesU l 2 18)) ((x.toNat * 256 + y.toNat) % 32) 32 (namesU l 146 5))) ∧ Ext W6 wx)
    case first =>
      have HSS := Lib.hid (fun (w' : World) (hx : Ext W6.drew w') => cells8 (HB6.out.drew.ext hx))
      have hX := Ext.refl W6.drew
      have HSL := Lib.hid (HS6.out.ext (Ext.refl W6).drew')
      have HAD := Lib.hid (fun (o : Obj) => (show Ext W6.drew (W6.alloc o).drew from ((Ext.refl W6.drew).alloc' o : Ext W6.drew (W6.drew.alloc o))))
      have HZ := Lib.hid (show (146 : Int) = ((146 : Nat) : Int) from rfl)
      have HF := Lib.hid (show 146 + 40 ≤ len ∧ 146 ≤ 1000 by have := HNN.out; omega)
      have HD := Lib.hid (dep32 ((x.toNat * 256 + y.toNat) % 32) (by omega))
      have HJL := Lib.hid (show ((x.toNat * 256 + y.toNat) % 32) < 32 by omega)
      go_region_held3 (fun w' => (∀ i, i < 8 → w'.cell? ⟨g6, i, none⟩ = some (.int .u8 (nb8 (oneRec m (namesU l 2 18)) i)))) (first | (with_reducible exact HSS.out _ hX) | (with_reducible exact HSS.out _ (HAD.out _)) | (with_reducible exact HSS.out _ (hX.alloc' _)) | (with_reducible exact HSS.out _ HW9.out)) (first | (go_at_call 83; first | ((with_reducible refine (refList5 _ len c l 146 _ HZ.out _ (HSL.out.ext hX) HF.out hlen).mono ?_); rintro e w1 ⟨A1, k1, rfl, hsl1, he1⟩; have hX := hX.trans he1) | ((with_reducible refine (refList5 _ len c l 146 _ HZ.out _ (HSL.out.ext (HAD.out _)) HF.out hlen).mono ?_); rintro e w1 ⟨A1, k1, rfl, hsl1, he1⟩; have hq := (Blk.new W6 23 zcs.toArray).drew.ext he1; have hX := (HAD.out _).trans he1)) | (go_at_call 84; first | ((with_reducible refine (refFollow32 (oneRec m (namesU l 2 18)) ((x.toNat * 256 + y.toNat) % 32) _ _ _ _ _ HJ7.out HD.out HJL.out hsl1).mono ?_); rintro e w2 ⟨rfl, he2⟩; have hX := hX.trans he2; first | (have hq2 := hq.ext he2; have hst := run_storeN hq2 (compU (oneRec m (namesU l 2 18)) ((x.toNat * 256 + y.toNat) % 32) 32 (namesU l 146 5)); have HW9 := Lib.hid (stN hX hq2 (Nat.le_refl _) (compU (oneRec m (namesU l 2 18)) ((x.toNat * 256 + y.toNat) % 32) 32 (namesU l 146 5)))) | (have hst := run_storeNewN w2 w2.heap.size rfl (compU (oneRec m (namesU l 2 18)) ((x.toNat * 256 + y.toNat) % 32) 32 (namesU l 146 5)); have HW9 := Lib.hid (hX.alloc' (.cells (nmc (compU (oneRec m (namesU l 2 18)) ((x.toNat * 256 + y.toNat) % 32) 32 (namesU l 146 5))) 23)))) | ((with_reducible refine (refFollow32 (oneRec m (namesU l 2 18)) ((x.toNat * 256 + y.toNat) % 32) _ _ _ _ _ HJ7.out HD.out HJL.out (hsl1.ext ((Ext.refl _).alloc' _))).mono ?_); rintro e w2 ⟨rfl, he2⟩; have hq2 := (Blk.new w1 23 zcs.toArray).ext he2; have HG2 := Lib.hid hX.size; have hX := (hX.alloc' _).trans he2; have hst := run_storeN hq2 (compU (oneRec m (namesU l 2 18)) ((x.toNat * 256 + y.toNat) % 32) 32 (namesU l 146 5)); have HW9 := Lib.hid (stN hX hq2 HG2.out (compU (oneRec m (namesU l 2 18)) ((x.toNat * 256 + y.toNat) % 32) 32 (namesU l 146 5))))))
      all_goals
        go_wp2_with fail
        go_meet
        first | exact ⟨_, rfl, rfl, blkN hq2 (compU (oneRec m (namesU l 2 18)) ((x.toNat * 256 + y.toNat) % 32) 32 (namesU l 146 5)), (Ext.refl W6).drew'.trans HW9.out⟩ | exact ⟨_, rfl, rfl, Blk.new w2 23 (nmc (compU (oneRec m (namesU l 2 18)) ((x.toNat * 256 + y.toNat) % 32) 32 (namesU l 146 5))), (Ext.refl W6).drew'.trans HW9.out⟩
    case rest =>
      obtain ⟨g7, rfl, rfl, hb7, he7⟩ := hcut
      obtain ⟨W7, hWW⟩ : ∃ W7, wc = W7 := ⟨_, rfl⟩
      rw [hWW] at hb7 he7 ⊢
      clear hWW
      have HB7 := Lib.hid hb7
      have HX7 := Lib.hid he7
      have HS7 := Lib.hid (HS6.out.ext he7)
      have HE7 := Lib.hid (HE6.out.trans he7)
      have HP7 := Lib.hid (HP6.out.ext he7)
      clear hb7 he7
      have hq := fun w => run_eqN (compU (oneRec m (namesU l 2 18)) ((x.toNat * 256 + y.toNat) % 32) 32 (namesU l 146 5)) pub w
      have hr := rangeN HB7.out
      have hpp := rangeN HP7.out
      go_wp2_with (first | (with_reducible refine wpList_loadN rfl (.tmp 12) rfl g7 0 rfl (compU (oneRec m (namesU l 2 18)) ((x.toNat * 256 + y.toNat) % 32) 32 (namesU l 146 5)) hr ?_) | (with_reducible refine wpList_loadN rfl (.tmp 4) rfl w.heap.size 0 rfl pub hpp ?_))
      go_ret
      exact ⟨rfl, HE7.out⟩
end Go.Proofs.YtcfmlgbocdjabaaGreat
