/- The laws TxVerify and TxSign: the walks. -/
import Derived.Test.YtcfmlgbocdjabaaGreatTs2
namespace Go.Proofs.YtcfmlgbocdjabaaGreat
open Go.RowKit
set_option linter.unusedVariables false
set_option linter.unusedSimpArgs false
attribute [local go_sem ↓] Go.wp_at_zero Go.wp_at_succ

theorem vSg_right (seed pb : UInt64) (ac sq : Int) (L : List OpR) (hpb : pubV seed 1 = pb) (hl : OpLens L) (hv : vTx ac sq L = true) (T : TxR) (hT : TxLens T) (e : T.v = (ac, sq, L.map OpR.v, sig1 seed sq.toNat (txNm ac sq L))) : vSg pb T = true := by
  obtain ⟨hh, _⟩ := vTx_of hv
  obtain ⟨nm, hnm⟩ : ∃ nm, txNm ac sq L = nm := ⟨_, rfl⟩
  have hsq : ((sq.toNat : Nat) : Int) = sq := by omega
  obtain ⟨s, h1, _, h3, h4, _⟩ := sig_right seed nm 1 sq.toNat (.inl ⟨rfl, by omega⟩)
  rw [hsq, sigU_in seed nm hh.2.2.1 hh.2.2.2.1] at h1
  injection h1 with h1
  rw [hpb] at h4
  rw [hnm] at e
  unfold TxR.v at e
  injection e with e1 e
  injection e with e2 e
  injection e with e3 e4
  have hn := congrArg List.length e3
  rw [List.length_map, List.length_map] at hn
  have hvt : vTx T.ac T.sq T.L = true := by
    rw [vTx_v (fun R hR => vOp_v (hT.1 R hR).1 (hT.1 R hR).2), e1, e2, e3, ← vTx_v (fun R hR => vOp_v (hl R hR).1 (hl R hR).2)]
    exact hv
  have hnt : txNm T.ac T.sq T.L = nm := by
    rw [← hnm]
    unfold txNm
    rw [hvt, hv]
    unfold encTx
    rw [encOps_v e3, hn, e1, e2]
  unfold vSg
  rw [hvt, hnt, e4, h1, h4, h3, hsq, e2]
  simp
theorem vSg_zero (pb : UInt64) : vSg pb txR0 = false := by
  unfold vSg
  rw [show vTx txR0.ac txR0.sq txR0.L = false from vNone, Bool.false_and]
set_option maxRecDepth 100000 in
set_option maxHeartbeats 4000000 in
theorem txVerifyLaw_any (pub : UInt64) (T : TxR) (w : World) (hT : T.ok w) : Calls Tryz.prog 4 #[.agg (nmc pub), .agg (tA T)] w fun e w' => e = .returned (.bool true) ∧ Ext w w' := by
  have hE := ((Ext.refl w).alloc' (.cells (nmc pub) 23)).alloc' (.cells (tA T) 31)
  obtain ⟨W0, hW0⟩ : ∃ W0, (w.alloc (.cells (nmc pub) 23)).alloc (.cells (tA T) 31) = W0 := ⟨_, rfl⟩
  have HB0 := Lib.hid ((Blk.new w 23 (nmc pub)).alloc (.cells (tA T) 31))
  have HB1 := Lib.hid (show Blk ((w.alloc (.cells (nmc pub) 23)).alloc (.cells (tA T) 31)) (w.heap.size + 1) 31 (tA T) from Blk.newAt _ _ _ _ (by simp))
  have HE := Lib.hid hE
  have HT := Lib.hid (hT.ext hE)
  rw [hW0] at HB0 HB1 HE HT
  have HLG := Lib.hid (large_any T.ac T.sq T.A T.n T.c T.L W0 HT.out.ops)
  have HSS := Lib.hid (fun (W : World) (h : Ext W0 W) => (⟨cells8 (HB0.out.ext h), st_facts (HB1.out.ext h)⟩ : (∀ i, i < 8 → W.cell? ⟨w.heap.size, i, none⟩ = some (.int .u8 (nb8 pub i))) ∧ W.cell? ⟨w.heap.size + 1, 0, none⟩ = some (.int .i64 T.ac) ∧ W.cell? ⟨w.heap.size + 1, 1, none⟩ = some (.int .i64 T.sq) ∧ W.cell? ⟨w.heap.size + 1, 2, none⟩ = some (.slice T.A T.n T.c) ∧ W.cell? ⟨w.heap.size + 1, 3, none⟩ = some (.slice T.S T.m T.d)))
  obtain ⟨q, q0, q1, q2, q3⟩ := HSS.out W0 (Ext.refl W0)
  have hmc := HT.out.sig.le
  have hmc2 := HT.out.sig.cap
  clear hE hT q
  go_enter Tryz.func4, Tryz.ntmps4
  go_wp2_with fail
  refine HLG.out.mono ?_
  rintro e w1 ⟨⟨b, rfl⟩, he1⟩
  have HX1 := Lib.hid he1
  clear q0 q1 q2 q3
  obtain ⟨q, q0, q1, q2, q3⟩ := HSS.out w1 he1
  clear he1 hW0 HLG q
  cases b with
  | true =>
    go_wp2_with fail
    refine (awake20_any _).mono ?_
    rintro e w2 ⟨rfl, he2⟩
    have HX2 := Lib.hid (HE.out.trans (HX1.out.trans he2))
    clear he2
    go_wp2_with fail
    go_ret
    exact ⟨rfl, HX2.out⟩
  | false =>
    by_cases hm : 5000 < T.m
    · have d1 : (5000 : Int) < (T.m : Int) := by omega
      have d2 : decide ((5000 : Int) < (T.m : Int)) = true := decide_eq_true d1
      go_wp2_with fail
      refine (awake20_any _).mono ?_
      rintro e w2 ⟨rfl, he2⟩
      have HX2 := Lib.hid (HE.out.trans (HX1.out.trans he2))
      clear he2
      go_wp2_with fail
      go_ret
      exact ⟨rfl, HX2.out⟩
    · have d1 : ¬ (5000 : Int) < (T.m : Int) := by omega
      have d2 : decide ((5000 : Int) < (T.m : Int)) = false := decide_eq_false d1
      obtain ⟨r, hr⟩ : ∃ r, vSg pub T = r := ⟨_, rfl⟩
      have HP := Lib.hid (fun (W : World) (h : Ext W0 W) => txVerify_any pub T W (HT.out.ext h))
      have HQ := Lib.hid (fun (W : World) (h : Ext W0 W) => refVerifyTx_any pub T W (HT.out.ext h))
      rw [hr] at HP HQ
      clear hr
      have HAW := Lib.hid awake20_any
      go_wp2_with fail
      have hX := HX1.out.drew'
      clear q0 q1 q2 q3
      go_region_held3 (fun w' => (∀ i, i < 8 → w'.cell? ⟨w.heap.size, i, none⟩ = some (.int .u8 (nb8 pub i))) ∧ w'.cell? ⟨w.heap.size + 1, 0, none⟩ = some (.int .i64 T.ac) ∧ w'.cell? ⟨w.heap.size + 1, 1, none⟩ = some (.int .i64 T.sq) ∧ w'.cell? ⟨w.heap.size + 1, 2, none⟩ = some (.slice T.A T.n T.c) ∧ w'.cell? ⟨w.heap.size + 1, 3, none⟩ = some (.slice T.S T.m T.d)) (first | (with_reducible exact HSS.out _ hX) | fail "KEEP") (first | (go_at_call 11; (with_reducible refine (HP.out _ hX).mono ?_); rintro e wa ⟨rfl, he⟩; have hX := hX.trans he; clear he) | (go_at_call 13; (with_reducible refine (HQ.out _ hX).mono ?_); rintro e wb ⟨rfl, he⟩; have hX := hX.trans he; clear he) | (go_at_call 7; (with_reducible refine (HAW.out _).mono ?_); rintro e wc ⟨rfl, he⟩; have hX := hX.trans he; clear he) | fail "ARM")
      all_goals (
        have HXF := Lib.hid (HE.out.trans hX)
        clear hX
        go_wp2_with fail
        go_ret
        exact ⟨rfl, HXF.out⟩)
set_option maxRecDepth 100000 in
set_option maxHeartbeats 4000000 in
theorem txSignLaw_any (seed : UInt64) (ac sq : Int) (A : Option Addr) (n c : Nat) (L : List OpR) (w : World) (hS : SlO w A n c L) : Calls Tryz.prog 3 #[.agg (nmc seed), .agg (txA ac sq A n c)] w fun e w' => e = .returned (.bool true) ∧ Ext w w' := by
  have hE := ((Ext.refl w).alloc' (.cells (nmc seed) 23)).alloc' (.cells (txA ac sq A n c) 26)
  obtain ⟨W0, hW0⟩ : ∃ W0, (w.alloc (.cells (nmc seed) 23)).alloc (.cells (txA ac sq A n c) 26) = W0 := ⟨_, rfl⟩
  have HB0 := Lib.hid ((Blk.new w 23 (nmc seed)).alloc (.cells (txA ac sq A n c) 26))
  have HB1 := Lib.hid (show Blk ((w.alloc (.cells (nmc seed) 23)).alloc (.cells (txA ac sq A n c) 26)) (w.heap.size + 1) 26 (txA ac sq A n c) from Blk.newAt _ _ _ _ (by simp))
  have HE := Lib.hid hE
  have HS := Lib.hid (hS.ext hE)
  rw [hW0] at HB0 HB1 HE HS
  have HLG := Lib.hid (large_any ac sq A n c L W0 HS.out)
  have HSS := Lib.hid (fun (W : World) (h : Ext W0 W) => (⟨cells8 (HB0.out.ext h), tx_facts (HB1.out.ext h)⟩ : (∀ i, i < 8 → W.cell? ⟨w.heap.size, i, none⟩ = some (.int .u8 (nb8 seed i))) ∧ W.cell? ⟨w.heap.size + 1, 0, none⟩ = some (.int .i64 ac) ∧ W.cell? ⟨w.heap.size + 1, 1, none⟩ = some (.int .i64 sq) ∧ W.cell? ⟨w.heap.size + 1, 2, none⟩ = some (.slice A n c)))
  obtain ⟨q, q0, q1, q2⟩ := HSS.out W0 (Ext.refl W0)
  obtain ⟨pb, hpb⟩ : ∃ pb, pubV seed 1 = pb := ⟨_, rfl⟩
  have HPB := Lib.hid (fun (W : World) => show Calls Tryz.prog 12 #[.agg (nmc seed), .int .i64 1] W (fun e w' => e = .returned (.agg (nmc pb)) ∧ Ext W w') from by rw [← hpb]; exact refPublic_any seed 1 W)
  have HPE := Lib.hid hpb
  have HLN := Lib.hid (show OpLens L from fun R hR => ⟨(hS.ok R hR).pre.len, (hS.ok R hR).prf.len⟩)
  have HAW := Lib.hid awake20_any
  clear hE hS q hpb
  go_enter Tryz.func3, Tryz.ntmps3
  go_wp2_with fail
  refine HLG.out.mono ?_
  rintro e w1 ⟨⟨b, rfl⟩, he1⟩
  have HX1 := Lib.hid he1
  clear q0 q1 q2
  obtain ⟨q, q0, q1, q2⟩ := HSS.out w1 he1
  have hrn := rangeN (HB0.out.ext he1)
  clear he1 hW0 HLG q
  cases b with
  | true =>
    go_wp2_with fail
    refine (awake20_any _).mono ?_
    rintro e w2 ⟨rfl, he2⟩
    have HX2 := Lib.hid (HE.out.trans (HX1.out.trans he2))
    clear he2
    go_wp2_with fail
    go_ret
    exact ⟨rfl, HX2.out⟩
  | false =>
    go_wp2_with (first | (with_reducible refine wpList_loadN rfl (.tmp 2) rfl w.heap.size 0 rfl seed hrn ?_))
    refine (txSign_any seed ac sq A n c L w1 (HS.out.ext HX1.out)).mono ?_
    rintro e w2 ⟨he2, h2⟩
    rcases h2 with ⟨hvf, rfl⟩ | ⟨hvf, T, rfl, hTo, hTv⟩
    · have HVF := Lib.hid hvf
      clear hvf q0 q1 q2 hrn
      have hE3 := he2.trans ((Ext.refl w2).alloc' (.cells (tA txR0) 31))
      have HX3 := Lib.hid (HX1.out.trans hE3)
      have HC3 := Lib.hid (Blk.new w2 31 (tA txR0))
      have HT3 := Lib.hid (show txR0.ok (w2.alloc (.cells (tA txR0) 31)) from ⟨SlO.nil _, SlB.nil _⟩)
      have hrn := rangeN (HB0.out.ext HX3.out)
      obtain ⟨q, q0, q1, q2⟩ := HSS.out _ HX3.out
      clear he2 hE3 q
      go_wp2_with (first | (with_reducible refine wpList_newT rfl (.tmp 5) (.tmp 16) rfl _ rfl txR0 rfl rfl ?_) | (with_reducible refine wpList_loadN rfl (.tmp 2) rfl w.heap.size 0 rfl seed hrn ?_))
      refine (refSignTx_any seed ac sq A n c L _ (HS.out.ext HX3.out)).mono ?_
      rintro e w4 ⟨he4, h4⟩
      obtain rfl : e = .returned (.tuple #[.agg zero4, .int .i64 1]) := by
        rcases h4 with ⟨_, h⟩ | ⟨h, _⟩
        · exact h
        · rw [HVF.out] at h; cases h
      clear h4
      have hE5 := he4.trans ((Ext.refl w4).alloc' (.cells (tA txR0) 31))
      have HX5 := Lib.hid (HX3.out.trans hE5)
      have HC5 := Lib.hid (HC3.out.ext hE5)
      have HT5 := Lib.hid (HT3.out.ext hE5)
      have HEQ := Lib.hid (show Calls Tryz.prog 10 #[.agg (tA txR0), .agg (tA txR0)] (w4.alloc (.cells (tA txR0) 31)) (fun e w' => e = .returned (.bool true) ∧ Ext (w4.alloc (.cells (tA txR0) 31)) w') from by rw [← (eqT_iff txR0 txR0).2 rfl]; exact equalTx_any txR0 txR0 _ HT5.out HT5.out)
      obtain ⟨a0, a1, a2, a3⟩ := st_facts HC5.out
      obtain ⟨b0, b1, b2, b3⟩ := st_facts (Blk.new w4 31 (tA txR0))
      clear he4 hE5 q0 q1 q2 hrn
      go_wp2_with (first | (with_reducible refine wpList_newT rfl (.tmp 7) (.tmp 22) rfl _ rfl txR0 rfl rfl ?_))
      refine HEQ.out.mono ?_
      rintro e w6 ⟨rfl, he6⟩
      have HX6 := Lib.hid (HX5.out.trans he6)
      have HVR := Lib.hid (fun (W : World) (h : Ext w6 W) => show Calls Tryz.prog 11 #[.agg (nmc pb), .agg (tA txR0)] W (fun e w' => e = .returned (.bool false) ∧ Ext W w') from by rw [← vSg_zero pb]; exact txVerify_any pb txR0 W ((HT5.out.ext he6).ext h))
      have HS7 := Lib.hid (fun (W : World) (h : Ext w6 W) => (⟨(HSS.out W (HX6.out.trans h)).1, st_facts ((HC5.out.ext he6).ext h)⟩ : (∀ i, i < 8 → W.cell? ⟨w.heap.size, i, none⟩ = some (.int .u8 (nb8 seed i))) ∧ (W.cell? ⟨w2.heap.size, 0, none⟩ = some (.int .i64 txR0.ac) ∧ W.cell? ⟨w2.heap.size, 1, none⟩ = some (.int .i64 txR0.sq) ∧ W.cell? ⟨w2.heap.size, 2, none⟩ = some (.slice txR0.A txR0.n txR0.c) ∧ W.cell? ⟨w2.heap.size, 3, none⟩ = some (.slice txR0.S txR0.m txR0.d))))
      clear he6 a0 a1 a2 a3 b0 b1 b2 b3 HEQ
      go_wp2_with fail
      have hX := (Ext.refl w6).drew'
      go_region_held3 (fun w' => (∀ i, i < 8 → w'.cell? ⟨w.heap.size, i, none⟩ = some (.int .u8 (nb8 seed i))) ∧ (w'.cell? ⟨w2.heap.size, 0, none⟩ = some (.int .i64 txR0.ac) ∧ w'.cell? ⟨w2.heap.size, 1, none⟩ = some (.int .i64 txR0.sq) ∧ w'.cell? ⟨w2.heap.size, 2, none⟩ = some (.slice txR0.A txR0.n txR0.c) ∧ w'.cell? ⟨w2.heap.size, 3, none⟩ = some (.slice txR0.S txR0.m txR0.d))) (first | (with_reducible exact HS7.out _ hX) | fail "KEEP") (first | (go_at_call 12; (with_reducible refine (HPB.out _).mono ?_); rintro e wa ⟨rfl, he⟩; have hX := hX.trans he; clear he) | (go_at_call 11; (with_reducible refine (HVR.out _ hX).mono ?_); rintro e wb ⟨rfl, he⟩; have hX := hX.trans he; clear he) | (go_at_call 7; (with_reducible refine (HAW.out _).mono ?_); rintro e wc ⟨rfl, he⟩; have hX := hX.trans he; clear he) | fail "ARM")
      all_goals (
        have HXF := Lib.hid (HE.out.trans (HX6.out.trans hX))
        clear hX
        go_wp2_with fail
        go_ret
        exact ⟨rfl, HXF.out⟩)
    · have HVF := Lib.hid hvf
      clear hvf q0 q1 q2 hrn
      have hE3 := he2.trans ((Ext.refl w2).alloc' (.cells (tA T) 31))
      have HX3 := Lib.hid (HX1.out.trans hE3)
      have HC3 := Lib.hid (Blk.new w2 31 (tA T))
      have HT3 := Lib.hid (show T.ok (w2.alloc (.cells (tA T) 31)) from hTo.ext ((Ext.refl w2).alloc' _))
      have hrn := rangeN (HB0.out.ext HX3.out)
      obtain ⟨q, q0, q1, q2⟩ := HSS.out _ HX3.out
      clear he2 hE3 q
      go_wp2_with (first | (with_reducible refine wpList_newT rfl (.tmp 5) (.tmp 16) rfl _ rfl T rfl rfl ?_) | (with_reducible refine wpList_loadN rfl (.tmp 2) rfl w.heap.size 0 rfl seed hrn ?_))
      refine (refSignTx_any seed ac sq A n c L _ (HS.out.ext HX3.out)).mono ?_
      rintro e w4 ⟨he4, h4⟩
      rcases h4 with ⟨h4, _⟩ | ⟨_, U, rfl, hUo, hUv⟩
      · rw [HVF.out] at h4; cases h4
      have hE5 := he4.trans ((Ext.refl w4).alloc' (.cells (tA U) 31))
      have HX5 := Lib.hid (HX3.out.trans hE5)
      have HC5 := Lib.hid (HC3.out.ext hE5)
      have HT5 := Lib.hid (HT3.out.ext hE5)
      have HEQ := Lib.hid (show Calls Tryz.prog 10 #[.agg (tA T), .agg (tA U)] (w4.alloc (.cells (tA U) 31)) (fun e w' => e = .returned (.bool true) ∧ Ext (w4.alloc (.cells (tA U) 31)) w') from by rw [← (eqT_iff T U).2 (hTv.trans hUv.symm)]; exact equalTx_any T U _ HT5.out (hUo.ext ((Ext.refl w4).alloc' _)))
      obtain ⟨a0, a1, a2, a3⟩ := st_facts HC5.out
      obtain ⟨b0, b1, b2, b3⟩ := st_facts (Blk.new w4 31 (tA U))
      have HVT := Lib.hid (vSg_right seed pb ac sq L HPE.out HLN.out HVF.out T (lens_of HT5.out) hTv)
      clear he4 hE5 q0 q1 q2 hrn hUo hUv
      go_wp2_with (first | (with_reducible refine wpList_newT rfl (.tmp 7) (.tmp 22) rfl _ rfl U rfl rfl ?_))
      refine HEQ.out.mono ?_
      rintro e w6 ⟨rfl, he6⟩
      have HX6 := Lib.hid (HX5.out.trans he6)
      have HVR := Lib.hid (fun (W : World) (h : Ext w6 W) => show Calls Tryz.prog 11 #[.agg (nmc pb), .agg (tA T)] W (fun e w' => e = .returned (.bool true) ∧ Ext W w') from by rw [← HVT.out]; exact txVerify_any pb T W ((HT5.out.ext he6).ext h))
      have HS7 := Lib.hid (fun (W : World) (h : Ext w6 W) => (⟨(HSS.out W (HX6.out.trans h)).1, st_facts ((HC5.out.ext he6).ext h)⟩ : (∀ i, i < 8 → W.cell? ⟨w.heap.size, i, none⟩ = some (.int .u8 (nb8 seed i))) ∧ (W.cell? ⟨w2.heap.size, 0, none⟩ = some (.int .i64 T.ac) ∧ W.cell? ⟨w2.heap.size, 1, none⟩ = some (.int .i64 T.sq) ∧ W.cell? ⟨w2.heap.size, 2, none⟩ = some (.slice T.A T.n T.c) ∧ W.cell? ⟨w2.heap.size, 3, none⟩ = some (.slice T.S T.m T.d))))
      clear he6 a0 a1 a2 a3 b0 b1 b2 b3 HEQ hTv hTo
      go_wp2_with fail
      have hX := (Ext.refl w6).drew'
      go_region_held3 (fun w' => (∀ i, i < 8 → w'.cell? ⟨w.heap.size, i, none⟩ = some (.int .u8 (nb8 seed i))) ∧ (w'.cell? ⟨w2.heap.size, 0, none⟩ = some (.int .i64 T.ac) ∧ w'.cell? ⟨w2.heap.size, 1, none⟩ = some (.int .i64 T.sq) ∧ w'.cell? ⟨w2.heap.size, 2, none⟩ = some (.slice T.A T.n T.c) ∧ w'.cell? ⟨w2.heap.size, 3, none⟩ = some (.slice T.S T.m T.d))) (first | (with_reducible exact HS7.out _ hX) | fail "KEEP") (first | (go_at_call 12; (with_reducible refine (HPB.out _).mono ?_); rintro e wa ⟨rfl, he⟩; have hX := hX.trans he; clear he) | (go_at_call 11; (with_reducible refine (HVR.out _ hX).mono ?_); rintro e wb ⟨rfl, he⟩; have hX := hX.trans he; clear he) | (go_at_call 7; (with_reducible refine (HAW.out _).mono ?_); rintro e wc ⟨rfl, he⟩; have hX := hX.trans he; clear he) | fail "ARM")
      all_goals (
        have HXF := Lib.hid (HE.out.trans (HX6.out.trans hX))
        clear hX
        go_wp2_with fail
        go_ret
        exact ⟨rfl, HXF.out⟩)
end Go.Proofs.YtcfmlgbocdjabaaGreat
