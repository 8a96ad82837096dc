/- The view that the bytes of a parcel tell (the reference's DecodeParcel). -/
import Derived.Test.YtbfepgjeecndiaaGreatJ47
namespace Go.Proofs.YtbfepgjeecndiaaGreat
set_option maxRecDepth 100000
set_option maxHeartbeats 8000000
open Go.RowKit
set_option linter.unusedVariables false
set_option linter.unusedSimpArgs false
attribute [local go_sem ↓] Go.wp_at_zero Go.wp_at_succ
theorem rPcDec_short (A : Option Addr) (n c : Nat) (l : List UInt8) (w : World) (hS : SlB w A n c l) (hn : n < 8) :
  Calls Tryz.prog 13 #[.slice A n c] w (PcDec w l) := by
 have hcap := hS.cap
 have hle := hS.le
 have HL := Lib.hid hS.len
 have HE := Lib.hid ((Ext.refl w).alloc' (.cells (vwA none 0 0 none 0 0) 25))
 have HB := Lib.hid (Blk.new w 25 (vwA none 0 0 none 0 0))
 have ht : (w.alloc (.cells (vwA none 0 0 none 0 0) 25)).there w.heap.size 0 2 := there_of_blk HB.out
 have hst := blk_whole (ds := vwA none 0 0 none 0 0) HB.out rfl
 have i1 : (n : Int) < 8 := by omega
 clear hS
 go_enter Tryz.func13, Tryz.ntmps13
 go_wp2_with (first | (with_reducible refine wpList_storeVw rfl (.tmp 2) (.tmp 10) rfl w.heap.size none 0 0 none 0 0 rfl rfl ht ?_))
 exact bodyPost_ret (v := .tuple #[.agg (vwA none 0 0 none 0 0), .int .i64 2]) (retCV rfl _ _ w.heap.size _ _ rfl rfl (run_loadVar_row _ _ _ _ _ (0, 0) _ hst Tryz.underlying25 rfl (by kernel_rfl))) rfl ⟨none, 0, 0, [], none, 0, 0, [], 2, rfl, VwO.nil _ _, Below.setCells' HE.out (Nat.le_refl _) _ _, .inl ⟨rfl, by rw [HL.out]; exact hn, rfl, rfl⟩⟩
theorem rPcDec_long (A : Option Addr) (n c : Nat) (l : List UInt8) (w : World) (hS : SlB w A n c l) (hn : 8 ≤ n) (hbd : n ≤ 1000000) (hcn : ¬ c = 8) :
  Calls Tryz.prog 13 #[.slice A n c] w (PcDec w l) := by
 have hcap := hS.cap
 have hle := hS.le
 have HL := Lib.hid hS.len
 obtain ⟨b, o, rfl, hr, hb⟩ := hS.at (by omega)
 have HE := Lib.hid ((Ext.refl w).alloc' (.cells (vwA none 0 0 none 0 0) 25))
 have HB := Lib.hid (Blk.new w 25 (vwA none 0 0 none 0 0))
 have e1 : (bcs l).take 8 = bcs (l.take 8) := by simp [bcs]
 have e2 : (bcs l).drop 8 = bcs (l.drop 8) := by simp [bcs]
 have i1 : ¬ (n : Int) < 8 := by omega
 have i2 : (8 : Int) ≤ (n : Int) := by omega
 have i3 : (8 : Int) ≤ (c : Int) := by omega
 ·have HA := Lib.hid (fun (W : World) (h : Ext w W) => show SlB W (some ⟨b, o, none⟩) 8 c (l.take 8) from slB_at (by have := rangeAt_take (k := 8) (rangeAt_keep hr (h.block b hb)); rwa [e1] at this) (by rw [List.length_take, HL.out]; omega) (by omega) (by omega))
  have HD := Lib.hid (fun (W : World) (h : Ext w W) => show SlB W (some ⟨b, o + 8, none⟩) (n - 8) (c - 8) (l.drop 8) from slB_at (by have := rangeAt_drop (k := 8) (rangeAt_keep hr (h.block b hb)); rwa [e2] at this) (by rw [List.length_drop, HL.out]) (by omega) (by omega))
  clear hS hr e1 e2
  go_enter Tryz.func13, Tryz.ntmps13
  go_wp2_with fail
  refine (rTagged89 _ (n - 8) (c - 8) (l.drop 8) _ (HD.out _ HE.out) (by omega)).mono ?_
  rintro e w1 ⟨rfl, he1⟩
  have HX1 := Lib.hid (HE.out.trans he1)
  have HB1 := Lib.hid (HB.out.ext he1)
  obtain ⟨N, hN⟩ : ∃ N, tagU 89 (l.drop 8) = N := ⟨_, rfl⟩
  have HNN := Lib.hid hN
  rw [hN]
  clear he1 hN
  go_wp2_with (first | (with_reducible refine wpList_storeNew rfl (.tmp 4) (.tmp 13) rfl w1.heap.size N rfl rfl rfl ?_))
  have HX2 := Lib.hid (HX1.out.alloc' (.cells (nmc N) 44))
  have HB2 := Lib.hid (HB1.out.alloc (.cells (nmc N) 44))
  have HBN := Lib.hid (Blk.new w1 44 (nmc N))
  generalize w1.alloc (.cells (nmc N) 44) = W2 at HX2 HB2 HBN ⊢
  have HSN := Lib.hid (fun (W : World) (h : Ext W2 W) => slB_at (n := 8) (c := 8) (rangeNm (HBN.out.ext h)) (nmb_length _) (by omega) (by omega))
  clear HX1 HB1
  obtain ⟨q, hq⟩ : ∃ q, decide (nmb N = l.take 8) = q := ⟨_, rfl⟩
  have HQ := Lib.hid (show sumOk l = q by unfold sumOk; rw [HNN.out]; exact hq)
  obtain ⟨s1, hs1⟩ : ∃ s, strV (nmb N) = s := ⟨_, rfl⟩
  obtain ⟨s2, hs2⟩ : ∃ s, strV (l.take 8) = s := ⟨_, rfl⟩
  have HS1 := Lib.hid (fun (W : World) (he : Ext W2 W) => show (convert 28 9 (.slice (some ⟨w1.heap.size, 0, none⟩) 8 8)).run Tryz.prog W = .ok (.string s1) W from by rw [← hs1]; exact run_strV (HSN.out W he))
  have HS2 := Lib.hid (fun (W : World) (he : Ext W2 W) => show (convert 28 9 (.slice (some ⟨b, o, none⟩) 8 c)).run Tryz.prog W = .ok (.string s2) W from by rw [← hs2]; exact run_strV (HA.out W (HX2.out.trans he)))
  have hqq : (s1.toList == s2.toList) = q := by rw [← hs1, ← hs2, strV_eq', hq]
  clear hs1 hs2 hq
  cases q with
  | false =>
   refine wp_region_plan (S := fun W => Ext W2 W) (by kernel_rfl) (by kernel_rfl) ((Ext.refl W2).drew') ?_
   (refine pr 0 (oi := ⟨some 14, .slice 44 (.tmp 4) none none none, 28, "wallet.go:141", #[], none⟩) (v := ?_) rfl (by kernel_rfl) (by rfl) ?h ?_; case h => (intro W hSW; have f1 := HS1.out W hSW; have f2 := HS2.out W hSW; go_simp <;> with_reducible rfl))
   try simp only [lays]
   (refine pr 1 (oi := ⟨some 15, .convert 28 9 (.tmp 14), 9, "wallet.go:141", #[⟨0, .data⟩], none⟩) (v := ?_) rfl (by kernel_rfl) (by rfl) ?h ?_; case h => (intro W hSW; have f1 := HS1.out W hSW; have f2 := HS2.out W hSW; go_simp <;> with_reducible rfl))
   try simp only [lays]
   (refine pr 2 (oi := ⟨some 16, .move (.tmp 0), 28, "wallet.go:141", #[], none⟩) (v := ?_) rfl (by kernel_rfl) (by rfl) ?h ?_; case h => (intro W hSW; go_simp <;> with_reducible rfl))
   try simp only [lays]
   (refine pr 3 (oi := ⟨some 17, .slice 28 (.tmp 16) none (some (.const (.int .i64 8))) none, 28, "wallet.go:141", #[⟨2, .data⟩], none⟩) (v := ?_) rfl (by kernel_rfl) (by rfl) ?h ?_; case h => (intro W hSW; have f1 := HS1.out W hSW; have f2 := HS2.out W hSW; go_simp <;> with_reducible rfl))
   try simp only [lays]
   (refine pr 4 (oi := ⟨some 18, .convert 28 9 (.tmp 17), 9, "wallet.go:141", #[⟨3, .data⟩], none⟩) (v := ?_) rfl (by kernel_rfl) (by rfl) ?h ?_; case h => (intro W hSW; have f1 := HS1.out W hSW; have f2 := HS2.out W hSW; go_simp <;> with_reducible rfl))
   try simp only [lays]
   (refine pr 5 (oi := ⟨some 19, .binOp .neq 9 (.tmp 15) (.tmp 18) 9, 4, "wallet.go:141", #[⟨1, .data⟩, ⟨4, .data⟩], none⟩) (v := ?_) rfl (by kernel_rfl) (by rfl) ?h ?_; case h => (intro W hSW; go_simp <;> with_reducible rfl))
   try simp only [lays]
   refine Plan.done (by kernel_rfl) (fun W hSW => ?_)
   have HX3 := Lib.hid (HX2.out.trans hSW)
   have HB3 := Lib.hid (HB2.out.ext hSW)
   have ht : W.there w.heap.size 0 2 := there_of_blk HB3.out
   clear hSW
   have hst := blk_whole (ds := vwA none 0 0 none 0 0) HB3.out rfl
   go_wp2_with (first | (with_reducible refine wpList_storeVw rfl (.tmp 2) (.tmp 20) rfl w.heap.size none 0 0 none 0 0 rfl rfl ht ?_))
   exact bodyPost_ret (v := .tuple #[.agg (vwA none 0 0 none 0 0), .int .i64 104]) (retCV rfl _ _ w.heap.size _ _ rfl rfl (run_loadVar_row _ _ _ _ _ (0, 0) _ hst Tryz.underlying25 rfl (by kernel_rfl))) rfl ⟨none, 0, 0, [], none, 0, 0, [], 104, rfl, VwO.nil _ _, Below.setCells' HX3.out (Nat.le_refl _) _ _, .inr (.inl ⟨rfl, by rw [HL.out]; exact hn, HQ.out, rfl, rfl⟩)⟩
  | true =>
   refine wp_region_plan (S := fun W => Ext W2 W) (by kernel_rfl) (by kernel_rfl) ((Ext.refl W2).drew') ?_
   (refine pr 0 (oi := ⟨some 14, .slice 44 (.tmp 4) none none none, 28, "wallet.go:141", #[], none⟩) (v := ?_) rfl (by kernel_rfl) (by rfl) ?h ?_; case h => (intro W hSW; have f1 := HS1.out W hSW; have f2 := HS2.out W hSW; go_simp <;> with_reducible rfl))
   try simp only [lays]
   (refine pr 1 (oi := ⟨some 15, .convert 28 9 (.tmp 14), 9, "wallet.go:141", #[⟨0, .data⟩], none⟩) (v := ?_) rfl (by kernel_rfl) (by rfl) ?h ?_; case h => (intro W hSW; have f1 := HS1.out W hSW; have f2 := HS2.out W hSW; go_simp <;> with_reducible rfl))
   try simp only [lays]
   (refine pr 2 (oi := ⟨some 16, .move (.tmp 0), 28, "wallet.go:141", #[], none⟩) (v := ?_) rfl (by kernel_rfl) (by rfl) ?h ?_; case h => (intro W hSW; go_simp <;> with_reducible rfl))
   try simp only [lays]
   (refine pr 3 (oi := ⟨some 17, .slice 28 (.tmp 16) none (some (.const (.int .i64 8))) none, 28, "wallet.go:141", #[⟨2, .data⟩], none⟩) (v := ?_) rfl (by kernel_rfl) (by rfl) ?h ?_; case h => (intro W hSW; have f1 := HS1.out W hSW; have f2 := HS2.out W hSW; go_simp <;> with_reducible rfl))
   try simp only [lays]
   (refine pr 4 (oi := ⟨some 18, .convert 28 9 (.tmp 17), 9, "wallet.go:141", #[⟨3, .data⟩], none⟩) (v := ?_) rfl (by kernel_rfl) (by rfl) ?h ?_; case h => (intro W hSW; have f1 := HS1.out W hSW; have f2 := HS2.out W hSW; go_simp <;> with_reducible rfl))
   try simp only [lays]
   (refine pr 5 (oi := ⟨some 19, .binOp .neq 9 (.tmp 15) (.tmp 18) 9, 4, "wallet.go:141", #[⟨1, .data⟩, ⟨4, .data⟩], none⟩) (v := ?_) rfl (by kernel_rfl) (by rfl) ?h ?_; case h => (intro W hSW; go_simp <;> with_reducible rfl))
   try simp only [lays]
   refine Plan.done (by kernel_rfl) (fun W hSW => ?_)
   have HX3 := Lib.hid (HX2.out.trans hSW)
   have HB3 := Lib.hid (HB2.out.ext hSW)
   have ht : W.there w.heap.size 0 2 := there_of_blk HB3.out
   clear hSW
   clear ht
   go_wp2_with fail
   refine (rDec_any _ (n - 8) (c - 8) (l.drop 8) W (HD.out _ HX3.out) (by omega)).mono ?_
   intro e w4 h4
   obtain ⟨he4, hcase⟩ := h4
   have HX4 := Lib.hid (HX3.out.trans he4)
   have HB4 := Lib.hid (HB3.out.ext he4)
   clear he4
   rcases hcase with ⟨A4, n4, c4, L4, B4, m4, d4, X4, rfl, hvo, hraw, hord, hall⟩ | ⟨rfl, hno⟩
   ·have hs1 := hvo.sl1
    have hs2 := hvo.sl2
    have HVO := Lib.hid (hvo.ext ((Ext.refl w4).alloc' (.cells (vwA A4 n4 c4 B4 m4 d4) 25)))
    have HL4 := Lib.hid hs1.len
    have HM4 := Lib.hid hs2.len
    have hb1 := hs1.le
    have hb2 := hs1.cap
    have hb3 := hs2.le
    have hb4 := hs2.cap
    have HX5 := Lib.hid (HX4.out.alloc' (.cells (vwA A4 n4 c4 B4 m4 d4) 25))
    have HB5 := Lib.hid (HB4.out.alloc (.cells (vwA A4 n4 c4 B4 m4 d4) 25))
    have HBV := Lib.hid (Blk.new w4 25 (vwA A4 n4 c4 B4 m4 d4))
    have HS1 := Lib.hid (hs1.ext ((Ext.refl w4).alloc' (.cells (vwA A4 n4 c4 B4 m4 d4) 25)))
    have HS2 := Lib.hid (hs2.ext ((Ext.refl w4).alloc' (.cells (vwA A4 n4 c4 B4 m4 d4) 25)))
    have HRW := Lib.hid (And.intro hraw (And.intro hord hall))
    obtain ⟨y0, y1⟩ := vw_facts HBV.out
    clear hs1 hs2 hraw hord hall hvo
    have HB6 := HB5
    have HX6 := HX5
    have HVO6 := HVO
    have ht : (w4.alloc (.cells (vwA A4 n4 c4 B4 m4 d4) 25)).there w.heap.size 0 2 := there_of_blk HB6.out
    cases hv : lrgN n4 m4 with
    | true =>
     have HLG := Lib.hid (show lrgN L4.length X4.length = true by rw [HL4.out, HM4.out]; exact hv)
     have hst := blk_whole (ds := vwA none 0 0 none 0 0) HB6.out rfl
     have hor : 64 < n4 ∨ 64 < m4 := by
      unfold lrgN at hv
      simpa using hv
     clear hv
     by_cases g1 : (n4 : Int) > 64
     ·go_wp2_with (first | (with_reducible refine wpList_newVw rfl (.tmp 5) (.tmp 25) rfl _ rfl A4 n4 c4 B4 m4 d4 rfl rfl ?_) | (with_reducible refine wpList_storeVw rfl (.tmp 2) (.tmp 40) rfl w.heap.size none 0 0 none 0 0 rfl rfl ht ?_))
      exact bodyPost_ret (v := .tuple #[.agg (vwA none 0 0 none 0 0), .int .i64 5]) (retCV rfl _ _ w.heap.size _ _ rfl rfl (run_loadVar_row _ _ _ _ _ (0, 0) _ hst Tryz.underlying25 rfl (by kernel_rfl))) rfl ⟨none, 0, 0, [], none, 0, 0, [], 5, rfl, VwO.nil _ _, Below.setCells' HX6.out (Nat.le_refl _) _ _, .inr (.inr (.inr (.inl ⟨rfl, by rw [HL.out]; exact hn, HQ.out, rfl, rfl, L4, X4, HRW.out.1, HRW.out.2.1, HLG.out⟩)))⟩
     ·have g2 : (m4 : Int) > 64 := by omega
      clear hor
      go_wp2_with (first | (with_reducible refine wpList_newVw rfl (.tmp 5) (.tmp 25) rfl _ rfl A4 n4 c4 B4 m4 d4 rfl rfl ?_) | (with_reducible refine wpList_storeVw rfl (.tmp 2) (.tmp 40) rfl w.heap.size none 0 0 none 0 0 rfl rfl ht ?_))
      exact bodyPost_ret (v := .tuple #[.agg (vwA none 0 0 none 0 0), .int .i64 5]) (retCV rfl _ _ w.heap.size _ _ rfl rfl (run_loadVar_row _ _ _ _ _ (0, 0) _ hst Tryz.underlying25 rfl (by kernel_rfl))) rfl ⟨none, 0, 0, [], none, 0, 0, [], 5, rfl, VwO.nil _ _, Below.setCells' HX6.out (Nat.le_refl _) _ _, .inr (.inr (.inr (.inl ⟨rfl, by rw [HL.out]; exact hn, HQ.out, rfl, rfl, L4, X4, HRW.out.1, HRW.out.2.1, HLG.out⟩)))⟩
    | false =>
     have HLG := Lib.hid (show lrgN L4.length X4.length = false by rw [HL4.out, HM4.out]; exact hv)
     have hst := blk_whole (ds := vwA A4 n4 c4 B4 m4 d4) HB6.out rfl
     have hnor : ¬ (n4 : Int) > 64 ∧ ¬ (m4 : Int) > 64 := by
      unfold lrgN at hv
      simp only [Bool.or_eq_false_iff, decide_eq_false_iff_not] at hv
      omega
     obtain ⟨g1, g2⟩ := hnor
     clear hv
     go_wp2_with (first | (with_reducible refine wpList_newVw rfl (.tmp 5) (.tmp 25) rfl _ rfl A4 n4 c4 B4 m4 d4 rfl rfl ?_) | (with_reducible refine wpList_storeVw rfl (.tmp 2) (.tmp 41) rfl w.heap.size A4 n4 c4 B4 m4 d4 rfl rfl ht ?_))
     have HVF := Lib.hid (HVO6.out.set HB6.out (vwA A4 n4 c4 B4 m4 d4).toList)
     exact bodyPost_ret (v := .tuple #[.agg (vwA A4 n4 c4 B4 m4 d4), .int .i64 0]) (retCV rfl _ _ w.heap.size _ _ rfl rfl (run_loadVar_row _ _ _ _ _ (0, 0) _ hst Tryz.underlying25 rfl (by kernel_rfl))) rfl ⟨A4, n4, c4, L4, B4, m4, d4, X4, 0, rfl, HVF.out.mono HX3.out.size, Below.setCells' HX6.out (Nat.le_refl _) _ _, .inr (.inr (.inr (.inr ⟨rfl, by rw [HL.out]; exact hn, HQ.out, HRW.out.1, HRW.out.2.1, HLG.out, HRW.out.2.2⟩)))⟩
   ·have HNO := Lib.hid hno
    have HX5 := Lib.hid (HX4.out.alloc' (.cells (vwA none 0 0 none 0 0) 25))
    have HB5 := Lib.hid (HB4.out.alloc (.cells (vwA none 0 0 none 0 0) 25))
    have ht : (w4.alloc (.cells (vwA none 0 0 none 0 0) 25)).there w.heap.size 0 2 := there_of_blk HB5.out
    have hst := blk_whole (ds := vwA none 0 0 none 0 0) HB5.out rfl
    clear hno
    go_wp2_with (first | (with_reducible refine wpList_newVw rfl (.tmp 5) (.tmp 25) rfl _ rfl none 0 0 none 0 0 rfl rfl ?_) | (with_reducible refine wpList_storeVw rfl (.tmp 2) (.tmp 29) rfl w.heap.size none 0 0 none 0 0 rfl rfl ht ?_))
    exact bodyPost_ret (v := .tuple #[.agg (vwA none 0 0 none 0 0), .int .i64 4]) (retCV rfl _ _ w.heap.size _ _ rfl rfl (run_loadVar_row _ _ _ _ _ (0, 0) _ hst Tryz.underlying25 rfl (by kernel_rfl))) rfl ⟨none, 0, 0, [], none, 0, 0, [], 4, rfl, VwO.nil _ _, Below.setCells' HX5.out (Nat.le_refl _) _ _, .inr (.inr (.inl ⟨rfl, by rw [HL.out]; exact hn, HQ.out, rfl, rfl, HNO.out⟩))⟩
theorem rPcDec_eight (A : Option Addr) (l : List UInt8) (w : World) (hS : SlB w A 8 8 l) :
  Calls Tryz.prog 13 #[.slice A 8 8] w (PcDec w l) := by
 have hcap := hS.cap
 have hle := hS.le
 have HL := Lib.hid hS.len
 obtain ⟨b, o, rfl, hr, hb⟩ := hS.at (by omega)
 have HE := Lib.hid ((Ext.refl w).alloc' (.cells (vwA none 0 0 none 0 0) 25))
 have HB := Lib.hid (Blk.new w 25 (vwA none 0 0 none 0 0))
 have e1 : (bcs l).take 8 = bcs (l.take 8) := by simp [bcs]
 have e2 : (bcs l).drop 8 = bcs (l.drop 8) := by simp [bcs]
 have hl0 : l.drop 8 = [] := List.eq_nil_of_length_eq_zero (by rw [List.length_drop, HL.out])
 ·have HA := Lib.hid (fun (W : World) (h : Ext w W) => show SlB W (some ⟨b, o, none⟩) 8 8 (l.take 8) from slB_at (by have := rangeAt_take (k := 8) (rangeAt_keep hr (h.block b hb)); rwa [e1] at this) (by rw [List.length_take, HL.out]; omega) (by omega) (by omega))
  have HD := Lib.hid (fun (W : World) (h : Ext w W) => show SlB W (some ⟨b, o, none⟩) 0 0 (l.drop 8) from by rw [hl0]; exact ⟨rfl, Nat.le_refl _, by omega, .nil⟩)
  clear hS hr e1 e2 hl0
  go_enter Tryz.func13, Tryz.ntmps13
  go_wp2_with fail
  refine (rTagged89 _ 0 0 (l.drop 8) _ (HD.out _ HE.out) (by omega)).mono ?_
  rintro e w1 ⟨rfl, he1⟩
  have HX1 := Lib.hid (HE.out.trans he1)
  have HB1 := Lib.hid (HB.out.ext he1)
  obtain ⟨N, hN⟩ : ∃ N, tagU 89 (l.drop 8) = N := ⟨_, rfl⟩
  have HNN := Lib.hid hN
  rw [hN]
  clear he1 hN
  go_wp2_with (first | (with_reducible refine wpList_storeNew rfl (.tmp 4) (.tmp 13) rfl w1.heap.size N rfl rfl rfl ?_))
  have HX2 := Lib.hid (HX1.out.alloc' (.cells (nmc N) 44))
  have HB2 := Lib.hid (HB1.out.alloc (.cells (nmc N) 44))
  have HBN := Lib.hid (Blk.new w1 44 (nmc N))
  generalize w1.alloc (.cells (nmc N) 44) = W2 at HX2 HB2 HBN ⊢
  have HSN := Lib.hid (fun (W : World) (h : Ext W2 W) => slB_at (n := 8) (c := 8) (rangeNm (HBN.out.ext h)) (nmb_length _) (by omega) (by omega))
  clear HX1 HB1
  obtain ⟨q, hq⟩ : ∃ q, decide (nmb N = l.take 8) = q := ⟨_, rfl⟩
  have HQ := Lib.hid (show sumOk l = q by unfold sumOk; rw [HNN.out]; exact hq)
  obtain ⟨s1, hs1⟩ : ∃ s, strV (nmb N) = s := ⟨_, rfl⟩
  obtain ⟨s2, hs2⟩ : ∃ s, strV (l.take 8) = s := ⟨_, rfl⟩
  have HS1 := Lib.hid (fun (W : World) (he : Ext W2 W) => show (convert 28 9 (.slice (some ⟨w1.heap.size, 0, none⟩) 8 8)).run Tryz.prog W = .ok (.string s1) W from by rw [← hs1]; exact run_strV (HSN.out W he))
  have HS2 := Lib.hid (fun (W : World) (he : Ext W2 W) => show (convert 28 9 (.slice (some ⟨b, o, none⟩) 8 8)).run Tryz.prog W = .ok (.string s2) W from by rw [← hs2]; exact run_strV (HA.out W (HX2.out.trans he)))
  have hqq : (s1.toList == s2.toList) = q := by rw [← hs1, ← hs2, strV_eq', hq]
  clear hs1 hs2 hq
  cases q with
  | false =>
   refine wp_region_plan (S := fun W => Ext W2 W) (by kernel_rfl) (by kernel_rfl) ((Ext.refl W2).drew') ?_
   (refine pr 0 (oi := ⟨some 14, .slice 44 (.tmp 4) none none none, 28, "wallet.go:141", #[], none⟩) (v := ?_) rfl (by kernel_rfl) (by rfl) ?h ?_; case h => (intro W hSW; have f1 := HS1.out W hSW; have f2 := HS2.out W hSW; go_simp <;> with_reducible rfl))
   try simp only [lays]
   (refine pr 1 (oi := ⟨some 15, .convert 28 9 (.tmp 14), 9, "wallet.go:141", #[⟨0, .data⟩], none⟩) (v := ?_) rfl (by kernel_rfl) (by rfl) ?h ?_; case h => (intro W hSW; have f1 := HS1.out W hSW; have f2 := HS2.out W hSW; go_simp <;> with_reducible rfl))
   try simp only [lays]
   (refine pr 2 (oi := ⟨some 16, .move (.tmp 0), 28, "wallet.go:141", #[], none⟩) (v := ?_) rfl (by kernel_rfl) (by rfl) ?h ?_; case h => (intro W hSW; go_simp <;> with_reducible rfl))
   try simp only [lays]
   (refine pr 3 (oi := ⟨some 17, .slice 28 (.tmp 16) none (some (.const (.int .i64 8))) none, 28, "wallet.go:141", #[⟨2, .data⟩], none⟩) (v := ?_) rfl (by kernel_rfl) (by rfl) ?h ?_; case h => (intro W hSW; have f1 := HS1.out W hSW; have f2 := HS2.out W hSW; go_simp <;> with_reducible rfl))
   try simp only [lays]
   (refine pr 4 (oi := ⟨some 18, .convert 28 9 (.tmp 17), 9, "wallet.go:141", #[⟨3, .data⟩], none⟩) (v := ?_) rfl (by kernel_rfl) (by rfl) ?h ?_; case h => (intro W hSW; have f1 := HS1.out W hSW; have f2 := HS2.out W hSW; go_simp <;> with_reducible rfl))
   try simp only [lays]
   (refine pr 5 (oi := ⟨some 19, .binOp .neq 9 (.tmp 15) (.tmp 18) 9, 4, "wallet.go:141", #[⟨1, .data⟩, ⟨4, .data⟩], none⟩) (v := ?_) rfl (by kernel_rfl) (by rfl) ?h ?_; case h => (intro W hSW; go_simp <;> with_reducible rfl))
   try simp only [lays]
   refine Plan.done (by kernel_rfl) (fun W hSW => ?_)
   have HX3 := Lib.hid (HX2.out.trans hSW)
   have HB3 := Lib.hid (HB2.out.ext hSW)
   have ht : W.there w.heap.size 0 2 := there_of_blk HB3.out
   clear hSW
   have hst := blk_whole (ds := vwA none 0 0 none 0 0) HB3.out rfl
   go_wp2_with (first | (with_reducible refine wpList_storeVw rfl (.tmp 2) (.tmp 20) rfl w.heap.size none 0 0 none 0 0 rfl rfl ht ?_))
   exact bodyPost_ret (v := .tuple #[.agg (vwA none 0 0 none 0 0), .int .i64 104]) (retCV rfl _ _ w.heap.size _ _ rfl rfl (run_loadVar_row _ _ _ _ _ (0, 0) _ hst Tryz.underlying25 rfl (by kernel_rfl))) rfl ⟨none, 0, 0, [], none, 0, 0, [], 104, rfl, VwO.nil _ _, Below.setCells' HX3.out (Nat.le_refl _) _ _, .inr (.inl ⟨rfl, by rw [HL.out]; exact Nat.le_refl _, HQ.out, rfl, rfl⟩)⟩
  | true =>
   refine wp_region_plan (S := fun W => Ext W2 W) (by kernel_rfl) (by kernel_rfl) ((Ext.refl W2).drew') ?_
   (refine pr 0 (oi := ⟨some 14, .slice 44 (.tmp 4) none none none, 28, "wallet.go:141", #[], none⟩) (v := ?_) rfl (by kernel_rfl) (by rfl) ?h ?_; case h => (intro W hSW; have f1 := HS1.out W hSW; have f2 := HS2.out W hSW; go_simp <;> with_reducible rfl))
   try simp only [lays]
   (refine pr 1 (oi := ⟨some 15, .convert 28 9 (.tmp 14), 9, "wallet.go:141", #[⟨0, .data⟩], none⟩) (v := ?_) rfl (by kernel_rfl) (by rfl) ?h ?_; case h => (intro W hSW; have f1 := HS1.out W hSW; have f2 := HS2.out W hSW; go_simp <;> with_reducible rfl))
   try simp only [lays]
   (refine pr 2 (oi := ⟨some 16, .move (.tmp 0), 28, "wallet.go:141", #[], none⟩) (v := ?_) rfl (by kernel_rfl) (by rfl) ?h ?_; case h => (intro W hSW; go_simp <;> with_reducible rfl))
   try simp only [lays]
   (refine pr 3 (oi := ⟨some 17, .slice 28 (.tmp 16) none (some (.const (.int .i64 8))) none, 28, "wallet.go:141", #[⟨2, .data⟩], none⟩) (v := ?_) rfl (by kernel_rfl) (by rfl) ?h ?_; case h => (intro W hSW; have f1 := HS1.out W hSW; have f2 := HS2.out W hSW; go_simp <;> with_reducible rfl))
   try simp only [lays]
   (refine pr 4 (oi := ⟨some 18, .convert 28 9 (.tmp 17), 9, "wallet.go:141", #[⟨3, .data⟩], none⟩) (v := ?_) rfl (by kernel_rfl) (by rfl) ?h ?_; case h => (intro W hSW; have f1 := HS1.out W hSW; have f2 := HS2.out W hSW; go_simp <;> with_reducible rfl))
   try simp only [lays]
   (refine pr 5 (oi := ⟨some 19, .binOp .neq 9 (.tmp 15) (.tmp 18) 9, 4, "wallet.go:141", #[⟨1, .data⟩, ⟨4, .data⟩], none⟩) (v := ?_) rfl (by kernel_rfl) (by rfl) ?h ?_; case h => (intro W hSW; go_simp <;> with_reducible rfl))
   try simp only [lays]
   refine Plan.done (by kernel_rfl) (fun W hSW => ?_)
   have HX3 := Lib.hid (HX2.out.trans hSW)
   have HB3 := Lib.hid (HB2.out.ext hSW)
   have ht : W.there w.heap.size 0 2 := there_of_blk HB3.out
   clear hSW
   clear ht
   go_wp2_with fail
   refine (rDec_any _ 0 0 (l.drop 8) W (HD.out _ HX3.out) (by omega)).mono ?_
   intro e w4 h4
   obtain ⟨he4, hcase⟩ := h4
   have HX4 := Lib.hid (HX3.out.trans he4)
   have HB4 := Lib.hid (HB3.out.ext he4)
   clear he4
   rcases hcase with ⟨A4, n4, c4, L4, B4, m4, d4, X4, rfl, hvo, hraw, hord, hall⟩ | ⟨rfl, hno⟩
   ·have hs1 := hvo.sl1
    have hs2 := hvo.sl2
    have HVO := Lib.hid (hvo.ext ((Ext.refl w4).alloc' (.cells (vwA A4 n4 c4 B4 m4 d4) 25)))
    have HL4 := Lib.hid hs1.len
    have HM4 := Lib.hid hs2.len
    have hb1 := hs1.le
    have hb2 := hs1.cap
    have hb3 := hs2.le
    have hb4 := hs2.cap
    have HX5 := Lib.hid (HX4.out.alloc' (.cells (vwA A4 n4 c4 B4 m4 d4) 25))
    have HB5 := Lib.hid (HB4.out.alloc (.cells (vwA A4 n4 c4 B4 m4 d4) 25))
    have HBV := Lib.hid (Blk.new w4 25 (vwA A4 n4 c4 B4 m4 d4))
    have HS1 := Lib.hid (hs1.ext ((Ext.refl w4).alloc' (.cells (vwA A4 n4 c4 B4 m4 d4) 25)))
    have HS2 := Lib.hid (hs2.ext ((Ext.refl w4).alloc' (.cells (vwA A4 n4 c4 B4 m4 d4) 25)))
    have HRW := Lib.hid (And.intro hraw (And.intro hord hall))
    obtain ⟨y0, y1⟩ := vw_facts HBV.out
    clear hs1 hs2 hraw hord hall hvo
    have HB6 := HB5
    have HX6 := HX5
    have HVO6 := HVO
    have ht : (w4.alloc (.cells (vwA A4 n4 c4 B4 m4 d4) 25)).there w.heap.size 0 2 := there_of_blk HB6.out
    cases hv : lrgN n4 m4 with
    | true =>
     have HLG := Lib.hid (show lrgN L4.length X4.length = true by rw [HL4.out, HM4.out]; exact hv)
     have hst := blk_whole (ds := vwA none 0 0 none 0 0) HB6.out rfl
     have hor : 64 < n4 ∨ 64 < m4 := by
      unfold lrgN at hv
      simpa using hv
     clear hv
     by_cases g1 : (n4 : Int) > 64
     ·go_wp2_with (first | (with_reducible refine wpList_newVw rfl (.tmp 5) (.tmp 25) rfl _ rfl A4 n4 c4 B4 m4 d4 rfl rfl ?_) | (with_reducible refine wpList_storeVw rfl (.tmp 2) (.tmp 40) rfl w.heap.size none 0 0 none 0 0 rfl rfl ht ?_))
      exact bodyPost_ret (v := .tuple #[.agg (vwA none 0 0 none 0 0), .int .i64 5]) (retCV rfl _ _ w.heap.size _ _ rfl rfl (run_loadVar_row _ _ _ _ _ (0, 0) _ hst Tryz.underlying25 rfl (by kernel_rfl))) rfl ⟨none, 0, 0, [], none, 0, 0, [], 5, rfl, VwO.nil _ _, Below.setCells' HX6.out (Nat.le_refl _) _ _, .inr (.inr (.inr (.inl ⟨rfl, by rw [HL.out]; exact Nat.le_refl _, HQ.out, rfl, rfl, L4, X4, HRW.out.1, HRW.out.2.1, HLG.out⟩)))⟩
     ·have g2 : (m4 : Int) > 64 := by omega
      clear hor
      go_wp2_with (first | (with_reducible refine wpList_newVw rfl (.tmp 5) (.tmp 25) rfl _ rfl A4 n4 c4 B4 m4 d4 rfl rfl ?_) | (with_reducible refine wpList_storeVw rfl (.tmp 2) (.tmp 40) rfl w.heap.size none 0 0 none 0 0 rfl rfl ht ?_))
      exact bodyPost_ret (v := .tuple #[.agg (vwA none 0 0 none 0 0), .int .i64 5]) (retCV rfl _ _ w.heap.size _ _ rfl rfl (run_loadVar_row _ _ _ _ _ (0, 0) _ hst Tryz.underlying25 rfl (by kernel_rfl))) rfl ⟨none, 0, 0, [], none, 0, 0, [], 5, rfl, VwO.nil _ _, Below.setCells' HX6.out (Nat.le_refl _) _ _, .inr (.inr (.inr (.inl ⟨rfl, by rw [HL.out]; exact Nat.le_refl _, HQ.out, rfl, rfl, L4, X4, HRW.out.1, HRW.out.2.1, HLG.out⟩)))⟩
    | false =>
     have HLG := Lib.hid (show lrgN L4.length X4.length = false by rw [HL4.out, HM4.out]; exact hv)
     have hst := blk_whole (ds := vwA A4 n4 c4 B4 m4 d4) HB6.out rfl
     have hnor : ¬ (n4 : Int) > 64 ∧ ¬ (m4 : Int) > 64 := by
      unfold lrgN at hv
      simp only [Bool.or_eq_false_iff, decide_eq_false_iff_not] at hv
      omega
     obtain ⟨g1, g2⟩ := hnor
     clear hv
     go_wp2_with (first | (with_reducible refine wpList_newVw rfl (.tmp 5) (.tmp 25) rfl _ rfl A4 n4 c4 B4 m4 d4 rfl rfl ?_) | (with_reducible refine wpList_storeVw rfl (.tmp 2) (.tmp 41) rfl w.heap.size A4 n4 c4 B4 m4 d4 rfl rfl ht ?_))
     have HVF := Lib.hid (HVO6.out.set HB6.out (vwA A4 n4 c4 B4 m4 d4).toList)
     exact bodyPost_ret (v := .tuple #[.agg (vwA A4 n4 c4 B4 m4 d4), .int .i64 0]) (retCV rfl _ _ w.heap.size _ _ rfl rfl (run_loadVar_row _ _ _ _ _ (0, 0) _ hst Tryz.underlying25 rfl (by kernel_rfl))) rfl ⟨A4, n4, c4, L4, B4, m4, d4, X4, 0, rfl, HVF.out.mono HX3.out.size, Below.setCells' HX6.out (Nat.le_refl _) _ _, .inr (.inr (.inr (.inr ⟨rfl, by rw [HL.out]; exact Nat.le_refl _, HQ.out, HRW.out.1, HRW.out.2.1, HLG.out, HRW.out.2.2⟩)))⟩
   ·have HNO := Lib.hid hno
    have HX5 := Lib.hid (HX4.out.alloc' (.cells (vwA none 0 0 none 0 0) 25))
    have HB5 := Lib.hid (HB4.out.alloc (.cells (vwA none 0 0 none 0 0) 25))
    have ht : (w4.alloc (.cells (vwA none 0 0 none 0 0) 25)).there w.heap.size 0 2 := there_of_blk HB5.out
    have hst := blk_whole (ds := vwA none 0 0 none 0 0) HB5.out rfl
    clear hno
    go_wp2_with (first | (with_reducible refine wpList_newVw rfl (.tmp 5) (.tmp 25) rfl _ rfl none 0 0 none 0 0 rfl rfl ?_) | (with_reducible refine wpList_storeVw rfl (.tmp 2) (.tmp 29) rfl w.heap.size none 0 0 none 0 0 rfl rfl ht ?_))
    exact bodyPost_ret (v := .tuple #[.agg (vwA none 0 0 none 0 0), .int .i64 4]) (retCV rfl _ _ w.heap.size _ _ rfl rfl (run_loadVar_row _ _ _ _ _ (0, 0) _ hst Tryz.underlying25 rfl (by kernel_rfl))) rfl ⟨none, 0, 0, [], none, 0, 0, [], 4, rfl, VwO.nil _ _, Below.setCells' HX5.out (Nat.le_refl _) _ _, .inr (.inr (.inl ⟨rfl, by rw [HL.out]; exact Nat.le_refl _, HQ.out, rfl, rfl, HNO.out⟩))⟩
theorem rPcDec_any (A : Option Addr) (n c : Nat) (l : List UInt8) (w : World) (hS : SlB w A n c l) (hbd : n ≤ 1000000) : Calls Tryz.prog 13 #[.slice A n c] w (PcDec w l) := by
 by_cases h : n < 8
 ·exact rPcDec_short A n c l w hS h
 ·by_cases hc : c = 8
  ·have := hS.le
   obtain rfl : n = 8 := by omega
   subst hc
   exact rPcDec_eight A l w hS
  ·exact rPcDec_long A n c l w hS (by omega) hbd hc
end Go.Proofs.YtbfepgjeecndiaaGreat
