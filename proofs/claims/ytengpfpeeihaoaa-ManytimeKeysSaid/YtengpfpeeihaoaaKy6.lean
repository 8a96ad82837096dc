/- Sign (the program's), of a key object; Public and Sign of a seed. -/
import Derived.Test.YtengpfpeeihaoaaKy5
namespace Go.Proofs.Ytengpfpeeihaoaa
open Go.RowKit
set_option linter.unusedVariables false
set_option linter.unusedSimpArgs false
theorem signedAt (n r : Nat) (hr : n + 184 = r) (seed m : UInt64) (B M : Nat) (lv a t : Int) (j : Nat) (ha : (Lit.int .i64 a).wf = true) (ht0 : 0 ≤ t) (ht1 : t ≤ 100000) (hj : j < 32) (base : Nat) (A : Option Addr) (c : Nat) (l : List UInt8) (w : World) (hK : KeyAt w B M seed lv) (hO : OwnB w base 5 A n c l) (hn : n ≤ 1000000) (hb : base ≤ w.heap.size) :
    Calls Try.prog 68 #[.pointer (some ⟨B, 0, none⟩), .slice A n c, .int .i64 a, .int .i64 t, .int .i64 (j : Int), .agg (nmc m)] w fun e w' => ∃ A' c', e = .returned (.slice A' r c') ∧ OwnB w' base 5 A' r c' (l ++ (partU seed a t j m).flatMap nmb) ∧ KeyAt w' B M seed lv ∧ GM base M w w' := by
  subst hr
  exact signed_any seed m B M lv a t j ha ht0 ht1 hj base A n c l w hK hO hn hb
def KSignOut (o : Option (List UInt8)) (w : World) (B M : Nat) (seed : UInt64) (lv : Int) (e : Ending) (w' : World) : Prop := ∃ A n c, e = .returned (.tuple #[.slice A n c, .bool o.isSome]) ∧ SlB w' A n c (o.getD []) ∧ KeyAt w' B M seed lv ∧ GM w.heap.size M w w'
theorem kSign_nil (leaf : Int) (m : UInt64) (w : World) : Calls Try.prog 44 #[.pointer none, .int .i64 leaf, .agg (nmc m)] w (SigOut w none) := by
  go_enter Try.func44, Try.ntmps44
  go_wp2_with (go_at_call 64; (with_reducible refine (ready_no _).mono ?_); rintro e w1 ⟨rfl, rfl⟩)
  go_ret2
  exact SigOut.no _ _ ((Ext.refl w).alloc' _)
theorem capV (lv : Int) (N : Int) (h : (lv = 1 ∧ N = 32) ∨ (lv = 2 ∧ N = 1024)) (w : World) : Calls Try.prog 13 #[.int .i64 lv] w fun e w' => e = .returned (.int .i64 N) ∧ w = w' := by
  rcases h with ⟨rfl, rfl⟩ | ⟨rfl, rfl⟩
  · exact cap1 w
  · exact cap2 w
set_option maxRecDepth 100000 in
set_option maxHeartbeats 1000000 in
theorem kSign_no (seed m : UInt64) (B M : Nat) (lv leaf N : Int) (hN : (lv = 1 ∧ N = 32) ∨ (lv = 2 ∧ N = 1024)) (hl : leaf < 0 ∨ N ≤ leaf) (w : World) (hK : KeyAt w B M seed lv) : Calls Try.prog 44 #[.pointer (some ⟨B, 0, none⟩), .int .i64 leaf, .agg (nmc m)] w (KSignOut none w B M seed lv) := by
  have hK0 := hK.ext ((Ext.refl w).alloc' (.cells (nmc m) 61))
  have HK := Lib.hid hK0
  have hlv := hK0.levels
  have HG0 := Lib.hid (GM.ext (base := w.heap.size) (M := M) ((Ext.refl w).alloc' (.cells (nmc m) 61)) (Nat.le_refl _))
  have HN := Lib.hid hN
  clear hK hK0 hN
  by_cases h0 : leaf < 0
  · have d0 : decide (leaf < 0) = true := by simpa using h0
    clear hl hlv
    go_enter Try.func44, Try.ntmps44
    go_wp2_with (go_at_call 64; (with_reducible refine (ready_yes seed B M lv _ HK.out).mono ?_); rintro e w1 ⟨rfl, rfl⟩)
    go_ret2
    exact ⟨none, 0, 0, rfl, SlB.nil _, HK.out, HG0.out⟩
  · have d0 : decide (leaf < 0) = false := by simpa using h0
    have d1 : decide (N ≤ leaf) = true := by simp; omega
    clear hl
    go_enter Try.func44, Try.ntmps44
    go_wp2_with (first | (go_at_call 64; (with_reducible refine (ready_yes seed B M lv _ HK.out).mono ?_); rintro e w1 ⟨rfl, rfl⟩) | (go_at_call 13; (with_reducible refine (capV lv N HN.out _).mono ?_); rintro e w1 ⟨rfl, rfl⟩))
    go_ret2
    exact ⟨none, 0, 0, rfl, SlB.nil _, HK.out, HG0.out⟩
theorem wf1 : (Lit.int .i64 1).wf = true := WalkArith.wf_i64 (by omega)
theorem wf2 : (Lit.int .i64 2).wf = true := WalkArith.wf_i64 (by omega)
theorem sigU_one (seed m : UInt64) (leaf t r : Nat) (h : leaf = 32 * t + r) (hl : leaf < 32) : sigU seed 1 (leaf : Int) m = some ([toB ((leaf : Int) / 256), toB (leaf : Int)] ++ (partU seed 1 (t : Int) r m).flatMap nmb) := by
  obtain rfl : t = 0 := by omega
  obtain rfl : leaf = r := by omega
  unfold sigU
  rw [if_pos ⟨rfl, by omega, by omega⟩, Int.toNat_natCast]
  congr 1
  simp only [sig1, partU, List.flatMap_append, List.append_assoc]
  rw [show (leaf : Int) / 256 = 0 from by omega]
  rfl
theorem sigU_two (seed m : UInt64) (leaf t r : Nat) (h : leaf = 32 * t + r) (hr : r < 32) (hl : leaf < 1024) : sigU seed 2 (leaf : Int) m = some ([toB ((leaf : Int) / 256), toB (leaf : Int)] ++ (partU seed 1 (t : Int) r m).flatMap nmb ++ (partU seed 2 0 t (rootU (leavesU seed 1 (t : Int)))).flatMap nmb) := by
  unfold sigU
  rw [if_neg (by omega), if_pos ⟨rfl, by omega, by omega⟩, Int.toNat_natCast, ← sig2_eq seed m leaf t r hr h]
  have e3 : (leaf : Int).tmod 32 = (r : Int) := by
    rw [Int.tmod_eq_emod_of_nonneg (by omega)]; omega
  rw [e3]
  simp only [partU, List.flatMap_append, List.append_assoc]
set_option maxRecDepth 100000 in
set_option maxHeartbeats 2000000 in
theorem kSign_one (seed m : UInt64) (B M : Nat) (lv N : Int) (hN : (lv = 1 ∧ N = 32) ∨ (lv = 2 ∧ N = 1024)) (leaf t r : Nat) (hleaf : leaf = 32 * t + r) (hr : r < 32) (hlt : (leaf : Int) < N) (w : World) (hK : KeyAt w B M seed lv) : Calls Try.prog 44 #[.pointer (some ⟨B, 0, none⟩), .int .i64 (leaf : Int), .agg (nmc m)] w (KSignOut (sigU seed lv leaf m) w B M seed lv) := by
  have hK0 := hK.ext ((Ext.refl w).alloc' (.cells (nmc m) 61))
  have HK := Lib.hid hK0
  have hlv := hK0.levels
  have hMw := hK.mlt
  have HBM := Lib.hid (Blk.new w 61 (nmc m))
  have HG0 := Lib.hid (GM.ext (base := w.heap.size) (M := M) ((Ext.refl w).alloc' (.cells (nmc m) 61)) (Nat.le_refl _))
  have HN := Lib.hid hN
  have hN2 : N ≤ 1024 := by omega
  have l0 : (0 : Int) ≤ (leaf : Int) := by omega
  have l1 : (leaf : Int) < 1024 := by omega
  have hd : (leaf : Int) / 32 = (t : Int) := by omega
  have hrm : (leaf : Int) % 32 = (r : Int) := by omega
  have t0 : (0 : Int) ≤ (t : Int) := by omega
  have t1 : (t : Int) < 32 := by omega
  have hun : IntKind.u64.wrap (leaf : Int) = un (toU leaf) := by rw [un_toU _ (by omega) (by omega), IntKind.wrap_u64]; omega
  have d0 : decide ((leaf : Int) < 0) = false := by simp
  have d1 : decide (N ≤ (leaf : Int)) = false := by simp; omega
  have HB2 := Lib.hid (be2 (leaf : Int) (by omega) (by omega))
  have HLF := Lib.hid hleaf
  clear hK hK0 hN hleaf
  go_enter Try.func44, Try.ntmps44
  go_wp2_with (first | (go_at_call 64; (with_reducible refine (ready_yes seed B M lv _ HK.out).mono ?_); rintro e w1 ⟨rfl, rfl⟩) | (go_at_call 13; (with_reducible refine (capV lv N HN.out _).mono ?_); rintro e w1 ⟨rfl, rfl⟩))
  refine (appendUint_any none 0 0 [] (toU leaf) 2 (by omega) _ (SlB.nil _) (by omega)).mono ?_
  rintro e w1 ⟨A1, c1, rfl, hO1, he1⟩
  have HO1 := Lib.hid (show OwnB w1 (w.heap.size + 1) 5 A1 2 c1 [toB ((leaf : Int) / 256), toB (leaf : Int)] from by
    rw [← HB2.out]
    have : OwnB w1 (w.alloc (.cells (nmc m) 61)).heap.size 5 A1 2 c1 (beBytes 2 (toU (leaf : Int)).toNat) := hO1
    simpa using this)
  have HK1 := Lib.hid (HK.out.ext he1)
  have hrm1 := rangeN (HBM.out.ext he1)
  have hb1 : w.heap.size + 1 ≤ w1.heap.size := by have := he1.size; simp at this; omega
  have HG1 := Lib.hid (HG0.out.trans (GM.ext he1 (by simp)))
  clear hO1 he1 hlv hun d0 d1
  go_wp2_with (with_reducible refine wpList_loadN rfl (.tmp 5) rfl w.heap.size 0 rfl m hrm1 ?_)
  refine (signedAt 2 186 rfl seed m B M lv 1 t r wf1 t0 (by omega) hr (w.heap.size + 1) A1 c1 _ _ HK1.out HO1.out (by omega) hb1).mono ?_
  rintro e w2 ⟨A2, c2, rfl, hO2, hK2, hG2⟩
  have hlv2 := hK2.levels
  have HK2 := Lib.hid hK2
  have HO2 := Lib.hid hO2
  have HG2 := Lib.hid (HG1.out.trans (hG2.mono (by omega)))
  have hb2 : w.heap.size + 1 ≤ w2.heap.size := Nat.le_trans hb1 hG2.size
  clear hO2 hK2 hG2 hrm1
  obtain ⟨rfl, rfl⟩ | ⟨rfl, rfl⟩ := HN.out
  · have HU := Lib.hid (sigU_one seed m leaf t r HLF.out (by omega))
    go_wp2_with fail
    go_ret2
    rw [HU.out]
    exact ⟨A2, 186, c2, rfl, HO2.out.sl, HK2.out, HG2.out⟩
  · have HU := Lib.hid (sigU_two seed m leaf t r HLF.out hr (by omega))
    go_wp2_with fail
    refine (tree_any seed B M 2 1 t wf1 t0 (by omega) _ HK2.out).mono ?_
    rintro e w3 ⟨g3, rfl, hT3, hK3, hG3⟩
    have HK3 := Lib.hid hK3
    have HO3 := Lib.hid (show OwnB w3 (w.heap.size + 1) 5 A2 186 c2 _ from own_map HO2.out HK2.out hG3)
    have HG3 := Lib.hid (HG2.out.trans (GM.map hG3 (by omega)))
    have hb3 : w.heap.size + 1 ≤ w3.heap.size := Nat.le_trans hb2 hG3.size
    clear hK3 hG3 hlv2
    go_wp2_with fail
    refine (root_any 32 32 _ _ _ _ (by omega) (by omega) hT3.sl).mono ?_
    rintro e w4 ⟨rfl, he4⟩
    have HK4 := Lib.hid (HK3.out.ext he4)
    have HO4 := Lib.hid (HO3.out.ext he4)
    have HG4 := Lib.hid (HG3.out.trans (GM.ext he4 (by omega)))
    have hb4 : w.heap.size + 1 ≤ w4.heap.size := Nat.le_trans hb3 he4.size
    clear he4 hT3
    go_wp2_with fail
    refine (signedAt 186 370 rfl seed _ B M 2 2 0 t wf2 (by omega) (by omega) (by omega) (w.heap.size + 1) A2 c2 _ _ HK4.out HO4.out (by omega) hb4).mono ?_
    rintro e w5 ⟨A5, c5, rfl, hO5, hK5, hG5⟩
    have HO5 := Lib.hid hO5
    have HK5 := Lib.hid hK5
    have HG5 := Lib.hid (HG4.out.trans (hG5.mono (by omega)))
    clear hO5 hK5 hG5
    go_wp2_with fail
    go_ret2
    rw [HU.out]
    exact ⟨A5, 370, c5, rfl, HO5.out.sl, HK5.out, HG5.out⟩
theorem kSign_any (seed m : UInt64) (B M : Nat) (lv leaf : Int) (hl : lv = 1 ∨ lv = 2) (w : World) (hK : KeyAt w B M seed lv) : Calls Try.prog 44 #[.pointer (some ⟨B, 0, none⟩), .int .i64 leaf, .agg (nmc m)] w (KSignOut (sigU seed lv leaf m) w B M seed lv) := by
  obtain ⟨N, hN⟩ : ∃ N : Int, (lv = 1 ∧ N = 32) ∨ (lv = 2 ∧ N = 1024) := by
    rcases hl with rfl | rfl
    · exact ⟨32, .inl ⟨rfl, rfl⟩⟩
    · exact ⟨1024, .inr ⟨rfl, rfl⟩⟩
  by_cases h : leaf < 0 ∨ N ≤ leaf
  · rw [show sigU seed lv leaf m = none from by unfold sigU; rw [if_neg (by omega), if_neg (by omega)]]
    exact kSign_no seed m B M lv leaf N hN h w hK
  · obtain ⟨n, rfl⟩ := Int.eq_ofNat_of_zero_le (show 0 ≤ leaf by omega)
    exact kSign_one seed m B M lv N hN n (n / 32) (n % 32) (by omega) (by omega) (by omega) w hK
theorem GM.toExt {base M : Nat} {w0 w w' : World} (h0 : Ext w0 w) (h : GM base M w w') (hb : w0.heap.size ≤ base) (hM : w0.heap.size ≤ M) : Ext w0 w' :=
  ⟨h.os.trans h0.os, h.tape.trans h0.tape, h.output.trans h0.output, Nat.le_trans h0.size h.size, fun k hk => (h.block k (by omega) (by omega)).trans (h0.block k hk)⟩
set_option maxRecDepth 100000 in
set_option maxHeartbeats 1000000 in
theorem public5_any (seed : UInt64) (lv : Int) (w : World) : Calls Try.prog 41 #[.agg (nmc seed), .int .i64 lv] w fun e w' => e = .returned (.agg (nmc (pubV seed lv))) ∧ Ext w w' := by
  have hB : Blk ((w.alloc (.cells (nmc seed) 61)).alloc (.cells zcs.toArray 61)) (w.heap.size + 1) 61 zcs.toArray := Blk.newAt _ _ _ _ (by simp)
  have HB := Lib.hid hB
  have hrs := rangeN ((Blk.new w 61 (nmc seed)).alloc (.cells zcs.toArray 61))
  have HE := Lib.hid (((Ext.refl w).alloc' (.cells (nmc seed) 61)).alloc' (.cells zcs.toArray 61))
  clear hB
  by_cases h12 : lv = 1 ∨ lv = 2
  · have HP := Lib.hid (show pubV seed lv = pubU seed lv from by unfold pubV; rw [if_pos (by omega)])
    have hwf : (Lit.int .i64 lv).wf = true := WalkArith.wf_i64 (by omega)
    have H12 := Lib.hid h12
    clear h12
    go_enter Try.func41, Try.ntmps41
    go_wp2_with (with_reducible refine wpList_loadN rfl (.tmp 2) rfl w.heap.size 0 rfl seed hrs ?_)
    refine (newKey_yes seed lv H12.out _).mono ?_
    rintro e w1 ⟨B1, M1, rfl, hK1, hB1, hM1, he1⟩
    go_wp2_with fail
    refine (kPublic_yes seed B1 M1 lv hwf _ hK1).mono ?_
    rintro e w2 ⟨rfl, hK2, hG2⟩
    have hE2 := GM.toExt he1 hG2 he1.size hM1
    have hb2 := HB.out.ext hE2
    have hst := run_storeN hb2 (pubU seed lv)
    clear hK1 hK2 hG2
    go_wp2_with fail
    refine bodyPost_ret (v := .agg (nmc (pubU seed lv))) (retN rfl _ _ (w.heap.size + 1) _ rfl (blkN hb2 _)) rfl ⟨by rw [HP.out], Below.setCells' (HE.out.trans hE2) (by omega) _ _⟩
  · have HP := Lib.hid (show pubV seed lv = 0 from by unfold pubV; rw [if_neg (by omega)])
    have h1 : lv ≠ 1 := fun h => h12 (.inl h)
    have h2 : lv ≠ 2 := fun h => h12 (.inr h)
    clear h12
    go_enter Try.func41, Try.ntmps41
    go_wp2_with (with_reducible refine wpList_loadN rfl (.tmp 2) rfl w.heap.size 0 rfl seed hrs ?_)
    refine (newKey_no seed lv h1 h2 _).mono ?_
    rintro e w1 ⟨rfl, he1⟩
    go_wp2_with fail
    refine (kPublic_no _).mono ?_
    rintro e w2 ⟨rfl, he2⟩
    have hE2 := he1.trans he2
    have hb2 := HB.out.ext hE2
    have hst := run_storeN hb2 0
    go_wp2_with fail
    refine bodyPost_ret (v := .agg (nmc 0)) (retN rfl _ _ (w.heap.size + 1) _ rfl (blkN hb2 _)) rfl ⟨by rw [HP.out], Below.setCells' (HE.out.trans hE2) (by omega) _ _⟩
set_option maxRecDepth 100000 in
set_option maxHeartbeats 1000000 in
theorem sign5_any (seed m : UInt64) (lv leaf : Int) (w : World) : Calls Try.prog 40 #[.agg (nmc seed), .int .i64 lv, .int .i64 leaf, .agg (nmc m)] w (SigOut w (sigU seed lv leaf m)) := by
  have hbs := (Blk.new w 61 (nmc seed)).alloc (.cells (nmc m) 61)
  have hbm : Blk ((w.alloc (.cells (nmc seed) 61)).alloc (.cells (nmc m) 61)) (w.heap.size + 1) 61 (nmc m) := Blk.newAt _ _ _ _ (by simp)
  have HE0 := Lib.hid (((Ext.refl w).alloc' (.cells (nmc seed) 61)).alloc' (.cells (nmc m) 61))
  have HSS := Lib.hid (fun (w' : World) (hx : Ext ((w.alloc (.cells (nmc seed) 61)).alloc (.cells (nmc m) 61)).drew w') => (⟨cells8 (hbs.drew.ext hx), cells8 (hbm.drew.ext hx)⟩ : (∀ i, i < 8 → w'.cell? ⟨w.heap.size, i, none⟩ = some (.int .u8 (nb8 seed i))) ∧ (∀ i, i < 8 → w'.cell? ⟨w.heap.size + 1, i, none⟩ = some (.int .u8 (nb8 m i)))))
  have hX := Ext.refl ((w.alloc (.cells (nmc seed) 61)).alloc (.cells (nmc m) 61)).drew
  clear hbs hbm
  by_cases h12 : lv = 1 ∨ lv = 2
  · have H12 := Lib.hid h12
    clear h12
    go_enter Try.func40, Try.ntmps40
    go_wp2_with fail
    go_region_held3 (fun w' => (∀ i, i < 8 → w'.cell? ⟨w.heap.size, i, none⟩ = some (.int .u8 (nb8 seed i))) ∧ (∀ i, i < 8 → w'.cell? ⟨w.heap.size + 1, i, none⟩ = some (.int .u8 (nb8 m i)))) (first | (with_reducible exact HSS.out _ hX) | fail "CELLS") (first | (go_at_call 42; (with_reducible refine (newKey_yes seed lv H12.out _).mono ?_); rintro e w1 ⟨B1, M1, rfl, hK1, hB1, hM1, he1⟩; have hM2 := Nat.le_trans hX.size hM1; have hX := hX.trans he1) | (go_at_call 44; (with_reducible refine (kSign_any seed m B1 M1 lv leaf H12.out _ hK1).mono ?_); rintro e w2 ⟨A2, n2, c2, rfl, hs2, hK2, hG2⟩; have hX := GM.toExt hX hG2 hX.size hM2) | fail "ARM")
    all_goals (
      go_wp2_with fail
      go_ret2
      exact ⟨A2, n2, c2, rfl, hs2, HE0.out.trans ((Ext.refl _).drew'.trans hX)⟩)
  · have HU := Lib.hid (show sigU seed lv leaf m = none from by unfold sigU; rw [if_neg (by omega), if_neg (by omega)])
    have h1 : lv ≠ 1 := fun h => h12 (.inl h)
    have h2 : lv ≠ 2 := fun h => h12 (.inr h)
    clear h12
    go_enter Try.func40, Try.ntmps40
    go_wp2_with fail
    go_region_held3 (fun w' => (∀ i, i < 8 → w'.cell? ⟨w.heap.size, i, none⟩ = some (.int .u8 (nb8 seed i))) ∧ (∀ i, i < 8 → w'.cell? ⟨w.heap.size + 1, i, none⟩ = some (.int .u8 (nb8 m i)))) (first | (with_reducible exact HSS.out _ hX) | fail "CELLS") (first | (go_at_call 42; (with_reducible refine (newKey_no seed lv h1 h2 _).mono ?_); rintro e w1 ⟨rfl, he1⟩; have hX := hX.trans he1) | (go_at_call 44; (with_reducible refine (kSign_nil leaf m _).mono ?_); rintro e w2 ⟨A2, n2, c2, rfl, hs2, he2⟩; have hX := hX.trans he2) | fail "ARM")
    all_goals (
      go_wp2_with fail
      go_ret2
      rw [HU.out]
      exact ⟨A2, n2, c2, rfl, hs2, HE0.out.trans ((Ext.refl _).drew'.trans hX)⟩)
end Go.Proofs.Ytengpfpeeihaoaa
