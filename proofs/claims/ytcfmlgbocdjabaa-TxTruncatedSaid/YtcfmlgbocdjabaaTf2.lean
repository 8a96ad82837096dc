/- The reference's DecodeTx: the walk. -/
import Derived.Test.YtcfmlgbocdjabaaTf1
import Derived.Deep.DeepCutAuto
namespace Go.Proofs.Ytcfmlgbocdjabaa
open Go.RowKit
set_option linter.unusedVariables false
set_option linter.unusedSimpArgs false
attribute [local go_sem ↓] Go.wp_at_zero Go.wp_at_succ

theorem decIn_no4 {ac sq : Int} {s3 : Option (List UInt8)} {n : Nat} (h : 4 < n) : decIn ac sq s3 n = none := by
  refine decIn_no2 ?_
  unfold vTxV vHead
  rw [ltV_length, decide_eq_false (by omega), Bool.false_and]
set_option maxRecDepth 100000 in
set_option maxHeartbeats 8000000 in
theorem refDecodeTx_any (A : Option Addr) (n c : Nat) (l : List UInt8) (w : World) (h : SlB w A n c l) (hn : n ≤ 140737488355328) :
    Calls Try.prog 28 #[.slice A n c] w (DecTxOut w (decTx l)) := by
  have HD0 := Lib.hid (TdR.start w A n c l h hn)
  obtain ⟨out, hout⟩ : ∃ out, decTx l = out := ⟨_, rfl⟩
  have hoi := decTx_in l
  rw [hout] at hoi ⊢
  obtain ⟨s0, hs0⟩ : ∃ s0, some l = s0 := ⟨_, rfl⟩
  rw [hs0] at HD0 hoi
  clear hs0 hout h
  obtain ⟨s1, hs1⟩ : ∃ s1, rRest 1 s0 = s1 := ⟨_, rfl⟩
  obtain ⟨ac, hac⟩ : ∃ ac, rNum 1 s0 = ac := ⟨_, rfl⟩
  obtain ⟨s2, hs2⟩ : ∃ s2, rRest 1 s1 = s2 := ⟨_, rfl⟩
  obtain ⟨sq, hsq⟩ : ∃ sq, rNum 1 s1 = sq := ⟨_, rfl⟩
  obtain ⟨s3, hs3⟩ : ∃ s3, rRest 1 s2 = s3 := ⟨_, rfl⟩
  have hN := rNum_bd 1 s2
  obtain ⟨N, hNe⟩ : ∃ N : Nat, rNum 1 s2 = (N : Int) := ⟨(rNum 1 s2).toNat, by omega⟩
  have hN2 : N < 256 := by omega
  have HU1 := Lib.hid (fun (B : Nat) (W : World) (h : CurAt 126 w.heap.size W B s0) => show Calls Try.prog 77 #[.pointer (some ⟨B, 0, none⟩), .int .i64 1] W (fun e w' => e = .returned (.int .i64 ac) ∧ CurAt 126 w.heap.size w' B s1 ∧ W.grownBy w' (some B)) from by rw [← hac, ← hs1]; exact rcnum_any 1 (by omega) (by omega) B s0 W h)
  have HU2 := Lib.hid (fun (B : Nat) (W : World) (h : CurAt 126 w.heap.size W B s1) => show Calls Try.prog 77 #[.pointer (some ⟨B, 0, none⟩), .int .i64 1] W (fun e w' => e = .returned (.int .i64 sq) ∧ CurAt 126 w.heap.size w' B s2 ∧ W.grownBy w' (some B)) from by rw [← hsq, ← hs2]; exact rcnum_any 1 (by omega) (by omega) B s1 W h)
  have HU3 := Lib.hid (fun (B : Nat) (W : World) (h : CurAt 126 w.heap.size W B s2) => show Calls Try.prog 77 #[.pointer (some ⟨B, 0, none⟩), .int .i64 1] W (fun e w' => e = .returned (.int .i64 (N : Int)) ∧ CurAt 126 w.heap.size w' B s3 ∧ W.grownBy w' (some B)) from by rw [← hNe, ← hs3]; exact rcnum_any 1 (by omega) (by omega) B s2 W h)
  rw [hac, hs1, hsq, hs2, hs3, hNe, Int.toNat_natCast] at hoi
  have HOI := Lib.hid hoi
  clear hoi hs1 hac hs2 hsq hs3 hN hNe
  go_enter Try.func28, Try.ntmps28
  go_wp2_with fail
  refine (HU1.out (w.heap.size + 1) _ HD0.out.cur).mono ?_
  rintro e w1 ⟨rfl, hC1, hg1⟩
  have HD1 := Lib.hid (HD0.out.read hC1 hg1)
  obtain ⟨B, hBe⟩ : ∃ B, w.heap.size + 1 = B := ⟨_, rfl⟩
  obtain ⟨X, hXe⟩ : ∃ X, w.heap.size + 2 = X := ⟨_, rfl⟩
  have hX1 : w.heap.size + 1 + 1 = X := hXe
  simp only [hX1, hXe, hBe] at *
  clear hC1 hg1 HD0 HU1
  have q0 : w1.cell? ⟨X, 0, none⟩ = some (.int .i64 0) := HD1.out.blk.cell 0
  have f0 := HD1.out.blk.frozen 0
  obtain ⟨w1', hw1⟩ : ∃ w1', w1.setCell ⟨X, 0, none⟩ (.int .i64 ac) = w1' := ⟨_, rfl⟩
  have HD1' := Lib.hid (HD1.out.setNum 0 (.int .i64 ac) (ac' := ac) (sq' := 0) rfl)
  rw [hw1] at HD1'
  go_wp2_with fail
  refine (HU2.out B _ HD1'.out.cur).mono ?_
  rintro e w2 ⟨rfl, hC2, hg2⟩
  have HD2 := Lib.hid (HD1'.out.read hC2 hg2)
  clear hC2 hg2 HD1 HD1' q0 f0 hw1 HU2
  have q1 : w2.cell? ⟨X, 1, none⟩ = some (.int .i64 0) := HD2.out.blk.cell 1
  have f1 := HD2.out.blk.frozen 1
  obtain ⟨w2', hw2⟩ : ∃ w2', w2.setCell ⟨X, 1, none⟩ (.int .i64 sq) = w2' := ⟨_, rfl⟩
  have HD2' := Lib.hid (HD2.out.setNum 1 (.int .i64 sq) (ac' := ac) (sq' := sq) rfl)
  rw [hw2] at HD2'
  go_wp2_with fail
  refine (HU3.out B _ HD2'.out.cur).mono ?_
  rintro e w4 ⟨rfl, hC4, hg4⟩
  have HD4 := Lib.hid (HD2'.out.read hC4 hg4)
  clear hC4 hg4 HD2 HD2' q1 f1 hw2 HU3
  go_wp2_with fail
  go_loopw [7] (fun i wr => ∃ (k : Nat) (A4 : Option Addr) (c4 : Nat) (L : List OpR), k ≤ N ∧ k ≤ 5 ∧ i = .int .i64 (k : Int) ∧ L.map OpR.v = ltV s3 k ∧ Hid (TdR w wr B X ac sq A4 k c4 none 0 0 L [] (stO s3 k))) (fun i _ => N - (intOf i).toNat)
  case atStart => exact ⟨0, none, 0, [], Nat.zero_le _, by omega, rfl, rfl, HD4⟩
  case round =>
    obtain ⟨k, A4, c4, L, hk, hk5, rfl, hLV, HD⟩ := hrel
    have HLV := Lib.hid hLV
    clear hLV HD4
    by_cases hgo : (k < N ∧ k ≤ 4) ∧ stO s3 k ≠ none
    · obtain ⟨⟨hlt, hle⟩, hs⟩ := hgo
      have HLT := Lib.hid (ltV_succ s3 k)
      have HST := Lib.hid (show stO s3 (k + 1) = (rdOp (stO s3 k)).2 from rfl)
      have i1 : (k : Int) < (N : Int) := by omega
      have i2 : (k : Int) ≤ 4 := by omega
      have hfl := HD.out.flag
      rw [show (stO s3 k).isNone = false by cases hh : stO s3 k with | none => exact absurd hh hs | some r => rfl] at hfl
      clear hs
      go_wp2_with fail
      refine (refOp_any w.heap.size B (stO s3 k) _ HD.out.cur HD.out.low.size).mono ?_
      rintro e w5 ⟨R, rfl, hRv, hO1, hO2, hC5, hg5⟩
      rw [← HST.out] at hC5
      have HD5 := Lib.hid (HD.out.read hC5 hg5)
      have HOW := Lib.hid (OwnOp.mono (w := w5) (R := R) ⟨hO1, hO2⟩ HD.out.low.size)
      rw [← hRv] at HLT
      have hnew := new_op w5 R
      have HB5 := Lib.hid (HD5.out.ext ((Ext.refl w5).alloc' (.cells (opA R) 114)))
      have q2 : (w5.alloc (.cells (opA R) 114)).cell? ⟨X, 2, none⟩ = some (.slice A4 k c4) := HB5.out.blk.cell 2
      have HA8 := Lib.hid (HD5.out.ext (((Ext.refl w5).alloc' (.cells (opA R) 114)).alloc' (.cells (opA R) 114)))
      have HOW8 := Lib.hid (HOW.out.ext (((Ext.refl w5).alloc' (.cells (opA R) 114)).alloc' (.cells (opA R) 114)))
      have hbs := run_buildO1 R
      have HS8 := Lib.hid (show Rd ((w5.alloc (.cells (opA R) 114)).alloc (.cells (opA R) 114)) (some ⟨w5.heap.size + 1, 0, none⟩) (opL R) from Rd.of_blk (Blk.newAt _ _ _ _ (by simp)))
      clear hC5 hg5 hO1 hO2 hRv HD HD5 HOW HB5 hfl HST
      go_wp2_with (first | (with_reducible refine wpList_newO rfl (.tmp 8) (.tmp 39) rfl _ rfl R rfl rfl ?_) | (with_reducible refine wpList_loadO rfl (.tmp 8) rfl w5.heap.size 0 rfl R hnew ?_) | (at_builtin; go_must (refine wpList_appGG opE rfl (.tmp 42) (.tmp 44) rfl w.heap.size A4 k c4 (ocs L) rfl HA8.out.own _ 1 1 (opL R) rfl HS8.out (by rfl) (opL_one R) (by omega) (by omega) HA8.out.low.size ?_; intro A7 c7 w8 hO8 hg8; have HD9 := Lib.hid (HA8.out.push HOW8.out hg8 hO8); have hb8 := HA8.out.blk.grown hg8 (own_other HA8.out.own HA8.out.blk (by decide)); have q8 : w8.cell? ⟨X, 2, none⟩ = some (.slice A4 k c4) := hb8.cell 2; have f8 := hb8.frozen 2; clear hO8 hg8 hb8 hbs hnew q2)))
      go_roundw
      case rel => exact ⟨k + 1, A7, c7, L ++ [R], by omega, by omega, by go_num, by rw [List.map_append, HLV.out, HLT.out]; rfl, HD9⟩
      case measure => simp [intOf]; omega
    · have HEX := Lib.hid (show stO s3 k = none ∨ 4 < N ∨ k = N by
        by_cases h1 : stO s3 k = none
        · exact .inl h1
        · by_cases h2 : k < N
          · have : ¬ k ≤ 4 := fun h3 => hgo ⟨⟨h2, h3⟩, h1⟩
            exact .inr (.inl (by omega))
          · exact .inr (.inr (by omega)))
      have hfl := HD.out.flag
      obtain ⟨fl, hfl'⟩ : ∃ fl, (stO s3 k).isNone = fl := ⟨_, rfl⟩
      rw [hfl'] at hfl
      have hex : (¬ k < N) ∨ (k < N ∧ ¬ k ≤ 4) ∨ (k < N ∧ k ≤ 4 ∧ fl = true) := by
        by_cases h1 : k < N
        · by_cases h2 : k ≤ 4
          · refine .inr (.inr ⟨h1, h2, ?_⟩)
            rw [← hfl']
            cases hh : stO s3 k with
            | none => rfl
            | some r => exact absurd ⟨⟨h1, h2⟩, by rw [hh]; simp⟩ hgo
          · exact .inr (.inl ⟨h1, h2⟩)
        · exact .inl h1
      clear hgo hfl'
      go_upto_region 7 with (fail)
      go_cut [35] (fun c wx => c = .bool false ∧ wx = wr)
      case first =>
        rcases hex with h1 | ⟨h1, h2⟩ | ⟨h1, h2, h3⟩
        · have i1 : ¬ (k : Int) < (N : Int) := by omega
          go_wp2_with fail
          go_meet
          exact ⟨rfl, rfl⟩
        · have i1 : (k : Int) < (N : Int) := by omega
          have i2 : ¬ (k : Int) ≤ 4 := by omega
          go_wp2_with fail
          go_meet
          exact ⟨rfl, rfl⟩
        · have i1 : (k : Int) < (N : Int) := by omega
          have i2 : (k : Int) ≤ 4 := by omega
          rw [h3] at hfl
          go_wp2_with fail
          go_meet
          exact ⟨rfl, rfl⟩
      case rest =>
        obtain ⟨rfl, rfl⟩ := hcut
        have hq2 : wc.cell? ⟨X, 2, none⟩ = some (.slice A4 k c4) := HD.out.blk.cell 2
        go_wp2_with fail
        refine (rcstr_any w.heap.size B (stO s3 k) _ HD.out.cur).mono ?_
        rintro e w5 ⟨S, m, d, rfl, hO, hC5, hg5⟩
        have HD5 := Lib.hid (HD.out.read hC5 hg5)
        have hO' := own_mono hO HD.out.low.size
        have HM := Lib.hid (show (rBlob (stO s3 k)).length = m from OwnB.len hO)
        have hq3 : w5.cell? ⟨X, 3, none⟩ = some (.slice none 0 0) := HD5.out.blk.cell 3
        have hf3 := HD5.out.blk.frozen 3
        obtain ⟨w6, hw6⟩ : ∃ w6, w5.setCell ⟨X, 3, none⟩ (.slice S m d) = w6 := ⟨_, rfl⟩
        have HD6 := Lib.hid (HD5.out.setSig hO')
        rw [hw6] at HD6
        have HVO := Lib.hid (show vTx ac sq L = vTxV ac sq (ltV s3 k) by rw [← HLV.out]; exact vTx_v (fun R hR => vOp_v ((HD6.out.ops R hR).ok).pre.len ((HD6.out.ops R hR).ok).prf.len))
        have hmc := HD6.out.sig.sl.le
        have hmc2 := HD6.out.sig.sl.cap
        obtain ⟨s5, hs5⟩ : ∃ s5, rAft (stO s3 k) = s5 := ⟨_, rfl⟩
        rw [hs5] at HD6
        have HND := Lib.hid (show s5 ≠ some [] → out = none from fun hne => by
          rw [HOI.out]
          rcases HEX.out with h | h | h
          · exact decIn_bad hk h
          · exact decIn_no4 h
          · subst h; exact decIn_no1 (by rw [hs5]; exact hne))
        have HKN := Lib.hid (show s5 = some [] → ¬ 4 < N → k = N from fun he h4 => by
          rcases HEX.out with h | h | h
          · rw [h] at hs5; rw [← hs5] at he; cases he
          · exact absurd h h4
          · exact h)
        have HQ := Lib.hid (fun (W : World) (h : Ext w6 W) => st_facts (HD6.out.blk.ext h))
        have HDN := Lib.hid (fun (W : World) (h : Ext w6 W) => show Calls Try.prog 80 #[.pointer (some ⟨B, 0, none⟩)] W (fun e w' => e = .returned (.bool (decide (s5 = some []))) ∧ Ext W w') from (rcdone_any B s5 W (HD6.out.cur.ext h)).mono (fun e w' ⟨he, q, hq⟩ => ⟨he, by rw [hq]; exact drewN_ext _ _⟩))
        have HVD := Lib.hid (fun (W : World) (h : Ext w6 W) => refValidTx_any ac sq A4 k c4 L W (HD6.out.slo.ext h))
        have hXd := (Ext.refl w6).drew'
        have HRES := Lib.hid (fun (W : World) (h : Ext w6 W) => HD6.out.ext h)
        rw [HVO.out] at HVD
        clear hO hO' hC5 hg5 HD HVO hq2 HEX hfl
        go_wp2_with fail
        clear hw6 hq3 hf3 HD5
        by_cases hst : s5 = some []
        · rw [decide_eq_true hst] at HDN
          have HS5 := Lib.hid (show rAft (stO s3 k) = some [] from hs5.trans hst)
          by_cases h4 : 4 < N
          · have HOUT := Lib.hid (show out = none by rw [HOI.out]; exact decIn_no4 h4)
            have d4 : (4 : Int) < (N : Int) := by omega
            have d5 : decide ((4 : Int) < (N : Int)) = true := decide_eq_true (by omega)
            clear hs5 hst HND HKN h4
            first | go_region_with (first | (go_at_call 80; (with_reducible refine (HDN.out _ hXd).mono ?_); rintro e w7 ⟨rfl, he7⟩; have hX7 := hXd.trans he7) | fail "ARM") | fail "REGION"
            all_goals (
              have HDz := Lib.hid (HRES.out _ hX7)
              have htz := st_there HDz.out.res
              clear hX7 he7 hXd
              go_wp2_with (first | (with_reducible refine wpList_storeSt rfl (.tmp 2) (.tmp 71) rfl w.heap.size zero4 rfl rfl htz rfl (stA_all _ _ _ _ _ _ _ _) ?_))
              exact bodyPost_ret (v := .tuple #[.agg zero4, .int .i64 4]) (retCV rfl _ _ w.heap.size _ _ rfl rfl (run_loadVar_row _ _ _ _ _ (0, 0) _ (st_store HDz.out.res zero4 rfl) Try.underlying50 rfl (by kernel_rfl))) rfl ⟨Below.setCells' HDz.out.low (Nat.le_refl _) _ _, .inl ⟨HOUT.out, rfl⟩⟩)
          · obtain rfl := HKN.out hst h4
            have d4 : decide ((4 : Int) < (k : Int)) = false := decide_eq_false (by omega)
            have d5 : ¬ (4 : Int) < (k : Int) := by omega
            have HN2 := Lib.hid (@decIn_no2 ac sq s3 k)
            have HN3 := Lib.hid (@decIn_no3 ac sq s3 k)
            have HY := Lib.hid (@decIn_yes ac sq s3 k)
            obtain ⟨V, hV⟩ : ∃ V, ltV s3 k = V := ⟨_, rfl⟩
            rw [hV] at HLV HN2 HY HVD
            obtain ⟨G, hG⟩ : ∃ G, rBlob (stO s3 k) = G := ⟨_, rfl⟩
            rw [hG] at HM HN3 HY HRES
            clear hV hG hs5 hst HND HKN h4 HD6
            cases hv : vTxV ac sq V with
            | false =>
              rw [hv] at HVD
              have HOUT := Lib.hid (show out = none by rw [HOI.out]; exact HN2.out hv)
              clear HN2 HN3 HY HM hv
              first | go_region_with (first | (go_at_call 80; (with_reducible refine (HDN.out _ hXd).mono ?_); rintro e w7 ⟨rfl, he7⟩; have hX7 := hXd.trans he7; obtain ⟨p0, p1, p2, p3⟩ := HQ.out _ hX7) | (go_at_call 34; (with_reducible refine (HVD.out _ hX7).mono ?_); rintro e w8 ⟨rfl, he8⟩) | fail "ARM") | fail "REGION"
              all_goals (
                have HDz := Lib.hid (HRES.out _ (hX7.trans he8))
                have htz := st_there HDz.out.res
                clear p0 p1 p2 p3 hX7 he7 he8 hXd
                go_wp2_with (first | (with_reducible refine wpList_storeSt rfl (.tmp 2) (.tmp 71) rfl w.heap.size zero4 rfl rfl htz rfl (stA_all _ _ _ _ _ _ _ _) ?_))
                exact bodyPost_ret (v := .tuple #[.agg zero4, .int .i64 4]) (retCV rfl _ _ w.heap.size _ _ rfl rfl (run_loadVar_row _ _ _ _ _ (0, 0) _ (st_store HDz.out.res zero4 rfl) Try.underlying50 rfl (by kernel_rfl))) rfl ⟨Below.setCells' HDz.out.low (Nat.le_refl _) _ _, .inl ⟨HOUT.out, rfl⟩⟩)
            | true =>
              rw [hv] at HVD
              by_cases hm : m = 186
              · have HOUT := Lib.hid (show out = some (ac, sq, V, G) by rw [HOI.out]; exact HY.out HS5.out hv (by rw [HM.out]; exact hm))
                subst hm
                clear HN2 HN3 HY HM hv
                first | go_region_with (first | (go_at_call 80; (with_reducible refine (HDN.out _ hXd).mono ?_); rintro e w7 ⟨rfl, he7⟩; have hX7 := hXd.trans he7; obtain ⟨p0, p1, p2, p3⟩ := HQ.out _ hX7) | (go_at_call 34; (with_reducible refine (HVD.out _ hX7).mono ?_); rintro e w8 ⟨rfl, he8⟩; have hX8 := hX7.trans he8; clear p0 p1 p2 p3; obtain ⟨p0, p1, p2, p3⟩ := HQ.out _ hX8) | (go_at_call 69; (with_reducible refine (refSize1_any _).mono ?_); rintro e w9 ⟨rfl, rfl⟩) | fail "ARM") | fail "REGION"
                all_goals (
                  have HDz := Lib.hid (HRES.out _ hX8)
                  have htz := st_there HDz.out.res
                  have hbz := HDz.out.blk
                  clear p0 p1 p2 p3 hX7 he7 he8 hXd hX8
                  go_wp2_with (first | (with_reducible refine wpList_loadSt rfl (.tmp 5) rfl X rfl ac sq A4 k c4 S 186 d hbz ?_) | (with_reducible refine wpList_storeSt rfl (.tmp 2) (.tmp 72) rfl w.heap.size (stA ac sq A4 k c4 S 186 d) rfl rfl htz rfl (stA_all _ _ _ _ _ _ _ _) ?_))
                  exact bodyPost_ret (v := .tuple #[.agg (stA ac sq A4 k c4 S 186 d), .int .i64 0]) (retCV rfl _ _ w.heap.size _ _ rfl rfl (run_loadVar_row _ _ _ _ _ (0, 0) _ (st_store HDz.out.res (stA ac sq A4 k c4 S 186 d) rfl) Try.underlying50 rfl (by kernel_rfl))) rfl ⟨Below.setCells' HDz.out.low (Nat.le_refl _) _ _, .inr ⟨⟨ac, sq, A4, k, c4, S, 186, d, L, G⟩, by rw [HOUT.out, ← HLV.out]; rfl, rfl, HDz.out.fin _⟩⟩)
              · have HOUT := Lib.hid (show out = none by rw [HOI.out]; exact HN3.out (by rw [HM.out]; exact hm))
                have d1 : ((m : Int) != 186) = true := by simp; omega
                have d2 : decide ((m : Int) = 186) = false := by simp; omega
                have d3 : ((m : Int) == 186) = false := by simp; omega
                clear HN2 HN3 HY HM hv hm
                first | go_region_with (first | (go_at_call 80; (with_reducible refine (HDN.out _ hXd).mono ?_); rintro e w7 ⟨rfl, he7⟩; have hX7 := hXd.trans he7; obtain ⟨p0, p1, p2, p3⟩ := HQ.out _ hX7) | (go_at_call 34; (with_reducible refine (HVD.out _ hX7).mono ?_); rintro e w8 ⟨rfl, he8⟩; have hX8 := hX7.trans he8; clear p0 p1 p2 p3; obtain ⟨p0, p1, p2, p3⟩ := HQ.out _ hX8) | (go_at_call 69; (with_reducible refine (refSize1_any _).mono ?_); rintro e w9 ⟨rfl, rfl⟩) | fail "ARM") | fail "REGION"
                all_goals (
                  have HDz := Lib.hid (HRES.out _ hX8)
                  have htz := st_there HDz.out.res
                  clear p0 p1 p2 p3 hX7 he7 he8 hXd hX8
                  go_wp2_with (first | (with_reducible refine wpList_storeSt rfl (.tmp 2) (.tmp 71) rfl w.heap.size zero4 rfl rfl htz rfl (stA_all _ _ _ _ _ _ _ _) ?_))
                  exact bodyPost_ret (v := .tuple #[.agg zero4, .int .i64 4]) (retCV rfl _ _ w.heap.size _ _ rfl rfl (run_loadVar_row _ _ _ _ _ (0, 0) _ (st_store HDz.out.res zero4 rfl) Try.underlying50 rfl (by kernel_rfl))) rfl ⟨Below.setCells' HDz.out.low (Nat.le_refl _) _ _, .inl ⟨HOUT.out, rfl⟩⟩)
        · rw [decide_eq_false hst] at HDN
          have HOUT := Lib.hid (show out = none from HND.out hst)
          clear HND HKN hst hs5
          first | go_region_with (first | (go_at_call 80; (with_reducible refine (HDN.out _ hXd).mono ?_); rintro e w7 ⟨rfl, he7⟩; have hX7 := hXd.trans he7) | fail "ARM") | fail "REGION"
          all_goals (
            have HDz := Lib.hid (HRES.out _ hX7)
            have htz := st_there HDz.out.res
            clear hX7 he7 hXd
            go_wp2_with (first | (with_reducible refine wpList_storeSt rfl (.tmp 2) (.tmp 71) rfl w.heap.size zero4 rfl rfl htz rfl (stA_all _ _ _ _ _ _ _ _) ?_))
            exact bodyPost_ret (v := .tuple #[.agg zero4, .int .i64 4]) (retCV rfl _ _ w.heap.size _ _ rfl rfl (run_loadVar_row _ _ _ _ _ (0, 0) _ (st_store HDz.out.res zero4 rfl) Try.underlying50 rfl (by kernel_rfl))) rfl ⟨Below.setCells' HDz.out.low (Nat.le_refl _) _ _, .inl ⟨HOUT.out, rfl⟩⟩)
end Go.Proofs.Ytcfmlgbocdjabaa
