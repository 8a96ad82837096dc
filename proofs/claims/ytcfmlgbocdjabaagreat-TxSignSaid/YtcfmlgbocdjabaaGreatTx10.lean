/- Decode (the program's): the walk. -/
import Derived.Test.YtcfmlgbocdjabaaGreatTx9
import Derived.WalkMore
namespace Go.Proofs.YtcfmlgbocdjabaaGreat
open Go.RowKit
set_option linter.unusedVariables false
set_option linter.unusedSimpArgs false
attribute [local go_sem ↓] Go.wp_at_zero Go.wp_at_succ

set_option maxRecDepth 100000 in
set_option maxHeartbeats 8000000 in
theorem decodeTx_any (A : Option Addr) (n c : Nat) (l : List UInt8) (w : World) (h : SlB w A n c l) (hn : n ≤ 140737488355328) :
    Calls Tryz.prog 21 #[.slice A n c] w (DecTxOut w (decTx l)) := by
  have hD : LowB w.heap.size A n := by
    rcases Nat.eq_zero_or_pos n with h0 | h0
    · exact .inl h0
    · obtain ⟨b, o, e, _, hb⟩ := h.at h0
      exact .inr ⟨b, o, e, hb⟩
  have hE0 := (Ext.refl w).alloc' (.cells zero4 31)
  have HO := Lib.hid (cnew_any (D := w.heap.size) A n c l _ (h.ext hE0) hn hD)
  have HE0 := Lib.hid hE0
  have HR0 := Lib.hid (Blk.new w 31 zero4)
  obtain ⟨out, hout⟩ : ∃ out, decTx l = out := ⟨_, rfl⟩
  have hoi := decTx_in l
  rw [hout] at hoi ⊢
  obtain ⟨s0, hs0⟩ : ∃ s0, some l = s0 := ⟨_, rfl⟩
  rw [hs0] at HO hoi
  clear hs0 hout h hD hE0
  obtain ⟨s1, hs1⟩ : ∃ s1, rRest 1 s0 = s1 := ⟨_, rfl⟩
  obtain ⟨ac, hac⟩ : ∃ ac, rNum 1 s0 = ac := ⟨_, rfl⟩
  obtain ⟨s2, hs2⟩ : ∃ s2, rRest 1 s1 = s2 := ⟨_, rfl⟩
  obtain ⟨sq, hsq⟩ : ∃ sq, rNum 1 s1 = sq := ⟨_, rfl⟩
  obtain ⟨s3, hs3⟩ : ∃ s3, rRest 1 s2 = s3 := ⟨_, rfl⟩
  have hN := rNum_bd 1 s2
  obtain ⟨N, hNe⟩ : ∃ N : Nat, rNum 1 s2 = (N : Int) := ⟨(rNum 1 s2).toNat, by omega⟩
  have hN2 : N < 256 := by omega
  have HC1 := Lib.hid (cuint_any (D := w.heap.size) 1 (by omega) (by omega))
  have HU1 := Lib.hid (fun (B : Nat) (W : World) (h : CurAt 129 w.heap.size W B s0) => show Calls Tryz.prog 52 #[.pointer (some ⟨B, 0, none⟩), .int .i64 1] W (fun e w' => e = .returned (.int .i64 ac) ∧ CurAt 129 w.heap.size w' B s1 ∧ W.grownBy w' (some B)) from by rw [← hac, ← hs1]; exact cuint_any 1 (by omega) (by omega) B s0 W h)
  have HU2 := Lib.hid (fun (B : Nat) (W : World) (h : CurAt 129 w.heap.size W B s1) => show Calls Tryz.prog 52 #[.pointer (some ⟨B, 0, none⟩), .int .i64 1] W (fun e w' => e = .returned (.int .i64 sq) ∧ CurAt 129 w.heap.size w' B s2 ∧ W.grownBy w' (some B)) from by rw [← hsq, ← hs2]; exact cuint_any 1 (by omega) (by omega) B s1 W h)
  have HU3 := Lib.hid (fun (B : Nat) (W : World) (h : CurAt 129 w.heap.size W B s2) => show Calls Tryz.prog 52 #[.pointer (some ⟨B, 0, none⟩), .int .i64 1] W (fun e w' => e = .returned (.int .i64 (N : Int)) ∧ CurAt 129 w.heap.size w' B s3 ∧ W.grownBy w' (some B)) from by rw [← hNe, ← hs3]; exact cuint_any 1 (by omega) (by omega) B s2 W h)
  rw [hac, hs1, hsq, hs2, hs3, hNe, Int.toNat_natCast] at hoi
  have HOI := Lib.hid hoi
  clear hoi hs1 hac hs2 hsq hs3 hN hNe HC1
  go_enter Tryz.func21, Tryz.ntmps21
  go_wp2_with fail
  go_step3
  go_wp2_with fail
  refine HO.out.mono ?_
  rintro e w1 ⟨B, rfl, hC1, hB1, hE1⟩
  have HC1 := Lib.hid hC1
  have HB1 := Lib.hid (show w.heap.size + 1 ≤ B by simpa using hB1)
  have HE1 := Lib.hid hE1
  clear hC1 hB1 hE1 HO
  go_wp2_with fail
  refine (HU1.out B _ HC1.out).mono ?_
  rintro e w2 ⟨rfl, hC2, hg2⟩
  have HC2 := Lib.hid hC2
  have HR2 := Lib.hid ((HR0.out.ext HE1.out).grown hg2 (fun e => by injection e with e; have := HB1.out; omega))
  have HE2 := Lib.hid (show Ext w w2 from ext_grown (HE0.out.trans HE1.out) hg2 (by have := HB1.out; omega))
  clear hC2 hg2 HC1 HR0 HE1
  go_wp2_with fail
  refine (HU2.out B _ HC2.out).mono ?_
  rintro e w3 ⟨rfl, hC3, hg3⟩
  have hR3 : Blk w3 w.heap.size 31 zero4 := HR2.out.grown hg3 (fun e => by injection e with e; have := HB1.out; omega)
  have hE3 : Ext w w3 := ext_grown HE2.out hg3 (by have := HB1.out; omega)
  have hw3 : w.heap.size < w3.heap.size := hR3.lt
  have hD3 : TdB w (w3.alloc (.cells (stA ac sq none 0 0 none 0 0) 31)) B w3.heap.size ac sq none 0 0 none 0 0 [] [] s2 :=
    ⟨hC3.ext ((Ext.refl w3).alloc' _), Blk.new _ _ _, World.ownsRow_nil _ _ _ _, (fun R hR => by cases hR), OwnB.nil _ _ _, hE3.alloc' _, by have := HB1.out; omega, hw3, hR3.alloc _⟩
  have HD3 := Lib.hid hD3
  clear hC3 hg3 hR3 hE3 hD3 HC2 HR2 HE2
  go_wp2_with fail
  refine (HU3.out B _ HD3.out.cur).mono ?_
  rintro e w4 ⟨rfl, hC4, hg4⟩
  have HD4 := Lib.hid (HD3.out.read hC4 hg4)
  generalize w3.heap.size = X at *
  clear hC4 hg4 HD3 hw3 HU1 HU2 HU3
  go_wp2_with fail
  go_step3
  go_wp2_with fail
  go_loopw [19] (fun i wr => ∃ (k : Nat) (A4 : Option Addr) (c4 : Nat) (L : List OpR), k ≤ N ∧ i = .int .i64 (k : Int) ∧ L.map OpR.v = ltV s3 k ∧ Hid (TdB w wr B X ac sq A4 k c4 none 0 0 L [] (stO s3 k))) (fun i _ => N - (intOf i).toNat)
  case atStart => exact ⟨0, none, 0, [], Nat.zero_le _, rfl, rfl, HD4⟩
  case round =>
    obtain ⟨k, A4, c4, L, hk, rfl, hLV, HD⟩ := hrel
    have HLV := Lib.hid hLV
    clear hLV HD4
    by_cases hlt : k < N
    · have HB1 := Lib.hid (@decIn_bad ac sq s3 N (k + 1) hlt)
      have HB2 := Lib.hid (@decIn_bad2 ac sq s3 N k hlt)
      have HLT := Lib.hid (ltV_succ s3 k)
      have HST := Lib.hid (show stO s3 (k + 1) = (rdOp (stO s3 k)).2 from rfl)
      have i1 : (k : Int) < (N : Int) := by omega
      go_wp2_with fail
      refine (readOp_any w.heap.size B (stO s3 k) _ HD.out.cur HD.out.low.size).mono ?_
      rintro e w5 ⟨R, rfl, hRv, hO1, hO2, hC5, hg5⟩
      rw [← HST.out] at hC5
      have HD5 := Lib.hid (HD.out.read hC5 hg5)
      have HOW := Lib.hid (OwnOp.mono (w := w5) (R := R) ⟨hO1, hO2⟩ HD.out.low.size)
      rw [← hRv] at HB2 HLT
      have hA5 := (Ext.refl w5).alloc' (.cells (opA R) 50)
      have HA5 := Lib.hid hA5
      have hnew := new_op w5 R
      clear hC5 hg5 hO1 hO2 hRv hA5 HD
      obtain ⟨s', hs'⟩ : ∃ s', stO s3 (k + 1) = s' := ⟨_, rfl⟩
      rw [hs'] at HB1 HD5
      have HS' := Lib.hid hs'
      clear hs' HST
      go_wp2_with (first | (with_reducible refine wpList_newO rfl (.tmp 7) (.tmp 22) rfl _ rfl R rfl rfl ?_))
      refine (cok_any w.heap.size B s' _ (HD5.out.cur.ext HA5.out)).mono ?_
      rintro e w6 ⟨rfl, rfl⟩
      cases s' with
      | none =>
        have HOUT := Lib.hid (show out = none by rw [HOI.out]; exact HB1.out rfl)
        have HD6 := Lib.hid (HD5.out.ext HA5.out)
        have q2 : (w5.alloc (.cells (opA R) 50)).cell? ⟨X, 2, none⟩ = some (.slice A4 k c4) := HD6.out.blk.cell 2
        have d1 : ((k : Int) != (N : Int)) = true := by simp; omega
        have d2 : ((k : Int) == (N : Int)) = false := by simp; omega
        have d3 : decide ((k : Int) = (N : Int)) = false := by simp; omega
        have ht6 := st_there HD6.out.res
        clear HB1 HB2 HLT hnew
        go_wp2_with (first | (with_reducible refine wpList_storeSt rfl (.tmp 2) (.tmp 45) rfl w.heap.size zero4 rfl rfl ht6 rfl (stA_all _ _ _ _ _ _ _ _) ?_))
        rw [Exit.noGoto_ret]
        exact bodyPost_ret (v := .tuple #[.agg zero4, .int .i64 4]) (retCV rfl _ _ w.heap.size _ _ rfl rfl (run_loadVar_row _ _ _ _ _ (0, 0) _ (st_store HD6.out.res zero4 rfl) Tryz.underlying31 rfl (by kernel_rfl))) rfl ⟨Below.setCells' HD6.out.low (Nat.le_refl _) _ _, .inl ⟨HOUT.out, rfl⟩⟩
      | some r =>
        go_wp2_with (first | (with_reducible refine wpList_loadO rfl (.tmp 7) rfl w5.heap.size 0 rfl R hnew ?_))
        refine (validOp_any R _ (HOW.out.ok.ext HA5.out)).mono ?_
        rintro e w7 ⟨rfl, he7⟩
        have HD7 := Lib.hid ((HD5.out.ext HA5.out).ext he7)
        have HOW7 := Lib.hid ((HOW.out.ext HA5.out).ext he7)
        have q2 : w7.cell? ⟨X, 2, none⟩ = some (.slice A4 k c4) := HD7.out.blk.cell 2
        have hnew7 := op_range ((Blk.new w5 50 (opA R)).ext he7)
        have HVV := Lib.hid (vOp_v (R := R) HOW.out.ok.pre.len HOW.out.ok.prf.len)
        clear he7 hnew
        cases hv : vOp R with
        | false =>
          have HOUT := Lib.hid (show out = none by rw [HOI.out]; exact HB2.out (by rw [← HVV.out]; exact hv))
          have d1 : ((k : Int) != (N : Int)) = true := by simp; omega
          have d2 : ((k : Int) == (N : Int)) = false := by simp; omega
          have d3 : decide ((k : Int) = (N : Int)) = false := by simp; omega
          have ht6 := st_there HD7.out.res
          clear HB1 HB2 HLT hnew7 hv HVV
          go_wp2_with (first | (with_reducible refine wpList_storeSt rfl (.tmp 2) (.tmp 45) rfl w.heap.size zero4 rfl rfl ht6 rfl (stA_all _ _ _ _ _ _ _ _) ?_))
          rw [Exit.noGoto_ret]
          exact bodyPost_ret (v := .tuple #[.agg zero4, .int .i64 4]) (retCV rfl _ _ w.heap.size _ _ rfl rfl (run_loadVar_row _ _ _ _ _ (0, 0) _ (st_store HD7.out.res zero4 rfl) Tryz.underlying31 rfl (by kernel_rfl))) rfl ⟨Below.setCells' HD7.out.low (Nat.le_refl _) _ _, .inl ⟨HOUT.out, rfl⟩⟩
        | true =>
          have HA8 := Lib.hid (HD7.out.ext ((Ext.refl w7).alloc' (.cells (opA R) 50)))
          have HOW8 := Lib.hid (HOW7.out.ext ((Ext.refl w7).alloc' (.cells (opA R) 50)))
          have hbs := run_buildO1 R
          have HS8 := Lib.hid (Rd.of_blk (Blk.new w7 50 (opA R)))
          clear HB1 HB2 hv HVV HOW HD5 HOW7
          go_wp2_with (first | (with_reducible refine wpList_loadO rfl (.tmp 7) rfl w5.heap.size 0 rfl R hnew7 ?_) | (at_builtin; go_must (refine wpList_appGG opE rfl (.tmp 32) (.tmp 34) rfl w.heap.size A4 k c4 (ocs L) rfl HA8.out.own _ 1 1 (opL R) rfl HS8.out (by rfl) (opL_one R) (by omega) (by omega) HA8.out.low.size ?_; intro A7 c7 w8 hO8 hg8; have HD9 := Lib.hid (HA8.out.push HOW8.out hg8 hO8); have hb8 := HA8.out.blk.grown hg8 (own_other HA8.out.own HA8.out.blk (by decide)); have q8 : w8.cell? ⟨X, 2, none⟩ = some (.slice A4 k c4) := hb8.cell 2; have f8 := hb8.frozen 2; clear hO8 hg8 hb8 hbs hnew7 q2)))
          go_roundw
          case rel => exact ⟨k + 1, A7, c7, L ++ [R], by omega, by go_num, by rw [List.map_append, HLV.out, HLT.out]; rfl, by rw [HS'.out]; exact HD9⟩
          case measure => simp [intOf]; omega
    · obtain rfl : k = N := by omega
      have HLN := Lib.hid (HD.out.len)
      have hq2 : wr.cell? ⟨X, 2, none⟩ = some (.slice A4 k c4) := HD.out.blk.cell 2
      go_wp2_with fail
      refine (cblob_any w.heap.size B (stO s3 k) _ HD.out.cur).mono ?_
      rintro e w5 ⟨S, m, d, rfl, hO, hC5, hg5⟩
      have HD5 := Lib.hid (HD.out.read hC5 hg5)
      have hO' := own_mono hO HD.out.low.size
      have HM := Lib.hid (show (rBlob (stO s3 k)).length = m from OwnB.len hO)
      have hq3 : w5.cell? ⟨X, 3, none⟩ = some (.slice none 0 0) := HD5.out.blk.cell 3
      have hf3 := HD5.out.blk.frozen 3
      obtain ⟨w6, hw6⟩ : ∃ w6, w5.setCell ⟨X, 3, none⟩ (.slice S m d) = w6 := ⟨_, rfl⟩
      have HD6 := Lib.hid (HD5.out.setSig hO')
      rw [hw6] at HD6
      have HVO := Lib.hid (show vTx ac sq L = vTxV ac sq (ltV s3 k) by rw [← HLV.out]; exact vTx_v (fun R hR => vOp_v ((HD6.out.ops R hR).ok).pre.len ((HD6.out.ops R hR).ok).prf.len))
      have HN1 := Lib.hid (@decIn_no1 ac sq s3 k)
      have HN2 := Lib.hid (@decIn_no2 ac sq s3 k)
      have HN3 := Lib.hid (@decIn_no3 ac sq s3 k)
      have HY := Lib.hid (@decIn_yes ac sq s3 k)
      have hmc := HD6.out.sig.sl.le
      have hmc2 := HD6.out.sig.sl.cap
      obtain ⟨s5, hs5⟩ : ∃ s5, rAft (stO s3 k) = s5 := ⟨_, rfl⟩
      rw [hs5] at HD6 HN1 HY
      obtain ⟨V, hV⟩ : ∃ V, ltV s3 k = V := ⟨_, rfl⟩
      rw [hV] at HLV HVO HN2 HY
      obtain ⟨G, hG⟩ : ∃ G, rBlob (stO s3 k) = G := ⟨_, rfl⟩
      rw [hG] at HM HN3 HY HD6
      have HQ := Lib.hid (fun (W : World) (h : Ext w6 W) => st_facts (HD6.out.blk.ext h))
      have HDN := Lib.hid (fun (W : World) (h : Ext w6 W) => show Calls Tryz.prog 57 #[.pointer (some ⟨B, 0, none⟩)] W (fun e w' => e = .returned (.bool (decide (s5 = some []))) ∧ Ext W w') from (cdone_any B s5 W (HD6.out.cur.ext h)).mono (fun e w' ⟨he, q, hq⟩ => ⟨he, by rw [hq]; exact drewN_ext _ _⟩))
      have HVD := Lib.hid (fun (W : World) (h : Ext w6 W) => validate_any ac sq A4 k c4 L W (HD6.out.slo.ext h))
      have hXd := (Ext.refl w6).drew'
      have HRES := Lib.hid (fun (W : World) (h : Ext w6 W) => HD6.out.ext h)
      rw [HVO.out] at HVD
      clear hO hO' hC5 hg5 HD hs5 hV hG HVO hq2
      go_wp2_with fail
      clear hw6 hq3 hf3 HD5
      by_cases hst : s5 = some []
      · rw [decide_eq_true hst] at HDN
        have HST := Lib.hid hst
        clear hst
        cases hv : vTxV ac sq V with
        | false =>
          rw [hv] at HVD
          have HVD := Lib.hid (show ∀ (W : World) (h : Ext w6 W), Calls Tryz.prog 23 #[.agg (txA ac sq A4 k c4)] W (fun e w' => e = .returned (.int .i64 1) ∧ Ext W w') from HVD.out)
          have HOUT := Lib.hid (show out = none by rw [HOI.out]; exact HN2.out hv)
          clear HN1 HN2 HN3 HY HM hv
          first | go_region_with (first | (go_at_call 57; (with_reducible refine (HDN.out _ hXd).mono ?_); rintro e w7 ⟨rfl, he7⟩; have hX7 := hXd.trans he7; obtain ⟨p0, p1, p2, p3⟩ := HQ.out _ hX7) | (go_at_call 23; (with_reducible refine (HVD.out _ hX7).mono ?_); rintro e w8 ⟨rfl, he8⟩) | fail "ARM") | fail "REGION"
          all_goals (
            have HDz := Lib.hid (HRES.out _ (hX7.trans he8))
            have htz := st_there HDz.out.res
            clear p0 p1 p2 p3 hX7 he7 he8 hXd
            go_wp2_with (first | (with_reducible refine wpList_storeSt rfl (.tmp 2) (.tmp 65) rfl w.heap.size zero4 rfl rfl htz rfl (stA_all _ _ _ _ _ _ _ _) ?_))
            rw [Exit.noGoto_ret]
            exact bodyPost_ret (v := .tuple #[.agg zero4, .int .i64 4]) (retCV rfl _ _ w.heap.size _ _ rfl rfl (run_loadVar_row _ _ _ _ _ (0, 0) _ (st_store HDz.out.res zero4 rfl) Tryz.underlying31 rfl (by kernel_rfl))) rfl ⟨Below.setCells' HDz.out.low (Nat.le_refl _) _ _, .inl ⟨HOUT.out, rfl⟩⟩)
        | true =>
          rw [hv] at HVD
          have HVD := Lib.hid (show ∀ (W : World) (h : Ext w6 W), Calls Tryz.prog 23 #[.agg (txA ac sq A4 k c4)] W (fun e w' => e = .returned (.int .i64 0) ∧ Ext W w') from HVD.out)
          by_cases hm : m = 186
          · have HOUT := Lib.hid (show out = some (ac, sq, V, G) by rw [HOI.out]; exact HY.out HST.out hv (by rw [HM.out]; exact hm))
            subst hm
            clear HN1 HN2 HN3 HY HM hv
            first | go_region_with (first | (go_at_call 57; (with_reducible refine (HDN.out _ hXd).mono ?_); rintro e w7 ⟨rfl, he7⟩; have hX7 := hXd.trans he7; obtain ⟨p0, p1, p2, p3⟩ := HQ.out _ hX7) | (go_at_call 23; (with_reducible refine (HVD.out _ hX7).mono ?_); rintro e w8 ⟨rfl, he8⟩; have hX8 := hX7.trans he8; clear p0 p1 p2 p3; obtain ⟨p0, p1, p2, p3⟩ := HQ.out _ hX8) | (go_at_call 48; (with_reducible refine (size1_any _).mono ?_); rintro e w9 ⟨rfl, rfl⟩) | fail "ARM") | fail "REGION"
            all_goals (
              have HDz := Lib.hid (HRES.out _ hX8)
              have htz := st_there HDz.out.res
              have hbz := HDz.out.blk
              clear p0 p1 p2 p3 hX7 he7 he8 hXd hX8
              go_wp2_with (first | (with_reducible refine wpList_loadSt rfl (.tmp 5) rfl X rfl ac sq A4 k c4 S 186 d hbz ?_) | (with_reducible refine wpList_storeSt rfl (.tmp 2) (.tmp 66) rfl w.heap.size (stA ac sq A4 k c4 S 186 d) rfl rfl htz rfl (stA_all _ _ _ _ _ _ _ _) ?_))
              rw [Exit.noGoto_ret]
              exact bodyPost_ret (v := .tuple #[.agg (stA ac sq A4 k c4 S 186 d), .int .i64 0]) (retCV rfl _ _ w.heap.size _ _ rfl rfl (run_loadVar_row _ _ _ _ _ (0, 0) _ (st_store HDz.out.res (stA ac sq A4 k c4 S 186 d) rfl) Tryz.underlying31 rfl (by kernel_rfl))) rfl ⟨Below.setCells' HDz.out.low (Nat.le_refl _) _ _, .inr ⟨⟨ac, sq, A4, k, c4, S, 186, d, L, G⟩, by rw [HOUT.out, ← HLV.out]; rfl, rfl, HDz.out.fin _⟩⟩)
          · have HOUT := Lib.hid (show out = none by rw [HOI.out]; exact HN3.out (by rw [HM.out]; exact hm))
            have d1 : ((m : Int) != 186) = true := by simp; omega
            have d2 : decide ((m : Int) = 186) = false := by simp; omega
            have d3 : ((m : Int) == 186) = false := by simp; omega
            clear HN1 HN2 HN3 HY HM hv hm
            first | go_region_with (first | (go_at_call 57; (with_reducible refine (HDN.out _ hXd).mono ?_); rintro e w7 ⟨rfl, he7⟩; have hX7 := hXd.trans he7; obtain ⟨p0, p1, p2, p3⟩ := HQ.out _ hX7) | (go_at_call 23; (with_reducible refine (HVD.out _ hX7).mono ?_); rintro e w8 ⟨rfl, he8⟩; have hX8 := hX7.trans he8; clear p0 p1 p2 p3; obtain ⟨p0, p1, p2, p3⟩ := HQ.out _ hX8) | (go_at_call 48; (with_reducible refine (size1_any _).mono ?_); rintro e w9 ⟨rfl, rfl⟩) | fail "ARM") | fail "REGION"
            all_goals (
              have HDz := Lib.hid (HRES.out _ hX8)
              have htz := st_there HDz.out.res
              clear p0 p1 p2 p3 hX7 he7 he8 hXd hX8
              go_wp2_with (first | (with_reducible refine wpList_storeSt rfl (.tmp 2) (.tmp 65) rfl w.heap.size zero4 rfl rfl htz rfl (stA_all _ _ _ _ _ _ _ _) ?_))
              rw [Exit.noGoto_ret]
              exact bodyPost_ret (v := .tuple #[.agg zero4, .int .i64 4]) (retCV rfl _ _ w.heap.size _ _ rfl rfl (run_loadVar_row _ _ _ _ _ (0, 0) _ (st_store HDz.out.res zero4 rfl) Tryz.underlying31 rfl (by kernel_rfl))) rfl ⟨Below.setCells' HDz.out.low (Nat.le_refl _) _ _, .inl ⟨HOUT.out, rfl⟩⟩)
      · rw [decide_eq_false hst] at HDN
        have HOUT := Lib.hid (show out = none by rw [HOI.out]; exact HN1.out hst)
        clear HN1 HN2 HN3 HY HM hst
        first | go_region_with (first | (go_at_call 57; (with_reducible refine (HDN.out _ hXd).mono ?_); rintro e w7 ⟨rfl, he7⟩; have hX7 := hXd.trans he7) | fail "ARM") | fail "REGION"
        all_goals (
          have HDz := Lib.hid (HRES.out _ hX7)
          have htz := st_there HDz.out.res
          clear hX7 he7 hXd
          go_wp2_with (first | (with_reducible refine wpList_storeSt rfl (.tmp 2) (.tmp 65) rfl w.heap.size zero4 rfl rfl htz rfl (stA_all _ _ _ _ _ _ _ _) ?_))
          rw [Exit.noGoto_ret]
          exact bodyPost_ret (v := .tuple #[.agg zero4, .int .i64 4]) (retCV rfl _ _ w.heap.size _ _ rfl rfl (run_loadVar_row _ _ _ _ _ (0, 0) _ (st_store HDz.out.res zero4 rfl) Tryz.underlying31 rfl (by kernel_rfl))) rfl ⟨Below.setCells' HDz.out.low (Nat.le_refl _) _ _, .inl ⟨HOUT.out, rfl⟩⟩)
end Go.Proofs.YtcfmlgbocdjabaaGreat
