/- EncodePayload, SameTxs, SamePayload (the reference's). -/
import Derived.Test.YtfklmcfanhnfpaaPy1
import Derived.Test.YtfklmcfanhnfpaaTx12b
import Derived.Test.YtfklmcfanhnfpaaTx16
namespace Go.Proofs.Ytfklmcfanhnfpaa
open Go.RowKit
set_option linter.unusedVariables false
set_option linter.unusedSimpArgs false
attribute [local go_sem ↓] Go.wp_at_zero Go.wp_at_succ

set_option maxRecDepth 100000 in
set_option maxHeartbeats 4000000 in
theorem refEncPayload_any (A : Option Addr) (n c : Nat) (L : List TxR) (w : World) (hS : SlT w A n c L) :
    Calls Try.prog 19 #[.agg (pyA A n c)] w (EncPOut w L) := by
  have hle := hS.le
  have hcap := hS.cap
  have hlen := hS.len
  have hE := (Ext.refl w).alloc' (.cells (pyA A n c) 31)
  have HE := Lib.hid hE
  have HB := Lib.hid (Blk.new w 31 (pyA A n c))
  have q0 : (w.alloc (.cells (pyA A n c) 31)).cell? ⟨w.heap.size, 0, none⟩ = some (.slice A n c) := HB.out.cell 0
  by_cases h8 : n ≤ 8
  · have d1 : decide (8 < (n : Int)) = false := decide_eq_false (by omega)
    have HS := Lib.hid (hS.ext hE)
    have HLEN := Lib.hid hlen
    obtain ⟨w0, hw0⟩ : ∃ w0, w.alloc (.cells (pyA A n c) 31) = w0 := ⟨_, rfl⟩
    rw [hw0] at HS HE HB q0
    have HQ := Lib.hid (fun (W : World) (h : Ext w0 W) => show W.cell? ⟨w.heap.size, 0, none⟩ = some (.slice A n c) from (HB.out.ext h).cell 0)
    have HN := Lib.hid (refNum1_any _ 1 1 [2] (n : Int) _ (SlB.new1 w0 5 2 2 w0.heap.size rfl rfl) (by omega))
    have hws : w0.heap.size = w.heap.size + 1 := by rw [← hw0]; simp
    rw [hws] at HN
    have HCA := Lib.hid (show n = 0 ∨ ∃ b o, A = some ⟨b, o, none⟩ ∧ w0.rangeAt b o (tcs L) ∧ b < w0.heap.size from by
      rcases Nat.eq_zero_or_pos n with h0 | h0
      · exact .inl h0
      · exact .inr (HS.out.at h0))
    clear hS hE hlen
    go_enter Try.func19, Try.ntmps19
    go_wp2_with fail
    refine HN.out.mono ?_
    rintro e w1 ⟨A1, c1, rfl, hO1, he1⟩
    have HX1 := Lib.hid (((Ext.refl w0).alloc' (.cells #[.int .u8 2] 5)).trans he1)
    have HS1 := Lib.hid hO1.sl
    clear hO1 he1 q0 hw0 HN
    go_wp2_with fail
    go_loopw [5, 4] (fun i v wr => ∃ (k : Nat) (A4 : Option Addr) (n4 c4 : Nat), k ≤ n ∧ i = .int .i64 (k : Int) ∧ v = .slice A4 n4 c4 ∧ n4 ≤ 2 + 14002 * k ∧ Hid (SlB wr A4 n4 c4 ([2, toB (n : Int)] ++ encTs (L.take k))) ∧ Hid (Ext w0 wr) ∧ Hid (∀ j, j < k → vT (nthT L j) = true)) (fun i _ _ => n - (intOf i).toNat)
    case atStart => exact ⟨0, A1, _, c1, Nat.zero_le _, rfl, rfl, by omega, Lib.hid (by simpa [encTs] using HS1.out), HX1, Lib.hid (fun j hj => by omega)⟩
    case round =>
      obtain ⟨k, A4, n4, c4, hk, rfl, rfl, hn4, HS4, HX, HP⟩ := hrel
      have q0 := HQ.out _ HX.out
      by_cases hlt : k < n
      · obtain ⟨b, o, rfl, hr0, hb0⟩ : ∃ b o, A = some ⟨b, o, none⟩ ∧ w0.rangeAt b o (tcs L) ∧ b < w0.heap.size := by
          rcases HCA.out with h0 | h0
          · omega
          · exact h0
        have hr := tx_at (rangeAt_keep hr0 (HX.out.block b hb0)) (k := k) (by rw [HLEN.out]; exact hlt)
        have HTK := Lib.hid (take_nthT (L := L) (k := k) (by rw [HLEN.out]; exact hlt))
        have HOK := Lib.hid ((HS.out.nth hlt).ext HX.out)
        have HNO := Lib.hid (fun (h : vT (nthT L k) = false) => vP_at (L := L) (by rw [HLEN.out]; exact hlt) h)
        have HQQ := Lib.hid (fun (hx : vT (nthT L k) = true) => show ∀ j, j < k + 1 → vT (nthT L j) = true from fun j hj => by
          rcases Nat.lt_or_ge j k with h | h
          · exact HP.out j h
          · obtain rfl : j = k := by omega
            exact hx)
        have i0 : (0 : Int) ≤ (k : Int) := by omega
        have i1 : (k : Int) < (n : Int) := by omega
        obtain ⟨T, hT⟩ : ∃ T, nthT L k = T := ⟨_, rfl⟩
        rw [hT] at hr HTK HOK HNO HQQ
        clear hT hr0
        cases hv : vT T with
        | false =>
          have HR := Lib.hid (HNO.out hv)
          go_wp2_with (first | (with_reducible refine wpList_loadT rfl (.tmp 28) rfl b (o + k * 4) rfl T hr ?_))
          refine (refEncodeTx_no T.ac T.sq T.A T.n T.c T.S T.m T.d T.L T.sig _ HOK.out.ops HOK.out.sig hv).mono ?_
          rintro e w1 ⟨rfl, he1⟩
          have HX1 := Lib.hid (HE.out.trans (HX.out.trans he1))
          clear he1 hr hv
          go_wp2_with fail
          go_ret2
          exact ⟨HX1.out, .inl ⟨HR.out, rfl⟩⟩
        | true =>
          have HQ' := Lib.hid (HQQ.out hv)
          go_wp2_with (first | (with_reducible refine wpList_loadT rfl (.tmp 28) rfl b (o + k * 4) rfl T hr ?_))
          refine (refEncodeTx_yes T.ac T.sq T.A T.n T.c T.S T.m T.d T.L T.sig _ HOK.out.ops HOK.out.sig hv).mono ?_
          rintro e w1 ⟨A1, n1, c1, rfl, hS1, hn1, he1⟩
          have HS1 := Lib.hid hS1
          have HX1 := Lib.hid (HX.out.trans he1)
          have HS41 := Lib.hid (HS4.out.ext he1)
          clear he1 hr hv hS1
          go_wp2_with fail
          refine (refStr_any A4 n4 c4 _ A1 n1 c1 _ _ HS41.out HS1.out (by omega) (by omega)).mono ?_
          rintro e w2 ⟨A2, n2, c2, rfl, hO2, he2⟩
          have HS2 := Lib.hid (show SlB w2 A2 n2 c2 ([2, toB (n : Int)] ++ encTs (L.take (k + 1))) by
            rw [HTK.out, encTs_append]
            have := hO2.sl
            simpa [encTs, encT] using this)
          have hn2 : n2 ≤ 2 + 14002 * (k + 1) := by
            have a1 := hO2.len
            have a2 := HS4.out.len
            have a3 := HS1.out.len
            rw [List.length_append, blob_length, a2, a3] at a1
            omega
          have HX2 := Lib.hid (HX1.out.trans he2)
          clear hO2 he2 HS41 q0
          go_wp2_with fail
          go_roundw
          case rel => exact ⟨k + 1, A2, n2, c2, by omega, by go_num, rfl, hn2, HS2, HX2, HQ'⟩
          case measure => simp [intOf]; omega
      · obtain rfl : k = n := by omega
        have HR := Lib.hid (show vP L = true from vP_yes (by rw [HLEN.out]; exact h8) (fun j hj => HP.out j (by rw [HLEN.out] at hj; exact hj)))
        go_wp2_with fail
        go_ret2
        refine ⟨HE.out.trans HX.out, .inr ⟨HR.out, A4, n4, c4, rfl, ?_, by omega⟩⟩
        have := HS4.out
        unfold encP
        rw [List.take_of_length_le (Nat.le_of_eq HLEN.out)] at this
        rw [HLEN.out]
        exact this
  · have d1 : (8 : Int) < (n : Int) := by omega
    have HR := Lib.hid (show vP L = false from vP_no1 (by omega))
    clear hS hE hlen h8
    go_enter Try.func19, Try.ntmps19
    go_wp2_with fail
    go_ret2
    exact ⟨HE.out, .inl ⟨HR.out, rfl⟩⟩
theorem tL_four {w : World} {b o : Nat} {T : TxR} (h : w.rangeAt b o (tL T)) : w.cell? ⟨b, o, none⟩ = some (.int .i64 T.ac) ∧ w.cell? ⟨b, o + 1, none⟩ = some (.int .i64 T.sq) ∧ w.cell? ⟨b, o + 2, none⟩ = some (.slice T.A T.n T.c) ∧ w.cell? ⟨b, o + 3, none⟩ = some (.slice T.S T.m T.d) :=
  ⟨h 0 _ rfl, h 1 _ rfl, h 2 _ rfl, h 3 _ rfl⟩
theorem nthT_v {L : List TxR} {k : Nat} (h : k < L.length) : (L.map TxR.v)[k]? = some (nthT L k).v := by
  simp [nthT, h]
set_option maxRecDepth 100000 in
set_option maxHeartbeats 4000000 in
theorem sameTxs_yes (A A' : Option Addr) (n c c' : Nat) (L M : List TxR) (w : World) (hS : SlT w A n c L) (hS' : SlT w A' n c' M) (hv : L.map TxR.v = M.map TxR.v) :
    Calls Try.prog 57 #[.slice A n c, .slice A' n c'] w fun e w' => e = .returned (.bool true) ∧ Ext w w' := by
  have HL := Lib.hid hS.len
  have HM := Lib.hid hS'.len
  have hle := hS.le
  have hcap := hS.cap
  have hle' := hS'.le
  have hcap' := hS'.cap
  have HS := Lib.hid hS
  have HS' := Lib.hid hS'
  have HEQ := Lib.hid (fun (k : Nat) (hk : k < n) => show eqT (nthT L k) (nthT M k) = true from by
    rw [eqT_iff]
    have := congrArg (fun l => l[k]?) hv
    simp only [nthT_v (show k < L.length by rw [HL.out]; exact hk), nthT_v (show k < M.length by rw [HM.out]; exact hk)] at this
    injection this)
  clear hS hS' hv
  have HCA := Lib.hid (show n = 0 ∨ ((∃ b o, A = some ⟨b, o, none⟩ ∧ w.rangeAt b o (tcs L) ∧ b < w.heap.size) ∧ ∃ b o, A' = some ⟨b, o, none⟩ ∧ w.rangeAt b o (tcs M) ∧ b < w.heap.size) from by
    rcases Nat.eq_zero_or_pos n with h0 | h0
    · exact .inl h0
    · exact .inr ⟨HS.out.at h0, HS'.out.at h0⟩)
  go_enter Try.func57, Try.ntmps57
  go_wp2_with fail
  go_loopw [5] (fun i wr => ∃ k : Nat, k ≤ n ∧ i = .int .i64 (k : Int) ∧ Hid (Ext w wr)) (fun i _ => n - (intOf i).toNat)
  case atStart => exact ⟨0, Nat.zero_le _, rfl, Lib.hid (Ext.refl _)⟩
  case round =>
    obtain ⟨k, hk, rfl, HX⟩ := hrel
    by_cases hlt : k < n
    · obtain ⟨⟨b, o, rfl, hr0, hb0⟩, b', o', rfl, hr0', hb0'⟩ : (∃ b o, A = some ⟨b, o, none⟩ ∧ w.rangeAt b o (tcs L) ∧ b < w.heap.size) ∧ ∃ b o, A' = some ⟨b, o, none⟩ ∧ w.rangeAt b o (tcs M) ∧ b < w.heap.size := by
        rcases HCA.out with h0 | h0
        · omega
        · exact h0
      have hXd := HX.out.drew'
      have HR1 := Lib.hid (tx_at (rangeAt_keep hr0 (hXd.block b hb0)) (k := k) (by rw [HL.out]; exact hlt))
      have HR2 := Lib.hid (tx_at (rangeAt_keep hr0' (hXd.block b' hb0')) (k := k) (by rw [HM.out]; exact hlt))
      have HSO := Lib.hid (equalTx_any (nthT L k) (nthT M k) wr.drew ((HS.out.nth hlt).ext hXd) ((HS'.out.nth hlt).ext hXd))
      rw [HEQ.out k hlt] at HSO
      have i0 : (0 : Int) ≤ (k : Int) := by omega
      have i1 : (k : Int) < (n : Int) := by omega
      obtain ⟨R, hR⟩ : ∃ R, nthT L k = R := ⟨_, rfl⟩
      obtain ⟨Q, hQ⟩ : ∃ Q, nthT M k = Q := ⟨_, rfl⟩
      rw [hR, hQ] at HSO
      rw [hR] at HR1
      rw [hQ] at HR2
      clear hR hQ hr0 hb0 hr0' hb0'
      obtain ⟨x0, x1, x2, x3⟩ := tL_four HR1.out
      obtain ⟨y0, y1, y2, y3⟩ := tL_four HR2.out
      go_wp2_with fail
      go_region_law (first | (go_simp; go_at_call 35; (with_reducible refine HSO.out.mono ?_); rintro e w1 ⟨rfl, he1⟩))
      all_goals (
        have HX1 := Lib.hid (hXd.trans he1)
        clear he1 hXd x0 x1 x2 x3 y0 y1 y2 y3
        go_wp2_with fail
        go_roundw
        case rel => exact ⟨k + 1, by omega, by go_num, HX1⟩
        case measure => simp [intOf]; omega)
    · obtain rfl : k = n := by omega
      go_wp2_with fail
      go_ret
      exact ⟨rfl, HX.out⟩
set_option maxRecDepth 100000 in
set_option maxHeartbeats 1000000 in
theorem samePayload_yes (A A' : Option Addr) (n c c' : Nat) (L M : List TxR) (w : World) (hS : SlT w A n c L) (hS' : SlT w A' n c' M) (hv : L.map TxR.v = M.map TxR.v) :
    Calls Try.prog 21 #[.agg (pyA A n c), .agg (pyA A' n c')] w fun e w' => e = .returned (.bool true) ∧ Ext w w' := by
  have hE := ((Ext.refl w).alloc' (.cells (pyA A n c) 31)).alloc' (.cells (pyA A' n c') 31)
  have HS := Lib.hid (sameTxs_yes A A' n c c' L M _ (hS.ext hE) (hS'.ext hE) hv)
  have HE := Lib.hid hE
  clear hS hS' hv hE
  go_enter Try.func21, Try.ntmps21
  go_wp2_with fail
  refine HS.out.mono ?_
  rintro e w1 ⟨rfl, he1⟩
  go_wp2_with fail
  go_ret
  exact ⟨rfl, HE.out.trans he1⟩
end Go.Proofs.Ytfklmcfanhnfpaa
/- The walk of BlockPayload. -/
namespace Go.Proofs.Ytfklmcfanhnfpaa
open Go.RowKit
set_option linter.unusedVariables false
set_option linter.unusedSimpArgs false
attribute [local go_sem ↓] Go.wp_at_zero Go.wp_at_succ

set_option maxRecDepth 100000 in
set_option maxHeartbeats 4000000 in
theorem blockPayload_any (A : Option Addr) (n c : Nat) (L : List TxR) (w : World) (hS : SlT w A n c L) :
    Calls Try.prog 4 #[.agg (pyA A n c)] w fun e w' => e = .returned (.bool true) ∧ Ext w w' := by
  have HLENS := Lib.hid (fun T (hT : T ∈ L) => lens_of (hS.ok T hT))
  have HLEN := Lib.hid hS.len
  have hE := (Ext.refl w).alloc' (.cells (pyA A n c) 31)
  have HB := Lib.hid (Blk.new w 31 (pyA A n c))
  have HS := Lib.hid (hS.ext hE)
  have HE := Lib.hid hE
  clear hS hE
  go_enter Try.func4, Try.ntmps4
  go_wp2_with fail
  refine (long_any A n c L _ HS.out).mono ?_
  rintro e w1 ⟨⟨b, rfl⟩, he1⟩
  have HE1 := Lib.hid (HE.out.trans he1)
  have HB1 := Lib.hid (HB.out.ext he1)
  have HS1 := Lib.hid (HS.out.ext he1)
  have q0 : w1.cell? ⟨w.heap.size, 0, none⟩ = some (.slice A n c) := HB1.out.cell 0
  clear he1 HE HB HS
  cases b with
  | true =>
    go_wp2_with fail
    refine (awake24_any _).mono ?_
    rintro e w2 ⟨rfl, he2⟩
    go_wp2_with fail
    go_ret
    exact ⟨rfl, HE1.out.trans he2⟩
  | false =>
    go_wp2_with fail
    refine (encPayload_any A n c L _ HS1.out).mono ?_
    rintro e w2 ⟨he2, hout2⟩
    have HE2 := Lib.hid (HE1.out.trans he2)
    have HB2 := Lib.hid (HB1.out.ext he2)
    have HS2 := Lib.hid (HS1.out.ext he2)
    clear q0 HE1 HB1 HS1 he2
    have q0 : w2.cell? ⟨w.heap.size, 0, none⟩ = some (.slice A n c) := HB2.out.cell 0
    rcases hout2 with ⟨hv, rfl⟩ | ⟨hv, A2, n2, c2, rfl, hs2, hn2⟩
    · have HV := Lib.hid hv
      clear hv
      go_wp2_with fail
      refine (refEncPayload_any A n c L _ HS2.out).mono ?_
      rintro e w3 ⟨he3, hout3⟩
      have HE3 := Lib.hid (HE2.out.trans he3)
      rw [HV.out] at hout3
      rcases hout3 with ⟨_, rfl⟩ | ⟨hc, _⟩
      · clear he3 q0
        go_wp2_with fail
        refine (decPayload_any none 0 0 [] _ (SlB.nil _) (by omega)).mono ?_
        rintro e w4 ⟨he4, hout4⟩
        rw [decP_nil] at hout4
        obtain ⟨_, rfl⟩ | ⟨A4, n4, c4, L4, hc, _⟩ := hout4
        · have HE4 := Lib.hid (HE3.out.trans (he4.trans ((Ext.refl w4).alloc' (.cells zero1 31))))
          have r1 := run_strV (SlB.nil (w4.alloc (.cells zero1 31)))
          clear he4 HE3
          go_wp2_with fail
          refine (awake24_any _).mono ?_
          rintro e w8 ⟨rfl, he8⟩
          go_wp2_with fail
          go_ret
          exact ⟨rfl, HE4.out.trans he8⟩
        · cases hc
      · cases hc
    · have HV := Lib.hid hv
      have HD := Lib.hid (decP_enc L HLENS.out hv)
      have HT2 := Lib.hid hs2
      clear hv hs2
      go_wp2_with fail
      refine (refEncPayload_any A n c L _ HS2.out).mono ?_
      rintro e w3 ⟨he3, hout3⟩
      rw [HV.out] at hout3
      rcases hout3 with ⟨hc, _⟩ | ⟨_, A3, n3, c3, rfl, hs3, hn3⟩
      · cases hc
      · have HE3 := Lib.hid (HE2.out.trans he3)
        have HB3 := Lib.hid (HB2.out.ext he3)
        have HS3 := Lib.hid (HS2.out.ext he3)
        have HT23 := Lib.hid (HT2.out.ext he3)
        have HT3 := Lib.hid hs3
        clear he3 q0 hs3 HE2 HB2 HS2 HT2
        go_wp2_with fail
        refine (decPayload_any A2 n2 c2 _ _ HT23.out (by omega)).mono ?_
        rintro e w4 ⟨he4, hout4⟩
        rw [HD.out] at hout4
        obtain ⟨hc, _⟩ | ⟨A4, n4, c4, M, hM, rfl, hs4⟩ := hout4
        · cases hc
        · injection hM with hM
          obtain rfl : n4 = n := by
            have h1 := hs4.len
            have h2 := HLEN.out
            have h3 := congrArg List.length hM
            simp only [List.length_map] at h3
            omega
          have hA4 := (Ext.refl w4).alloc' (.cells (pyA A4 n4 c4) 31)
          have HY4 := Lib.hid (he4.trans hA4)
          have HE4 := Lib.hid (HE3.out.trans HY4.out)
          have r1 := run_strV (HT23.out.ext HY4.out)
          have r2 := run_strV (HT3.out.ext HY4.out)
          have q0 : (w4.alloc (.cells (pyA A4 n4 c4) 31)).cell? ⟨w.heap.size, 0, none⟩ = some (.slice A n4 c) := (HB3.out.ext HY4.out).cell 0
          have HSM := Lib.hid (samePayload_yes A4 A n4 c4 c M L _ (hs4.ext hA4) (HS3.out.ext HY4.out) hM.symm)
          have HK := Lib.hid (fun (W : World) (h : Ext (w4.alloc (.cells (pyA A4 n4 c4) 31)) W) => show Calls Try.prog 12 #[.slice A2 n2 c2] W (fun e w' => e = .returned (.int .i64 2) ∧ W = w') from by
            have := kind_any A2 n2 c2 _ W ((HT23.out.ext HY4.out).ext h)
            rw [kindU_encP] at this; exact this)
          clear he4 hA4 HT23 HT3 HE3 HB3 HS3 HY4 hs4 hM
          go_wp2_with fail
          refine HSM.out.mono ?_
          rintro e w6 ⟨rfl, he6⟩
          clear q0 r1 r2
          go_wp2_with fail
          refine (HK.out _ he6).mono ?_
          rintro e w7 ⟨rfl, rfl⟩
          go_wp2_with fail
          refine (awake24_any _).mono ?_
          rintro e w8 ⟨rfl, he8⟩
          go_wp2_with fail
          go_ret
          exact ⟨rfl, HE4.out.trans (he6.trans he8)⟩
end Go.Proofs.Ytfklmcfanhnfpaa
