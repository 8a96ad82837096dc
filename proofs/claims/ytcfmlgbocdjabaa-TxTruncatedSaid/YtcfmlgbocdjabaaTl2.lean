/- The laws TxDecode and TxTruncated: the walks. -/
import Derived.Test.YtcfmlgbocdjabaaTg3
import Derived.Test.YtcfmlgbocdjabaaTx12b
import Derived.Test.YtcfmlgbocdjabaaTx16
import Derived.Test.YtcfmlgbocdjabaaTf2
namespace Go.Proofs.Ytcfmlgbocdjabaa
open Go.RowKit
set_option linter.unusedVariables false
set_option linter.unusedSimpArgs false
attribute [local go_sem ↓] Go.wp_at_zero Go.wp_at_succ

theorem own_at_lt {a b n c k : Nat} (h : a ≤ b) (hk : Value.ownBlock (.slice (some ⟨b, 0, none⟩) n c) = some k) : a ≤ k := by
  have : b = k := by simpa [Value.ownBlock] using hk
  omega
theorem txR0_ok (w : World) : txR0.ok w := ⟨SlO.nil w, SlB.nil w⟩
theorem eqT_self (T : TxR) : eqT T T = true := (eqT_iff T T).2 rfl
/-- what was decoded is encoded as it was -/
theorem enc_back {l : List UInt8} {T : TxR} {w : World} (h : decTx l = some T.v) (hT : T.ok w) : vST T.ac T.sq T.L T.m = true ∧ encST T.ac T.sq T.L T.sig = l := by
  obtain ⟨U, hU, hUl, hUv, hUe⟩ := decTx_back h
  refine ⟨?_, ?_⟩
  · have := vT_v (lens_of hT) hUl hU.symm
    rw [hUv] at this; exact this
  · have := encT_v (T := T) (U := U) hU.symm
    rw [hUe] at this; exact this
set_option maxRecDepth 100000 in
set_option maxHeartbeats 4000000 in
theorem txDecode_any (A : Option Addr) (n c : Nat) (l : List UInt8) (w : World) (hS : SlB w A n c l) : Calls Try.prog 6 #[.slice A n c] w fun e w' => e = .returned (.bool true) ∧ Ext w w' := by
  have hmc := hS.le
  have hmc2 := hS.cap
  have HS := Lib.hid hS
  clear hS
  by_cases hn : 20000 < n
  · have d1 : (20000 : Int) < (n : Int) := by omega
    go_enter Try.func6, Try.ntmps6
    go_wp2_with fail
    refine (awake20_any _).mono ?_
    rintro e w2 ⟨rfl, he2⟩
    have HX2 := Lib.hid he2
    clear he2
    go_wp2_with fail
    go_ret
    exact ⟨rfl, HX2.out⟩
  · have d1 : ¬ (20000 : Int) < (n : Int) := by omega
    go_enter Try.func6, Try.ntmps6
    go_wp2_with fail
    refine (decodeTx_any A n c l _ HS.out (by omega)).mono ?_
    rintro e w1 ⟨he1, h1⟩
    rcases h1 with ⟨hd, rfl⟩ | ⟨T, hd, rfl, hTo⟩
    · have HX1 := Lib.hid (he1.trans ((Ext.refl w1).alloc' (.cells (tA txR0) 50)))
      have HB1 := Lib.hid (Blk.new w1 50 (tA txR0))
      have HD := Lib.hid hd
      clear he1 hd
      go_wp2_with (first | (with_reducible refine wpList_newT rfl (.tmp 3) (.tmp 16) rfl _ rfl txR0 rfl rfl ?_))
      refine (refDecodeTx_any A n c l _ (HS.out.ext HX1.out) (by omega)).mono ?_
      rintro e w2 ⟨he2, h2⟩
      obtain rfl : e = .returned (.tuple #[.agg zero4, .int .i64 4]) := by
        rcases h2 with ⟨_, h⟩ | ⟨U', hU', _⟩
        · exact h
        · rw [HD.out] at hU'; cases hU'
      have hE3 := he2.trans ((Ext.refl w2).alloc' (.cells (tA txR0) 50))
      have HX3 := Lib.hid (HX1.out.trans hE3)
      have HB13 := Lib.hid (HB1.out.ext hE3)
      have HB3 := Lib.hid (Blk.new w2 50 (tA txR0))
      obtain ⟨a0, a1, a2, a3⟩ := st_facts HB13.out
      obtain ⟨b0, b1, b2, b3⟩ := st_facts HB3.out
      have HEQ := Lib.hid (equalTx_any txR0 txR0 (w2.alloc (.cells (tA txR0) 50)) (txR0_ok _) (txR0_ok _))
      clear he2 h2 hE3
      go_wp2_with (first | (with_reducible refine wpList_newT rfl (.tmp 5) (.tmp 21) rfl _ rfl txR0 rfl rfl ?_))
      refine HEQ.out.mono ?_
      rintro e w4 ⟨rfl, he4⟩
      rw [eqT_self]
      have HX4 := Lib.hid (HX3.out.trans he4)
      have HB14 := Lib.hid (HB13.out.ext he4)
      clear he4 a0 a1 a2 a3 b0 b1 b2 b3 HEQ
      obtain ⟨a0, a1, a2, a3⟩ := st_facts HB14.out
      go_wp2_with fail
      refine (encodeST_no 0 0 none 0 0 none 0 0 [] [] _ (SlO.nil _) (SlB.nil _) (by decide)).mono ?_
      rintro e w5 ⟨rfl, he5⟩
      have HX5 := Lib.hid (HX4.out.trans he5)
      clear he5 a0 a1 a2 a3
      go_wp2_with fail
      refine (awake20_any _).mono ?_
      rintro e w6 ⟨rfl, he6⟩
      have HX6 := Lib.hid (HX5.out.trans he6)
      clear he6
      go_wp2_with fail
      go_ret
      exact ⟨rfl, HX6.out⟩
    · have HX1 := Lib.hid (he1.trans ((Ext.refl w1).alloc' (.cells (tA T) 50)))
      have HB1 := Lib.hid (Blk.new w1 50 (tA T))
      have HT1 := Lib.hid (hTo.ok.ext ((Ext.refl w1).alloc' (.cells (tA T) 50)))
      have HD := Lib.hid hd
      clear he1 hd hTo
      go_wp2_with (first | (with_reducible refine wpList_newT rfl (.tmp 3) (.tmp 16) rfl _ rfl T rfl rfl ?_))
      refine (refDecodeTx_any A n c l _ (HS.out.ext HX1.out) (by omega)).mono ?_
      rintro e w2 ⟨he2, h2⟩
      rcases h2 with ⟨h2, _⟩ | ⟨U, hU, rfl, hUo⟩
      · rw [HD.out] at h2; cases h2
      have HTU := Lib.hid (show eqT T U = true from (eqT_iff T U).2 (by rw [HD.out] at hU; injection hU))
      have hE3 := he2.trans ((Ext.refl w2).alloc' (.cells (tA U) 50))
      have HX3 := Lib.hid (HX1.out.trans hE3)
      have HB13 := Lib.hid (HB1.out.ext hE3)
      have HT13 := Lib.hid (HT1.out.ext hE3)
      have HB3 := Lib.hid (Blk.new w2 50 (tA U))
      obtain ⟨a0, a1, a2, a3⟩ := st_facts HB13.out
      obtain ⟨b0, b1, b2, b3⟩ := st_facts HB3.out
      have HEQ := Lib.hid (equalTx_any T U (w2.alloc (.cells (tA U) 50)) HT13.out (hUo.ok.ext ((Ext.refl w2).alloc' _)))
      clear he2 hE3 hUo hU
      go_wp2_with (first | (with_reducible refine wpList_newT rfl (.tmp 5) (.tmp 21) rfl _ rfl U rfl rfl ?_))
      refine HEQ.out.mono ?_
      rintro e w4 ⟨rfl, he4⟩
      rw [HTU.out]
      have HX4 := Lib.hid (HX3.out.trans he4)
      have HB14 := Lib.hid (HB13.out.ext he4)
      have HT14 := Lib.hid (HT13.out.ext he4)
      clear he4 a0 a1 a2 a3 b0 b1 b2 b3 HEQ
      obtain ⟨a0, a1, a2, a3⟩ := st_facts HB14.out
      have HBK := Lib.hid (enc_back HD.out HT14.out)
      go_wp2_with fail
      refine (encodeST_yes T.ac T.sq T.A T.n T.c T.S T.m T.d T.L T.sig _ HT14.out.ops HT14.out.sig HBK.out.1).mono ?_
      rintro e w5 ⟨A5, n5, c5, rfl, hs5, hn5, he5⟩
      rw [HBK.out.2] at hs5
      have HX5 := Lib.hid (HX4.out.trans he5)
      have k1 := run_strV hs5
      have k2 := run_strV (HS.out.ext HX5.out)
      clear he5 a0 a1 a2 a3 hs5
      go_wp2_with fail
      refine (awake20_any _).mono ?_
      rintro e w6 ⟨rfl, he6⟩
      have HX6 := Lib.hid (HX5.out.trans he6)
      clear he6
      go_wp2_with fail
      go_ret
      exact ⟨rfl, HX6.out⟩
set_option maxRecDepth 100000 in
set_option maxHeartbeats 4000000 in
theorem txTruncated_any (T : TxR) (at_ : Int) (A : Option Addr) (n c : Nat) (l : List UInt8) (w : World) (hT : T.ok w) (hS : SlB w A n c l) : Calls Try.prog 7 #[.agg (tA T), .int .i64 at_, .slice A n c] w fun e w' => e = .returned (.bool true) ∧ Ext w w' := by
  have hmc := hS.le
  have hmc2 := hS.cap
  have HS := Lib.hid hS
  have hE := (Ext.refl w).alloc' (.cells (tA T) 50)
  have HB := Lib.hid (Blk.new w 50 (tA T))
  have HT := Lib.hid (hT.ext hE)
  have HE := Lib.hid hE
  obtain ⟨W0, hW0⟩ : ∃ W0, w.alloc (.cells (tA T) 50) = W0 := ⟨_, rfl⟩
  rw [hW0] at HB HT HE
  obtain ⟨q0, q1, q2, q3⟩ := st_facts HB.out
  clear hE hT hS
  cases hv : vST T.ac T.sq T.L T.m with
  | false =>
    go_enter Try.func7, Try.ntmps7
    go_wp2_with fail
    refine (refEncodeTx_no T.ac T.sq T.A T.n T.c T.S T.m T.d T.L T.sig _ HT.out.ops HT.out.sig hv).mono ?_
    rintro e w1 ⟨rfl, he1⟩
    have HX1 := Lib.hid (HE.out.trans he1)
    clear he1 hW0 q0 q1 q2 q3
    go_wp2_with fail
    refine (awake20_any _).mono ?_
    rintro e w2 ⟨rfl, he2⟩
    have HX2 := Lib.hid (HX1.out.trans he2)
    clear he2
    go_wp2_with fail
    go_ret
    exact ⟨rfl, HX2.out⟩
  | true =>
    go_enter Try.func7, Try.ntmps7
    go_wp2_with fail
    refine (refEncodeTx_yes T.ac T.sq T.A T.n T.c T.S T.m T.d T.L T.sig _ HT.out.ops HT.out.sig hv).mono ?_
    rintro e w1 ⟨A1, n1, c1, rfl, hs1, hn1, he1⟩
    have HX1 := Lib.hid (HE.out.trans he1)
    have HS1 := Lib.hid hs1
    have HLN := Lib.hid (lens_of HT.out)
    have HVT := Lib.hid hv
    clear he1 hW0 q0 q1 q2 q3 hs1
    have hn13 : 1 ≤ n1 := by
      have := HS1.out.len
      simp only [encST, encTx, List.length_append, List.length_cons, blob_length] at this
      omega
    have hc1 := HS1.out.le
    have hc2 := HS1.out.cap
    by_cases h1 : n < 1
    · have d1 : (n : Int) < 1 := by omega
      go_wp2_with fail
      refine (awake20_any _).mono ?_
      rintro e w2 ⟨rfl, he2⟩
      have HX2 := Lib.hid (HX1.out.trans he2)
      clear he2
      go_wp2_with fail
      go_ret
      exact ⟨rfl, HX2.out⟩
    · by_cases h2 : 1000 < n
      · have d1 : ¬ (n : Int) < 1 := by omega
        have d2 : (1000 : Int) < (n : Int) := by omega
        go_wp2_with fail
        refine (awake20_any _).mono ?_
        rintro e w2 ⟨rfl, he2⟩
        have HX2 := Lib.hid (HX1.out.trans he2)
        clear he2
        go_wp2_with fail
        go_ret
        exact ⟨rfl, HX2.out⟩
      · have d1 : ¬ (n : Int) < 1 := by omega
        have d2 : ¬ (1000 : Int) < (n : Int) := by omega
        have HDJ := Lib.hid (fun (j : Nat) (hj : j < n1) => show Calls Try.prog 26 #[.slice A1 j c1] w1 (fun e w' => e = .returned (.tuple #[.agg zero4, .int .i64 4]) ∧ Ext w1 w') from
          (decodeTx_any A1 j c1 _ w1 (HS1.out.upto (by omega)) (by omega)).mono (fun e w' ⟨he, h⟩ => ⟨(by
            rcases h with ⟨_, h⟩ | ⟨U, hU, _⟩
            · exact h
            · have := decTx_less T HLN.out HVT.out j (by rw [show (encT T).length = n1 from HS1.out.len]; exact hj)
              rw [show decTx ((encST T.ac T.sq T.L T.sig).take j) = none from this] at hU
              cases hU), he⟩))
        have HDM := Lib.hid (fun (A' : Option Addr) (m' c' : Nat) (W : World) (h : SlB W A' m' c' (encST T.ac T.sq T.L T.sig ++ l)) (hm : m' ≤ 140737488355328) => show Calls Try.prog 26 #[.slice A' m' c'] W (fun e w' => e = .returned (.tuple #[.agg zero4, .int .i64 4]) ∧ Ext W w') from
          (decodeTx_any A' m' c' _ W h hm).mono (fun e w' ⟨he, h'⟩ => ⟨(by
            rcases h' with ⟨_, h'⟩ | ⟨U, hU, _⟩
            · exact h'
            · have := decTx_more T HLN.out HVT.out l (by intro e; have := HS.out.len; rw [e] at this; simp at this; omega)
              rw [show decTx (encST T.ac T.sq T.L T.sig ++ l) = none from this] at hU
              cases hU), he⟩))
        go_wp2_with fail
        all_goals (
          refine (HDJ.out _ (by omega)).mono ?_
          rintro e w2 ⟨rfl, he2⟩
          have hE3 := he2.trans ((Ext.refl w2).alloc' (.cells (tA txR0) 50))
          have hE4 := hE3.trans ((Ext.refl _).alloc' (.cells #[] 5))
          have HX4 := Lib.hid (HX1.out.trans hE4)
          have HS14 := Lib.hid (HS1.out.ext hE4)
          have HSM := Lib.hid (fun (W : World) (h : Ext w W) => HS.out.ext h)
          have HO0 := Lib.hid (show OwnB ((w2.alloc (.cells (tA txR0) 50)).alloc (.cells #[] 5)) (w2.heap.size + 1) 5 (some ⟨w2.heap.size + 1, 0, none⟩) 0 0 [] from OwnB.made _ _ _ 0 (w2.heap.size + 1) (by simp) (Nat.le_refl _) (by omega) rfl)
          have hsz : w2.heap.size + 1 ≤ ((w2.alloc (.cells (tA txR0) 50)).alloc (.cells #[] 5)).heap.size := by simp
          have HLW := Lib.hid (show w.heap.size ≤ w2.heap.size + 1 by have := (HX1.out.trans he2).size; omega)
          clear he2 hE3 hE4
          go_wp2_with (first | (with_reducible refine wpList_newT rfl (.tmp 9) (.tmp 41) rfl _ rfl txR0 rfl rfl ?_) | (at_builtin; go_must (first | (refine wpList_appBG bytesE rfl (.tmp 44) (.tmp 45) rfl (w2.heap.size + 1) (some ⟨w2.heap.size + 1, 0, none⟩) 0 0 [] rfl HO0.out A1 n1 c1 _ rfl HS14.out (by omega) hsz ?_; intro A6 c6 w6 hO6 hg6; have HX6 := Lib.hid (show Ext w w6 from Below.grown HX4.out hg6 HX4.out.size (fun k hk => own_at_lt HLW.out hk)); have HO6 := Lib.hid (show OwnB w6 (w2.heap.size + 1) 5 A6 n1 c6 (encST T.ac T.sq T.L T.sig) by simpa using hO6); have hsz6 := Nat.le_trans hsz hg6.size; clear hO6 hg6) | (refine wpList_appBG bytesE rfl (.tmp 46) (.tmp 47) rfl (w2.heap.size + 1) A6 n1 c6 _ rfl HO6.out A n c l rfl (HSM.out _ HX6.out) (by omega) hsz6 ?_; intro A7 c7 w7 hO7 hg7; have HX7 := Lib.hid (show Ext w w7 from Below.grown HX6.out hg7 HX6.out.size (fun k hk => Nat.le_trans HLW.out (World.ownsRow.lt HO6.out k hk).1)); have HO7 := Lib.hid hO7; clear hO7 hg7))))
          refine (HDM.out A7 (n1 + n) c7 w7 HO7.out.sl (by omega)).mono ?_
          rintro e w8 ⟨rfl, he8⟩
          have HX8 := Lib.hid (HX7.out.trans (he8.trans ((Ext.refl w8).alloc' (.cells (tA txR0) 50))))
          clear he8
          go_wp2_with (first | (with_reducible refine wpList_newT rfl (.tmp 11) (.tmp 50) rfl _ rfl txR0 rfl rfl ?_))
          refine (awake20_any _).mono ?_
          rintro e w9 ⟨rfl, he9⟩
          have HX9 := Lib.hid (HX8.out.trans he9)
          clear he9
          go_wp2_with fail
          go_ret
          exact ⟨rfl, HX9.out⟩)
end Go.Proofs.Ytcfmlgbocdjabaa
