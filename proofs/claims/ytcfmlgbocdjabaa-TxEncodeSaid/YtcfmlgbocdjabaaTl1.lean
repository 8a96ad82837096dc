/- The law TxEncode: the walk. -/
import Derived.Test.YtcfmlgbocdjabaaTg3
import Derived.Test.YtcfmlgbocdjabaaTx12b
import Derived.Test.YtcfmlgbocdjabaaTx16
namespace Go.Proofs.Ytcfmlgbocdjabaa
open Go.RowKit
set_option linter.unusedVariables false
set_option linter.unusedSimpArgs false
attribute [local go_sem ↓] Go.wp_at_zero Go.wp_at_succ

set_option maxRecDepth 100000 in
set_option maxHeartbeats 4000000 in
theorem txEncode_any (T : TxR) (w : World) (hT : T.ok w) : Calls Try.prog 5 #[.agg (tA T)] w fun e w' => e = .returned (.bool true) ∧ Ext w w' := by
  have hE := (Ext.refl w).alloc' (.cells (tA T) 50)
  have HB := Lib.hid (Blk.new w 50 (tA T))
  have HT := Lib.hid (hT.ext hE)
  have HE := Lib.hid hE
  obtain ⟨W0, hW0⟩ : ∃ W0, w.alloc (.cells (tA T) 50) = W0 := ⟨_, rfl⟩
  rw [hW0] at HB HT HE
  have HLG := Lib.hid (large_any T.ac T.sq T.A T.n T.c T.L W0 HT.out.ops)
  have HQ := Lib.hid (fun (W : World) (h : Ext W0 W) => st_facts (HB.out.ext h))
  obtain ⟨q0, q1, q2, q3⟩ := HQ.out W0 (Ext.refl W0)
  have hmc := HT.out.sig.le
  have hmc2 := HT.out.sig.cap
  clear hE hT
  go_enter Try.func5, Try.ntmps5
  go_wp2_with fail
  refine HLG.out.mono ?_
  rintro e w1 ⟨⟨b, rfl⟩, he1⟩
  have HX1 := Lib.hid he1
  obtain ⟨q0, q1, q2, q3⟩ := HQ.out w1 he1
  clear he1 hW0 HLG
  cases b with
  | true =>
    go_wp2_with fail
    refine (awake20_any _).mono ?_
    rintro e w2 ⟨rfl, he2⟩
    have HX2 := Lib.hid (HE.out.trans (HX1.out.trans he2))
    clear he2
    go_wp2_with fail
    go_ret
    exact ⟨rfl, HX2.out⟩
  | false =>
    by_cases hm : 5000 < T.m
    · have d1 : (5000 : Int) < (T.m : Int) := by omega
      have d2 : decide ((5000 : Int) < (T.m : Int)) = true := decide_eq_true d1
      go_wp2_with fail
      refine (awake20_any _).mono ?_
      rintro e w2 ⟨rfl, he2⟩
      have HX2 := Lib.hid (HE.out.trans (HX1.out.trans he2))
      clear he2
      go_wp2_with fail
      go_ret
      exact ⟨rfl, HX2.out⟩
    · have d1 : ¬ (5000 : Int) < (T.m : Int) := by omega
      have d2 : decide ((5000 : Int) < (T.m : Int)) = false := decide_eq_false d1
      have HT1 := Lib.hid (HT.out.ext HX1.out)
      cases hv : vST T.ac T.sq T.L T.m with
      | false =>
        go_wp2_with fail
        refine (encodeST_no T.ac T.sq T.A T.n T.c T.S T.m T.d T.L T.sig _ HT1.out.ops HT1.out.sig hv).mono ?_
        rintro e w2 ⟨rfl, he2⟩
        have HX2 := Lib.hid (HX1.out.trans he2)
        clear he2 q0 q1 q2 q3
        obtain ⟨q0, q1, q2, q3⟩ := HQ.out w2 HX2.out
        go_wp2_with fail
        refine (refEncodeTx_no T.ac T.sq T.A T.n T.c T.S T.m T.d T.L T.sig _ (HT.out.ext HX2.out).ops (HT.out.ext HX2.out).sig hv).mono ?_
        rintro e w3 ⟨rfl, he3⟩
        have HX3 := Lib.hid (HX2.out.trans he3)
        clear he3 q0 q1 q2 q3
        go_wp2_with fail
        refine (decodeTx_any none 0 0 [] _ (SlB.nil _) (by omega)).mono ?_
        rintro e w4 ⟨he4, h4⟩
        obtain rfl : e = .returned (.tuple #[.agg zero4, .int .i64 4]) := by
          rcases h4 with ⟨_, h⟩ | ⟨U', hU', _⟩
          · exact h
          · cases hU'
        have HX4 := Lib.hid (HX3.out.trans (he4.trans ((Ext.refl w4).alloc' (.cells (tA txR0) 50))))
        have k1 := run_strV (SlB.nil (w4.alloc (.cells (tA txR0) 50)))
        clear h4 he4
        go_wp2_with (first | (with_reducible refine wpList_newT rfl (.tmp 7) (.tmp 32) rfl _ rfl txR0 rfl rfl ?_))
        refine (awake20_any _).mono ?_
        rintro e w5 ⟨rfl, he5⟩
        have HX5 := Lib.hid (HE.out.trans (HX4.out.trans he5))
        clear he5 k1
        go_wp2_with fail
        go_ret
        exact ⟨rfl, HX5.out⟩
      | true =>
        go_wp2_with fail
        refine (encodeST_yes T.ac T.sq T.A T.n T.c T.S T.m T.d T.L T.sig _ HT1.out.ops HT1.out.sig hv).mono ?_
        rintro e w2 ⟨A2, n2, c2, rfl, hs2, hn2, he2⟩
        have HX2 := Lib.hid (HX1.out.trans he2)
        have HS2 := Lib.hid hs2
        clear he2 q0 q1 q2 q3 hs2
        obtain ⟨q0, q1, q2, q3⟩ := HQ.out w2 HX2.out
        go_wp2_with fail
        refine (refEncodeTx_yes T.ac T.sq T.A T.n T.c T.S T.m T.d T.L T.sig _ (HT.out.ext HX2.out).ops (HT.out.ext HX2.out).sig hv).mono ?_
        rintro e w3 ⟨A3, n3, c3, rfl, hs3, hn3, he3⟩
        have HX3 := Lib.hid (HX2.out.trans he3)
        have HS3 := Lib.hid hs3
        have HS23 := Lib.hid (HS2.out.ext he3)
        clear he3 q0 q1 q2 q3 hs3
        go_wp2_with fail
        refine (decodeTx_any A2 n2 c2 _ _ HS23.out (by omega)).mono ?_
        rintro e w4 ⟨he4, h4⟩
        have hde : decTx (encST T.ac T.sq T.L T.sig) = some T.v := decTx_enc T (lens_of HT.out).1 (lens_of HT.out).2 hv
        rw [hde] at h4
        rcases h4 with ⟨h4, _⟩ | ⟨U, hU, rfl, hUo⟩
        · cases h4
        have hE5 := he4.trans ((Ext.refl w4).alloc' (.cells (tA U) 50))
        have HEQ := Lib.hid (show eqT U T = true from (eqT_iff U T).2 (by injection hU with hU; exact hU.symm))
        have HU5 := Lib.hid (hUo.ok.ext ((Ext.refl w4).alloc' (.cells (tA U) 50)))
        have HX5 := Lib.hid (HX3.out.trans hE5)
        obtain ⟨a0, a1, a2, a3⟩ := st_facts (Blk.new w4 50 (tA U))
        obtain ⟨q0, q1, q2, q3⟩ := HQ.out _ HX5.out
        have k1 := run_strV (HS23.out.ext hE5)
        have k2 := run_strV (HS3.out.ext hE5)
        clear he4 hde hU hUo hE5
        go_wp2_with (first | (with_reducible refine wpList_newT rfl (.tmp 7) (.tmp 32) rfl _ rfl U rfl rfl ?_))
        refine (equalTx_any U T _ HU5.out (HT.out.ext HX5.out)).mono ?_
        rintro e w6 ⟨rfl, he6⟩
        rw [HEQ.out]
        have HX6 := Lib.hid (HX5.out.trans he6)
        clear he6 k1 k2 q0 q1 q2 q3 a0 a1 a2 a3
        go_wp2_with fail
        refine (awake20_any _).mono ?_
        rintro e w7 ⟨rfl, he7⟩
        have HX7 := Lib.hid (HE.out.trans (HX6.out.trans he7))
        clear he7
        go_wp2_with fail
        go_ret
        exact ⟨rfl, HX7.out⟩
end Go.Proofs.Ytcfmlgbocdjabaa
