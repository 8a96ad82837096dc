/- Encode (the program's), where it encodes. -/
import Derived.Test.YtjlnmpjffogpdaaTx5
namespace Go.Proofs.Ytjlnmpjffogpdaa
open Go.RowKit
set_option linter.unusedVariables false
set_option linter.unusedSimpArgs false
attribute [local go_sem ↓] Go.wp_at_zero Go.wp_at_succ

set_option maxRecDepth 100000 in
set_option maxHeartbeats 4000000 in
theorem encodeST_yes (ac sq : Int) (A : Option Addr) (n c : Nat) (S : Option Addr) (m d : Nat) (L : List OpR) (sig : List UInt8) (w : World) (hS : SlO w A n c L) (hG : SlB w S m d sig) (hv : vST ac sq L m = true) :
    Calls Try.prog 104 #[.agg (stA ac sq A n c S m d)] w fun e w' => ∃ A' n' c', e = .returned (.tuple #[.slice A' n' c', .int .i64 0]) ∧ SlB w' A' n' c' (encST ac sq L sig) ∧ n' ≤ 14000 ∧ Ext w w' := by
  obtain ⟨hvt, rfl⟩ := vST_of hv
  have hE := (Ext.refl w).alloc' (.cells (stA ac sq A n c S 186 d) 145)
  obtain ⟨w0, hw0⟩ : ∃ w0, w.alloc (.cells (stA ac sq A n c S 186 d) 145) = w0 := ⟨_, rfl⟩
  have HB := Lib.hid (Blk.new w 145 (stA ac sq A n c S 186 d))
  have HG := Lib.hid (hG.ext hE)
  have HS := Lib.hid (hS.ext hE)
  have HE := Lib.hid hE
  rw [hw0] at HB HG HS HE
  have HV := Lib.hid (fun (W : World) (h : Ext w0 W) => validate_any ac sq A n c L W (HS.out.ext h))
  rw [hvt] at HV
  have HV := Lib.hid (show ∀ (W : World) (h : Ext w0 W), Calls Try.prog 128 #[.agg (txA ac sq A n c)] W (fun e w' => e = .returned (.int .i64 0) ∧ Ext W w') from HV.out)
  have HEN := Lib.hid (fun (W : World) (h : Ext w0 W) => encode_any ac sq A n c L W (HS.out.ext h) hvt)
  have HQ := Lib.hid (fun (W : World) (h : Ext w0 W) => st_facts (HB.out.ext h))
  have hXd := (Ext.refl w0).drew'
  have HW0 := Lib.hid hw0
  obtain ⟨q0, q1, q2, q3⟩ := HQ.out w0 (Ext.refl w0)
  clear hS hE hv hG hvt
  go_enter Try.func104, Try.ntmps104
  go_wp2_with fail
  clear hw0
  first | go_region_with (first | (go_at_call 128; (with_reducible refine (HV.out _ hXd).mono ?_); rintro e w1 ⟨rfl, he1⟩; have p3 := (HQ.out _ (hXd.trans he1)).2.2.2) | (go_at_call 105; (with_reducible refine (size1_any _).mono ?_); rintro e w2 ⟨rfl, rfl⟩) | fail "ARM") | fail "REGION"
  all_goals (
    have hX1 := hXd.trans he1
    clear q0 q1 q2 q3 p3 hXd he1
    have hXd := hX1.drew'
    obtain ⟨q0, q1, q2, q3⟩ := HQ.out _ hX1
    go_wp2_with fail
    first | go_region_with (first | (go_at_call 129; (with_reducible refine (HEN.out _ hXd).mono ?_); rintro e w4 ⟨A4, n4, c4, rfl, hO4, hn4, he4⟩; have p4 := (HQ.out _ (hXd.trans he4)).2.2.2) | (go_at_call 80; (with_reducible refine (appendBytes_any _ _ _ _ _ _ _ sig _ hO4.sl (HG.out.ext (hXd.trans he4)) (by omega) (by omega)).mono ?_); rintro e w5 ⟨A5, n5, c5, rfl, hO5, he5⟩) | fail "ARM") | fail "REGION"
    all_goals (
      have HO5 := Lib.hid hO5
      have HX5 := Lib.hid ((hXd.trans he4).trans he5)
      have hn5 : n5 ≤ 14000 := by
        have a1 := hO5.len
        have a2 := hO4.len
        have a3 := HG.out.len
        rw [List.length_append, blob_length, a2, a3] at a1
        omega
      clear hO4 hO5 he4 he5 hXd hX1 q0 q1 q2 q3 p4
      go_wp2_with fail
      go_ret2
      exact ⟨A5, n5, c5, rfl, HO5.out.sl, hn5, HE.out.trans HX5.out⟩))
end Go.Proofs.Ytjlnmpjffogpdaa
