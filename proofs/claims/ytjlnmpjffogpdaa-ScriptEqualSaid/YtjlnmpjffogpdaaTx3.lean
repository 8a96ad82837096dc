/- Validate (the program's). -/
import Derived.Test.YtjlnmpjffogpdaaTx2
namespace Go.Proofs.Ytjlnmpjffogpdaa
open Go.RowKit
set_option linter.unusedVariables false
set_option linter.unusedSimpArgs false
attribute [local go_sem ↓] Go.wp_at_zero Go.wp_at_succ

def vHead (ac sq : Int) (n : Nat) : Bool := decide (0 ≤ ac ∧ ac ≤ 15 ∧ 0 ≤ sq ∧ sq ≤ 31 ∧ 1 ≤ n ∧ n ≤ 4)
/-- when a transaction is valid -/
def vTx (ac sq : Int) (L : List OpR) : Bool := vHead ac sq L.length && decide (∀ k, k < L.length → vOp (nthO L k) = true)
theorem vTx_head {ac sq : Int} {L : List OpR} (h : vHead ac sq L.length = false) : vTx ac sq L = false := by unfold vTx; rw [h, Bool.false_and]
theorem vTx_at {ac sq : Int} {L : List OpR} {k : Nat} (hk : k < L.length) (h : vOp (nthO L k) = false) : vTx ac sq L = false := by
  unfold vTx; rw [decide_eq_false (p := ∀ k, k < L.length → vOp (nthO L k) = true) (fun hh => by rw [hh k hk] at h; cases h), Bool.and_false]
theorem vTx_yes {ac sq : Int} {L : List OpR} (h : vHead ac sq L.length = true) (h2 : ∀ k, k < L.length → vOp (nthO L k) = true) : vTx ac sq L = true := by
  unfold vTx; rw [h, decide_eq_true h2]; rfl
theorem vTx_of {ac sq : Int} {L : List OpR} (h : vTx ac sq L = true) : (0 ≤ ac ∧ ac ≤ 15 ∧ 0 ≤ sq ∧ sq ≤ 31 ∧ 1 ≤ L.length ∧ L.length ≤ 4) ∧ ∀ k, k < L.length → vOp (nthO L k) = true := by
  unfold vTx vHead at h; simp only [Bool.and_eq_true, decide_eq_true_eq] at h; exact h
def codeT (b : Bool) : Int := if b then 0 else 1
set_option maxRecDepth 100000 in
set_option maxHeartbeats 4000000 in
theorem validate_in (ac sq : Int) (A : Option Addr) (n c : Nat) (L : List OpR) (w : World) (hS : SlO w A n c L) (hh : 0 ≤ ac ∧ ac ≤ 15 ∧ 0 ≤ sq ∧ sq ≤ 31 ∧ 1 ≤ n ∧ n ≤ 4) :
    Calls Try.prog 128 #[.agg (txA ac sq A n c)] w fun e w' => e = .returned (.int .i64 (codeT (vTx ac sq L))) ∧ Ext w w' := by
  have hle := hS.le
  have hcap := hS.cap
  have HLEN := Lib.hid hS.len
  have HE := Lib.hid ((Ext.refl w).alloc' (.cells (txA ac sq A n c) 143))
  have HS := Lib.hid hS
  clear hS
  have HH := Lib.hid (show vHead ac sq L.length = true by rw [HLEN.out]; exact decide_eq_true hh)
  have d1 : decide (ac < 0) = false := decide_eq_false (by omega)
  have d2 : decide (16 ≤ ac) = false := decide_eq_false (by omega)
  have d3 : decide (sq < 0) = false := decide_eq_false (by omega)
  have d4 : decide (32 ≤ sq) = false := decide_eq_false (by omega)
  have d5 : decide ((n : Int) < 1) = false := decide_eq_false (by omega)
  have d6 : decide (4 < (n : Int)) = false := decide_eq_false (by omega)
  have hn4 : n ≤ 4 := by omega
  obtain ⟨b, o, rfl, hr, hb⟩ := HS.out.at (by omega)
  have HR := Lib.hid hr
  have HBL := Lib.hid hb
  clear hr hb hh
  go_enter Try.func128, Try.ntmps128
  go_wp2_with fail
  go_loopw [38] (fun i wr => ∃ k : Nat, k ≤ n ∧ i = .int .i64 (k : Int) ∧ Hid (∀ j, j < k → vOp (nthO L j) = true) ∧ Ext w wr) (fun i _ => n - (intOf i).toNat)
  case atStart => exact ⟨0, Nat.zero_le _, rfl, Lib.hid (fun j hj => by omega), HE.out⟩
  case round =>
    obtain ⟨k, hk, rfl, HP, hX⟩ := hrel
    have HX := Lib.hid hX
    clear hX
    by_cases hlt : k < n
    · have hr := op_at (rangeAt_keep HR.out (HX.out.block b HBL.out)) (k := k) (by rw [HLEN.out]; exact hlt)
      have HQ := Lib.hid (fun (hx : vOp (nthO L k) = true) => show ∀ j, j < k + 1 → vOp (nthO L j) = true from fun j hj => by
        rcases Nat.lt_or_ge j k with h | h
        · exact HP.out j h
        · obtain rfl : j = k := by omega
          exact hx)
      have HN := Lib.hid (fun (hx : vOp (nthO L k) = false) => show codeT (vTx ac sq L) = 1 by rw [vTx_at (by rw [HLEN.out]; exact hlt) hx]; rfl)
      have HOK := Lib.hid ((HS.out.nth hlt).ext HX.out)
      have i0 : (0 : Int) ≤ (k : Int) := by omega
      have i1 : (k : Int) < (n : Int) := by omega
      obtain ⟨R, hR⟩ : ∃ R, nthO L k = R := ⟨_, rfl⟩
      rw [hR] at hr HQ HN HOK
      clear hR
      have hnew := new_op wr R
      go_wp2_with (first | (with_reducible refine wpList_loadO rfl (.tmp 40) rfl b (o + k * 23) rfl R hr ?_) | (with_reducible refine wpList_newO rfl (.tmp 4) (.tmp 41) rfl _ rfl R rfl rfl ?_) | (with_reducible refine wpList_loadO rfl (.tmp 4) rfl wr.heap.size 0 rfl R hnew ?_))
      have HA := Lib.hid ((Ext.refl wr).alloc' (.cells (opA R) 58))
      refine (validOp_any R _ (HOK.out.ext HA.out)).mono ?_
      rintro e w1 ⟨rfl, he1⟩
      have HX1 := Lib.hid (HX.out.trans (HA.out.trans he1))
      clear he1 hr
      cases hv : vOp R with
      | true =>
        have HQ' := Lib.hid (HQ.out hv)
        clear hv
        go_wp2_with fail
        go_roundw
        case rel => exact ⟨k + 1, by omega, by go_num, HQ', HX1.out⟩
        case measure => simp [intOf]; omega
      | false =>
        have HN' := Lib.hid (HN.out hv)
        clear hv
        go_wp2_with fail
        go_ret
        exact ⟨by rw [HN'.out]; rfl, HX1.out⟩
    · obtain rfl : k = n := by omega
      have HV := Lib.hid (show vTx ac sq L = true from vTx_yes HH.out (fun j hj => HP.out j (by rw [HLEN.out] at hj; exact hj)))
      go_wp2_with fail
      go_ret
      exact ⟨by rw [HV.out]; rfl, HX.out⟩
set_option maxRecDepth 100000 in
set_option maxHeartbeats 4000000 in
theorem validate_out (ac sq : Int) (A : Option Addr) (n c : Nat) (L : List OpR) (w : World) (hS : SlO w A n c L) (hh : ¬ (0 ≤ ac ∧ ac ≤ 15 ∧ 0 ≤ sq ∧ sq ≤ 31 ∧ 1 ≤ n ∧ n ≤ 4)) :
    Calls Try.prog 128 #[.agg (txA ac sq A n c)] w fun e w' => e = .returned (.int .i64 (codeT (vTx ac sq L))) ∧ Ext w w' := by
  have hle := hS.le
  have hcap := hS.cap
  have HLEN := Lib.hid hS.len
  have HE := Lib.hid ((Ext.refl w).alloc' (.cells (txA ac sq A n c) 143))
  have HS := Lib.hid hS
  clear hS
  have HV := Lib.hid (show codeT (vTx ac sq L) = 1 by rw [vTx_head (by rw [HLEN.out]; exact decide_eq_false hh)]; rfl)
  have hc : ac < 0 ∨ (decide (ac < 0) = false ∧ 16 ≤ ac) ∨ (decide (ac < 0) = false ∧ decide (16 ≤ ac) = false ∧ sq < 0) ∨ (decide (ac < 0) = false ∧ decide (16 ≤ ac) = false ∧ decide (sq < 0) = false ∧ 32 ≤ sq) ∨ (decide (ac < 0) = false ∧ decide (16 ≤ ac) = false ∧ decide (sq < 0) = false ∧ decide (32 ≤ sq) = false ∧ (n : Int) < 1) ∨ (decide (ac < 0) = false ∧ decide (16 ≤ ac) = false ∧ decide (sq < 0) = false ∧ decide (32 ≤ sq) = false ∧ decide ((n : Int) < 1) = false ∧ 4 < (n : Int)) := by
    simp only [decide_eq_false_iff_not]; omega
  clear hh HLEN HS
  rcases hc with d1 | ⟨d1, d2⟩ | ⟨d1, d2, d3⟩ | ⟨d1, d2, d3, d4⟩ | ⟨d1, d2, d3, d4, d5⟩ | ⟨d1, d2, d3, d4, d5, d6⟩
  all_goals (
    go_enter Try.func128, Try.ntmps128
    go_wp2_with fail
    go_ret
    exact ⟨by rw [HV.out]; rfl, HE.out⟩)
theorem validate_any (ac sq : Int) (A : Option Addr) (n c : Nat) (L : List OpR) (w : World) (hS : SlO w A n c L) :
    Calls Try.prog 128 #[.agg (txA ac sq A n c)] w fun e w' => e = .returned (.int .i64 (codeT (vTx ac sq L))) ∧ Ext w w' := by
  by_cases hh : 0 ≤ ac ∧ ac ≤ 15 ∧ 0 ≤ sq ∧ sq ≤ 31 ∧ 1 ≤ n ∧ n ≤ 4
  · exact validate_in ac sq A n c L w hS hh
  · exact validate_out ac sq A n c L w hS hh
end Go.Proofs.Ytjlnmpjffogpdaa
