/- bytes.Equal, equalOp; SameOp, SameTx, EqualTx (the reference's). -/
import Derived.Test.YtjlnmpjffogpdaaTx9
namespace Go.Proofs.Ytjlnmpjffogpdaa
open Go.RowKit
set_option linter.unusedVariables false
set_option linter.unusedSimpArgs false
attribute [local go_sem ↓] Go.wp_at_zero Go.wp_at_succ

theorem strV_eq (p q : List UInt8) : ((strV p).toList == (strV q).toList) = decide (p = q) := by
  rw [Bool.eq_iff_iff]
  simp only [beq_iff_eq, decide_eq_true_eq]
  exact ⟨fun h => strV_list h, fun h => by rw [h]⟩
theorem bytesEqual_any (A : Option Addr) (n c : Nat) (p : List UInt8) (A' : Option Addr) (n' c' : Nat) (q : List UInt8) (w : World) (h : SlB w A n c p) (h' : SlB w A' n' c' q) :
    Calls Try.prog 18 #[.slice A n c, .slice A' n' c'] w fun e w' => e = .returned (.bool (decide (p = q))) ∧ w = w' := by
  have r1 := run_strV h
  have r2 := run_strV h'
  have HV := Lib.hid (strV_eq p q)
  clear h h'
  go_enter Try.func18, Try.ntmps18
  go_wp2_with fail
  go_ret
  exact ⟨by rw [← HV.out]; rfl, rfl⟩
/-- whether two operations have the same contents -/
def eqV (a b : OpV) : Bool :=
  decide (a.k = b.k) && (decide (a.to = b.to) && (decide (a.am = b.am) && (decide (a.ul = b.ul) && (decide (a.va = b.va) && (decide (a.lk = b.lk) && (decide (a.hs = b.hs) && (decide (a.pre = b.pre) && decide (a.prf = b.prf))))))))
theorem eqV_iff (a b : OpV) : eqV a b = true ↔ a = b := by
  cases a; cases b
  unfold eqV
  simp only [Bool.and_eq_true, decide_eq_true_eq, OpV.mk.injEq]
theorem row_cases9 (b1 b2 b3 b4 b5 b6 b7 b8 b9 : Bool) : b1 = false ∨ (b1 = true ∧ b2 = false) ∨ (b1 = true ∧ b2 = true ∧ b3 = false) ∨ (b1 = true ∧ b2 = true ∧ b3 = true ∧ b4 = false) ∨ (b1 = true ∧ b2 = true ∧ b3 = true ∧ b4 = true ∧ b5 = false) ∨ (b1 = true ∧ b2 = true ∧ b3 = true ∧ b4 = true ∧ b5 = true ∧ b6 = false) ∨ (b1 = true ∧ b2 = true ∧ b3 = true ∧ b4 = true ∧ b5 = true ∧ b6 = true ∧ b7 = false) ∨ (b1 = true ∧ b2 = true ∧ b3 = true ∧ b4 = true ∧ b5 = true ∧ b6 = true ∧ b7 = true ∧ b8 = false) ∨ (b1 = true ∧ b2 = true ∧ b3 = true ∧ b4 = true ∧ b5 = true ∧ b6 = true ∧ b7 = true ∧ b8 = true ∧ b9 = false) ∨ (b1 = true ∧ b2 = true ∧ b3 = true ∧ b4 = true ∧ b5 = true ∧ b6 = true ∧ b7 = true ∧ b8 = true ∧ b9 = true) := by
  cases b1 <;> simp
  cases b2 <;> simp
  cases b3 <;> simp
  cases b4 <;> simp
  cases b5 <;> simp
  cases b6 <;> simp
  cases b7 <;> simp
  cases b8 <;> simp
set_option maxRecDepth 100000 in
set_option maxHeartbeats 8000000 in
theorem sameOp_any (R Q : OpR) (w : World) (hR : R.ok w) (hQ : Q.ok w) :
    Calls Try.prog 22 #[.agg (opA R), .agg (opA Q)] w fun e w' => e = .returned (.bool (eqV R.v Q.v)) ∧ Ext w w' := by
  have hE := ((Ext.refl w).alloc' (.cells (opA R) 58)).alloc' (.cells (opA Q) 58)
  obtain ⟨b1, e1⟩ : ∃ b, decide (R.k = Q.k) = b := ⟨_, rfl⟩
  have x1 : (R.k == Q.k) = b1 := by rw [← e1]; exact (by rw [Bool.eq_iff_iff]; simp)
  obtain ⟨b2, e2⟩ : ∃ b, decide (R.to = Q.to) = b := ⟨_, rfl⟩
  have x2 : (R.to == Q.to) = b2 := by rw [← e2]; exact (by rw [Bool.eq_iff_iff]; simp)
  obtain ⟨b3, e3⟩ : ∃ b, decide (R.am = Q.am) = b := ⟨_, rfl⟩
  have x3 : (R.am == Q.am) = b3 := by rw [← e3]; exact (by rw [Bool.eq_iff_iff]; simp)
  obtain ⟨b4, e4⟩ : ∃ b, decide (R.ul = Q.ul) = b := ⟨_, rfl⟩
  have x4 : (R.ul == Q.ul) = b4 := by rw [← e4]; exact (by rw [Bool.eq_iff_iff]; simp)
  obtain ⟨b5, e5⟩ : ∃ b, decide (R.va = Q.va) = b := ⟨_, rfl⟩
  have x5 : (R.va == Q.va) = b5 := by rw [← e5]; exact (by rw [Bool.eq_iff_iff]; simp)
  obtain ⟨b6, e6⟩ : ∃ b, decide (R.lk = Q.lk) = b := ⟨_, rfl⟩
  have x6 := fun W => run_eqN R.lk Q.lk W
  rw [e6] at x6
  obtain ⟨b7, e7⟩ : ∃ b, decide (R.hs = Q.hs) = b := ⟨_, rfl⟩
  have x7 := fun W => run_eqN R.hs Q.hs W
  rw [e7] at x7
  obtain ⟨b8, e8⟩ : ∃ b, decide (R.pre = Q.pre) = b := ⟨_, rfl⟩
  have x8 := strV_eq R.pre Q.pre
  rw [e8] at x8
  have r8 := run_strV (hR.pre.ext hE)
  have t8 := run_strV (hQ.pre.ext hE)
  obtain ⟨b9, e9⟩ : ∃ b, decide (R.prf = Q.prf) = b := ⟨_, rfl⟩
  have x9 := strV_eq R.prf Q.prf
  rw [e9] at x9
  have r9 := run_strV (hR.prf.ext hE)
  have t9 := run_strV (hQ.prf.ext hE)
  have HV := Lib.hid (show eqV R.v Q.v = (b1 && (b2 && (b3 && (b4 && (b5 && (b6 && (b7 && (b8 && b9)))))))) by rw [← e1, ← e2, ← e3, ← e4, ← e5, ← e6, ← e7, ← e8, ← e9]; rfl)
  have HE := Lib.hid hE
  have hc := row_cases9 b1 b2 b3 b4 b5 b6 b7 b8 b9
  clear hR hQ hE e6 e7 e8 e9
  rcases hc with rfl | ⟨rfl, rfl⟩ | ⟨rfl, rfl, rfl⟩ | ⟨rfl, rfl, rfl, rfl⟩ | ⟨rfl, rfl, rfl, rfl, rfl⟩ | ⟨rfl, rfl, rfl, rfl, rfl, rfl⟩ | ⟨rfl, rfl, rfl, rfl, rfl, rfl, rfl⟩ | ⟨rfl, rfl, rfl, rfl, rfl, rfl, rfl, rfl⟩ | ⟨rfl, rfl, rfl, rfl, rfl, rfl, rfl, rfl, rfl⟩ | ⟨rfl, rfl, rfl, rfl, rfl, rfl, rfl, rfl, rfl⟩
  all_goals (
    go_enter Try.func22, Try.ntmps22
    go_wp2_with fail
    go_ret
    exact ⟨by rw [HV.out]; rfl, HE.out⟩)
end Go.Proofs.Ytjlnmpjffogpdaa
