/- What EncodeConfig writes, DecodeConfig reads. -/
import Derived.Test.YtcfmlgbocdjabaaSc8
namespace Go.Proofs.Ytcfmlgbocdjabaa
open Go.RowKit
set_option linter.unusedVariables false
set_option linter.unusedSimpArgs false

theorem rI_toB (z : Int) (h0 : 0 ≤ z) (h1 : z < 256) (r : List UInt8) : rI 1 (some (toB z :: r)) = z := by
  rw [rI_one, rNum_toB z h0 h1]
theorem rI_be (k : Nat) (z : Int) (h0 : 0 ≤ z) (h1 : z < 256 ^ k) (h2 : z < 9223372036854775808) (r : List UInt8) : rI k (some (beI k z ++ r)) = z := by
  unfold rI
  rw [rNum_be k z h0 h1 (by omega), IntKind.wrap_i64]
  omega
theorem rName_nmb (n : UInt64) (r : List UInt8) : rName (some (nmb n ++ r)) = n := by
  have h : ¬ (nmb n ++ r).length < 8 := by rw [List.length_append, nmb_length]; omega
  simp only [rName, if_neg h]
  rw [List.take_append_of_le_length (by rw [nmb_length]; exact Nat.le_refl _), List.take_of_length_le (by rw [nmb_length]; exact Nat.le_refl _), ofNm_nmb]
theorem cfOf_enc (c : Cf) (h : eCf c = true) : cfOf (some (encCf c)) = c := by
  unfold eCf vCf at h
  simp only [Bool.and_eq_true, decide_eq_true_eq] at h
  obtain ⟨⟨t0, t1, t2, t3, t4, t5, t6, t7, t8, t9⟩, u0, u1, u2, u3⟩ := h
  have e : encCf c = toB c.m :: (toB c.v :: (toB c.a :: (beI 8 c.st ++ (beI 8 c.ba ++ (beI 2 c.tw ++ (beI 2 c.li ++ (nmb c.sd ++ []))))))) := by
    simp [encCf]
  rw [e]
  unfold cfOf
  simp only [rRest_one, rRest_be]
  rw [rI_toB c.m (by omega) (by omega), rI_toB c.v (by omega) (by omega), rI_toB c.a (by omega) (by omega), rI_be 8 c.st (by omega) (by omega) (by omega), rI_be 8 c.ba (by omega) (by omega) (by omega), rI_be 2 c.tw (by omega) (by omega) (by omega), rI_be 2 c.li (by omega) (by omega) (by omega), rName_nmb]
theorem decCf_enc (c : Cf) (h : eCf c = true) : decCf (encCf c) = some c := by
  unfold decCf
  rw [cfOf_enc c h, if_pos ⟨encCf_length c, h⟩]
theorem rI_wf (k : Nat) (s : Option (List UInt8)) : (Lit.int .i64 (rI k s)).wf = true := by
  unfold rI
  rw [Go.IntWalk.i64_left]
  exact wrap64_wf _
theorem cfOf_wf (s : Option (List UInt8)) : wfCf (cfOf s) := ⟨rI_wf _ _, rI_wf _ _, rI_wf _ _, rI_wf _ _, rI_wf _ _, rI_wf _ _, rI_wf _ _⟩
def cf0 : Cf := ⟨0, 0, 0, 0, 0, 0, 0, 0⟩
theorem cf0_cells : zero15 = cfA cf0 := cfZ_eq 0 0 0 0 0 0 0
theorem cf0_wf : wfCf cf0 := by unfold wfCf cf0; decide
/-- the configuration and the code that DecodeConfig returns -/
def dCf (l : List UInt8) : Cf := (decCf l).getD cf0
def dCode (l : List UInt8) : Int := if (decCf l).isSome then 0 else 4
theorem dCf_wf (l : List UInt8) : wfCf (dCf l) := by
  unfold dCf decCf
  split
  · exact cfOf_wf _
  · exact cf0_wf
theorem CfdOut.all {w w' : World} {l : List UInt8} {e : Ending} (h : CfdOut w (decCf l) e w') : e = .returned (.tuple #[.agg (cfA (dCf l)), .int .i64 (dCode l)]) ∧ Ext w w' := by
  refine ⟨?_, h.1⟩
  unfold dCf dCode
  rcases h.2 with ⟨h1, h2⟩ | ⟨c, h1, h2⟩
  · rw [h1, h2, cf0_cells]; rfl
  · rw [h1, h2]; rfl
end Go.Proofs.Ytcfmlgbocdjabaa
