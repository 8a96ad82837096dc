/- What is written is read again: a block's text. -/
import Derived.Test.YtfklmcfanhnfpaaBd2
namespace Go.Proofs.Ytfklmcfanhnfpaa
open Go.RowKit
set_option linter.unusedVariables false
set_option linter.unusedSimpArgs false
theorem toB_toNat {z : Int} (h0 : 0 ≤ z) (h1 : z < 256) : ((toB z).toNat : Int) = z := by rw [← toB_eq, Int.emod_eq_of_lt h0 h1]
theorem rNum_one (b : UInt8) (r : List UInt8) : rNum 1 (some (b :: r)) = (b.toNat : Int) := by simp [rNum, beNat]
theorem rRest_one (b : UInt8) (r : List UInt8) : rRest 1 (some (b :: r)) = some r := by simp [rRest]
theorem rName_at (v : UInt64) (r : List UInt8) : rName (some (nmb v ++ r)) = v := by
  have h : ¬ (nmb v ++ r).length < 8 := by rw [List.length_append, nmb_length]; omega
  simp only [rName, if_neg h]
  rw [List.take_append_of_le_length (by rw [nmb_length]; exact Nat.le_refl _), List.take_of_length_le (by rw [nmb_length]; exact Nat.le_refl _), ofNm_nmb]
theorem rRest_name (v : UInt64) (r : List UInt8) : rRest 8 (some (nmb v ++ r)) = some r := by
  have h : ¬ (nmb v ++ r).length < 8 := by rw [List.length_append, nmb_length]; omega
  simp only [rRest, if_neg h]
  rw [List.drop_append_of_le_length (by rw [nmb_length]; exact Nat.le_refl _), List.drop_of_length_le (by rw [nmb_length]; exact Nat.le_refl _), List.nil_append]
theorem stC_add (s : Option (List UInt8)) (k : Nat) : stC s (k + 1) = stC (rRest 8 (rRest 1 s)) k := by
  induction k with
  | zero => rfl
  | succ k ih => rw [stC, ih]; rfl
theorem ltC_cons (s : Option (List UInt8)) (k : Nat) : ltC s (k + 1) = (rNum 1 s, rName (rRest 1 s)) :: ltC (rRest 8 (rRest 1 s)) k := by
  unfold ltC
  rw [List.range_succ_eq_map, List.map_cons, List.map_map]
  congr 1
  apply List.map_congr_left
  intro j _
  simp only [Function.comp]
  rw [stC_add]
/-- pairs whose ids are bytes are read again -/
theorem pairs_back (L : List (Int × UInt64)) (h : ∀ x ∈ L, 0 ≤ x.1 ∧ x.1 < 256) (r : List UInt8) : ltC (some (encC L ++ r)) L.length = L ∧ stC (some (encC L ++ r)) L.length = some r := by
  induction L with
  | nil => exact ⟨rfl, rfl⟩
  | cons x t ih =>
    have hx := h x (by simp)
    have e : encC (x :: t) ++ r = toB x.1 :: (nmb x.2 ++ (encC t ++ r)) := by simp [encC]
    rw [e, List.length_cons, ltC_cons, stC_add, rNum_one, rRest_one, rName_at, rRest_name, toB_toNat hx.1 hx.2]
    obtain ⟨h1, h2⟩ := ih (fun y hy => h y (by simp [hy]))
    rw [h1, h2]
    exact ⟨rfl, rfl⟩
theorem okIds_all {L : List (Int × UInt64)} (h : okIds (idN L) L.length = true) : ∀ k, k < L.length → 0 ≤ idN L k ∧ idN L k < 10 := by
  intro k hk
  unfold okIds at h
  rw [decide_eq_true_eq] at h
  have := h k hk
  exact ⟨this.1, this.2.1⟩
theorem vld_ids {L : List (Int × UInt64)} (h : vldBlk L = true) : ∀ k, k < L.length → 0 ≤ idN L k ∧ idN L k < 10 := by
  unfold vldBlk at h
  rw [Bool.and_eq_true] at h
  exact okIds_all h.2
theorem decBlk_enc (p : UInt64) (L : List (Int × UInt64)) (h : vldBlk L = true) : decBlk (encBlk p L) = some (p, L) := by
  have hl := vldBlk_len h
  have hids : ∀ x ∈ L, 0 ≤ x.1 ∧ x.1 < 256 := by
    intro x hx
    obtain ⟨k, hk, rfl⟩ := List.getElem_of_mem hx
    have := vld_ids h k hk
    have e : idN L k = (L[k]).1 := by simp [idN, nthC, hk]
    rw [e] at this
    omega
  have hk : kindU (encBlk p L) = 3 := by simp [encBlk, kindU]
  have ho : openU (encBlk p L) 3 = some (nmb p ++ (toB (L.length : Int) :: (encC L ++ []))) := by
    unfold openU; rw [if_pos hk]
    simp [encBlk]
  have hn : ((toB (L.length : Int)).toNat : Int) = (L.length : Int) := toB_toNat (by omega) (by omega)
  obtain ⟨h1, h2⟩ := pairs_back L hids []
  unfold decBlk
  simp only [ho, rRest_name, rName_at, rNum_one, rRest_one, hn, Int.toNat_natCast, h1, h2, h, and_self, if_true]
end Go.Proofs.Ytfklmcfanhnfpaa
