/- What is written is read again: a genesis' text. -/
import Derived.Test.YtfklmcfanhnfpaaGd2
import Derived.Test.YtfklmcfanhnfpaaPlB
namespace Go.Proofs.Ytfklmcfanhnfpaa
open Go.RowKit
set_option linter.unusedVariables false
set_option linter.unusedSimpArgs false
theorem beI_nat (z : Int) (h0 : 0 ≤ z) (h1 : z ≤ 1099511627776) : (beNat (beI 6 z) : Int) = z := by
  unfold beI; rw [beNat_beBytes]; omega
theorem rNum_six (z : Int) (h0 : 0 ≤ z) (h1 : z ≤ 1099511627776) (r : List UInt8) : rNum 6 (some (beI 6 z ++ r)) = z := by
  have h : ¬ (beI 6 z ++ r).length < 6 := by rw [List.length_append, beI_length]; omega
  simp only [rNum, if_neg h]
  rw [List.take_append_of_le_length (by rw [beI_length]; exact Nat.le_refl _), List.take_of_length_le (by rw [beI_length]; exact Nat.le_refl _), beI_nat z h0 h1]
theorem rRest_six (z : Int) (r : List UInt8) : rRest 6 (some (beI 6 z ++ r)) = some r := by
  have h : ¬ (beI 6 z ++ r).length < 6 := by rw [List.length_append, beI_length]; omega
  simp only [rRest, if_neg h]
  rw [List.drop_append_of_le_length (by rw [beI_length]; exact Nat.le_refl _), List.drop_of_length_le (by rw [beI_length]; exact Nat.le_refl _), List.nil_append]
theorem rV_add (s : Option (List UInt8)) (k : Nat) : rV s (k + 1) = rV (rRest 8 s) k := by
  induction k with
  | zero => rfl
  | succ k ih => rw [rV, ih]; rfl
theorem vV_cons (s : Option (List UInt8)) (k : Nat) : vV s (k + 1) = rName s :: vV (rRest 8 s) k := by
  unfold vV
  rw [List.range_succ_eq_map, List.map_cons, List.map_map]
  congr 1
  apply List.map_congr_left
  intro j _
  simp only [Function.comp]
  rw [rV_add]
theorem names_back (V : List UInt64) (r : List UInt8) : vV (some (V.flatMap nmb ++ r)) V.length = V ∧ rV (some (V.flatMap nmb ++ r)) V.length = some r := by
  induction V with
  | nil => exact ⟨rfl, rfl⟩
  | cons x t ih =>
    have e : (x :: t).flatMap nmb ++ r = nmb x ++ (t.flatMap nmb ++ r) := by simp
    rw [e, List.length_cons, vV_cons, rV_add, rName_at, rRest_name, ih.1, ih.2]
    exact ⟨rfl, rfl⟩
theorem rA_add (s : Option (List UInt8)) (k : Nat) : rA s (k + 1) = rA (rRest 6 (rRest 8 s)) k := by
  induction k with
  | zero => rfl
  | succ k ih => rw [rA, ih]; rfl
theorem aA_cons (s : Option (List UInt8)) (k : Nat) : aA s (k + 1) = rName s :: aA (rRest 6 (rRest 8 s)) k := by
  unfold aA
  rw [List.range_succ_eq_map, List.map_cons, List.map_map]
  congr 1
  apply List.map_congr_left
  intro j _
  simp only [Function.comp]
  rw [rA_add]
theorem bA_cons (s : Option (List UInt8)) (k : Nat) : bA s (k + 1) = rNum 6 (rRest 8 s) :: bA (rRest 6 (rRest 8 s)) k := by
  unfold bA
  rw [List.range_succ_eq_map, List.map_cons, List.map_map]
  congr 1
  apply List.map_congr_left
  intro j _
  simp only [Function.comp]
  rw [rA_add]
theorem encAB_cons (a : UInt64) (b : Int) (Ac : List UInt64) (Bl : List Int) (k : Nat) : encAB (a :: Ac) (b :: Bl) (k + 1) = nmb a ++ (beI 6 b ++ encAB Ac Bl k) := by
  unfold encAB
  rw [List.range_succ_eq_map, List.flatMap_cons, List.flatMap_map]
  simp [nmN, nthZ]
theorem accounts_back (Ac : List UInt64) : ∀ (Bl : List Int), Bl.length = Ac.length → (∀ k, k < Bl.length → 0 ≤ nthZ Bl k ∧ nthZ Bl k ≤ 1099511627776) → aA (some (encAB Ac Bl Ac.length)) Ac.length = Ac ∧ bA (some (encAB Ac Bl Ac.length)) Ac.length = Bl ∧ rA (some (encAB Ac Bl Ac.length)) Ac.length = some [] := by
  induction Ac with
  | nil => intro Bl hl _; rw [List.eq_nil_of_length_eq_zero hl]; exact ⟨rfl, rfl, rfl⟩
  | cons a t ih =>
    intro Bl hl hb
    cases Bl with
    | nil => simp at hl
    | cons b u =>
      have h0 := hb 0 (by simp)
      have h0 : 0 ≤ b ∧ b ≤ 1099511627776 := h0
      obtain ⟨i1, i2, i3⟩ := ih u (by simpa using hl) (fun k hk => by have := hb (k + 1) (by simpa using hk); exact this)
      rw [List.length_cons, encAB_cons, aA_cons, bA_cons, rA_add, rName_at, rRest_name, rNum_six b h0.1 h0.2, rRest_six, i1, i2, i3]
      exact ⟨rfl, rfl, rfl⟩
theorem kindU_encG (N Z : Int) (V Ac : List UInt64) (Bl : List Int) : kindU (encG N Z V Ac Bl) = 1 := by simp [encG, preG, kindU]
theorem decG_enc (N Z : Int) (V Ac : List UInt64) (Bl : List Int) (h : vldG N Z V.length Ac.length Bl.length Bl = true) : decG (encG N Z V Ac Bl) = some ⟨N, Z, V, Ac, Bl⟩ := by
  obtain ⟨⟨g0, g1, g2, g3, g4, g5, g6, g7, g8, g9⟩, hbl⟩ := headG_of h
  have ho : openU (encG N Z V Ac Bl) 1 = some (toB N :: (beI 6 Z ++ (toB (V.length : Int) :: (V.flatMap nmb ++ (toB (Ac.length : Int) :: encAB Ac Bl Ac.length))))) := by
    unfold openU; rw [if_pos (kindU_encG N Z V Ac Bl)]
    simp [encG, preG]
  have hN : ((toB N).toNat : Int) = N := toB_toNat (by omega) (by omega)
  have h1 : ((toB (V.length : Int)).toNat : Int) = (V.length : Int) := toB_toNat (by omega) (by omega)
  have h2 : ((toB (Ac.length : Int)).toNat : Int) = (Ac.length : Int) := toB_toNat (by omega) (by omega)
  obtain ⟨n1, n2⟩ := names_back V (toB (Ac.length : Int) :: encAB Ac Bl Ac.length)
  obtain ⟨a1, a2, a3⟩ := accounts_back Ac Bl g7 hbl
  unfold decG finG
  simp only [ho, rRest_one, rNum_one, hN, rNum_six Z g8 g9, rRest_six, h1, Int.toNat_natCast, n1, n2, h2, a1, a2, a3]
  rw [if_pos ⟨trivial, by rw [g7] at h; exact h⟩]
theorem decG_nil : decG [] = none := by simp [decG, finG, openU, kindU, rRest, rNum, rV, rA]
end Go.Proofs.Ytfklmcfanhnfpaa
