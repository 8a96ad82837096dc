/- The plain law: a signature that Sign returns is one that Verify accepts. -/
import Derived.Test.YtcfmlgbocdjabaaGreatKy1
import Derived.Test.YtcfmlgbocdjabaaGreatVer3
namespace Go.Proofs.YtcfmlgbocdjabaaGreat
open Go.RowKit
set_option linter.unusedVariables false
set_option linter.unusedSimpArgs false
theorem chain_add (v : UInt64) (c p : Int) (a b : Nat) : chainTo (chainTo v c p a) c (p + a) b = chainTo v c p (a + b) := by
  induction b with
  | zero => rfl
  | succ b ih =>
    show tagU 33 (nmb (chainTo (chainTo v c p a) c (p + a) b) ++ [toB c, toB (p + a + b)]) = tagU 33 (nmb (chainTo v c p (a + b)) ++ [toB c, toB (p + ((a + b : Nat) : Int))])
    rw [ih, show p + (a : Int) + (b : Int) = p + ((a + b : Nat) : Int) from by omega]
theorem nthN_map (F : Nat → UInt64) (n c : Nat) (h : c < n) : nthN ((List.range n).map F) c = F c := by
  unfold nthN; simp [List.getD, h]
theorem rec_sig (seed m : UInt64) : oneRec m (oneSig seed m) = onePub seed := by
  unfold oneRec onePub
  have key : (List.range 18).map (recF m (oneSig seed m)) = (List.range 18).map (pubF seed) := ?_
  · rw [key]
  refine List.map_congr_left fun c hc => ?_
  have hc : c < 18 := List.mem_range.1 hc
  have hd := dig_bd m c hc
  unfold recF oneSig pubF
  rw [nthN_map _ _ _ hc]
  unfold sigF
  have h := chain_add (startU seed c) (c : Int) 0 (dig m c).toNat (15 - dig m c).toNat
  rw [show (0 : Int) + ((dig m c).toNat : Int) = dig m c from by omega, show (dig m c).toNat + (15 - dig m c).toNat = 15 from by omega] at h
  exact h
theorem flat_len (ns : List UInt64) : (ns.flatMap nmb).length = 8 * ns.length := by
  induction ns with
  | nil => rfl
  | cons x r ih => rw [List.flatMap_cons, List.length_append, nmb_length, ih, List.length_cons]; omega
theorem nmAt_flat (pre rest : List UInt8) (ns : List UInt64) (k at_ : Nat) (hp : pre.length = at_) (hk : k < ns.length) : nmAt (pre ++ (ns.flatMap nmb ++ rest)) at_ k = nthN ns k := by
  have hs : ns = ns.take k ++ (nthN ns k :: ns.drop (k + 1)) := by
    conv => lhs; rw [← List.take_append_drop k ns]
    rw [List.drop_eq_getElem_cons hk]; simp [nthN, List.getD, hk]
  have e : (pre ++ (ns.flatMap nmb ++ rest)).drop (at_ + k * 8) = nmb (nthN ns k) ++ ((ns.drop (k + 1)).flatMap nmb ++ rest) := by
    conv => lhs; rw [hs]
    rw [List.flatMap_append, List.flatMap_cons]
    have hl : (pre ++ (ns.take k).flatMap nmb).length = at_ + k * 8 := by
      rw [List.length_append, flat_len, List.length_take, hp, Nat.min_eq_left (by omega)]; omega
    rw [show pre ++ ((ns.take k).flatMap nmb ++ (nmb (nthN ns k) ++ (ns.drop (k + 1)).flatMap nmb) ++ rest) = (pre ++ (ns.take k).flatMap nmb) ++ (nmb (nthN ns k) ++ ((ns.drop (k + 1)).flatMap nmb ++ rest)) from by simp only [List.append_assoc]]
    rw [← hl, List.drop_left]
  unfold nmAt
  rw [e]
  have hl8 := nmb_length (nthN ns k)
  rw [show (8 : Nat) = (nmb (nthN ns k)).length from hl8.symm, List.take_left, ofNm_nmb]
theorem names_flat (pre rest : List UInt8) (ns : List UInt64) (at_ n : Nat) (hp : pre.length = at_) (hn : ns.length = n) : namesU (pre ++ (ns.flatMap nmb ++ rest)) at_ n = ns := by
  subst hn
  refine List.ext_getElem (by simp [namesU]) fun k h1 h2 => ?_
  simp only [namesU, List.getElem_map, List.getElem_range]
  rw [nmAt_flat pre rest ns k at_ hp h2]
  simp [nthN, List.getD, h2]
theorem climb_part (pre rest : List UInt8) (seed m : UInt64) (a t : Int) (j at_ : Nat) (hp : pre.length = at_) (hj : j < 32) : climbU (pre ++ ((partU seed a t j m).flatMap nmb ++ rest)) at_ j m = rootU (leavesU seed a t) := by
  have hl := leavesU_length seed a t
  have h1 : (oneSig (keyU seed a t (j : Int)) m).length = 18 := by simp [oneSig]
  have h2 : (pathU (leavesU seed a t) j).length = 5 := by rw [pathU_length, hl, dep32 j hj]
  unfold climbU partU
  rw [List.flatMap_append, List.append_assoc, names_flat pre _ _ at_ 18 hp h1, rec_sig]
  rw [show pre ++ ((oneSig (keyU seed a t (j : Int)) m).flatMap nmb ++ ((pathU (leavesU seed a t) j).flatMap nmb ++ rest)) = (pre ++ (oneSig (keyU seed a t (j : Int)) m).flatMap nmb) ++ ((pathU (leavesU seed a t) j).flatMap nmb ++ rest) from by simp only [List.append_assoc]]
  rw [names_flat _ _ _ (at_ + 144) 5 (by rw [List.length_append, flat_len, h1, hp]) h2]
  have h := compU_pathU (leavesU seed a t) j (by omega)
  rw [hl] at h
  rw [← h]
  congr 1
  simp [leavesU, leavesF, List.getD, hj]
theorem num_leaf (leaf : Nat) (h : leaf < 1024) (rest : List UInt8) : numAt ([toB ((leaf : Int) / 256), toB (leaf : Int)] ++ rest) 0 2 = leaf := by
  have e1 := toB_eq ((leaf : Int) / 256)
  have e2 := toB_eq (leaf : Int)
  simp only [numAt, List.drop_zero, List.cons_append, List.nil_append, List.take_succ_cons, List.take_zero, beNat, List.length_cons, List.length_nil]
  omega
/-- what a right signature is: its bytes, its size, its leaf, and that it is accepted -/
theorem sig_right (seed m : UInt64) (lv : Int) (leaf : Nat) (h : (lv = 1 ∧ leaf < 32) ∨ (lv = 2 ∧ leaf < 1024)) : ∃ s, sigU seed lv leaf m = some s ∧ (s.length : Int) = sizeZ lv ∧ numAt s 0 2 = leaf ∧ verU (pubV seed lv) lv m s = true ∧ verU (pubV seed lv) (3 - lv) m s = false := by
  have hp1 : ∀ (a t : Int) (j : Nat) (m : UInt64), j < 32 → ((partU seed a t j m).flatMap nmb).length = 184 := fun a t j m hj => by rw [flat_len, partU_length _ _ _ _ _ hj]
  rcases h with ⟨rfl, hl⟩ | ⟨rfl, hl⟩
  · have e := sigU_one seed m leaf 0 leaf (by omega) hl
    refine ⟨_, e, ?_, ?_, ?_, ?_⟩
    · rw [List.length_append, hp1 _ _ _ _ hl]; rfl
    · exact num_leaf leaf (by omega) _
    · unfold verU
      rw [if_pos rfl, num_leaf leaf (by omega) _, Nat.mod_eq_of_lt hl]
      have hc := climb_part [toB ((leaf : Int) / 256), toB (leaf : Int)] [] seed m 1 ((0 : Nat) : Int) leaf 2 rfl hl
      rw [List.append_nil] at hc
      rw [hc, List.length_append, hp1 _ _ _ _ hl]
      have hpv : pubV seed 1 = rootU (leavesU seed 1 ((0 : Nat) : Int)) := by unfold pubV; rw [if_pos (by omega)]; rfl
      rw [hpv]
      simp [hl]
    · refine verU_short _ _ _ _ ?_
      rw [List.length_append, hp1 _ _ _ _ hl, show [toB ((leaf : Int) / 256), toB (leaf : Int)].length = 2 from rfl]; decide
  · have e := sigU_two seed m leaf (leaf / 32) (leaf % 32) (by omega) (by omega) hl
    have hr : leaf % 32 < 32 := by omega
    have ht : leaf / 32 < 32 := by omega
    refine ⟨_, e, ?_, ?_, ?_, ?_⟩
    · rw [List.length_append, List.length_append, hp1 _ _ _ _ hr, hp1 _ _ _ _ ht]; rfl
    · rw [List.append_assoc]; exact num_leaf leaf (by omega) _
    · unfold verU
      rw [if_neg (by omega), if_pos rfl]
      have hn := num_leaf leaf hl ((partU seed 1 ((leaf / 32 : Nat) : Int) (leaf % 32) m).flatMap nmb ++ (partU seed 2 0 (leaf / 32) (rootU (leavesU seed 1 ((leaf / 32 : Nat) : Int)))).flatMap nmb)
      rw [← List.append_assoc] at hn
      rw [hn]
      have hc := climb_part [toB ((leaf : Int) / 256), toB (leaf : Int)] ((partU seed 2 0 (leaf / 32) (rootU (leavesU seed 1 ((leaf / 32 : Nat) : Int)))).flatMap nmb) seed m 1 ((leaf / 32 : Nat) : Int) (leaf % 32) 2 rfl hr
      rw [← List.append_assoc] at hc
      have hc2 := climb_part ([toB ((leaf : Int) / 256), toB (leaf : Int)] ++ (partU seed 1 ((leaf / 32 : Nat) : Int) (leaf % 32) m).flatMap nmb) [] seed (rootU (leavesU seed 1 ((leaf / 32 : Nat) : Int))) 2 0 (leaf / 32) 186 (by rw [List.length_append, hp1 _ _ _ _ hr]; rfl) ht
      rw [List.append_nil] at hc2
      rw [hc, hc2, List.length_append, List.length_append, hp1 _ _ _ _ hr, hp1 _ _ _ _ ht]
      have hpv : pubV seed 2 = rootU (leavesU seed 2 0) := by unfold pubV; rw [if_pos (by omega)]; rfl
      rw [hpv]
      simp [hl]
    · refine verU_short _ _ _ _ ?_
      rw [List.length_append, List.length_append, hp1 _ _ _ _ hr, hp1 _ _ _ _ ht, show [toB ((leaf : Int) / 256), toB (leaf : Int)].length = 2 from rfl]; decide
/-- signatures by different leaves differ -/
theorem sig_apart (s t : List UInt8) (a b : Nat) (ha : numAt s 0 2 = a) (hb : numAt t 0 2 = b) (h : s = t) : a = b := by rw [← ha, ← hb, h]
end Go.Proofs.YtcfmlgbocdjabaaGreat
