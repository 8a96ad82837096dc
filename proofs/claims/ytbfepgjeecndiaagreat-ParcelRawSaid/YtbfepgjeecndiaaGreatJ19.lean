/- Valid votes (the reference's), all cases together. -/
import Derived.Test.YtbfepgjeecndiaaGreatJ15
import Derived.Test.YtbfepgjeecndiaaGreatJ17
namespace Go.Proofs.YtbfepgjeecndiaaGreat
open Go.RowKit
set_option linter.unusedVariables false
set_option linter.unusedSimpArgs false
theorem restV_3 {v : VtR} (h : v.k = 3) : restV v = (inI v.sl 0 9 && (inI v.ro 1 12 && (inI v.ch 0 1 && (decide (v.ro ≠ 1) || (decide (v.ch ≠ 0) || decide (v.su = 0)))))) := by unfold restV; rw [if_pos h]
theorem restV_4 {v : VtR} (h : v.k = 4) : restV v = (inI v.sl 0 9 && (inI v.ro 1 12 && inI v.ch 0 2)) := by unfold restV; rw [if_neg (by omega), if_pos h]
theorem restV_p {v : VtR} (h3 : v.k ≠ 3) (h4 : v.k ≠ 4) (h : v.k ≤ 4) : restV v = (inI v.sl 0 9 && (decide (v.ro = 0 ∧ v.su = 0) && decide (v.ch = 1))) := by unfold restV; rw [if_neg h3, if_neg h4, if_pos (by omega)]
theorem restV_q {v : VtR} (h : 5 ≤ v.k) : restV v = (inI v.sl 0 0 && (decide (v.ro = 0 ∧ v.su = 0) && decide (v.ch = 1))) := by unfold restV; rw [if_neg (by omega), if_neg (by omega), if_neg (by omega)]
theorem rVtValid_any (v : VtR) (w : World) : Calls Tryz.prog 98 #[.agg (vtA v)] w fun e w' => e = .returned (.bool (vldVt v)) ∧ Ext w w' := by
 have no : vldVt v = false → (Calls Tryz.prog 98 #[.agg (vtA v)] w fun e w' => e = .returned (.bool false) ∧ Ext w w') → Calls Tryz.prog 98 #[.agg (vtA v)] w fun e w' => e = .returned (.bool (vldVt v)) ∧ Ext w w' := fun h hc => by rw [h]; exact hc
 by_cases hk1 : v.k < 1
 ·exact no (by unfold vldVt inI; rw [decide_eq_false (p := 1 ≤ v.k ∧ v.k ≤ 7) (by omega)]; rfl) (rVtV_k1 v hk1 w)
 by_cases hk7 : v.k > 7
 ·exact no (by unfold vldVt inI; rw [decide_eq_false (p := 1 ≤ v.k ∧ v.k ≤ 7) (by omega)]; rfl) (rVtV_k7 v hk1 hk7 w)
 by_cases hs0 : v.si < 0
 ·exact no (by unfold vldVt inI; rw [decide_eq_false (p := 0 ≤ v.si ∧ v.si ≤ 9) (by omega), Bool.and_false]; rfl) (rVtV_s0 v hk1 hk7 hs0 w)
 by_cases hs9 : v.si ≥ 10
 ·exact no (by unfold vldVt inI; rw [decide_eq_false (p := 0 ≤ v.si ∧ v.si ≤ 9) (by omega), Bool.and_false]; rfl) (rVtV_s9 v hk1 hk7 hs0 hs9 w)
 by_cases hu : supI v.su = 0
 case neg => exact no (by unfold vldVt; rw [decide_eq_false hu, Bool.and_false, Bool.false_and, Bool.and_false]) (rVtV_u v hk1 hk7 hs0 hs9 hu (bne_iff_ne.2 hu) w)
 have hv : vldVt v = (chV v && restV v) := by
  unfold vldVt inI
  rw [decide_eq_true (p := 1 ≤ v.k ∧ v.k ≤ 7) (by omega), decide_eq_true (p := 0 ≤ v.si ∧ v.si ≤ 9) (by omega), decide_eq_true hu, Bool.and_true]; simp
 rw [hv] at no ⊢
 have nr : restV v = false → (chV v && restV v) = false := fun h => by rw [h, Bool.and_false]
 by_cases h4 : v.k ≤ 4
 ·have hag : inI v.k 1 4 = true := decide_eq_true ⟨by omega, h4⟩
  by_cases hl0 : v.sl < 0 ∨ v.sl ≥ 10
  ·have hr : restV v = false := by
    by_cases e3 : v.k = 3
    ·rw [restV_3 e3, Bool.eq_false_iff]; unfold inI; simp only [ne_eq, Bool.and_eq_true, Bool.or_eq_true, decide_eq_true_eq]; omega
    ·by_cases e4 : v.k = 4
     ·rw [restV_4 e4, Bool.eq_false_iff]; unfold inI; simp only [ne_eq, Bool.and_eq_true, Bool.or_eq_true, decide_eq_true_eq]; omega
     ·rw [restV_p e3 e4 h4, Bool.eq_false_iff]; unfold inI; simp only [ne_eq, Bool.and_eq_true, Bool.or_eq_true, decide_eq_true_eq]; omega
   by_cases hl : v.sl < 0
   ·exact no (nr hr) (rVtV_l0 v hk1 hk7 hs0 hs9 hu hl hag w)
   ·exact no (nr hr) (rVtV_l9 v hk1 hk7 hs0 hs9 hu hl (by omega) hag w)
  have l0 : ¬ v.sl < 0 := by omega
  have l9 : ¬ v.sl ≥ 10 := by omega
  rcases Bool.eq_false_or_eq_true (chV v) with hcv | hcv
  case inr =>
   refine no (by rw [hcv]; rfl) ?_
   unfold chV at hcv
   have hcv := of_decide_eq_false hcv
   by_cases c : v.ch = 1
   ·exact rVtV_cv1a v c hk1 hk7 hs0 hs9 hu l0 l9 hag (decide_eq_true (by apply Classical.byContradiction; intro hh; exact hcv ⟨fun _ => hh, fun _ => c⟩)) w
   ·exact rVtV_cv0a v hk1 hk7 hs0 hs9 hu l0 l9 c hag (decide_eq_false (fun hh => hcv ⟨fun q => absurd q c, fun q => absurd hh q⟩)) w
  case inl =>
   rw [hcv, Bool.true_and] at no ⊢
   have ok : restV v = true → (Calls Tryz.prog 98 #[.agg (vtA v)] w fun e w' => e = .returned (.bool true) ∧ Ext w w') → Calls Tryz.prog 98 #[.agg (vtA v)] w fun e w' => e = .returned (.bool (restV v)) ∧ Ext w w' := fun h hc => by rw [h]; exact hc
   unfold chV at hcv
   have hcv := of_decide_eq_true hcv
   have va1 : v.ch = 1 → decide (v.va = 0) = false := fun c => decide_eq_false (hcv.1 c)
   have va0 : v.ch ≠ 1 → decide (v.va = 0) = true := fun c => decide_eq_true (Classical.byContradiction fun hh => c (hcv.2 hh))
   by_cases e3 : v.k = 3
   ·by_cases r0 : v.ro ≥ 1
    ·by_cases r9 : v.ro ≤ 12
     ·by_cases c1 : v.ch = 1
      ·by_cases r1 : v.ro = 1
       ·exact ok (by rw [restV_3 e3]; unfold inI; simp only [Bool.and_eq_true, Bool.or_eq_true, decide_eq_true_eq]; omega) (rVtV_3c1e v e3 c1 r1 hs0 hs9 hu l0 l9 hag (va1 c1) w)
       ·exact ok (by rw [restV_3 e3]; unfold inI; simp only [Bool.and_eq_true, Bool.or_eq_true, decide_eq_true_eq]; omega) (rVtV_3c1n v e3 c1 hs0 hs9 hu l0 l9 r0 r9 r1 hag (va1 c1) w)
      ·by_cases c0 : v.ch = 0
       ·by_cases r1 : v.ro = 1
        ·by_cases u0 : v.su = 0
         ·exact ok (by rw [restV_3 e3]; unfold inI; simp only [Bool.and_eq_true, Bool.or_eq_true, decide_eq_true_eq]; omega) (rVtV_3c0e v e3 c0 r1 u0 hs0 hs9 l0 l9 hag (va0 c1) w)
         ·exact no (by rw [restV_3 e3, Bool.eq_false_iff]; unfold inI; simp only [ne_eq, Bool.and_eq_true, Bool.or_eq_true, decide_eq_true_eq]; omega) (rVtV_3c0u v e3 c0 r1 hs0 hs9 hu l0 l9 u0 hag (va0 c1) w)
        ·exact ok (by rw [restV_3 e3]; unfold inI; simp only [Bool.and_eq_true, Bool.or_eq_true, decide_eq_true_eq]; omega) (rVtV_3c0n v e3 c0 hs0 hs9 hu l0 l9 r0 r9 r1 hag (va0 c1) w)
       ·exact no (by rw [restV_3 e3, Bool.eq_false_iff]; unfold inI; simp only [ne_eq, Bool.and_eq_true, Bool.or_eq_true, decide_eq_true_eq]; omega) (rVtV_3cx v e3 hs0 hs9 hu l0 l9 r0 r9 c1 c0 hag (va0 c1) w)
     ·have hr : restV v = false := by rw [restV_3 e3, Bool.eq_false_iff]; unfold inI; simp only [ne_eq, Bool.and_eq_true, Bool.or_eq_true, decide_eq_true_eq]; omega
      by_cases c1 : v.ch = 1
      ·exact no hr (rVtV_3r9c1 v e3 c1 hs0 hs9 hu l0 l9 r0 r9 hag (va1 c1) w)
      ·exact no hr (rVtV_3r9c0 v e3 hs0 hs9 hu l0 l9 r0 r9 c1 hag (va0 c1) w)
    ·have hr : restV v = false := by rw [restV_3 e3, Bool.eq_false_iff]; unfold inI; simp only [ne_eq, Bool.and_eq_true, Bool.or_eq_true, decide_eq_true_eq]; omega
     by_cases c1 : v.ch = 1
     ·exact no hr (rVtV_3r0c1 v e3 c1 hs0 hs9 hu l0 l9 r0 hag (va1 c1) w)
     ·exact no hr (rVtV_3r0c0 v e3 hs0 hs9 hu l0 l9 r0 c1 hag (va0 c1) w)
   ·by_cases e4 : v.k = 4
    ·by_cases r0 : v.ro ≥ 1
     ·by_cases r9 : v.ro ≤ 12
      ·by_cases c1 : v.ch = 1
       ·exact ok (by rw [restV_4 e4]; unfold inI; simp only [Bool.and_eq_true, Bool.or_eq_true, decide_eq_true_eq]; omega) (rVtV_4c1 v e4 c1 hs0 hs9 hu l0 l9 r0 r9 hag (va1 c1) w)
       ·by_cases c0 : v.ch ≥ 0
        ·by_cases c2 : v.ch ≤ 2
         ·exact ok (by rw [restV_4 e4]; unfold inI; simp only [Bool.and_eq_true, Bool.or_eq_true, decide_eq_true_eq]; omega) (rVtV_4ok v e4 hs0 hs9 hu l0 l9 r0 r9 c1 c0 c2 hag (va0 c1) w)
         ·exact no (by rw [restV_4 e4, Bool.eq_false_iff]; unfold inI; simp only [ne_eq, Bool.and_eq_true, Bool.or_eq_true, decide_eq_true_eq]; omega) (rVtV_4ch v e4 hs0 hs9 hu l0 l9 r0 r9 c1 c0 c2 hag (va0 c1) w)
        ·exact no (by rw [restV_4 e4, Bool.eq_false_iff]; unfold inI; simp only [ne_eq, Bool.and_eq_true, Bool.or_eq_true, decide_eq_true_eq]; omega) (rVtV_4cl v e4 hs0 hs9 hu l0 l9 r0 r9 c1 c0 hag (va0 c1) w)
      ·have hr : restV v = false := by rw [restV_4 e4, Bool.eq_false_iff]; unfold inI; simp only [ne_eq, Bool.and_eq_true, Bool.or_eq_true, decide_eq_true_eq]; omega
       by_cases c1 : v.ch = 1
       ·exact no hr (rVtV_4r9c1 v e4 c1 hs0 hs9 hu l0 l9 r0 r9 hag (va1 c1) w)
       ·exact no hr (rVtV_4r9c0 v e4 hs0 hs9 hu l0 l9 r0 r9 c1 hag (va0 c1) w)
     ·have hr : restV v = false := by rw [restV_4 e4, Bool.eq_false_iff]; unfold inI; simp only [ne_eq, Bool.and_eq_true, Bool.or_eq_true, decide_eq_true_eq]; omega
      by_cases c1 : v.ch = 1
      ·exact no hr (rVtV_4r0c1 v e4 c1 hs0 hs9 hu l0 l9 r0 hag (va1 c1) w)
      ·exact no hr (rVtV_4r0c0 v e4 hs0 hs9 hu l0 l9 r0 c1 hag (va0 c1) w)
    ·by_cases r0 : v.ro = 0
     ·by_cases c1 : v.ch = 1
      ·by_cases u0 : v.su = 0
       ·exact ok (by rw [restV_p e3 e4 h4]; unfold inI; simp only [Bool.and_eq_true, Bool.or_eq_true, decide_eq_true_eq]; omega) (rVtV_py v r0 c1 u0 hk1 hk7 hs0 hs9 l0 l9 e3 e4 hag (va1 c1) w)
       ·exact no (by rw [restV_p e3 e4 h4, Bool.eq_false_iff]; unfold inI; simp only [ne_eq, Bool.and_eq_true, Bool.or_eq_true, decide_eq_true_eq]; omega) (rVtV_pu v r0 c1 hk1 hk7 hs0 hs9 hu l0 l9 e3 e4 u0 hag (va1 c1) w)
      ·exact no (by rw [restV_p e3 e4 h4, Bool.eq_false_iff]; unfold inI; simp only [ne_eq, Bool.and_eq_true, Bool.or_eq_true, decide_eq_true_eq]; omega) (rVtV_pc v r0 hk1 hk7 hs0 hs9 hu l0 l9 e3 e4 c1 hag (va0 c1) w)
     ·have hr : restV v = false := by rw [restV_p e3 e4 h4, Bool.eq_false_iff]; unfold inI; simp only [ne_eq, Bool.and_eq_true, Bool.or_eq_true, decide_eq_true_eq]; omega
      by_cases c1 : v.ch = 1
      ·exact no hr (rVtV_prc1 v c1 hk1 hk7 hs0 hs9 hu l0 l9 e3 e4 r0 hag (va1 c1) w)
      ·exact no hr (rVtV_prc0 v hk1 hk7 hs0 hs9 hu l0 l9 e3 e4 r0 c1 hag (va0 c1) w)
 ·have hag : inI v.k 1 4 = false := decide_eq_false (fun h => h4 h.2)
  have h5 : 5 ≤ v.k := by omega
  have e3 : v.k ≠ 3 := by omega
  have e4 : v.k ≠ 4 := by omega
  by_cases hl : v.sl = 0
  case neg => exact no (nr (by rw [restV_q h5, Bool.eq_false_iff]; unfold inI; simp only [ne_eq, Bool.and_eq_true, Bool.or_eq_true, decide_eq_true_eq]; omega)) (rVtV_l v hk1 hk7 hs0 hs9 hu hl hag w)
  rcases Bool.eq_false_or_eq_true (chV v) with hcv | hcv
  case inr =>
   refine no (by rw [hcv]; rfl) ?_
   unfold chV at hcv
   have hcv := of_decide_eq_false hcv
   by_cases c : v.ch = 1
   ·exact rVtV_cv1b v hl c hk1 hk7 hs0 hs9 hu hag (decide_eq_true (by apply Classical.byContradiction; intro hh; exact hcv ⟨fun _ => hh, fun _ => c⟩)) w
   ·exact rVtV_cv0b v hl hk1 hk7 hs0 hs9 hu c hag (decide_eq_false (fun hh => hcv ⟨fun q => absurd q c, fun q => absurd hh q⟩)) w
  case inl =>
   rw [hcv, Bool.true_and] at no ⊢
   have ok : restV v = true → (Calls Tryz.prog 98 #[.agg (vtA v)] w fun e w' => e = .returned (.bool true) ∧ Ext w w') → Calls Tryz.prog 98 #[.agg (vtA v)] w fun e w' => e = .returned (.bool (restV v)) ∧ Ext w w' := fun h hc => by rw [h]; exact hc
   unfold chV at hcv
   have hcv := of_decide_eq_true hcv
   have va1 : v.ch = 1 → decide (v.va = 0) = false := fun c => decide_eq_false (hcv.1 c)
   have va0 : v.ch ≠ 1 → decide (v.va = 0) = true := fun c => decide_eq_true (Classical.byContradiction fun hh => c (hcv.2 hh))
   by_cases r0 : v.ro = 0
   ·by_cases c1 : v.ch = 1
    ·by_cases u0 : v.su = 0
     ·exact ok (by rw [restV_q h5]; unfold inI; simp only [Bool.and_eq_true, Bool.or_eq_true, decide_eq_true_eq]; omega) (rVtV_qy v hl r0 c1 u0 hk1 hk7 hs0 hs9 e3 e4 hag (va1 c1) w)
     ·exact no (by rw [restV_q h5, Bool.eq_false_iff]; unfold inI; simp only [ne_eq, Bool.and_eq_true, Bool.or_eq_true, decide_eq_true_eq]; omega) (rVtV_qu v hl r0 c1 hk1 hk7 hs0 hs9 hu e3 e4 u0 hag (va1 c1) w)
    ·exact no (by rw [restV_q h5, Bool.eq_false_iff]; unfold inI; simp only [ne_eq, Bool.and_eq_true, Bool.or_eq_true, decide_eq_true_eq]; omega) (rVtV_qc v hl r0 hk1 hk7 hs0 hs9 hu e3 e4 c1 hag (va0 c1) w)
   ·have hr : restV v = false := by rw [restV_q h5, Bool.eq_false_iff]; unfold inI; simp only [ne_eq, Bool.and_eq_true, Bool.or_eq_true, decide_eq_true_eq]; omega
    by_cases c1 : v.ch = 1
    ·exact no hr (rVtV_qrc1 v hl c1 hk1 hk7 hs0 hs9 hu e3 e4 r0 hag (va1 c1) w)
    ·exact no hr (rVtV_qrc0 v hl hk1 hk7 hs0 hs9 hu e3 e4 r0 c1 hag (va0 c1) w)
end Go.Proofs.YtbfepgjeecndiaaGreat

/- The reference's order of names and votes. -/
namespace Go.Proofs.YtbfepgjeecndiaaGreat
set_option maxRecDepth 100000
set_option maxHeartbeats 8000000
open Go.RowKit
set_option linter.unusedVariables false
set_option linter.unusedSimpArgs false
attribute [local go_sem ↓] Go.wp_at_zero Go.wp_at_succ
theorem rNumber_any (x : UInt64) (w : World) : Calls Tryz.prog 117 #[.agg (nmc x)] w fun e w' => e = .returned (.int .u64 (un x)) ∧ Ext w w' := by
 have hl := nmb_length x
 obtain ⟨W0, hW0⟩ : ∃ W0, w.alloc (.cells (nmc x) 44) = W0 := ⟨_, rfl⟩
 have HB := Lib.hid (show Blk W0 w.heap.size 44 (nmc x) from by rw [← hW0]; exact Blk.new _ _ _)
 have HE := Lib.hid (show Ext w W0 from by rw [← hW0]; exact (Ext.refl w).alloc' _)
 go_enter Tryz.func117, Tryz.ntmps117
 go_wp2_with fail
 clear hW0
 go_loopw [3, 4] (fun v i wr => ∃ k : Nat, k ≤ 8 ∧ i = .int .i64 (k : Int) ∧ v = .int .u64 (beNat ((nmb x).take k)) ∧ W0 = wr) (fun _ i _ => 8 - (intOf i).toNat)
 case atStart => exact ⟨0, by omega, rfl, rfl, rfl⟩
 case round =>
  obtain ⟨k, hk, rfl, rfl, rfl⟩ := hrel
  by_cases hlt : k < 8
  ·have hix : W0.cell? ⟨w.heap.size, k, none⟩ = some (.int .u8 (((nmb x).getD k 0).toNat : Int)) := by
    rw [HB.out.cell k]
    have hl := nmb_length x
    simp [nmc, bcs, bv, hl, hlt]
   have i1 : (k : Int) < 8 := by omega
   have hb := beNat_lt ((nmb x).take k)
   rw [List.length_take, hl, Nat.min_eq_left (by omega)] at hb
   have hb7 : beNat ((nmb x).take k) < 72057594037927936 := Nat.lt_of_lt_of_le hb (Nat.pow_le_pow_right (n := 256) (j := 7) (by omega) (by omega))
   have hor := or_byte _ ((nmb x).getD k 0) hb7
   have HS := Lib.hid (show beNat ((nmb x).take (k + 1)) = beNat ((nmb x).take k) * 256 + ((nmb x).getD k 0).toNat by rw [take_get _ _ (by omega), beNat_snoc])
   clear hb hb7 hl
   generalize beNat ((nmb x).take k) = a at *
   generalize (nmb x).getD k 0 = c at *
   go_wp2_with fail
   go_roundw
   case rel => exact ⟨k + 1, by omega, by go_num, by rw [HS.out]; go_num, by first | rfl | trivial⟩
   case measure => simp [intOf]; omega
  ·have HS := Lib.hid (show (beNat ((nmb x).take k) : Int) = un x by rw [List.take_of_length_le (by omega), beNat_nmb]; rfl)
   have i1 : ¬ (k : Int) < 8 := by omega
   clear hl
   generalize beNat ((nmb x).take k) = a at *
   go_wp2_with fail
   go_ret
   exact ⟨by rw [← HS.out]; rfl, HE.out⟩
theorem rLess_any (x y : UInt64) (w : World) : Calls Tryz.prog 99 #[.agg (nmc x), .agg (nmc y)] w fun e w' => e = .returned (.bool (decide (un x < un y))) ∧ Ext w w' := by
 have hE := ((Ext.refl w).alloc' (.cells (nmc x) 44)).alloc' (.cells (nmc y) 44)
 have HB1 := Lib.hid ((Blk.new w 44 (nmc x)).alloc (.cells (nmc y) 44))
 have HB2 := Lib.hid (show Blk ((w.alloc (.cells (nmc x) 44)).alloc (.cells (nmc y) 44)) (w.heap.size + 1) 44 (nmc y) from Blk.newAt _ _ _ _ (by simp))
 have HE := Lib.hid hE
 obtain ⟨W0, hW0⟩ : ∃ W0, (w.alloc (.cells (nmc x) 44)).alloc (.cells (nmc y) 44) = W0 := ⟨_, rfl⟩
 rw [hW0] at HB1 HB2 HE
 have HC := Lib.hid (fun (W : World) (h : Ext W0 W) => And.intro (cells8 (HB1.out.ext h)) (cells8 (HB2.out.ext h)))
 clear hE
 go_enter Tryz.func99, Tryz.ntmps99
 go_wp2_with fail
 refine wp_region_plan (S := fun W => Ext W0 W) (by kernel_rfl) (by kernel_rfl) ((Ext.refl W0).drew') ?_
 (refine pr 0 (oi := ⟨some 5, .load 44 (.tmp 2), 44, "ref.go:30", #[], none⟩) (v := ?_) rfl (by kernel_rfl) (by rfl) ?h ?_; case h => (intro W hSW; obtain ⟨c1, c2⟩ := HC.out W hSW; go_simp <;> with_reducible rfl))
 try simp only [lays]
 (refine plan_take (i := 1) (oi := ⟨some 6, .call { callee := .value (.func 117), args := #[.tmp 5], argTypes := #[44] }, 61, "ref.go:30", #[⟨0, .data⟩], none⟩) (v := ?_) rfl (by kernel_rfl) (by kernel_rfl) (fx_call (by rfl) (fun W hSW K hK => ?hy1_1)) ?_; case hy1_1 => (go_simp; go_at_call 117; (with_reducible refine (rNumber_any x W).mono ?_); rintro e w1 ⟨rfl, he1⟩; exact hK.out _ (hSW.trans he1)))
 try simp only [lays]
 (refine pr 2 (oi := ⟨some 7, .load 44 (.tmp 3), 44, "ref.go:30", #[], none⟩) (v := ?_) rfl (by kernel_rfl) (by rfl) ?h ?_; case h => (intro W hSW; obtain ⟨c1, c2⟩ := HC.out W hSW; go_simp <;> with_reducible rfl))
 try simp only [lays]
 (refine plan_take (i := 3) (oi := ⟨some 8, .call { callee := .value (.func 117), args := #[.tmp 7], argTypes := #[44] }, 61, "ref.go:30", #[⟨2, .data⟩, ⟨1, .chain⟩], none⟩) (v := ?_) rfl (by kernel_rfl) (by kernel_rfl) (fx_call (by rfl) (fun W hSW K hK => ?hy1_3)) ?_; case hy1_3 => (go_simp; go_at_call 117; (with_reducible refine (rNumber_any y W).mono ?_); rintro e w1 ⟨rfl, he1⟩; exact hK.out _ (hSW.trans he1)))
 try simp only [lays]
 (refine pr 4 (oi := ⟨some 9, .binOp .lss 61 (.tmp 6) (.tmp 8) 61, 4, "ref.go:30", #[⟨1, .data⟩, ⟨3, .data⟩], none⟩) (v := ?_) rfl (by kernel_rfl) (by rfl) ?h ?_; case h => (intro W hSW; go_simp <;> with_reducible rfl))
 try simp only [lays]
 (refine pr 5 (oi := ⟨some 4, .assign (.tmp 9), 4, "ref.go:30", #[⟨4, .data⟩, ⟨3, .chain⟩, ⟨0, .phase⟩, ⟨1, .phase⟩, ⟨2, .phase⟩, ⟨3, .phase⟩, ⟨4, .phase⟩], none⟩) (v := ?_) rfl (by kernel_rfl) (by rfl) ?h ?_; case h => (intro W hSW; go_simp <;> with_reducible rfl))
 try simp only [lays]
 refine Plan.done (by kernel_rfl) (fun W hSW => ?_)
 have HX := Lib.hid (HE.out.trans hSW)
 clear hSW
 go_wp2_with fail
 go_ret
 exact ⟨rfl, HX.out⟩
theorem rVtLess_any (a b : VtR) (w : World) : Calls Tryz.prog 78 #[.agg (vtA a), .agg (vtA b)] w fun e w' => e = .returned (.bool (ltVt a b)) ∧ Ext w w' := by
 have hE := ((Ext.refl w).alloc' (.cells (vtA a) 46)).alloc' (.cells (vtA b) 46)
 have HB1 := Lib.hid ((Blk.new w 46 (vtA a)).alloc (.cells (vtA b) 46))
 have HB2 := Lib.hid (show Blk ((w.alloc (.cells (vtA a) 46)).alloc (.cells (vtA b) 46)) (w.heap.size + 1) 46 (vtA b) from Blk.newAt _ _ _ _ (by simp))
 have HE := Lib.hid hE
 obtain ⟨W0, hW0⟩ : ∃ W0, (w.alloc (.cells (vtA a) 46)).alloc (.cells (vtA b) 46) = W0 := ⟨_, rfl⟩
 rw [hW0] at HB1 HB2 HE
 have hsz : W0.heap.size = w.heap.size + 2 := by rw [← hW0]; simp
 have HSZ := Lib.hid hsz
 have g1 : w.heap.size < W0.heap.size := by omega
 have g2 : w.heap.size + 1 < W0.heap.size := by omega
 obtain ⟨a0, a1, a2, a3, a4, a5, a6, a7⟩ := vt_facts HB1.out
 obtain ⟨b0, b1, b2, b3, b4, b5, b6, b7⟩ := vt_facts HB2.out
 have p1 := vt_pa HB1.out
 have p2 := vt_pa HB2.out
 have hq := fun W => run_neqN a.pa b.pa W
 have hqi := fun W => eqIn_N a.pa b.pa W
 clear hE a6 a7 b6 b7 hsz
 by_cases hpa : a.pa = b.pa
 ·rw [decide_eq_true hpa] at hq hqi
  rw [Bool.not_true] at hq
  have HPA := Lib.hid hpa
  clear hpa
  go_enter Tryz.func78, Tryz.ntmps78
  go_wp2_with (first | (with_reducible refine wpList_loadN rfl (.tmp 8) rfl w.heap.size 6 rfl a.pa p1 ?_) | (with_reducible refine wpList_loadN rfl (.tmp 10) rfl (w.heap.size + 1) 6 rfl b.pa p2 ?_) | (with_reducible refine wpList_newX5 rfl (.tmp 5) (.tmp 28) rfl _ rfl a rfl rfl ?_) | (with_reducible refine wpList_newX5 rfl (.tmp 6) (.tmp 39) rfl _ rfl b rfl rfl ?_))
  have HX := Lib.hid (((Blk.new W0 116 (x5A a))).alloc (.cells (x5A b) 116))
  have HY := Lib.hid (show Blk ((W0.alloc (.cells (x5A a) 116)).alloc (.cells (x5A b) 116)) (W0.heap.size + 1) 116 (x5A b) from Blk.newAt _ _ _ _ (by simp))
  have HE1 := Lib.hid (((Ext.refl W0).alloc' (.cells (x5A a) 116)).alloc' (.cells (x5A b) 116))
  clear p1 p2 hq hqi a0 a1 a2 a3 a4 a5 b0 b1 b2 b3 b4 b5 g1 g2
  generalize (W0.alloc (.cells (x5A a) 116)).alloc (.cells (x5A b) 116) = W1 at HX HY HE1 ⊢
  go_loopw [7] (fun i wr => ∃ k : Nat, k ≤ 5 ∧ i = .int .i64 (k : Int) ∧ Hid (∀ j, j < k → x5n a j = x5n b j) ∧ Hid (Ext W1 wr)) (fun i _ => 5 - (intOf i).toNat)
  case atStart => exact ⟨0, by omega, rfl, Lib.hid (fun j hj => by omega), Lib.hid (Ext.refl _)⟩
  case round =>
   obtain ⟨k, hk, rfl, HP, HZ⟩ := hrel
   by_cases hlt : k < 5
   ·have hx := x5_at (HX.out.ext HZ.out) hlt
    have hy := x5_at (HY.out.ext HZ.out) hlt
    have i0 : (0 : Int) ≤ (k : Int) := by omega
    have i1 : (k : Int) < 5 := by omega
    by_cases hne : x5n a k = x5n b k
    ·have HP' := Lib.hid (show ∀ j, j < k + 1 → x5n a j = x5n b j from fun j hj => by
      rcases Nat.lt_or_ge j k with h | h
      ·exact HP.out j h
      ·obtain rfl : j = k := by omega
       exact hne)
     obtain ⟨z, hz⟩ : ∃ z, x5n a k = z := ⟨_, rfl⟩
     rw [hz] at hx hne
     rw [← hne] at hy
     clear hz hne
     have hz : (z != z) = false := by simp
     go_wp2_with fail
     go_quiet ((fail))
     go_wp2_with fail
     go_roundw
     case rel => exact ⟨k + 1, by omega, by go_num, HP', Lib.hid (below_drewN HZ.out _)⟩
     case measure => simp [intOf]; omega
    ·have HV := Lib.hid (ltVt_x5 HPA.out hlt HP.out hne)
     obtain ⟨z, hz⟩ : ∃ z, x5n a k = z := ⟨_, rfl⟩
     obtain ⟨y, hyy⟩ : ∃ y, x5n b k = y := ⟨_, rfl⟩
     rw [hz, hyy] at HV hne
     rw [hz] at hx
     rw [hyy] at hy
     have hzy : (z != y) = true := bne_iff_ne.2 hne
     have HZZ := Lib.hid hz
     have HYY := Lib.hid hyy
     clear hz hyy
     go_wp2_with fail
     go_quiet ((fail))
     have HZ2 := Lib.hid (below_drewN HZ.out nq)
     clear hx hy HZ
     generalize wr.drewN nq = W2 at HZ2 ⊢
     have hx := x5_at (HX.out.ext HZ2.out) hlt
     have hy := x5_at (HY.out.ext HZ2.out) hlt
     rw [HZZ.out] at hx
     rw [HYY.out] at hy
     go_wp2_with fail
     go_quiet ((fail))
     go_wp2_with fail
     go_ret
     exact ⟨by rw [HV.out]; rfl, HE.out.trans (HE1.out.trans (below_drewN HZ2.out _))⟩
   ·obtain rfl : k = 5 := by omega
    have HE2 := Lib.hid (HE1.out.trans HZ.out)
    have HW := Lib.hid (HE.out.trans HE2.out)
    have p1 := vt_va (HB1.out.ext HE2.out)
    have p2 := vt_va (HB2.out.ext HE2.out)
    obtain ⟨a0, a1, a2, a3, a4, a5, a6, a7⟩ := vt_facts (HB1.out.ext HE2.out)
    obtain ⟨b0, b1, b2, b3, b4, b5, b6, b7⟩ := vt_facts (HB2.out.ext HE2.out)
    clear a0 a1 a2 a3 a4 a6 a7 b0 b1 b2 b3 b4 b6 b7
    have hq := fun W => run_neqN a.va b.va W
    have hqi := fun W => eqIn_N a.va b.va W
    by_cases hva : a.va = b.va
    ·have HV := Lib.hid (ltVt_su HPA.out HP.out hva)
     rw [decide_eq_true hva] at hq hqi
     rw [Bool.not_true] at hq
     clear hva
     go_wp2_with (first | (with_reducible refine wpList_loadN rfl (.tmp 58) rfl w.heap.size 14 rfl a.va p1 ?_) | (with_reducible refine wpList_loadN rfl (.tmp 60) rfl (w.heap.size + 1) 14 rfl b.va p2 ?_))
     go_ret
     exact ⟨by rw [HV.out]; rfl, HW.out⟩
    ·have HV := Lib.hid (ltVt_va HPA.out HP.out hva)
     rw [decide_eq_false hva] at hq hqi
     rw [Bool.not_false] at hq
     clear hva
     go_wp2_with (first | (with_reducible refine wpList_loadN rfl (.tmp 58) rfl w.heap.size 14 rfl a.va p1 ?_) | (with_reducible refine wpList_loadN rfl (.tmp 60) rfl (w.heap.size + 1) 14 rfl b.va p2 ?_) | (with_reducible refine wpList_loadN rfl (.tmp 63) rfl w.heap.size 14 rfl a.va p1 ?_) | (with_reducible refine wpList_loadN rfl (.tmp 65) rfl (w.heap.size + 1) 14 rfl b.va p2 ?_))
     refine (rLess_any a.va b.va wr).mono ?_
     rintro e w1 ⟨rfl, he1⟩
     have HX1 := Lib.hid (HW.out.trans he1)
     clear he1
     go_wp2_with fail
     go_ret
     exact ⟨by rw [HV.out]; rfl, HX1.out⟩
 ·have HV := Lib.hid (ltVt_pa hpa)
  rw [decide_eq_false hpa] at hq hqi
  rw [Bool.not_false] at hq
  clear hpa
  go_enter Tryz.func78, Tryz.ntmps78
  go_wp2_with (first | (with_reducible refine wpList_loadN rfl (.tmp 8) rfl w.heap.size 6 rfl a.pa p1 ?_) | (with_reducible refine wpList_loadN rfl (.tmp 10) rfl (w.heap.size + 1) 6 rfl b.pa p2 ?_) | (with_reducible refine wpList_loadN rfl (.tmp 13) rfl w.heap.size 6 rfl a.pa p1 ?_) | (with_reducible refine wpList_loadN rfl (.tmp 15) rfl (w.heap.size + 1) 6 rfl b.pa p2 ?_))
  refine (rLess_any a.pa b.pa W0).mono ?_
  rintro e w1 ⟨rfl, he1⟩
  have HX := Lib.hid (HE.out.trans he1)
  clear he1
  go_wp2_with fail
  go_ret
  exact ⟨by rw [HV.out]; rfl, HX.out⟩
end Go.Proofs.YtbfepgjeecndiaaGreat
