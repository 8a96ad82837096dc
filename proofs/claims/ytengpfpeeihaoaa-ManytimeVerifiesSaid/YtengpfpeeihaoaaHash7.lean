import Derived.Test.YtengpfpeeihaoaaHash6
namespace Go.Proofs.Ytengpfpeeihaoaa
open Go.RowKit
set_option linter.unusedVariables false
set_option linter.unusedSimpArgs false
attribute [local go_sem ↓] Go.wp_at_zero Go.wp_at_succ

theorem mixTo2 (x y : UInt64) : mixTo 2 x y = (mixX (mixX x y) (mixY x y), mixY (mixX x y) (mixY x y)) := by simp only [mixTo]
set_option maxRecDepth 100000 in
set_option maxHeartbeats 1000000 in
theorem sum_any (A : Option Addr) (n c : Nat) (l : List UInt8) (w : World) (h : SlB w A n c l) (hm : n ≤ 140737488355328) :
    Calls Try.prog 103 #[.slice A n c] w fun e w' => e = .returned (.agg (nmc (sumU l))) ∧ Ext w w' := by
  have hx0 : (2611923443488327891 : Int) = un 2611923443488327891 := by decide
  have hy0 : (1376283091369227076 : Int) = un 1376283091369227076 := by decide
  have Hx := Lib.hid hx0
  have Hy := Lib.hid hy0
  have hle := h.le
  clear hx0 hy0
  go_enter Try.func103, Try.ntmps103
  go_wp2
  go_loopw [4] (fun v wr => ∃ k i : Nat, Hid (i = 8 * k) ∧ i ≤ n + 7 ∧ v = .int .i64 (i : Int) ∧ Blk wr (w.heap.size + 1) 127 #[.int .u64 (un (sumTo l k).1), .int .u64 (un (sumTo l k).2)] ∧ Ext (w.alloc (.cells zcs.toArray 61)) wr) (fun i _ => n + 8 - (intOf i).toNat)
  case atStart => exact ⟨0, 0, rfl, by omega, rfl, by have := Blk.new (w.alloc (.cells zcs.toArray 61)) 127 #[.int .u64 (un 2611923443488327891), .int .u64 (un 1376283091369227076)]; rw [← Hx.out, ← Hy.out, World.size_alloc] at this; rw [sumTo, ← Hx.out, ← Hy.out]; exact this, (Ext.refl _).alloc' _⟩
  case round =>
    obtain ⟨k, i, Hi, hk, rfl, hB, hE⟩ := hrel
    by_cases hlt : i < n
    · have HS : Hid (sumTo l (k + 1) = mixTo 2 (xorU (sumTo l k).1 (wordU (l.drop i))) (sumTo l k).2) := Lib.hid (by rw [Hi.out]; rfl)
      generalize (sumTo l k).1 = x at *
      generalize (sumTo l k).2 = y at *
      have hrk := ((h.ext (((Ext.refl w).alloc' (.cells zcs.toArray 61)).trans hE)).cut (k := i) (by omega) (by omega)).ext (Ext.refl wr).drew'
      have hx := un_xor x (wordU (l.drop i))
      have c0 := hB.cell 0
      have c1 := hB.cell 1
      have f0 := hB.frozen 0
      have hin : i ≤ n := by omega
      have hic : ¬ c = i := by omega
      go_wp2_with fail
      go_region_law ((go_simp; go_at_call 108; refine (word_any _ _ _ _ _ hrk).mono ?_; rintro e w1 ⟨rfl, he1⟩; have hB1 := hB.drew.ext he1; have d0 := hB1.cell 0; have d1 := hB1.cell 1; have g0 := hB1.frozen 0))
      all_goals
        have hB2 := hB1.set 0 (.int .u64 (un (xorU x (wordU (l.drop i)))))
        simp at hB2
        have hE2 : Ext (w.alloc (.cells zcs.toArray 61)) (w1.setCell ⟨w.heap.size + 1, 0, none⟩ (.int .u64 (un (xorU x (wordU (l.drop i)))))) := Below.setCell (hE.drew'.trans he1) (by simp) _
        go_wp2_with fail
        refine (mix_any 2 (by omega) _ _ _ _ _ hB2).mono ?_
        rintro e w3 ⟨rfl, hB3, hO3⟩
        go_wp2_with fail
        go_roundw
        case rel => exact ⟨k + 1, i + 8, by have := Hi.out; exact Lib.hid (by omega), by omega, by go_num, by rw [HS.out]; exact hB3, Below.trans hE2 (hO3.below (by simp))⟩
        case measure => simp [intOf]; omega
    · have HK : Hid (k = (n + 7) / 8) := by have := Hi.out; exact Lib.hid (by omega)
      have HF : Hid (sumU l = sumFin n (sumTo l k).1 (sumTo l k).2) := Lib.hid (by rw [HK.out]; unfold sumU; rw [h.len])
      generalize (sumTo l k).1 = x at *
      generalize (sumTo l k).2 = y at *
      have hn64 := i64_u64 n hm
      have hxy := un_xor y (UInt64.ofNat n)
      have c0 := hB.cell 0
      have c1 := hB.cell 1
      have f1 := hB.frozen 1
      have hB2 := hB.set 1 (.int .u64 (un (xorU y (UInt64.ofNat n))))
      simp at hB2
      have hE2 : Ext (w.alloc (.cells zcs.toArray 61)) (wr.setCell ⟨w.heap.size + 1, 1, none⟩ (.int .u64 (un (xorU y (UInt64.ofNat n))))) := Below.setCell hE (by simp) _
      go_wp2_with fail
      refine (mix_any 4 (by omega) _ _ _ _ _ hB2).mono ?_
      rintro e w3 ⟨rfl, hB3, hO3⟩
      have hE3 := Below.trans hE2 (hO3.below (by simp))
      have HX := Lib.hid (HF.out.trans (show sumFin n x y = xorU (mixTo 4 x (xorU y (UInt64.ofNat n))).1 (mixTo 4 x (xorU y (UInt64.ofNat n))).2 from by unfold sumFin; rfl))
      have hxx := un_xor (mixTo 4 x (xorU y (UInt64.ofNat n))).1 (mixTo 4 x (xorU y (UInt64.ofNat n))).2
      generalize (mixTo 4 x (xorU y (UInt64.ofNat n))).1 = a at *
      generalize (mixTo 4 x (xorU y (UInt64.ofNat n))).2 = b at *
      clear c0 c1 f1
      have c0 := hB3.cell 0
      have c1 := hB3.cell 1
      go_wp2_with fail
      refine (of_any _ _).mono ?_
      rintro e w4 ⟨rfl, he4⟩
      have hb0 : Blk w4 w.heap.size 61 zcs.toArray := ((Blk.new w _ _).ext hE3).ext he4
      go_wp2_with (refine wpList_store_mid rfl 61 _ _ rfl w.heap.size 0 (nmc (xorU a b)) rfl rfl (thereN hb0 _) (size61 _) (nmc_one _) ?_)
      refine bodyPost_ret (v := .agg (nmc (xorU a b))) (retN rfl _ _ w.heap.size _ rfl (blkN hb0 _)) rfl ⟨by rw [HX.out], Below.setCells' ((((Ext.refl w).alloc' _).trans hE3).trans he4) (Nat.le_refl _) _ _⟩
end Go.Proofs.Ytengpfpeeihaoaa
