import Derived.Test.YtfklmcfanhnfpaaHash3
namespace Go.Proofs.Ytfklmcfanhnfpaa
open Go.RowKit
set_option linter.unusedVariables false
set_option linter.unusedSimpArgs false
attribute [local go_sem ↓] Go.wp_at_zero Go.wp_at_succ

/-- the state of the hash function behind k words -/
def sumTo (l : List UInt8) : Nat → UInt64 × UInt64
  | 0 => (2611923443488327891, 1376283091369227076)
  | k + 1 => mixTo 2 (xorU (sumTo l k).1 (wordU (l.drop (8 * k)))) (sumTo l k).2
def sumFin (n : Nat) (x y : UInt64) : UInt64 := xorU (mixTo 4 x (xorU y (UInt64.ofNat n))).1 (mixTo 4 x (xorU y (UInt64.ofNat n))).2
/-- the name of a byte string -/
def sumU (l : List UInt8) : UInt64 := sumFin l.length (sumTo l ((l.length + 7) / 8)).1 (sumTo l ((l.length + 7) / 8)).2
theorem un_ofNat (n : Nat) (h : n < 18446744073709551616) : (n : Int) = un (UInt64.ofNat n) := by
  unfold un; rw [UInt64.toNat_ofNat_of_lt' (by simpa [UInt64.size] using h)]
theorem sumTo_succ (l : List UInt8) (k : Nat) : sumTo l (k + 1) = (mixX (mixX (xorU (sumTo l k).1 (wordU (l.drop (8 * k)))) (sumTo l k).2) (mixY (xorU (sumTo l k).1 (wordU (l.drop (8 * k)))) (sumTo l k).2), mixY (mixX (xorU (sumTo l k).1 (wordU (l.drop (8 * k)))) (sumTo l k).2) (mixY (xorU (sumTo l k).1 (wordU (l.drop (8 * k)))) (sumTo l k).2)) := by
  rw [sumTo]; simp only [mixTo]
theorem i64_u64 (n : Nat) (h : n ≤ 140737488355328) : IntKind.u64.wrap (n : Int) = un (UInt64.ofNat n) := by
  rw [← un_ofNat n (by omega), IntKind.wrap_u64]; omega
set_option maxRecDepth 100000 in
set_option maxHeartbeats 1000000 in
theorem refSum_any (A : Option Addr) (n c : Nat) (l : List UInt8) (w : World) (h : SlB w A n c l) (hm : n ≤ 140737488355328) :
    Calls Try.prog 48 #[.slice A n c] w fun e w' => e = .returned (.agg (nmc (sumU l))) ∧ Ext w w' := by
  have hx0 : (2611923443488327891 : Int) = un 2611923443488327891 := by decide
  have hy0 : (1376283091369227076 : Int) = un 1376283091369227076 := by decide
  have Hx := Lib.hid hx0
  have Hy := Lib.hid hy0
  have hle := h.le
  clear hx0 hy0
  go_enter Try.func48, Try.ntmps48
  go_wp2
  go_loopw [3, 4, 5] (fun x y i wr => ∃ k : Nat, 8 * k ≤ n + 7 ∧ i = .int .i64 ((8 * k : Nat) : Int) ∧ x = .int .u64 (un (sumTo l k).1) ∧ y = .int .u64 (un (sumTo l k).2) ∧ Ext (w.alloc (.cells zcs.toArray 25)) wr) (fun _ _ i _ => n + 8 - (intOf i).toNat)
  case atStart => exact ⟨0, by omega, rfl, by rw [Hx.out]; rfl, by rw [Hy.out]; rfl, Ext.refl _⟩
  case round =>
    obtain ⟨k, hk, rfl, rfl, rfl, hE⟩ := hrel
    by_cases hlt : 8 * k < n
    · have hrk := (h.ext (((Ext.refl w).alloc' (.cells zcs.toArray 25)).trans hE)).cut (k := 8 * k) (by omega) (by omega)
      have HS := Lib.hid (sumTo_succ l k)
      generalize (sumTo l k).1 = x at *
      generalize (sumTo l k).2 = y at *
      have hx := un_xor x (wordU (l.drop (8 * k)))
      go_wp2_with fail
      refine (refWord_any _ _ _ _ _ hrk).mono ?_
      rintro e w1 ⟨rfl, he1⟩
      go_wp2_with fail
      refine (refMix _ _ _).mono ?_
      rintro e w2 ⟨rfl, rfl⟩
      go_wp2_with fail
      refine (refMix _ _ _).mono ?_
      rintro e w2 ⟨rfl, rfl⟩
      go_wp2_with fail
      go_roundw
      case rel => exact ⟨k + 1, by omega, by go_num, by rw [HS.out], by rw [HS.out], hE.trans he1⟩
      case measure => simp [intOf]; omega
    · have hkk : k = (n + 7) / 8 := by omega
      have HK := Lib.hid hkk
      have HF : Hid (sumU l = sumFin n (sumTo l k).1 (sumTo l k).2) := Lib.hid (by rw [hkk]; unfold sumU; rw [h.len])
      clear hkk
      generalize (sumTo l k).1 = x at *
      generalize (sumTo l k).2 = y at *
      have hn64 := i64_u64 n hm
      have hdk : decide ((8 : Int) * (k : Int) < (n : Int)) = false := by simp; omega
      have hxy := un_xor y (UInt64.ofNat n)
      go_wp2_with fail
      go_loopw [3, 4, 6] (fun x' y' i ws => ∃ j : Nat, j ≤ 4 ∧ i = .int .i64 (j : Int) ∧ x' = .int .u64 (un (mixTo j x (xorU y (UInt64.ofNat n))).1) ∧ y' = .int .u64 (un (mixTo j x (xorU y (UInt64.ofNat n))).2) ∧ ws = wr) (fun _ _ i _ => 4 - (intOf i).toNat)
      case atStart => exact ⟨0, by omega, rfl, rfl, rfl, rfl⟩
      case round =>
        obtain ⟨j, hj, rfl, rfl, rfl, rfl⟩ := hrel
        by_cases hlt4 : j < 4
        · have HM := Lib.hid (show mixTo (j + 1) x (xorU y (UInt64.ofNat n)) = _ from rfl)
          go_wp2_with fail
          refine (refMix _ _ _).mono ?_
          rintro e w2 ⟨rfl, rfl⟩
          go_wp2_with fail
          go_roundw
          case rel => first | exact ⟨j + 1, by omega, by go_num, rfl, rfl, rfl⟩ | ((repeat apply Exists.intro); exact ⟨⟨j + 1, by omega, by go_num, rfl, rfl, trivial⟩, rfl⟩)
          case measure => simp [intOf]; omega
        · obtain rfl : j = 4 := by omega
          have hxx := un_xor (mixTo 4 x (xorU y (UInt64.ofNat n))).1 (mixTo 4 x (xorU y (UInt64.ofNat n))).2
          have HX := Lib.hid (HF.out.trans (show sumFin n x y = xorU (mixTo 4 x (xorU y (UInt64.ofNat n))).1 (mixTo 4 x (xorU y (UInt64.ofNat n))).2 from by unfold sumFin; rfl))
          generalize (mixTo 4 x (xorU y (UInt64.ofNat n))).1 = a at *
          generalize (mixTo 4 x (xorU y (UInt64.ofNat n))).2 = b at *
          go_wp2_with fail
          refine (refOf_any _ _).mono ?_
          rintro e w2 ⟨rfl, he2⟩
          have hb0 : Blk w2 w.heap.size 25 zcs.toArray := ((Blk.new w _ _).ext hE).ext he2
          go_wp2_with (refine wpList_store_mid rfl 25 _ _ rfl w.heap.size 0 (nmc (xorU a b)) rfl rfl (thereN hb0 _) (size61 _) (nmc_one _) ?_)
          refine bodyPost_ret (v := .agg (nmc (xorU a b))) (retN rfl _ _ w.heap.size _ rfl (blkN hb0 _)) rfl ⟨by rw [HX.out], Below.setCells' ((((Ext.refl w).alloc' _).trans hE).trans he2) (Nat.le_refl _) _ _⟩
end Go.Proofs.Ytfklmcfanhnfpaa
namespace Go.Proofs.Ytfklmcfanhnfpaa
open Go.RowKit
set_option linter.unusedVariables false
set_option linter.unusedSimpArgs false
attribute [local go_sem ↓] Go.wp_at_zero Go.wp_at_succ

theorem mixTo2 (x y : UInt64) : mixTo 2 x y = (mixX (mixX x y) (mixY x y), mixY (mixX x y) (mixY x y)) := by simp only [mixTo]
set_option maxRecDepth 100000 in
set_option maxHeartbeats 1000000 in
theorem sum_any (A : Option Addr) (n c : Nat) (l : List UInt8) (w : World) (h : SlB w A n c l) (hm : n ≤ 140737488355328) :
    Calls Try.prog 47 #[.slice A n c] w fun e w' => e = .returned (.agg (nmc (sumU l))) ∧ Ext w w' := by
  have hx0 : (2611923443488327891 : Int) = un 2611923443488327891 := by decide
  have hy0 : (1376283091369227076 : Int) = un 1376283091369227076 := by decide
  have Hx := Lib.hid hx0
  have Hy := Lib.hid hy0
  have hle := h.le
  clear hx0 hy0
  go_enter Try.func47, Try.ntmps47
  go_wp2
  go_loopw [4] (fun v wr => ∃ k i : Nat, Hid (i = 8 * k) ∧ i ≤ n + 7 ∧ v = .int .i64 (i : Int) ∧ Blk wr (w.heap.size + 1) 114 #[.int .u64 (un (sumTo l k).1), .int .u64 (un (sumTo l k).2)] ∧ Ext (w.alloc (.cells zcs.toArray 25)) wr) (fun i _ => n + 8 - (intOf i).toNat)
  case atStart => exact ⟨0, 0, rfl, by omega, rfl, by have := Blk.new (w.alloc (.cells zcs.toArray 25)) 114 #[.int .u64 (un 2611923443488327891), .int .u64 (un 1376283091369227076)]; rw [← Hx.out, ← Hy.out, World.size_alloc] at this; rw [sumTo, ← Hx.out, ← Hy.out]; exact this, (Ext.refl _).alloc' _⟩
  case round =>
    obtain ⟨k, i, Hi, hk, rfl, hB, hE⟩ := hrel
    by_cases hlt : i < n
    · have HS : Hid (sumTo l (k + 1) = mixTo 2 (xorU (sumTo l k).1 (wordU (l.drop i))) (sumTo l k).2) := Lib.hid (by rw [Hi.out]; rfl)
      generalize (sumTo l k).1 = x at *
      generalize (sumTo l k).2 = y at *
      have hrk := ((h.ext (((Ext.refl w).alloc' (.cells zcs.toArray 25)).trans hE)).cut (k := i) (by omega) (by omega)).ext (Ext.refl wr).drew'
      have hx := un_xor x (wordU (l.drop i))
      have c0 := hB.cell 0
      have c1 := hB.cell 1
      have f0 := hB.frozen 0
      have hin : i ≤ n := by omega
      have hic : ¬ c = i := by omega
      go_wp2_with fail
      go_region_law ((go_simp; go_at_call 87; refine (word_any _ _ _ _ _ hrk).mono ?_; rintro e w1 ⟨rfl, he1⟩; have hB1 := hB.drew.ext he1; have d0 := hB1.cell 0; have d1 := hB1.cell 1; have g0 := hB1.frozen 0))
      all_goals
        have hB2 := hB1.set 0 (.int .u64 (un (xorU x (wordU (l.drop i)))))
        simp at hB2
        have hE2 : Ext (w.alloc (.cells zcs.toArray 25)) (w1.setCell ⟨w.heap.size + 1, 0, none⟩ (.int .u64 (un (xorU x (wordU (l.drop i)))))) := Below.setCell (hE.drew'.trans he1) (by simp) _
        go_wp2_with fail
        refine (mix_any 2 (by omega) _ _ _ _ _ hB2).mono ?_
        rintro e w3 ⟨rfl, hB3, hO3⟩
        go_wp2_with fail
        go_roundw
        case rel => exact ⟨k + 1, i + 8, by have := Hi.out; exact Lib.hid (by omega), by omega, by go_num, by rw [HS.out]; exact hB3, Below.trans hE2 (hO3.below (by simp))⟩
        case measure => simp [intOf]; omega
    · have HK : Hid (k = (n + 7) / 8) := by have := Hi.out; exact Lib.hid (by omega)
      have HF : Hid (sumU l = sumFin n (sumTo l k).1 (sumTo l k).2) := Lib.hid (by rw [HK.out]; unfold sumU; rw [h.len])
      generalize (sumTo l k).1 = x at *
      generalize (sumTo l k).2 = y at *
      have hn64 := i64_u64 n hm
      have hxy := un_xor y (UInt64.ofNat n)
      have c0 := hB.cell 0
      have c1 := hB.cell 1
      have f1 := hB.frozen 1
      have hB2 := hB.set 1 (.int .u64 (un (xorU y (UInt64.ofNat n))))
      simp at hB2
      have hE2 : Ext (w.alloc (.cells zcs.toArray 25)) (wr.setCell ⟨w.heap.size + 1, 1, none⟩ (.int .u64 (un (xorU y (UInt64.ofNat n))))) := Below.setCell hE (by simp) _
      go_wp2_with fail
      refine (mix_any 4 (by omega) _ _ _ _ _ hB2).mono ?_
      rintro e w3 ⟨rfl, hB3, hO3⟩
      have hE3 := Below.trans hE2 (hO3.below (by simp))
      have HX := Lib.hid (HF.out.trans (show sumFin n x y = xorU (mixTo 4 x (xorU y (UInt64.ofNat n))).1 (mixTo 4 x (xorU y (UInt64.ofNat n))).2 from by unfold sumFin; rfl))
      have hxx := un_xor (mixTo 4 x (xorU y (UInt64.ofNat n))).1 (mixTo 4 x (xorU y (UInt64.ofNat n))).2
      generalize (mixTo 4 x (xorU y (UInt64.ofNat n))).1 = a at *
      generalize (mixTo 4 x (xorU y (UInt64.ofNat n))).2 = b at *
      clear c0 c1 f1
      have c0 := hB3.cell 0
      have c1 := hB3.cell 1
      go_wp2_with fail
      refine (of_any _ _).mono ?_
      rintro e w4 ⟨rfl, he4⟩
      have hb0 : Blk w4 w.heap.size 25 zcs.toArray := ((Blk.new w _ _).ext hE3).ext he4
      go_wp2_with (refine wpList_store_mid rfl 25 _ _ rfl w.heap.size 0 (nmc (xorU a b)) rfl rfl (thereN hb0 _) (size61 _) (nmc_one _) ?_)
      refine bodyPost_ret (v := .agg (nmc (xorU a b))) (retN rfl _ _ w.heap.size _ rfl (blkN hb0 _)) rfl ⟨by rw [HX.out], Below.setCells' ((((Ext.refl w).alloc' _).trans hE3).trans he4) (Nat.le_refl _) _ _⟩
end Go.Proofs.Ytfklmcfanhnfpaa
