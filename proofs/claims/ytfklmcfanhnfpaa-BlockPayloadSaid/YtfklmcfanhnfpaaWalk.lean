import Derived.Test.YtfklmcfanhnfpaaTag3
namespace Go.Proofs.Ytfklmcfanhnfpaa
open Go.RowKit
set_option linter.unusedVariables false
set_option linter.unusedSimpArgs false
attribute [local go_sem ↓] Go.wp_at_zero Go.wp_at_succ

/-- a chain, k steps from a position on -/
def chainTo (v : UInt64) (c p : Int) : Nat → UInt64
  | 0 => v
  | k + 1 => tagU 33 (nmb (chainTo v c p k) ++ [toB c, toB (p + k)])
theorem blkN' {w : World} {g : Nat} {t : TypeId} {n : UInt64} (h : Blk w g t (nmc n)) (r : UInt64) : Blk (w.setCells g 0 (nmc r).toList) g t (nmc r) := blk_whole h (by rw [nmc_size, nmc_size])
theorem thereN' {w : World} {g : Nat} {t : TypeId} {n : UInt64} (h : Blk w g t (nmc n)) (r : UInt64) : w.there g 0 (nmc r).size := by rw [nmc_size]; have := there_of_blk h; rwa [nmc_size] at this
theorem Blk.setCells_far {w : World} {g g' : Nat} {t : TypeId} {cs : Array Value} (h : Blk w g t cs) (hne : g ≠ g') (vs : List Value) : ∀ o, Blk (w.setCells g' o vs) g t cs := by
  induction vs generalizing w with
  | nil => intro o; exact h
  | cons v r ih => intro o; exact ih (h.far (p := ⟨g', o, none⟩) hne v) (o + 1)
theorem size_setCells (w : World) (g : Nat) (vs : List Value) : ∀ o, (w.setCells g o vs).heap.size = w.heap.size := by
  induction vs generalizing w with
  | nil => intro o; rfl
  | cons v r ih => intro o; rw [World.setCells, ih]; simp [World.setCell]
set_option maxRecDepth 100000 in
set_option maxHeartbeats 1000000 in
theorem walk_any (v : UInt64) (c p q : Int) (w : World) (hp : 0 ≤ p) (hp2 : p ≤ 1000) (hq : -1000 ≤ q) (hq2 : q ≤ 1000) :
    Calls Try.prog 138 #[.agg (nmc v), .int .i64 c, .int .i64 p, .int .i64 q] w fun e w' => e = .returned (.agg (nmc (chainTo v c p (q - p).toNat))) ∧ Ext w w' := by
  go_enter Try.func138, Try.ntmps138
  go_wp2_with fail
  go_loopw [13] (fun i wr => ∃ k : Nat, k ≤ (q - p).toNat ∧ i = .int .i64 (k : Int) ∧ Blk wr w.heap.size 25 (nmc (chainTo v c p k)) ∧ Blk wr (w.heap.size + 1) 25 zcs.toArray ∧ Ext w wr) (fun i _ => (q - p).toNat - (intOf i).toNat)
  case atStart => exact ⟨0, by omega, rfl, (Blk.new w _ _).alloc _, Blk.newAt _ _ _ _ (by simp), ((Ext.refl w).alloc' _).alloc' _⟩
  case round =>
    obtain ⟨k, hk, rfl, hB, hZ, hE⟩ := hrel
    by_cases hlt : (k : Int) < q - p
    · have HS := Lib.hid (show chainTo v c p (k + 1) = tagU 33 (nmb (chainTo v c p k) ++ [toB c, toB (p + k)]) from rfl)
      generalize chainTo v c p k = x at *
      go_wp2_with (at_builtin; go_must (refine wpList_growB bytesE rfl (.tmp 16) (.tmp 23) rfl _ _ _ (nmb x) rfl ?o1 ?n1 _ _ _ [toB c, toB (p + k)] rfl ?r1 ?m1 ?g1 ?b1 ?_))
      case o1 => exact SlB.blkN (hB.alloc _)
      case n1 => omega
      case r1 => exact SlB.new2 _ _ _ _ _ _ _ (by simp) (toB_eq _) (toB_eq _)
      case m1 => omega
      case g1 => omega
      case b1 => omega
      intro A2 c2 w2 ho2 he2
      have hE2 := Ext.trans ((Ext.refl wr).alloc' _) he2
      go_wp2_with fail
      refine (tagged_any 33 _ _ _ _ _ ho2.sl (by omega)).mono ?_
      rintro e w3 ⟨rfl, he3⟩
      have hE3 := Ext.trans hE2 he3
      have hB3 := hB.ext hE3
      have hZ3 := hZ.ext hE3
      go_wp2_with (with_reducible refine wpList_store_mid rfl 25 _ _ rfl w.heap.size 0 (nmc (tagU 33 (nmb x ++ [toB c, toB (p + k)]))) rfl rfl (thereN' hB3 _) (size61 _) (nmc_one _) ?_)
      go_roundw
      case rel => exact ⟨k + 1, by omega, by go_num, by rw [HS.out]; exact blkN' hB3 _, hZ3.setCells_far (by omega) _ _, Below.setCells' (Ext.trans hE hE3) (Nat.le_refl _) _ _⟩
      case measure => simp [intOf]; omega
    · have HK := Lib.hid (show k = (q - p).toNat by omega)
      have HX := Lib.hid (show chainTo v c p (q - p).toNat = chainTo v c p k by rw [← HK.out])
      generalize chainTo v c p k = x at *
      go_wp2_with (first | (refine wpList_load_row rfl 25 _ rfl _ rfl 25 _ (0, 0) _ hB Try.underlying25 rfl (size61 x) ?_) | (refine wpList_store_mid rfl 25 _ _ rfl (w.heap.size + 1) 0 (nmc x) rfl rfl (thereN hZ _) (size61 _) (nmc_one _) ?_))
      refine bodyPost_ret (v := .agg (nmc x)) (retN rfl _ _ (w.heap.size + 1) _ rfl (blkN hZ _)) rfl ⟨by rw [HX.out], Below.setCells' hE (by omega) _ _⟩
theorem nmc_get (n : UInt64) (k : Nat) (hk : k < 8) : (nmc n)[k]? = some (.int .u8 (((nmb n).getD k 0).toNat : Int)) := by
  have hl := nmb_length n
  simp [nmc, bcs, bv, hl, hk]
theorem nmb_list (n : UInt64) : nmb n = [(nmb n).getD 0 0, (nmb n).getD 1 0, (nmb n).getD 2 0, (nmb n).getD 3 0, (nmb n).getD 4 0, (nmb n).getD 5 0, (nmb n).getD 6 0, (nmb n).getD 7 0] := by
  have hl := nmb_length n
  match h : nmb n, hl with
  | [a, b, c, d, e, f, g, i], _ => rfl
end Go.Proofs.Ytfklmcfanhnfpaa
