import Derived.Test.YtfklmcfanhnfpaaTag
namespace Go.Proofs.Ytfklmcfanhnfpaa
open Go.RowKit
set_option linter.unusedVariables false
set_option linter.unusedSimpArgs false
attribute [local go_sem ↓] Go.wp_at_zero Go.wp_at_succ

set_option maxRecDepth 100000 in
set_option maxHeartbeats 1000000 in
theorem refTagged_any (t : UInt8) (A : Option Addr) (n c : Nat) (l : List UInt8) (w : World) (h : SlB w A n c l) (hm : n < 140737488355328) :
    Calls Try.prog 86 #[.int .u8 (t.toNat : Int), .slice A n c] w fun e w' => e = .returned (.agg (nmc (tagU t l))) ∧ Ext w w' := by
  have hmk := hmk160
  go_enter Try.func86, Try.ntmps86
  go_wp2_with (at_builtin; go_must (refine wpList_appB bytesE rfl (.tmp 5) (.tmp 7) rfl (w.heap.size + 1) _ _ _ [] rfl ((OwnB.made (w.alloc _) (w.heap.size + 1) _ 160 (w.heap.size + 1) (by simp) (Nat.le_refl _) (by omega) (size_madeCells _ _)).alloc _) _ _ _ [t] rfl ?r1 (by omega) ?b1 (w.alloc (.cells zcs.toArray 25)) ?w1 ?_))
  case r1 => exact SlB.new1 _ _ _ t _ (by simp) rfl
  case b1 => simp
  case w1 => exact Below.alloc (Below.alloc (Below.refl _ _) (by simp) _) (by simp) _
  intro A1 c1 w1 ho1 hw1 hs1
  have hsl := h.ext (((Ext.refl w).alloc' _).trans (hw1.mono (by simp)))
  have hsz : w.heap.size + 1 ≤ w1.heap.size := by omega
  go_wp2_with (at_builtin; refine wpList_appB bytesE rfl (.tmp 8) (.tmp 9) rfl (w.heap.size + 1) _ _ _ [t] rfl ho1 _ _ _ l rfl hsl (by omega) hsz (w.alloc (.cells zcs.toArray 25)) hw1 ?_)
  intro A2 c2 w2 ho2 hw2 hs2
  go_wp2_with fail
  refine (refSum_any _ _ _ _ _ ho2.sl (by omega)).mono ?_
  rintro e w3 ⟨rfl, he3⟩
  have hE3 : Ext (w.alloc (.cells zcs.toArray 25)) w3 := by have := Below.trans hw2 (he3.mono (B' := w.heap.size + 1) (by omega)); simpa [Ext] using this
  have hb0 : Blk w3 w.heap.size 25 zcs.toArray := (Blk.new w _ _).ext hE3
  go_wp2_with (refine wpList_store_mid rfl 25 _ _ rfl w.heap.size 0 (nmc (sumU ([t] ++ l))) rfl rfl (thereN hb0 _) (size61 _) (nmc_one _) ?_)
  refine bodyPost_ret (v := .agg (nmc (sumU ([t] ++ l)))) (retN rfl _ _ w.heap.size _ rfl (blkN hb0 _)) rfl ⟨rfl, Below.setCells' (((Ext.refl w).alloc' _).trans hE3) (Nat.le_refl _) _ _⟩

def z16 : List Value := List.replicate 16 (.int .u8 0)
theorem pair_splice (x y : UInt64) : (splice (splice z16 0 (bcs (nmb x))) 8 (bcs (nmb y))).toArray = (bcs (nmb x ++ nmb y)).toArray := by
  have h1 := nmb_length x
  have h2 := nmb_length y
  simp only [splice, z16, List.take_zero, List.nil_append, bcs_length, h1, h2, Nat.zero_add, List.drop_replicate, bcs_append]
  rw [List.take_append_of_le_length (by rw [bcs_length, h1]; omega), List.take_of_length_le (by rw [bcs_length, h1]; omega), List.drop_eq_nil_of_le (by simp [bcs_length, h1])]
  simp
theorem pair_splice_len (x : UInt64) : (splice z16 0 (bcs (nmb x))).length = 16 := by
  rw [length_splice _ _ _ (by rw [bcs_length, nmb_length]; simp [z16])]; simp [z16]
def pairU (t : UInt8) (x y : UInt64) : UInt64 := tagU t (nmb x ++ nmb y)
set_option maxRecDepth 100000 in
set_option maxHeartbeats 1000000 in
theorem pair_any (t : UInt8) (x y : UInt64) (w : World) :
    Calls Try.prog 133 #[.int .u8 (t.toNat : Int), .agg (nmc x), .agg (nmc y)] w fun e w' => e = .returned (.agg (nmc (pairU t x y))) ∧ Ext w w' := by
  go_enter Try.func133, Try.ntmps133
  go_wp2_with fail
  go_still_tail 2, (by kernel_rfl)
  change wpList _ _ _ _ _ (World.drew _)
  refine wpList_copy_splice rfl _ _ _ _ rfl 5 Try.underlying22 (by kernel_rfl) _ _ _ _ _ _ rfl rfl (w.heap.size + 3) 0 z16 168 ?g1 (bcs (nmb x)) ?c1 ?c2 ?c3 (bcs_one _) (w.heap.size + 3) (((w.alloc (.cells (nmc x) 25)).alloc (.cells (nmc y) 25)).alloc (.cells zcs.toArray 25)) ?b1 (Nat.le_refl _) ?_
  case g1 => exact (Blk.newAt (((w.alloc (.cells (nmc x) 25)).alloc (.cells (nmc y) 25)).alloc (.cells zcs.toArray 25)) 168 z16.toArray (w.heap.size + 3) (by simp)).drew
  case c1 => rw [bcs_length, nmb_length]; rfl
  case c2 =>
    intro _
    refine ⟨rfl, _, rfl, fun j v hv => ?_⟩
    rw [Addr.add_mid]
    exact rangeAt_of_blk ((((Blk.new w _ (nmc x)).alloc _).alloc _).alloc _).drew j v (by rw [nmc_toList]; exact hv)
  case c3 => rw [bcs_length, nmb_length]; decide
  case b1 => exact (Below.alloc (Below.refl _ _) (by simp) _).drew
  intro w1 hb1 hw1
  have hy1 : Blk w1 (w.heap.size + 1) 25 (nmc y) := by
    have := ((Blk.new (w.alloc (.cells (nmc x) 25)) 25 (nmc y)).alloc (.cells zcs.toArray 25)).below hw1 (by simp)
    simpa using this
  go_wp2_with fail
  go_still_tail 2, (by kernel_rfl)
  change wpList _ _ _ _ _ (World.drew _)
  refine wpList_copy_splice rfl _ _ _ _ rfl 5 Try.underlying22 (by kernel_rfl) _ _ _ _ _ _ rfl rfl (w.heap.size + 3) 8 (splice z16 0 (bcs (nmb x))) 168 ?g1 (bcs (nmb y)) ?c1 ?c2 ?c3 (bcs_one _) (w.heap.size + 3) (((w.alloc (.cells (nmc x) 25)).alloc (.cells (nmc y) 25)).alloc (.cells zcs.toArray 25)) ?b1 (Nat.le_refl _) ?_
  case g1 => exact hb1.out
  case c1 => rw [bcs_length, nmb_length]; rfl
  case c2 =>
    intro _
    refine ⟨rfl, _, rfl, fun j v hv => ?_⟩
    rw [Addr.add_mid]
    exact rangeAt_of_blk hy1.drew j v (by rw [nmc_toList]; exact hv)
  case c3 => rw [bcs_length, nmb_length, pair_splice_len]; decide
  case b1 => exact hw1.drew
  intro w2 hb2 hw2
  have hb3 : Blk w2 (w.heap.size + 3) 168 (bcs (nmb x ++ nmb y)).toArray := by rw [← pair_splice]; exact hb2.out
  have hl16 : (nmb x ++ nmb y).length = 16 := by rw [List.length_append, nmb_length, nmb_length]
  have hsl : SlB w2 (some ⟨w.heap.size + 3, 0, none⟩) 16 16 (nmb x ++ nmb y) := ⟨hl16, by omega, by omega, by have := Rd.of_blk hb3; simpa using this⟩
  go_wp2_with fail
  refine (tagged_any t _ _ _ _ _ hsl (by omega)).mono ?_
  rintro e w3 ⟨rfl, he3⟩
  have hsz2 := hb3.lt
  have hE3 : Below (w.heap.size + 3) (((w.alloc (.cells (nmc x) 25)).alloc (.cells (nmc y) 25)).alloc (.cells zcs.toArray 25)) w3 := Below.trans hw2 (he3.mono (by omega))
  have hb0 : Blk w3 (w.heap.size + 2) 25 zcs.toArray := by
    have := (Blk.new ((w.alloc (.cells (nmc x) 25)).alloc (.cells (nmc y) 25)) 25 zcs.toArray).below hE3 (by simp)
    simpa using this
  go_wp2_with (refine wpList_store_mid rfl 25 _ _ rfl (w.heap.size + 2) 0 (nmc (tagU t (nmb x ++ nmb y))) rfl rfl (thereN hb0 _) (size61 _) (nmc_one _) ?_)
  refine bodyPost_ret (v := .agg (nmc (tagU t (nmb x ++ nmb y)))) (retN rfl _ _ (w.heap.size + 2) _ rfl (blkN hb0 _)) rfl ⟨rfl, Below.setCells' (((((Ext.refl w).alloc' _).alloc' _).alloc' _).trans (by simpa [Ext] using hE3)) (by omega) _ _⟩
end Go.Proofs.Ytfklmcfanhnfpaa
