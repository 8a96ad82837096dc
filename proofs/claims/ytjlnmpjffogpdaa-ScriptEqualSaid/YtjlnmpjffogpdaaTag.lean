import Derived.Test.YtjlnmpjffogpdaaHash
import Derived.Test.YtjlnmpjffogpdaaApp
namespace Go.Proofs.Ytjlnmpjffogpdaa
open Go.RowKit
set_option linter.unusedVariables false
set_option linter.unusedSimpArgs false
attribute [local go_sem ↓] Go.wp_at_zero Go.wp_at_succ

/-- the name of a byte string behind a tag -/
def tagU (t : UInt8) (l : List UInt8) : UInt64 := sumU (t :: l)
theorem hmk160 (w : World) : (Instr.makeSlice 33 (.int .i64 0) (.int .i64 160)).run Try.prog w = .ok (.slice (some ⟨w.heap.size, 0, none⟩) 0 160) (w.alloc (.cells (madeCells (Value.int .u8 0).cells 160) 5)) := by
  obtain ⟨i, hi, hz, hs, hby⟩ := bytesE.get
  have h := run_make (P := Try.prog) w 33 5 i (.int .u8 0) bytesE.ut hi hz .i64 .i64 0 160 (by omega) (by omega) (by rw [hby]; omega) (by omega)
  simpa [hs] using h
set_option maxRecDepth 100000 in
set_option maxHeartbeats 1000000 in
theorem tagged_any (t : UInt8) (A : Option Addr) (n c : Nat) (l : List UInt8) (w : World) (h : SlB w A n c l) (hm : n < 140737488355328) :
    Calls Try.prog 60 #[.int .u8 (t.toNat : Int), .slice A n c] w fun e w' => e = .returned (.agg (nmc (tagU t l))) ∧ Ext w w' := by
  have hmk := hmk160
  go_enter Try.func60, Try.ntmps60
  go_wp2_with (at_builtin; go_must (refine wpList_appB bytesE rfl (.tmp 7) (.tmp 9) rfl (w.heap.size + 1) _ _ _ [] rfl ((OwnB.made (w.alloc _) (w.heap.size + 1) _ 160 (w.heap.size + 1) (by simp) (Nat.le_refl _) (by omega) (size_madeCells _ _)).alloc _) _ _ _ [t] rfl ?r1 (by omega) ?b1 (w.alloc (.cells zcs.toArray 26)) ?w1 ?_))
  case r1 => exact SlB.new1 _ _ _ t _ (by simp) rfl
  case b1 => simp
  case w1 => exact Below.alloc (Below.alloc (Below.refl _ _) (by simp) _) (by simp) _
  intro A1 c1 w1 ho1 hw1 hs1
  have hsl := h.ext (((Ext.refl w).alloc' _).trans (hw1.mono (by simp)))
  have hsz : w.heap.size + 1 ≤ w1.heap.size := by omega
  go_wp2_with (at_builtin; refine wpList_appB bytesE rfl (.tmp 10) (.tmp 11) rfl (w.heap.size + 1) _ _ _ [t] rfl ho1 _ _ _ l rfl hsl (by omega) hsz (w.alloc (.cells zcs.toArray 26)) hw1 ?_)
  intro A2 c2 w2 ho2 hw2 hs2
  go_wp2_with fail
  refine (sum_any _ _ _ _ _ ho2.sl (by omega)).mono ?_
  rintro e w3 ⟨rfl, he3⟩
  have hE3 : Ext (w.alloc (.cells zcs.toArray 26)) w3 := by have := Below.trans hw2 (he3.mono (B' := w.heap.size + 1) (by omega)); simpa [Ext] using this
  have hb0 : Blk w3 w.heap.size 26 zcs.toArray := (Blk.new w _ _).ext hE3
  go_wp2_with (refine wpList_store_mid rfl 26 _ _ rfl w.heap.size 0 (nmc (sumU ([t] ++ l))) rfl rfl (thereN hb0 _) (size61 _) (nmc_one _) ?_)
  refine bodyPost_ret (v := .agg (nmc (sumU ([t] ++ l)))) (retN rfl _ _ w.heap.size _ rfl (blkN hb0 _)) rfl ⟨rfl, Below.setCells' (((Ext.refl w).alloc' _).trans hE3) (Nat.le_refl _) _ _⟩
end Go.Proofs.Ytjlnmpjffogpdaa
namespace Go.Proofs.Ytjlnmpjffogpdaa
open Go.RowKit
set_option linter.unusedVariables false
set_option linter.unusedSimpArgs false
attribute [local go_sem ↓] Go.wp_at_zero Go.wp_at_succ


def z16 : List Value := List.replicate 16 (.int .u8 0)
theorem pair_splice (x y : UInt64) : (splice (splice z16 0 (bcs (nmb x))) 8 (bcs (nmb y))).toArray = (bcs (nmb x ++ nmb y)).toArray := by
  have h1 := nmb_length x
  have h2 := nmb_length y
  simp only [splice, z16, List.take_zero, List.nil_append, bcs_length, h1, h2, Nat.zero_add, List.drop_replicate, bcs_append]
  rw [List.take_append_of_le_length (by rw [bcs_length, h1]; omega), List.take_of_length_le (by rw [bcs_length, h1]; omega), List.drop_eq_nil_of_le (by simp [bcs_length, h1])]
  simp
theorem pair_splice_len (x : UInt64) : (splice z16 0 (bcs (nmb x))).length = 16 := by
  rw [length_splice _ _ _ (by rw [bcs_length, nmb_length]; simp [z16])]; simp [z16]
def pairU (t : UInt8) (x y : UInt64) : UInt64 := tagU t (nmb x ++ nmb y)
end Go.Proofs.Ytjlnmpjffogpdaa
namespace Go.Proofs.Ytjlnmpjffogpdaa
open Go.RowKit
set_option linter.unusedVariables false
set_option linter.unusedSimpArgs false
attribute [local go_sem ↓] Go.wp_at_zero Go.wp_at_succ


end Go.Proofs.Ytjlnmpjffogpdaa
namespace Go.Proofs.Ytjlnmpjffogpdaa
open Go.RowKit
set_option linter.unusedVariables false
set_option linter.unusedSimpArgs false
attribute [local go_sem ↓] Go.wp_at_zero Go.wp_at_succ

/-- a chain, k steps from a position on -/
def chainTo (v : UInt64) (c p : Int) : Nat → UInt64
  | 0 => v
  | k + 1 => tagU 33 (nmb (chainTo v c p k) ++ [toB c, toB (p + k)])
theorem blkN' {w : World} {g : Nat} {t : TypeId} {n : UInt64} (h : Blk w g t (nmc n)) (r : UInt64) : Blk (w.setCells g 0 (nmc r).toList) g t (nmc r) := blk_whole h (by rw [nmc_size, nmc_size])
theorem thereN' {w : World} {g : Nat} {t : TypeId} {n : UInt64} (h : Blk w g t (nmc n)) (r : UInt64) : w.there g 0 (nmc r).size := by rw [nmc_size]; have := there_of_blk h; rwa [nmc_size] at this
theorem Blk.setCells_far {w : World} {g g' : Nat} {t : TypeId} {cs : Array Value} (h : Blk w g t cs) (hne : g ≠ g') (vs : List Value) : ∀ o, Blk (w.setCells g' o vs) g t cs := by
  induction vs generalizing w with
  | nil => intro o; exact h
  | cons v r ih => intro o; exact ih (h.far (p := ⟨g', o, none⟩) hne v) (o + 1)
theorem size_setCells (w : World) (g : Nat) (vs : List Value) : ∀ o, (w.setCells g o vs).heap.size = w.heap.size := by
  induction vs generalizing w with
  | nil => intro o; rfl
  | cons v r ih => intro o; rw [World.setCells, ih]; simp [World.setCell]
theorem nmc_get (n : UInt64) (k : Nat) (hk : k < 8) : (nmc n)[k]? = some (.int .u8 (((nmb n).getD k 0).toNat : Int)) := by
  have hl := nmb_length n
  simp [nmc, bcs, bv, hl, hk]
theorem nmb_list (n : UInt64) : nmb n = [(nmb n).getD 0 0, (nmb n).getD 1 0, (nmb n).getD 2 0, (nmb n).getD 3 0, (nmb n).getD 4 0, (nmb n).getD 5 0, (nmb n).getD 6 0, (nmb n).getD 7 0] := by
  have hl := nmb_length n
  match h : nmb n, hl with
  | [a, b, c, d, e, f, g, i], _ => rfl
end Go.Proofs.Ytjlnmpjffogpdaa
