import Derived.Test.YtfklmcfanhnfpaaHash6
import Derived.Test.YtfklmcfanhnfpaaOwn
namespace Go.Proofs.Ytfklmcfanhnfpaa
open Go.RowKit
set_option linter.unusedVariables false
set_option linter.unusedSimpArgs false
attribute [local go_sem ↓] Go.wp_at_zero Go.wp_at_succ

/-- the name of a byte string behind a tag -/
def tagU (t : UInt8) (l : List UInt8) : UInt64 := sumU (t :: l)
theorem hmk160 (w : World) : (Instr.makeSlice 22 (.int .i64 0) (.int .i64 160)).run Try.prog w = .ok (.slice (some ⟨w.heap.size, 0, none⟩) 0 160) (w.alloc (.cells (madeCells (Value.int .u8 0).cells 160) 5)) := by
  obtain ⟨i, hi, hz, hs, hby⟩ := bytesE.get
  have h := run_make (P := Try.prog) w 22 5 i (.int .u8 0) bytesE.ut hi hz .i64 .i64 0 160 (by omega) (by omega) (by rw [hby]; omega) (by omega)
  simpa [hs] using h
set_option maxRecDepth 100000 in
set_option maxHeartbeats 1000000 in
theorem tagged_any (t : UInt8) (A : Option Addr) (n c : Nat) (l : List UInt8) (w : World) (h : SlB w A n c l) (hm : n < 140737488355328) :
    Calls Try.prog 84 #[.int .u8 (t.toNat : Int), .slice A n c] w fun e w' => e = .returned (.agg (nmc (tagU t l))) ∧ Ext w w' := by
  have hmk := hmk160
  go_enter Try.func84, Try.ntmps84
  go_wp2_with (at_builtin; go_must (refine wpList_appB bytesE rfl (.tmp 7) (.tmp 9) rfl (w.heap.size + 1) _ _ _ [] rfl ((OwnB.made (w.alloc _) (w.heap.size + 1) _ 160 (w.heap.size + 1) (by simp) (Nat.le_refl _) (by omega) (size_madeCells _ _)).alloc _) _ _ _ [t] rfl ?r1 (by omega) ?b1 (w.alloc (.cells zcs.toArray 25)) ?w1 ?_))
  case r1 => exact SlB.new1 _ _ _ t _ (by simp) rfl
  case b1 => simp
  case w1 => exact Below.alloc (Below.alloc (Below.refl _ _) (by simp) _) (by simp) _
  intro A1 c1 w1 ho1 hw1 hs1
  have hsl := h.ext (((Ext.refl w).alloc' _).trans (hw1.mono (by simp)))
  have hsz : w.heap.size + 1 ≤ w1.heap.size := by omega
  go_wp2_with (at_builtin; refine wpList_appB bytesE rfl (.tmp 10) (.tmp 11) rfl (w.heap.size + 1) _ _ _ [t] rfl ho1 _ _ _ l rfl hsl (by omega) hsz (w.alloc (.cells zcs.toArray 25)) hw1 ?_)
  intro A2 c2 w2 ho2 hw2 hs2
  go_wp2_with fail
  refine (sum_any _ _ _ _ _ ho2.sl (by omega)).mono ?_
  rintro e w3 ⟨rfl, he3⟩
  have hE3 : Ext (w.alloc (.cells zcs.toArray 25)) w3 := by have := Below.trans hw2 (he3.mono (B' := w.heap.size + 1) (by omega)); simpa [Ext] using this
  have hb0 : Blk w3 w.heap.size 25 zcs.toArray := (Blk.new w _ _).ext hE3
  go_wp2_with (refine wpList_store_mid rfl 25 _ _ rfl w.heap.size 0 (nmc (sumU ([t] ++ l))) rfl rfl (thereN hb0 _) (size61 _) (nmc_one _) ?_)
  refine bodyPost_ret (v := .agg (nmc (sumU ([t] ++ l)))) (retN rfl _ _ w.heap.size _ rfl (blkN hb0 _)) rfl ⟨rfl, Below.setCells' (((Ext.refl w).alloc' _).trans hE3) (Nat.le_refl _) _ _⟩
end Go.Proofs.Ytfklmcfanhnfpaa
