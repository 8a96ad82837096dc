import Derived.Test.YtfklmcfanhnfpaaTag2
namespace Go.Proofs.Ytfklmcfanhnfpaa
open Go.RowKit
set_option linter.unusedVariables false
set_option linter.unusedSimpArgs false
attribute [local go_sem ↓] Go.wp_at_zero Go.wp_at_succ


set_option maxRecDepth 100000 in
set_option maxHeartbeats 1000000 in
theorem start_any (x : UInt64) (k : Int) (w : World) :
    Calls Try.prog 139 #[.agg (nmc x), .int .i64 k] w fun e w' => e = .returned (.agg (nmc (tagU 32 (nmb x ++ [toB k])))) ∧ Ext w w' := by
  go_enter Try.func139, Try.ntmps139
  go_wp2_with (at_builtin; go_must (refine wpList_growB bytesE rfl (.tmp 5) (.tmp 8) rfl _ _ _ (nmb x) rfl ?o1 ?n1 _ _ _ [toB k] rfl ?r1 ?m1 ?g1 ?b1 ?_))
  case o1 => exact SlB.blkN (((Blk.new w _ (nmc x)).alloc _).alloc _)
  case n1 => omega
  case r1 => exact SlB.new1 _ _ _ (toB k) _ (by simp) (toB_eq k)
  case m1 => omega
  case g1 => omega
  case b1 => omega
  intro A2 c2 w2 ho2 he2
  have hsz2 := he2.size
  simp at hsz2
  have hw2 : Below (w.heap.size + 2) ((w.alloc (.cells (nmc x) 25)).alloc (.cells zcs.toArray 25)) w2 := Below.trans (Below.alloc (Below.refl _ _) (by simp) _) (he2.mono (by simp))
  go_wp2_with fail
  refine (tagged_any 32 _ _ _ _ _ ho2.sl (by omega)).mono ?_
  rintro e w3 ⟨rfl, he3⟩
  have hE3 : Below (w.heap.size + 2) ((w.alloc (.cells (nmc x) 25)).alloc (.cells zcs.toArray 25)) w3 := Below.trans hw2 (he3.mono (by omega))
  have hb0 : Blk w3 (w.heap.size + 1) 25 zcs.toArray := (Blk.newAt (w.alloc (.cells (nmc x) 25)) 25 zcs.toArray (w.heap.size + 1) (by simp)).below hE3 (by omega)
  go_wp2_with (refine wpList_store_mid rfl 25 _ _ rfl (w.heap.size + 1) 0 (nmc (tagU 32 (nmb x ++ [toB k]))) rfl rfl (thereN hb0 _) (size61 _) (nmc_one _) ?_)
  refine bodyPost_ret (v := .agg (nmc (tagU 32 (nmb x ++ [toB k])))) (retN rfl _ _ (w.heap.size + 1) _ rfl (blkN hb0 _)) rfl ⟨rfl, Below.setCells' ((((Ext.refl w).alloc' _).alloc' _).trans (by simpa [Ext] using hE3)) (by omega) _ _⟩
end Go.Proofs.Ytfklmcfanhnfpaa
