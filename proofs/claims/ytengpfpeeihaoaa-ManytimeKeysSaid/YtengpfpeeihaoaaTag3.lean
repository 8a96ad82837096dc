import Derived.Test.YtengpfpeeihaoaaTag2
namespace Go.Proofs.Ytengpfpeeihaoaa
open Go.RowKit
set_option linter.unusedVariables false
set_option linter.unusedSimpArgs false
attribute [local go_sem ↓] Go.wp_at_zero Go.wp_at_succ

set_option maxRecDepth 100000 in
set_option maxHeartbeats 1000000 in
theorem refPair_any (t : UInt8) (x y : UInt64) (w : World) :
    Calls Try.prog 78 #[.int .u8 (t.toNat : Int), .agg (nmc x), .agg (nmc y)] w fun e w' => e = .returned (.agg (nmc (pairU t x y))) ∧ Ext w w' := by
  go_enter Try.func78, Try.ntmps78
  go_wp2_with fail
  have own1 : OwnB (((((w.alloc (.cells (nmc x) 61)).alloc (.cells (nmc y) 61)).alloc (.cells zcs.toArray 61)).alloc (.cells #[] 5)).drew) (w.heap.size + 3) 5 (some ⟨w.heap.size + 3, 0, none⟩) 0 0 [] := (OwnB.made _ _ _ 0 _ (by simp) (Nat.le_refl _) (by omega) (by simp)).drew
  have r1 : SlB (((((w.alloc (.cells (nmc x) 61)).alloc (.cells (nmc y) 61)).alloc (.cells zcs.toArray 61)).alloc (.cells #[] 5)).drew) (some ⟨w.heap.size, 0, none⟩) 8 8 (nmb x) := SlB.blkN ((((Blk.new w _ (nmc x)).alloc _).alloc _).alloc _).drew
  have b1 : Below (w.heap.size + 3) (((w.alloc (.cells (nmc x) 61)).alloc (.cells (nmc y) 61)).alloc (.cells zcs.toArray 61)) (((((w.alloc (.cells (nmc x) 61)).alloc (.cells (nmc y) 61)).alloc (.cells zcs.toArray 61)).alloc (.cells #[] 5)).drew) := (Below.alloc (Below.refl _ _) (by simp) _).drew
  have hy : Blk (((w.alloc (.cells (nmc x) 61)).alloc (.cells (nmc y) 61)).alloc (.cells zcs.toArray 61)) (w.heap.size + 1) 61 (nmc y) := (Blk.newAt (w.alloc (.cells (nmc x) 61)) 61 (nmc y) (w.heap.size + 1) (by simp)).alloc _
  have hz : Blk (((w.alloc (.cells (nmc x) 61)).alloc (.cells (nmc y) 61)).alloc (.cells zcs.toArray 61)) (w.heap.size + 2) 61 zcs.toArray := Blk.newAt ((w.alloc (.cells (nmc x) 61)).alloc (.cells (nmc y) 61)) 61 zcs.toArray (w.heap.size + 2) (by simp)
  go_region_held3 (fun _ => True) (trivial) (first | (refine step_appB bytesE rfl (.tmp 8) (.tmp 9) rfl (w.heap.size + 3) _ _ _ [] (by rfl) own1 _ _ _ (nmb x) (by rfl) r1 (by omega) (by simp) (((w.alloc (.cells (nmc x) 61)).alloc (.cells (nmc y) 61)).alloc (.cells zcs.toArray 61)) b1 ?_; intro A1 c1 w1 ho1 hw1 hs1) | (refine step_appB bytesE rfl (.tmp 10) (.tmp 11) rfl (w.heap.size + 3) _ _ _ (nmb x) (by rfl) ho1 _ _ _ (nmb y) (by rfl) (SlB.blkN (hy.below hw1 (by omega))) (by omega) (by have := hs1; simp at this; omega) (((w.alloc (.cells (nmc x) 61)).alloc (.cells (nmc y) 61)).alloc (.cells zcs.toArray 61)) hw1 ?_; intro A2 c2 w2 ho2 hw2 hs2) | (go_at_call 77; refine (refTagged_any t _ _ _ _ _ ho2.sl (by omega)).mono ?_; rintro e w3 ⟨rfl, he3⟩; have hw3 := Below.trans hw2 (he3.mono (by have := hs1; simp at this; omega)); have hz3 := hz.below hw3 (by omega); have hst := run_storeN hz3 (tagU t (nmb x ++ nmb y))))
  go_wp2_with fail
  refine bodyPost_ret (v := .agg (nmc (tagU t (nmb x ++ nmb y)))) (retN rfl _ _ (w.heap.size + 2) _ rfl (blkN hz3 _)) rfl ⟨rfl, Below.setCells' (((((Ext.refl w).alloc' _).alloc' _).alloc' _).trans (by simpa [Ext] using hw3)) (by omega) _ _⟩

set_option maxRecDepth 100000 in
set_option maxHeartbeats 1000000 in
theorem refStart_any (x : UInt64) (k : Int) (w : World) :
    Calls Try.prog 76 #[.agg (nmc x), .int .i64 k] w fun e w' => e = .returned (.agg (nmc (tagU 32 (nmb x ++ [toB k])))) ∧ Ext w w' := by
  go_enter Try.func76, Try.ntmps76
  go_wp2_with (at_builtin; go_must (refine wpList_appB bytesE rfl (.tmp 5) (.tmp 6) rfl (w.heap.size + 2) _ _ _ [] rfl ?o1 _ _ _ (nmb x) rfl ?r1 ?n1 ?b1 ((w.alloc (.cells (nmc x) 61)).alloc (.cells zcs.toArray 61)) ?w1 ?_))
  case o1 => exact OwnB.made _ _ _ 0 _ (by simp) (Nat.le_refl _) (by omega) (by simp)
  case r1 => exact SlB.blkN (((Blk.new w _ (nmc x)).alloc _).alloc _)
  case n1 => omega
  case b1 => simp
  case w1 => exact Below.alloc (Below.refl _ _) (by simp) _
  intro A1 c1 w1 ho1 hw1 hs1
  have hsz : w.heap.size + 2 ≤ w1.heap.size := by omega
  go_wp2_with (at_builtin; go_must (refine wpList_appB bytesE rfl (.tmp 7) (.tmp 10) rfl (w.heap.size + 2) _ _ _ (nmb x) rfl (ho1.alloc _) _ _ _ [toB k] rfl ?r1 (by omega) ?b1 ((w.alloc (.cells (nmc x) 61)).alloc (.cells zcs.toArray 61)) ?w1 ?_))
  case r1 => exact SlB.new1 _ _ _ (toB k) _ rfl (toB_eq k)
  case b1 => simp; omega
  case w1 => exact Below.alloc hw1 hsz _
  intro A2 c2 w2 ho2 hw2 hs2
  have hsz2 : w.heap.size + 2 ≤ w2.heap.size := by omega
  go_wp2_with fail
  refine (refTagged_any 32 _ _ _ _ _ ho2.sl (by omega)).mono ?_
  rintro e w3 ⟨rfl, he3⟩
  have hE3 : Below (w.heap.size + 2) ((w.alloc (.cells (nmc x) 61)).alloc (.cells zcs.toArray 61)) w3 := Below.trans hw2 (he3.mono (by omega))
  have hb0 : Blk w3 (w.heap.size + 1) 61 zcs.toArray := (Blk.newAt (w.alloc (.cells (nmc x) 61)) 61 zcs.toArray (w.heap.size + 1) (by simp)).below hE3 (by omega)
  go_wp2_with (refine wpList_store_mid rfl 61 _ _ rfl (w.heap.size + 1) 0 (nmc (tagU 32 (nmb x ++ [toB k]))) rfl rfl (thereN hb0 _) (size61 _) (nmc_one _) ?_)
  refine bodyPost_ret (v := .agg (nmc (tagU 32 (nmb x ++ [toB k])))) (retN rfl _ _ (w.heap.size + 1) _ rfl (blkN hb0 _)) rfl ⟨rfl, Below.setCells' ((((Ext.refl w).alloc' _).alloc' _).trans (by simpa [Ext] using hE3)) (by omega) _ _⟩
set_option maxRecDepth 100000 in
set_option maxHeartbeats 1000000 in
theorem start_any (x : UInt64) (k : Int) (w : World) :
    Calls Try.prog 104 #[.agg (nmc x), .int .i64 k] w fun e w' => e = .returned (.agg (nmc (tagU 32 (nmb x ++ [toB k])))) ∧ Ext w w' := by
  go_enter Try.func104, Try.ntmps104
  go_wp2_with (at_builtin; go_must (refine wpList_growB bytesE rfl (.tmp 5) (.tmp 8) rfl _ _ _ (nmb x) rfl ?o1 ?n1 _ _ _ [toB k] rfl ?r1 ?m1 ?g1 ?b1 ?_))
  case o1 => exact SlB.blkN (((Blk.new w _ (nmc x)).alloc _).alloc _)
  case n1 => omega
  case r1 => exact SlB.new1 _ _ _ (toB k) _ (by simp) (toB_eq k)
  case m1 => omega
  case g1 => omega
  case b1 => omega
  intro A2 c2 w2 ho2 he2
  have hsz2 := he2.size
  simp at hsz2
  have hw2 : Below (w.heap.size + 2) ((w.alloc (.cells (nmc x) 61)).alloc (.cells zcs.toArray 61)) w2 := Below.trans (Below.alloc (Below.refl _ _) (by simp) _) (he2.mono (by simp))
  go_wp2_with fail
  refine (tagged_any 32 _ _ _ _ _ ho2.sl (by omega)).mono ?_
  rintro e w3 ⟨rfl, he3⟩
  have hE3 : Below (w.heap.size + 2) ((w.alloc (.cells (nmc x) 61)).alloc (.cells zcs.toArray 61)) w3 := Below.trans hw2 (he3.mono (by omega))
  have hb0 : Blk w3 (w.heap.size + 1) 61 zcs.toArray := (Blk.newAt (w.alloc (.cells (nmc x) 61)) 61 zcs.toArray (w.heap.size + 1) (by simp)).below hE3 (by omega)
  go_wp2_with (refine wpList_store_mid rfl 61 _ _ rfl (w.heap.size + 1) 0 (nmc (tagU 32 (nmb x ++ [toB k]))) rfl rfl (thereN hb0 _) (size61 _) (nmc_one _) ?_)
  refine bodyPost_ret (v := .agg (nmc (tagU 32 (nmb x ++ [toB k])))) (retN rfl _ _ (w.heap.size + 1) _ rfl (blkN hb0 _)) rfl ⟨rfl, Below.setCells' ((((Ext.refl w).alloc' _).alloc' _).trans (by simpa [Ext] using hE3)) (by omega) _ _⟩
end Go.Proofs.Ytengpfpeeihaoaa
