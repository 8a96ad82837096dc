/- seedOf (the program's): the seed of a key of a tree. -/
import Derived.Test.YtengpfpeeihaoaaSig1
import Derived.Test.YtengpfpeeihaoaaAu
namespace Go.Proofs.Ytengpfpeeihaoaa
open Go.RowKit
set_option linter.unusedVariables false
set_option linter.unusedSimpArgs false
def toU (z : Int) : UInt64 := UInt64.ofNat z.toNat
theorem toU_nat (z : Int) (h : 0 ≤ z) (h2 : z ≤ 9223372036854775807) : ((toU z).toNat : Int) = z := by
  unfold toU
  rw [UInt64.toNat_ofNat_of_lt' (by simp [UInt64.size]; omega)]
  omega
theorem un_toU (z : Int) (h : 0 ≤ z) (h2 : z ≤ 9223372036854775807) : un (toU z) = z := toU_nat z h h2
theorem be2 (z : Int) (h : 0 ≤ z) (h2 : z ≤ 100000) : beBytes 2 (toU z).toNat = [toB (z / 256), toB z] := by
  have e := toU_nat z h (by omega)
  simp only [beBytes, List.nil_append, List.cons_append, toB]
  congr 2
  · omega
  · congr 1; omega
theorem keyB_eq (seed : UInt64) (lv t j : Int) (h : 0 ≤ t) (h2 : t ≤ 100000) : ((nmb seed ++ [toB lv]) ++ beBytes 2 (toU t).toNat) ++ [toB j] = keyB seed lv t j := by
  rw [be2 t h h2]; simp [keyB]
set_option maxRecDepth 100000 in
set_option maxHeartbeats 1000000 in
theorem seedOf_any (seed : UInt64) (B : Nat) (lv t j : Int) (ht : 0 ≤ t) (ht2 : t ≤ 100000) (w : World) (hS : SlB w (some ⟨B, 0, none⟩) 8 8 (nmb seed)) :
    Calls Try.prog 92 #[.pointer (some ⟨B, 0, none⟩), .int .i64 lv, .int .i64 t, .int .i64 j] w fun e w' => e = .returned (.agg (nmc (keyU seed lv t j))) ∧ Ext w w' := by
  have HU := Lib.hid (show keyU seed lv t j = tagU 48 (nmb seed ++ toB lv :: (beBytes 2 (toU t).toNat ++ [toB j])) from by rw [be2 t ht ht2]; rfl)
  have HS := Lib.hid hS
  have hB : B < w.heap.size := by
    obtain ⟨b, o, e, _, hl⟩ := hS.at (by omega)
    injection e with e; injection e with e1 _; omega
  have hun : IntKind.u64.wrap t = un (toU t) := by rw [un_toU t ht (by omega), IntKind.wrap_u64]; omega
  clear hS
  go_enter Try.func92, Try.ntmps92
  go_wp2_with (at_builtin; go_must (refine wpList_growB bytesE rfl (.tmp 13) (.tmp 16) rfl (some ⟨B, 0, none⟩) 8 8 (nmb seed) rfl ?s1 (by omega) _ 1 1 [toB lv] rfl ?r1 (by omega) (by omega) (by omega) ?_))
  case s1 => exact (HS.out.ext ((Ext.refl _).alloc' _)).ext ((Ext.refl _).alloc' _)
  case r1 => exact SlB.new1 _ _ _ _ _ (by simp) (toB_eq lv)
  intro A1 c1 w1 ho1 he1
  go_wp2_with fail
  refine (appendUint_any A1 9 c1 (nmb seed ++ [toB lv]) (toU t) 2 (by omega) _ ho1.sl (by omega)).mono ?_
  rintro e w2 ⟨A2, c2, rfl, ho2, he2⟩
  have hE12 : Ext w w1 := (((Ext.refl w).alloc' _).alloc' _).trans he1
  have HB1 := Lib.hid (((Blk.new w 61 zcs.toArray).alloc _).ext he1)
  have HE12 := Lib.hid hE12
  have HEB := Lib.hid (he2.alloc' (.cells #[.int .u8 (j % 256)] 5))
  clear he1 he2 ho1 hE12
  go_wp2_with (at_builtin; go_must (refine wpList_appB bytesE rfl (.tmp 22) (.tmp 25) rfl _ A2 11 c2 _ rfl (ho2.alloc _) _ 1 1 [toB j] rfl ?r2 (by omega) ?b2 w1 ?w2 ?_))
  case r2 => exact SlB.new1 _ _ _ _ _ rfl (toB_eq j)
  case b2 => exact HEB.out.size
  case w2 => exact HEB.out
  intro A3 c3 w3 ho3 hw3 hs3
  go_wp2_with fail
  refine (tagged_any 48 _ _ _ _ _ ho3.sl (by omega)).mono ?_
  rintro e w4 ⟨rfl, he4⟩
  have hb4 := HB1.out.ext (Ext.trans hw3 he4)
  have hst := run_storeN hb4 (tagU 48 (nmb seed ++ toB lv :: (beBytes 2 (toU t).toNat ++ [toB j])))
  go_wp2_with fail
  refine bodyPost_ret (v := .agg (nmc (tagU 48 (nmb seed ++ toB lv :: (beBytes 2 (toU t).toNat ++ [toB j]))))) (retN rfl _ _ w.heap.size _ rfl (blkN hb4 _)) rfl ⟨by rw [HU.out], Below.setCells' (HE12.out.trans (Ext.trans hw3 he4)) (Nat.le_refl _) _ _⟩
end Go.Proofs.Ytengpfpeeihaoaa
