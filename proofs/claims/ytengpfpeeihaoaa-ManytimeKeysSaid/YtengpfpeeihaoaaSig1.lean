/- key, leaves, Public, names (the reference's). -/
import Derived.Test.YtengpfpeeihaoaaVer8
namespace Go.Proofs.Ytengpfpeeihaoaa
open Go.RowKit
set_option linter.unusedVariables false
set_option linter.unusedSimpArgs false

/-- the seed of key j of a tree -/
def keyB (seed : UInt64) (lv t j : Int) : List UInt8 := nmb seed ++ [toB lv, toB (t / 256), toB t, toB j]
def keyU (seed : UInt64) (lv t j : Int) : UInt64 := tagU 48 (keyB seed lv t j)
def leavesF (seed : UInt64) (lv t : Int) (j : Nat) : UInt64 := onePub (keyU seed lv t j)
def leavesU (seed : UInt64) (lv t : Int) : List UInt64 := (List.range 32).map (leavesF seed lv t)
theorem leavesU_length (seed : UInt64) (lv t : Int) : (leavesU seed lv t).length = 32 := by simp [leavesU]
theorem SlB.new4 (w : World) (t : TypeId) (z0 z1 z2 z3 : Int) (c0 c1 c2 c3 : UInt8) (g : Nat) (hg : w.heap.size = g) (h0 : z0 = (c0.toNat : Int)) (h1 : z1 = (c1.toNat : Int)) (h2 : z2 = (c2.toNat : Int)) (h3 : z3 = (c3.toNat : Int)) :
    SlB (w.alloc (.cells #[.int .u8 z0, .int .u8 z1, .int .u8 z2, .int .u8 z3] t)) (some ⟨g, 0, none⟩) 4 4 [c0, c1, c2, c3] :=
  SlB.new hg [c0, c1, c2, c3] (by rw [h0, h1, h2, h3]; rfl) (by simp)
set_option maxRecDepth 100000 in
set_option maxHeartbeats 1000000 in
theorem refKey_any (x : UInt64) (lv t j : Int) (ht : 0 ≤ t) (ht2 : t ≤ 100000) (w : World) :
    Calls Try.prog 58 #[.agg (nmc x), .int .i64 lv, .int .i64 t, .int .i64 j] w fun e w' => e = .returned (.agg (nmc (keyU x lv t j))) ∧ Ext w w' := by
  have HU := Lib.hid (show keyU x lv t j = tagU 48 (nmb x ++ [toB lv, toB (t / 256), toB t, toB j]) from rfl)
  go_enter Try.func58, Try.ntmps58
  go_wp2_with (at_builtin; go_must (refine wpList_appB bytesE rfl (.tmp 9) (.tmp 10) rfl (w.heap.size + 2) _ _ _ [] rfl ?o1 _ _ _ (nmb x) rfl ?r1 ?n1 ?b1 ((w.alloc (.cells (nmc x) 61)).alloc (.cells zcs.toArray 61)) ?w1 ?_))
  case o1 => exact OwnB.made _ _ _ 0 _ (by simp) (Nat.le_refl _) (by omega) (by simp)
  case r1 => exact SlB.blkN (((Blk.new w _ (nmc x)).alloc _).alloc _)
  case n1 => omega
  case b1 => simp
  case w1 => exact Below.alloc (Below.refl _ _) (by simp) _
  intro A1 c1 w1 ho1 hw1 hs1
  have hsz : w.heap.size + 2 ≤ w1.heap.size := by omega
  go_wp2_with (at_builtin; go_must (refine wpList_appB bytesE rfl (.tmp 11) (.tmp 21) rfl (w.heap.size + 2) _ _ _ (nmb x) rfl (ho1.alloc _) _ _ _ [toB lv, toB (t / 256), toB t, toB j] rfl ?r1 (by omega) ?b1 ((w.alloc (.cells (nmc x) 61)).alloc (.cells zcs.toArray 61)) ?w1 ?_))
  case r1 => exact SlB.new4 _ _ _ _ _ _ (toB lv) (toB (t / 256)) (toB t) (toB j) _ rfl (toB_eq lv) (toB_eq _) (toB_eq t) (toB_eq j)
  case b1 => simp; omega
  case w1 => exact Below.alloc hw1 hsz _
  intro A2 c2 w2 ho2 hw2 hs2
  have hsz2 : w.heap.size + 2 ≤ w2.heap.size := by omega
  go_wp2_with fail
  refine (refTagged_any 48 _ _ _ _ _ ho2.sl (by omega)).mono ?_
  rintro e w3 ⟨rfl, he3⟩
  have hE3 : Below (w.heap.size + 2) ((w.alloc (.cells (nmc x) 61)).alloc (.cells zcs.toArray 61)) w3 := Below.trans hw2 (he3.mono (by omega))
  have hb0 : Blk w3 (w.heap.size + 1) 61 zcs.toArray := (Blk.newAt (w.alloc (.cells (nmc x) 61)) 61 zcs.toArray (w.heap.size + 1) (by simp)).below hE3 (by omega)
  have hst := run_storeN hb0 (tagU 48 (nmb x ++ [toB lv, toB (t / 256), toB t, toB j]))
  go_wp2_with fail
  refine bodyPost_ret (v := .agg (nmc (tagU 48 (nmb x ++ [toB lv, toB (t / 256), toB t, toB j])))) (retN rfl _ _ (w.heap.size + 1) _ rfl (blkN hb0 _)) rfl ⟨by rw [HU.out], Below.setCells' ((((Ext.refl w).alloc' _).alloc' _).trans (by simpa [Ext] using hE3)) (by omega) _ _⟩
set_option maxRecDepth 100000 in
set_option maxHeartbeats 1000000 in
theorem refLeaves_any (seed : UInt64) (lv t : Int) (ht : 0 ≤ t) (ht2 : t ≤ 100000) (w : World) :
    Calls Try.prog 55 #[.agg (nmc seed), .int .i64 lv, .int .i64 t] w fun e w' => ∃ A c, e = .returned (.slice A 32 c) ∧ SlN w' A 32 c (leavesU seed lv t) ∧ Ext w w' := by
  go_enter Try.func55, Try.ntmps55
  go_wp2_with fail
  have HB0 := Lib.hid (Blk.new w 61 (nmc seed))
  have HA0 := Lib.hid ((Ext.refl w).alloc' (.cells (nmc seed) 61))
  generalize w.alloc (.cells (nmc seed) 61) = W0 at *
  go_loopw [7, 8] (fun v i wr => ∃ (k : Nat) (A1 : Option Addr) (c1 : Nat), k ≤ 32 ∧ i = .int .i64 (k : Int) ∧ v = .slice A1 k c1 ∧ wr.ownsRow W0.heap.size 61 8 (.slice A1 k c1) k (ncs ((List.range k).map (leavesF seed lv t))) ∧ Ext W0 wr) (fun _ i _ => 32 - (intOf i).toNat)
  case atStart => exact ⟨0, _, _, by omega, rfl, rfl, World.ownsRow_nil _ _ _ _, Ext.refl _⟩
  case round =>
    obtain ⟨k, A1, c1, hk, rfl, rfl, hO, hE⟩ := hrel
    have HO := Lib.hid hO
    have HE := Lib.hid hE
    have hrs := rangeN (HB0.out.ext hE)
    clear hO hE
    by_cases hlt : k < 32
    · have HR := Lib.hid (show (List.range (k + 1)).map (leavesF seed lv t) = (List.range k).map (leavesF seed lv t) ++ [leavesF seed lv t k] by rw [List.range_succ, List.map_append]; rfl)
      have j1 : (k : Int) < 32 := by omega
      go_wp2_with (with_reducible refine wpList_loadN rfl (.tmp 3) rfl w.heap.size 0 rfl seed hrs ?_)
      refine (refKey_any seed lv t k ht ht2 _).mono ?_
      rintro e w1 ⟨rfl, he1⟩
      go_wp2_with fail
      refine (refOnePublic_any _ _).mono ?_
      rintro e w2 ⟨rfl, he2⟩
      have HE2 := Lib.hid (HE.out.trans (he1.trans he2))
      have HO2 := Lib.hid (own_ext HO.out (he1.trans he2))
      clear he1 he2 hrs
      go_wp2_with (at_builtin; go_must (refine wpList_app namesE rfl (.tmp 13) (.tmp 20) rfl W0.heap.size A1 k c1 (ncs ((List.range k).map (leavesF seed lv t))) rfl (own_ext HO2.out ((Ext.refl _).alloc' _)) (some ⟨w2.heap.size, 0, none⟩) 1 1 (ncs [leavesF seed lv t k]) rfl (Rd.newN _ _ _ _ rfl) (by rw [ncs_length]; rfl) (ncs_one _) (by omega) (by omega) ?z1 W0 ?z2 ?_))
      case z1 => exact (HE2.out.alloc' _).size
      case z2 => exact HE2.out.alloc' _
      intro A4 c4 w4 hO4 hE4 hs4
      go_wp2_with fail
      go_roundw
      case rel => exact ⟨k + 1, A4, c4, by omega, by go_num, rfl, by rw [HR.out, ncs_append]; exact hO4, hE4⟩
      case measure => simp [intOf]; omega
    · obtain rfl : k = 32 := by omega
      go_wp2_with fail
      go_ret
      exact ⟨A1, c1, rfl, SlN.of_own HO.out, HA0.out.trans HE.out⟩
/-- the public name of a key -/
def pubU (seed : UInt64) (lv : Int) : UInt64 := rootU (leavesU seed lv 0)
set_option maxRecDepth 100000 in
set_option maxHeartbeats 1000000 in
theorem refPublic_yes (seed : UInt64) (lv : Int) (h1 : 1 ≤ lv) (h2 : lv ≤ 2) (w : World) :
    Calls Try.prog 37 #[.agg (nmc seed), .int .i64 lv] w fun e w' => e = .returned (.agg (nmc (pubU seed lv))) ∧ Ext w w' := by
  have hB : Blk ((w.alloc (.cells (nmc seed) 61)).alloc (.cells zcs.toArray 61)) (w.heap.size + 1) 61 zcs.toArray := Blk.newAt _ _ _ _ (by simp)
  have HB := Lib.hid hB
  have hrs := rangeN ((Blk.new w 61 (nmc seed)).alloc (.cells zcs.toArray 61))
  have HE := Lib.hid (((Ext.refl w).alloc' (.cells (nmc seed) 61)).alloc' (.cells zcs.toArray 61))
  clear hB
  go_enter Try.func37, Try.ntmps37
  go_wp2_with (with_reducible refine wpList_loadN rfl (.tmp 2) rfl w.heap.size 0 rfl seed hrs ?_)
  refine (refLeaves_any seed lv 0 (by omega) (by omega) _).mono ?_
  rintro e w1 ⟨A1, c1, rfl, hs1, he1⟩
  go_wp2_with fail
  refine (refRoot_any 32 32 A1 c1 _ _ (by omega) (by omega) hs1).mono ?_
  rintro e w2 ⟨rfl, he2⟩
  have hb2 := HB.out.ext (he1.trans he2)
  have hst := run_storeN hb2 (rootU (leavesU seed lv 0))
  go_wp2_with fail
  refine bodyPost_ret (v := .agg (nmc (rootU (leavesU seed lv 0)))) (retN rfl _ _ (w.heap.size + 1) _ rfl (blkN hb2 _)) rfl ⟨rfl, Below.setCells' (HE.out.trans (he1.trans he2)) (by omega) _ _⟩
end Go.Proofs.Ytengpfpeeihaoaa
