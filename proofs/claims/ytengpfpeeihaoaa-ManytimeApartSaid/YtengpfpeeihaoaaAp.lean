/- ManytimeApart: the walk of the law. -/
import Derived.Test.YtengpfpeeihaoaaAc
namespace Go.Proofs.Ytengpfpeeihaoaa
open Go.RowKit
set_option linter.unusedVariables false
set_option linter.unusedSimpArgs false
def sgA (seed m : UInt64) (j : Nat) : List UInt8 := (sigU seed 1 (j : Int) m).getD []
theorem sgA_right (seed m : UInt64) (j : Nat) (hj : j < 32) : Right seed m 1 2 j (sgA seed m j) := by
  obtain ⟨s, h1, h2, h3, h4, h5⟩ := sig_right seed m 1 j (by omega)
  unfold sgA
  rw [h1]
  exact ⟨h3, h4, h5⟩
theorem apSign (seed m : UInt64) (j : Nat) (hj : j < 32) (w : World) :
    Calls Try.prog 40 #[.agg (nmc seed), .int .i64 1, .int .i64 (j : Int), .agg (nmc m)] w fun e w' => ∃ A c, e = .returned (.tuple #[.slice A 186 c, .bool true]) ∧ SlB w' A 186 c (sgA seed m j) ∧ Ext w w' := by
  obtain ⟨s, h1, h2, h3, h4, h5⟩ := sig_right seed m 1 j (by omega)
  refine (sign5_any seed m 1 j w).mono fun e w' ⟨A, n, c, h, hs, he⟩ => ?_
  have hn : n = 186 := by
    have := hs.len
    rw [h1] at this
    simp only [Option.getD_some] at this
    rw [show sizeZ 1 = 186 from rfl] at h2; omega
  subst hn
  refine ⟨A, c, ?_, hs, he⟩
  rw [h, h1]; rfl
set_option maxRecDepth 100000 in
set_option maxHeartbeats 4000000 in
theorem mapart_any (seed m : UInt64) (a b : Int) (w : World) :
    Calls Try.prog 11 #[.agg (nmc seed), .int .i64 a, .int .i64 b, .agg (nmc m)] w fun e w' => e = .returned (.bool true) ∧ Ext w w' := by
  have hbs := (Blk.new w 61 (nmc seed)).alloc (.cells (nmc m) 61)
  have hbm : Blk ((w.alloc (.cells (nmc seed) 61)).alloc (.cells (nmc m) 61)) (w.heap.size + 1) 61 (nmc m) := Blk.newAt _ _ _ _ (by simp)
  have HE0 := Lib.hid (((Ext.refl w).alloc' (.cells (nmc seed) 61)).alloc' (.cells (nmc m) 61))
  have HBS := Lib.hid hbs
  have HBM := Lib.hid hbm
  have hrs := rangeN hbs
  have hrm := rangeN hbm
  clear hbs hbm
  obtain ⟨i, hi, hlt⟩ := rem_at a 32 (by omega) (by omega)
  have hi2 : IntKind.i64.wrap ((IntKind.u64.wrap a).tmod 32) = (i : Int) := by rw [← hi]; unfold wrap64; rw [IntKind.wrap_i64]
  obtain ⟨j, hj, hlt2⟩ := rem_at b 32 (by omega) (by omega)
  have hj2 : IntKind.i64.wrap ((IntKind.u64.wrap b).tmod 32) = (j : Int) := by rw [← hj]; unfold wrap64; rw [IntKind.wrap_i64]
  have HI := Lib.hid (show i < 32 by omega)
  have HJ := Lib.hid (show j < 32 by omega)
  go_enter Try.func11, Try.ntmps11
  go_wp2_with (first | (with_reducible refine wpList_loadN rfl (.tmp 4) rfl w.heap.size 0 rfl seed hrs ?_) | (with_reducible refine wpList_loadN rfl (.tmp 7) rfl (w.heap.size + 1) 0 rfl m hrm ?_))
  refine (apSign seed m i HI.out _).mono ?_
  rintro e w1 ⟨A1, c1, rfl, hs1, he1⟩
  have hrs1 := rangeN (HBS.out.ext he1)
  have hrm1 := rangeN (HBM.out.ext he1)
  clear hrs hrm
  go_wp2_with (first | (with_reducible refine wpList_loadN rfl (.tmp 4) rfl w.heap.size 0 rfl seed hrs1 ?_) | (with_reducible refine wpList_loadN rfl (.tmp 7) rfl (w.heap.size + 1) 0 rfl m hrm1 ?_))
  refine (apSign seed m j HJ.out _).mono ?_
  rintro e w2 ⟨A2, c2, rfl, hs2, he2⟩
  have hrs2 := rangeN (HBS.out.ext (he1.trans he2))
  clear hrs1 hrm1
  go_wp2_with (first | (with_reducible refine wpList_loadN rfl (.tmp 4) rfl w.heap.size 0 rfl seed hrs2 ?_))
  refine (public5_any seed 1 _).mono ?_
  rintro e w3 ⟨rfl, he3⟩
  have hsn := run_storeNewN w3 w3.heap.size rfl (pubV seed 1)
  have hA := (Ext.refl w3).alloc' (.cells (nmc (pubV seed 1)) 61)
  have hB3 := Blk.new w3 61 (nmc (pubV seed 1))
  have HE := Lib.hid (HE0.out.trans (((he1.trans he2).trans he3).trans hA))
  have hbm4 := HBM.out.ext (((he1.trans he2).trans he3).trans hA)
  have hs1' := ((hs1.ext he2).ext he3).ext hA
  have hs2' := (hs2.ext he3).ext hA
  have HR1 := Lib.hid (sgA_right seed m i HI.out)
  have HR2 := Lib.hid (sgA_right seed m j HJ.out)
  have HV1 := Lib.hid (fun (w' : World) (hx : Ext (w3.alloc (.cells (nmc (pubV seed 1)) 61)) w') => hs1'.ext hx)
  have HV2 := Lib.hid (fun (w' : World) (hx : Ext (w3.alloc (.cells (nmc (pubV seed 1)) 61)) w') => hs2'.ext hx)
  have HB3 := Lib.hid hB3
  have HB4 := Lib.hid hbm4
  have k1 := run_strV hs1'
  have k2 := run_strV hs2'
  have hrp := cells8 hB3
  have hrm := cells8 hbm4
  clear hB3 hbm4 hs1' hs2' hlt hlt2 hrs2 hi hi2 hj hj2 hs1 hs2 he1 he2 he3 hA
  by_cases hij : i = j
  · subst hij
    go_wp2_with fail
    refine (acYes (HV1.out _ (Ext.refl _)) HR1.out).mono ?_
    rintro e w5 ⟨rfl, he5⟩
    have hrp5 := cells8 (HB3.out.ext he5)
    have hrm5 := cells8 (HB4.out.ext he5)
    clear hrp hrm k1 k2
    go_wp2_with fail
    refine (acYes (HV2.out _ he5) HR2.out).mono ?_
    rintro e w6 ⟨rfl, he6⟩
    clear hrp5 hrm5
    go_wp2_with fail
    refine (awake5_any _).mono ?_
    rintro e w7 ⟨rfl, rfl⟩
    go_wp2_with fail
    go_ret
    exact ⟨rfl, HE.out.trans (he5.trans he6)⟩
  · have hne : ¬ sgA seed m i = sgA seed m j := fun e => hij (sig_apart _ _ i j HR1.out.num HR2.out.num e)
    have t3 : ¬ (strV (sgA seed m i)).toList = (strV (sgA seed m j)).toList := fun e => hne (strV_list e)
    have t4 : ((strV (sgA seed m i)).toList == (strV (sgA seed m j)).toList) = false := beq_eq_false_iff_ne.2 t3
    have t5 : decide ((i : Int) = (j : Int)) = false := by simp; omega
    have t6 : ¬ (i : Int) = (j : Int) := by omega
    have t7 : ((i : Int) == (j : Int)) = false := beq_eq_false_iff_ne.2 t6
    clear hij hne
    go_wp2_with fail
    refine (acYes (HV1.out _ (Ext.refl _)) HR1.out).mono ?_
    rintro e w5 ⟨rfl, he5⟩
    have hrp5 := cells8 (HB3.out.ext he5)
    have hrm5 := cells8 (HB4.out.ext he5)
    clear hrp hrm k1 k2
    go_wp2_with fail
    refine (acYes (HV2.out _ he5) HR2.out).mono ?_
    rintro e w6 ⟨rfl, he6⟩
    clear hrp5 hrm5
    go_wp2_with fail
    refine (awake5_any _).mono ?_
    rintro e w7 ⟨rfl, rfl⟩
    go_wp2_with fail
    go_ret
    exact ⟨rfl, HE.out.trans (he5.trans he6)⟩
end Go.Proofs.Ytengpfpeeihaoaa
