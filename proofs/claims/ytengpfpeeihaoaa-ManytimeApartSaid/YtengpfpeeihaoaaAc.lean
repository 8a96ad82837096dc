/- ManytimeAccepts: the walk of the law. -/
import Derived.Test.YtengpfpeeihaoaaAcc
import Derived.Test.YtengpfpeeihaoaaVl
namespace Go.Proofs.Ytengpfpeeihaoaa
open Go.RowKit
set_option linter.unusedVariables false
set_option linter.unusedSimpArgs false
/-- what a right signature is held to be -/
structure Right (seed m : UInt64) (k k' : Int) (j : Nat) (s : List UInt8) : Prop where
  num : numAt s 0 2 = j
  yes : verU (pubV seed k) k m s = true
  no : verU (pubV seed k) k' m s = false
theorem acSign (seed m : UInt64) (k k' : Int) (j N cap : Nat) (hk : (k = 1 ∧ k' = 2 ∧ N = 186 ∧ cap = 32) ∨ (k = 2 ∧ k' = 1 ∧ N = 370 ∧ cap = 1024)) (hj : j < cap) (w : World) :
    Calls Try.prog 40 #[.agg (nmc seed), .int .i64 k, .int .i64 (j : Int), .agg (nmc m)] w fun e w' => ∃ A c s, e = .returned (.tuple #[.slice A N c, .bool true]) ∧ SlB w' A N c s ∧ Right seed m k k' j s ∧ Ext w w' := by
  obtain ⟨s, h1, h2, h3, h4, h5⟩ := sig_right seed m k j (by omega)
  refine (sign5_any seed m k j w).mono fun e w' ⟨A, n, c, h, hs, he⟩ => ?_
  rw [h1] at h hs
  have hn : n = N := by
    have := hs.len
    simp only [Option.getD_some] at this
    rcases hk with ⟨rfl, rfl, rfl, rfl⟩ | ⟨rfl, rfl, rfl, rfl⟩
    · rw [show sizeZ 1 = 186 from rfl] at h2; omega
    · rw [show sizeZ 2 = 370 from rfl] at h2; omega
  subst hn
  have hk' : 3 - k = k' := by omega
  rw [hk'] at h5
  exact ⟨A, c, s, h, hs, ⟨h3, h4, h5⟩, he⟩
theorem acLeaf {seed m : UInt64} {k k' : Int} {j : Nat} {A : Option Addr} {n c : Nat} {s : List UInt8} {w : World} (h : SlB w A n c s) (h2 : 2 ≤ n) (hr : Right seed m k k' j s) :
    Calls Try.prog 12 #[.slice A n c] w fun e w' => e = .returned (.tuple #[.int .i64 (j : Int), .bool true]) ∧ w = w' := by
  have := leaf_yes A n c s w h h2
  rw [hr.num] at this
  exact this
theorem acYes {seed m : UInt64} {k k' : Int} {j : Nat} {A : Option Addr} {n c : Nat} {s : List UInt8} {w : World} (h : SlB w A n c s) (hr : Right seed m k k' j s) :
    Calls Try.prog 38 #[.agg (nmc (pubV seed k)), .int .i64 k, .agg (nmc m), .slice A n c] w fun e w' => e = .returned (.bool true) ∧ Ext w w' := by
  have := verify_any (pubV seed k) m k A n c s w h
  rw [hr.yes] at this
  exact this
theorem acNo {seed m : UInt64} {k k' : Int} {j : Nat} {A : Option Addr} {n c : Nat} {s : List UInt8} {w : World} (h : SlB w A n c s) (hr : Right seed m k k' j s) :
    Calls Try.prog 38 #[.agg (nmc (pubV seed k)), .int .i64 k', .agg (nmc m), .slice A n c] w fun e w' => e = .returned (.bool false) ∧ Ext w w' := by
  have := verify_any (pubV seed k) m k' A n c s w h
  rw [hr.no] at this
  exact this
theorem acNoW {seed m : UInt64} {k k' : Int} {j : Nat} {A : Option Addr} {n c : Nat} {s : List UInt8} {w : World} (h : SlB w A n c s) (hr : Right seed m k k' j s) (hw : IntKind.i64.wrap k' = k') :
    Calls Try.prog 38 #[.agg (nmc (pubV seed k)), .int .i64 (IntKind.i64.wrap k'), .agg (nmc m), .slice A n c] w fun e w' => e = .returned (.bool false) ∧ Ext w w' := by
  rw [hw]; exact acNo h hr
theorem acSize1 (w : World) : Calls Try.prog 15 #[.int .i64 1] w fun e w' => e = .returned (.int .i64 186) ∧ w = w' := size_any 1 w
theorem acSize2 (w : World) : Calls Try.prog 15 #[.int .i64 2] w fun e w' => e = .returned (.int .i64 370) ∧ w = w' := size_any 2 w
set_option maxRecDepth 100000 in
set_option maxHeartbeats 4000000 in
theorem maccepts_any (seed m : UInt64) (lv leaf : Int) (w : World) :
    Calls Try.prog 10 #[.agg (nmc seed), .int .i64 lv, .int .i64 leaf, .agg (nmc m)] w fun e w' => e = .returned (.bool true) ∧ Ext w w' := by
  have hbs := (Blk.new w 61 (nmc seed)).alloc (.cells (nmc m) 61)
  have hbm : Blk ((w.alloc (.cells (nmc seed) 61)).alloc (.cells (nmc m) 61)) (w.heap.size + 1) 61 (nmc m) := Blk.newAt _ _ _ _ (by simp)
  have HE0 := Lib.hid (((Ext.refl w).alloc' (.cells (nmc seed) 61)).alloc' (.cells (nmc m) 61))
  have HBS := Lib.hid hbs
  have HBM := Lib.hid hbm
  clear hbs hbm
  have HP := Lib.hid (par12 lv)
  go_enter Try.func10, Try.ntmps10
  go_wp2_with fail
  generalize (w.alloc (.cells (nmc seed) 61)).alloc (.cells (nmc m) 61) = W at *
  generalize wrap64 (1 + wrap64 ((IntKind.u64.wrap lv).tmod 2)) = k at *
  have HSS := Lib.hid (fun (w' : World) (hx : Ext W w') => (⟨cells8 (HBS.out.ext hx), cells8 (HBM.out.ext hx)⟩ : (∀ i, i < 8 → w'.cell? ⟨w.heap.size, i, none⟩ = some (.int .u8 (nb8 seed i))) ∧ (∀ i, i < 8 → w'.cell? ⟨w.heap.size + 1, i, none⟩ = some (.int .u8 (nb8 m i)))))
  obtain rfl | rfl := HP.out
  · clear HP
    have u1 : IntKind.u64.wrap 32 = 32 := by rw [IntKind.wrap_u64]; rfl
    obtain ⟨j, hj, hlt⟩ := rem_at leaf 32 (by omega) (by omega)
    have hj2 : IntKind.i64.wrap ((IntKind.u64.wrap leaf).tmod 32) = (j : Int) := by rw [← hj]; unfold wrap64; rw [IntKind.wrap_i64]
    have j0 : (0 : Int) ≤ (j : Int) := by omega
    have HJ := Lib.hid (show j < 32 by omega)
    have HW := Lib.hid (show IntKind.i64.wrap 2 = 2 by rw [IntKind.wrap_i64]; rfl)
    have hrs := rangeN HBS.out
    have hrm := rangeN HBM.out
    refine (refCap1 _).mono ?_
    rintro e w1 ⟨rfl, rfl⟩
    go_wp2_with (first | (with_reducible refine wpList_loadN rfl (.tmp 4) rfl w.heap.size 0 rfl seed hrs ?_) | (with_reducible refine wpList_loadN rfl (.tmp 7) rfl (w.heap.size + 1) 0 rfl m hrm ?_))
    refine (acSign seed m 1 2 j 186 32 (by omega) HJ.out _).mono ?_
    rintro e w2 ⟨A2, c2, s2, rfl, hs2, hr2, he2⟩
    have HR2 := Lib.hid hr2
    have HS2 := Lib.hid hs2
    clear hrs hrm u1 hj hj2 hs2 hr2
    go_wp2_with fail
    refine (acLeaf HS2.out (by omega) HR2.out).mono ?_
    rintro e w3 ⟨rfl, rfl⟩
    have HS3 := Lib.hid (fun (w' : World) (hx : Ext w2 w') => HS2.out.ext hx)
    have HC3 := Lib.hid (fun (w' : World) (hx : Ext w2 w') => HSS.out _ (he2.trans hx))
    have hX := (Ext.refl w2).drew'
    go_wp2_with fail
    go_region_held3 (fun w' => (∀ i, i < 8 → w'.cell? ⟨w.heap.size, i, none⟩ = some (.int .u8 (nb8 seed i))) ∧ (∀ i, i < 8 → w'.cell? ⟨w.heap.size + 1, i, none⟩ = some (.int .u8 (nb8 m i)))) (first | (with_reducible exact HC3.out _ hX) | fail "CELLS") (first | (go_at_call 15; (with_reducible refine (acSize1 _).mono ?_); rintro e wv ⟨rfl, rfl⟩) | (go_at_call 41; (with_reducible refine (public5_any seed 1 _).mono ?_); rintro e wv ⟨rfl, hev⟩; have hX := hX.trans hev) | (go_at_call 38; (first | (with_reducible refine (acYes (HS3.out _ hX) HR2.out).mono ?_) | (with_reducible refine (acNo (HS3.out _ hX) HR2.out).mono ?_) | (with_reducible refine (acNoW (HS3.out _ hX) HR2.out HW.out).mono ?_) | fail "V"); rintro e wv ⟨rfl, hev⟩; have hX := hX.trans hev) | (go_at_call 17; (with_reducible refine (awake5_any _).mono ?_); rintro e wv ⟨rfl, rfl⟩) | fail "ARM")
    all_goals (
      go_wp2_with fail
      go_ret
      exact ⟨rfl, HE0.out.trans (he2.trans hX)⟩)
  · clear HP
    have u1 : IntKind.u64.wrap 1024 = 1024 := by rw [IntKind.wrap_u64]; rfl
    obtain ⟨j, hj, hlt⟩ := rem_at leaf 1024 (by omega) (by omega)
    have hj2 : IntKind.i64.wrap ((IntKind.u64.wrap leaf).tmod 1024) = (j : Int) := by rw [← hj]; unfold wrap64; rw [IntKind.wrap_i64]
    have j0 : (0 : Int) ≤ (j : Int) := by omega
    have HJ := Lib.hid (show j < 1024 by omega)
    have HW := Lib.hid (show IntKind.i64.wrap 1 = 1 by rw [IntKind.wrap_i64]; rfl)
    have hrs := rangeN HBS.out
    have hrm := rangeN HBM.out
    refine (refCap2 _).mono ?_
    rintro e w1 ⟨rfl, rfl⟩
    go_wp2_with (first | (with_reducible refine wpList_loadN rfl (.tmp 4) rfl w.heap.size 0 rfl seed hrs ?_) | (with_reducible refine wpList_loadN rfl (.tmp 7) rfl (w.heap.size + 1) 0 rfl m hrm ?_))
    refine (acSign seed m 2 1 j 370 1024 (by omega) HJ.out _).mono ?_
    rintro e w2 ⟨A2, c2, s2, rfl, hs2, hr2, he2⟩
    have HR2 := Lib.hid hr2
    have HS2 := Lib.hid hs2
    clear hrs hrm u1 hj hj2 hs2 hr2
    go_wp2_with fail
    refine (acLeaf HS2.out (by omega) HR2.out).mono ?_
    rintro e w3 ⟨rfl, rfl⟩
    have HS3 := Lib.hid (fun (w' : World) (hx : Ext w2 w') => HS2.out.ext hx)
    have HC3 := Lib.hid (fun (w' : World) (hx : Ext w2 w') => HSS.out _ (he2.trans hx))
    have hX := (Ext.refl w2).drew'
    go_wp2_with fail
    go_region_held3 (fun w' => (∀ i, i < 8 → w'.cell? ⟨w.heap.size, i, none⟩ = some (.int .u8 (nb8 seed i))) ∧ (∀ i, i < 8 → w'.cell? ⟨w.heap.size + 1, i, none⟩ = some (.int .u8 (nb8 m i)))) (first | (with_reducible exact HC3.out _ hX) | fail "CELLS") (first | (go_at_call 15; (with_reducible refine (acSize2 _).mono ?_); rintro e wv ⟨rfl, rfl⟩) | (go_at_call 41; (with_reducible refine (public5_any seed 2 _).mono ?_); rintro e wv ⟨rfl, hev⟩; have hX := hX.trans hev) | (go_at_call 38; (first | (with_reducible refine (acYes (HS3.out _ hX) HR2.out).mono ?_) | (with_reducible refine (acNo (HS3.out _ hX) HR2.out).mono ?_) | (with_reducible refine (acNoW (HS3.out _ hX) HR2.out HW.out).mono ?_) | fail "V"); rintro e wv ⟨rfl, hev⟩; have hX := hX.trans hev) | (go_at_call 17; (with_reducible refine (awake5_any _).mono ?_); rintro e wv ⟨rfl, rfl⟩) | fail "ARM")
    all_goals (
      go_wp2_with fail
      go_ret
      exact ⟨rfl, HE0.out.trans (he2.trans hX)⟩)
end Go.Proofs.Ytengpfpeeihaoaa
