/- ManytimeVerifies: the walk of the law. -/
import Derived.Test.YtengpfpeeihaoaaSig6
import Derived.Test.YtengpfpeeihaoaaMSizes
namespace Go.Proofs.Ytengpfpeeihaoaa
open Go.RowKit
set_option linter.unusedVariables false
set_option linter.unusedSimpArgs false
theorem par12 (lv : Int) : wrap64 (1 + wrap64 ((IntKind.u64.wrap lv).tmod 2)) = 1 ∨ wrap64 (1 + wrap64 ((IntKind.u64.wrap lv).tmod 2)) = 2 := by
  rw [IntKind.wrap_u64, Int.tmod_eq_emod_of_nonneg (by omega)]
  have h : lv % 18446744073709551616 % 2 = 0 ∨ lv % 18446744073709551616 % 2 = 1 := by omega
  rcases h with h | h <;> rw [h] <;> simp [wrap64, IntKind.wrap_i64]
theorem refCap1 (w : World) : Calls Try.prog 14 #[.int .i64 1] w fun e w' => e = .returned (.int .i64 32) ∧ w = w' := refCapacity_any 1 w
theorem refCap2 (w : World) : Calls Try.prog 14 #[.int .i64 2] w fun e w' => e = .returned (.int .i64 1024) ∧ w = w' := refCapacity_any 2 w
theorem flat8 (ns : List UInt64) : (ns.flatMap nmb).length = ns.length * 8 := by
  induction ns with
  | nil => rfl
  | cons a r ih => rw [List.flatMap_cons, List.length_append, ih, nmb_length, List.length_cons]; omega
theorem oneSig_length (seed m : UInt64) : (oneSig seed m).length = 18 := by simp [oneSig]
theorem sig1_length (seed : UInt64) (leaf : Nat) (m : UInt64) (h : leaf < 32) : (sig1 seed leaf m).length = 186 := by
  have h1 := dep32 leaf h
  simp only [sig1, List.length_append, flat8, oneSig_length, pathU_length, leavesU_length, h1, List.length_cons, List.length_nil]
theorem sig2_length (seed : UInt64) (leaf : Nat) (m : UInt64) (h : leaf < 1024) : (sig2 seed leaf m).length = 370 := by
  have h1 := dep32 (leaf / 32) (by omega)
  have h2 := dep32 (leaf % 32) (by omega)
  simp only [sig2, List.length_append, flat8, oneSig_length, pathU_length, leavesU_length, h1, h2, List.length_cons, List.length_nil]
theorem rem_in (z : Int) (k : Int) (hk : 0 < k) (hk2 : k ≤ 100000) : 0 ≤ IntKind.i64.wrap ((IntKind.u64.wrap z).tmod k) ∧ IntKind.i64.wrap ((IntKind.u64.wrap z).tmod k) < k := by
  rw [IntKind.wrap_u64, Int.tmod_eq_emod_of_nonneg (by omega)]
  have h1 := Int.emod_nonneg (z % 18446744073709551616) (show k ≠ 0 by omega)
  have h2 := Int.emod_lt_of_pos (z % 18446744073709551616) hk
  rw [IntKind.wrap_i64]
  omega
theorem rem_at (z : Int) (k : Int) (hk : 0 < k) (hk2 : k ≤ 100000) : ∃ j : Nat, wrap64 ((IntKind.u64.wrap z).tmod k) = (j : Int) ∧ (j : Int) < k := by
  have h := rem_in z k hk hk2
  have e : wrap64 ((IntKind.u64.wrap z).tmod k) = IntKind.i64.wrap ((IntKind.u64.wrap z).tmod k) := by unfold wrap64; rw [IntKind.wrap_i64]
  exact ⟨(wrap64 ((IntKind.u64.wrap z).tmod k)).toNat, by rw [e]; omega, by rw [e]; omega⟩
theorem sgnK (seed m : UInt64) (k leaf : Int) (N cap : Nat) (hk : (k = 1 ∧ N = 186 ∧ cap = 32) ∨ (k = 2 ∧ N = 370 ∧ cap = 1024)) (w : World) :
    Calls Try.prog 36 #[.agg (nmc seed), .int .i64 k, .int .i64 (IntKind.i64.wrap ((IntKind.u64.wrap leaf).tmod cap)), .agg (nmc m)] w fun e w' => ∃ A c l, e = .returned (.tuple #[.slice A N c, .bool true]) ∧ SlB w' A N c l ∧ Ext w w' := by
  rcases hk with ⟨rfl, rfl, rfl⟩ | ⟨rfl, rfl, rfl⟩
  · obtain ⟨h1, h2⟩ := rem_in leaf 32 (by omega) (by omega)
    show Calls Try.prog 36 #[.agg (nmc seed), .int .i64 1, .int .i64 (IntKind.i64.wrap ((IntKind.u64.wrap leaf).tmod 32)), .agg (nmc m)] w _
    generalize IntKind.i64.wrap ((IntKind.u64.wrap leaf).tmod 32) = z at *
    obtain ⟨j, rfl⟩ := Int.eq_ofNat_of_zero_le h1
    exact (refSign1_yes seed m j (by omega) w).mono fun e w' ⟨A, c, h, hs, he⟩ => ⟨A, c, _, h, hs, he⟩
  · obtain ⟨h1, h2⟩ := rem_in leaf 1024 (by omega) (by omega)
    show Calls Try.prog 36 #[.agg (nmc seed), .int .i64 2, .int .i64 (IntKind.i64.wrap ((IntKind.u64.wrap leaf).tmod 1024)), .agg (nmc m)] w _
    generalize IntKind.i64.wrap ((IntKind.u64.wrap leaf).tmod 1024) = z at *
    obtain ⟨j, rfl⟩ := Int.eq_ofNat_of_zero_le h1
    refine (refSign2_any seed m j w).mono fun e w' ⟨A, n, c, h, hs, he⟩ => ?_
    have hU : sigU seed 2 (j : Int) m = some (sig2 seed j m) := by unfold sigU; rw [if_neg (by omega), if_pos ⟨rfl, h1, h2⟩, Int.toNat_natCast]
    rw [hU] at h hs
    have hn : n = 370 := by rw [← hs.len]; exact sig2_length seed j m (by omega)
    subst hn
    exact ⟨A, c, _, h, hs, he⟩
theorem sgn1 (seed m : UInt64) (leaf : Int) (w : World) :
    Calls Try.prog 36 #[.agg (nmc seed), .int .i64 1, .int .i64 (IntKind.i64.wrap ((IntKind.u64.wrap leaf).tmod 32)), .agg (nmc m)] w fun e w' => ∃ A c l, e = .returned (.tuple #[.slice A 186 c, .bool true]) ∧ SlB w' A 186 c l ∧ Ext w w' := sgnK seed m 1 leaf 186 32 (.inl ⟨rfl, rfl, rfl⟩) w
theorem sgn2 (seed m : UInt64) (leaf : Int) (w : World) :
    Calls Try.prog 36 #[.agg (nmc seed), .int .i64 2, .int .i64 (IntKind.i64.wrap ((IntKind.u64.wrap leaf).tmod 1024)), .agg (nmc m)] w fun e w' => ∃ A c l, e = .returned (.tuple #[.slice A 370 c, .bool true]) ∧ SlB w' A 370 c l ∧ Ext w w' := sgnK seed m 2 leaf 370 1024 (.inr ⟨rfl, rfl, rfl⟩) w
def xorV (x y : UInt8) : UInt8 := x ^^^ y
theorem xorV_eq (x y : UInt8) : bits .xor .u8 (x.toNat : Int) (y.toNat : Int) = ((xorV x y).toNat : Int) := by
  rw [u8_xor_nat _ _ x.toNat_lt y.toNat_lt]; unfold xorV; rw [UInt8.toNat_xor]
/-- a byte of one's own is there -/
theorem ownB_at {w : World} {base : Nat} {A : Option Addr} {n c : Nat} {l : List UInt8} (h : OwnB w base 5 A n c l) (k : Nat) (hk : k < n) : ∃ (g : Nat) (x : UInt8), A = some ⟨g, 0, none⟩ ∧ base ≤ g ∧ g < w.heap.size ∧ w.cell? ⟨g, k, none⟩ = some (.int .u8 (x.toNat : Int)) ∧ w.frozen? ⟨g, k, none⟩ = false := by
  have hl : l.length = n := h.sl.len
  rcases h.2 with ⟨hv, h0⟩ | ⟨g, cap, cur, hv, hb, hh, hnc, hcm, hcs, ht⟩
  · omega
  · injection hv with hA _ hc; subst hA; subst hc
    refine ⟨g, l[k]'(by omega), rfl, hb, (Array.getElem?_eq_some_iff.1 hh).1, ?_, World.ownsRow.frozenAt h k⟩
    rw [World.ownsRow.cellAt h k (by omega), bcs_get l k (by omega)]
theorem ownB_set {w : World} {base g n c : Nat} {l : List UInt8} (h : OwnB w base 5 (some ⟨g, 0, none⟩) n c l) (k : Nat) (x : UInt8) :
    OwnB (w.setCell ⟨g, k, none⟩ (.int .u8 (x.toNat : Int))) base 5 (some ⟨g, 0, none⟩) n c (l.set k x) := by
  have := (World.ownsRow.stored h k (.int .u8 (x.toNat : Int))).1
  rw [show (bcs l).set k (.int .u8 (x.toNat : Int)) = bcs (l.set k x) from by simp [bcs, List.map_set, bv]] at this
  exact this
set_option maxRecDepth 100000 in
set_option maxHeartbeats 4000000 in
theorem mverifies_any (seed m other : UInt64) (lv leaf at_ : Int) (by_ : UInt8) (A : Option Addr) (n c : Nat) (l : List UInt8) (w : World) (hs : SlB w A n c l) :
    Calls Try.prog 7 #[.agg (nmc seed), .int .i64 lv, .int .i64 leaf, .agg (nmc m), .agg (nmc other), .slice A n c, .int .i64 at_, .int .u8 (by_.toNat : Int)] w fun e w' => e = .returned (.bool true) ∧ Ext w w' := by
  have hbs := ((Blk.new w 61 (nmc seed)).alloc (.cells (nmc m) 61)).alloc (.cells (nmc other) 61)
  have hbm := (Blk.newAt (w.alloc (.cells (nmc seed) 61)) 61 (nmc m) (w.heap.size + 1) (by simp)).alloc (.cells (nmc other) 61)
  have hbo := Blk.newAt ((w.alloc (.cells (nmc seed) 61)).alloc (.cells (nmc m) 61)) 61 (nmc other) (w.heap.size + 1 + 1) (by simp)
  have HE0 := Lib.hid ((((Ext.refl w).alloc' (.cells (nmc seed) 61)).alloc' (.cells (nmc m) 61)).alloc' (.cells (nmc other) 61))
  have HBS := Lib.hid hbs
  have HBM := Lib.hid hbm
  have HBO := Lib.hid hbo
  clear hbs hbm hbo
  have HP := Lib.hid (par12 lv)
  go_enter Try.func7, Try.ntmps7
  go_wp2_with fail
  generalize ((w.alloc (.cells (nmc seed) 61)).alloc (.cells (nmc m) 61)).alloc (.cells (nmc other) 61) = W at *
  generalize wrap64 (1 + wrap64 ((IntKind.u64.wrap lv).tmod 2)) = k at *
  have HSS := Lib.hid (fun (w' : World) (hx : Ext W.drew w') => (⟨cells8 (HBS.out.drew.ext hx), cells8 (HBM.out.drew.ext hx)⟩ : (∀ i, i < 8 → w'.cell? ⟨w.heap.size, i, none⟩ = some (.int .u8 (nb8 seed i))) ∧ (∀ i, i < 8 → w'.cell? ⟨w.heap.size + 1, i, none⟩ = some (.int .u8 (nb8 m i)))))
  have hX := Ext.refl W.drew
  obtain rfl | rfl := HP.out
  · clear HP
    have u1 : IntKind.u64.wrap 32 = 32 := by rw [IntKind.wrap_u64]; rfl
    go_region_held3 (fun w' => (∀ i, i < 8 → w'.cell? ⟨w.heap.size, i, none⟩ = some (.int .u8 (nb8 seed i))) ∧ (∀ i, i < 8 → w'.cell? ⟨w.heap.size + 1, i, none⟩ = some (.int .u8 (nb8 m i)))) (first | (with_reducible exact HSS.out _ hX) | fail "CELLS") (first | (go_at_call 14; (with_reducible refine (refCap1 _).mono ?_); rintro e w1 ⟨rfl, rfl⟩) | (go_at_call 36; (with_reducible refine (sgn1 seed m leaf _).mono ?_); rintro e w2 ⟨A2, c2, l2, rfl, hs2, he2⟩; have hX := hX.trans he2) | fail "ARM")
    have HS2 := Lib.hid hs2
    have HX2 := Lib.hid hX
    have hrs := rangeN (HBS.out.drew.ext hX)
    clear hs2 hX u1
    go_wp2_with (with_reducible refine wpList_loadN rfl (.tmp 8) rfl w.heap.size 0 rfl seed hrs ?_)
    clear hrs
    refine (refPublic_any seed 1 _).mono ?_
    rintro e w3 ⟨rfl, he3⟩
    have hsn := run_storeNewN w3 w3.heap.size rfl (pubV seed 1)
    go_wp2_with (at_builtin; go_must (refine wpList_appB bytesE rfl (.tmp 47) (.tmp 48) rfl (w3.heap.size + 1) _ _ _ [] rfl ?o1 _ _ _ l2 rfl ?r1 ?n1 ?b1 (w3.alloc (.cells (nmc (pubV seed 1)) 61)) ?w1 ?_))
    case o1 => exact OwnB.made _ _ _ 0 _ (by simp) (Nat.le_refl _) (by omega) (by simp)
    case r1 => exact ((HS2.out.ext he3).ext ((Ext.refl _).alloc' _)).ext ((Ext.refl _).alloc' _)
    case n1 => omega
    case b1 => simp
    case w1 => exact Below.alloc (Below.refl _ _) (by simp) _
    intro A4 c4 w4 hO4 hE4 hs4
    clear hsn
    obtain ⟨j, hj, hlt⟩ := rem_at at_ 186 (by omega) (by omega)
    obtain ⟨g, x, rfl, hgb, hgl, hcg, hfg⟩ := ownB_at hO4 j (by omega)
    have j0 : (0 : Int) ≤ (j : Int) := by omega
    have hxo := xorV_eq x by_
    have HO5 := Lib.hid (ownB_set hO4 j (xorV x by_)).sl
    have hE4' : Ext (w3.alloc (.cells (nmc (pubV seed 1)) 61)) w4 := by simpa [Ext] using hE4
    have HE5 := Lib.hid (Below.setCell hE4' (p := ⟨g, j, none⟩) (by simpa using hgb) (.int .u8 ((xorV x by_).toNat : Int)))
    have HBP := Lib.hid (Blk.new w3 61 (nmc (pubV seed 1)))
    have HX3 := Lib.hid ((HX2.out.trans he3).alloc' (.cells (nmc (pubV seed 1)) 61))
    have HS3 := Lib.hid ((HS2.out.ext he3).ext ((Ext.refl _).alloc' (.cells (nmc (pubV seed 1)) 61)))
    clear hO4 hE4 hE4' he3 HS2 HX2
    go_wp2_with fail
    clear hcg hfg hxo hj hgb hgl hs4
    generalize w4.setCell ⟨g, j, none⟩ (.int .u8 ((xorV x by_).toNat : Int)) = w5 at *
    have hE5 := HX3.out.trans HE5.out
    have HEW := Lib.hid ((HE0.out.trans (Ext.refl W).drew').trans hE5)
    have hbp := HBP.out.ext HE5.out
    have hbm := HBM.out.drew.ext hE5
    have hbo := HBO.out.drew.ext hE5
    have HS8 := Lib.hid (fun (w' : World) (hx : Ext w5 w') => (⟨cells8 (hbp.ext hx), cells8 (hbm.ext hx), cells8 (hbo.ext hx)⟩ : (∀ i, i < 8 → w'.cell? ⟨w3.heap.size, i, none⟩ = some (.int .u8 (nb8 (pubV seed 1) i))) ∧ (∀ i, i < 8 → w'.cell? ⟨w.heap.size + 1, i, none⟩ = some (.int .u8 (nb8 m i))) ∧ (∀ i, i < 8 → w'.cell? ⟨w.heap.size + 1 + 1, i, none⟩ = some (.int .u8 (nb8 other i)))))
    have HC := Lib.hid (fun (w' : World) (hx : Ext w5 w') => HO5.out.ext hx)
    have HSS5 := Lib.hid (fun (w' : World) (hx : Ext w5 w') => (HS3.out.ext HE5.out).ext hx)
    have hr5 := hs.ext HEW.out
    have HR := Lib.hid (fun (w' : World) (hx : Ext w5 w') => hr5.ext hx)
    have hX := (Ext.refl w5).drew'
    clear hE5 hbp hbm hbo hr5 hlt j0
    go_region_held3 (fun w' => (∀ i, i < 8 → w'.cell? ⟨w3.heap.size, i, none⟩ = some (.int .u8 (nb8 (pubV seed 1) i))) ∧ (∀ i, i < 8 → w'.cell? ⟨w.heap.size + 1, i, none⟩ = some (.int .u8 (nb8 m i))) ∧ (∀ i, i < 8 → w'.cell? ⟨w.heap.size + 1 + 1, i, none⟩ = some (.int .u8 (nb8 other i)))) (first | (with_reducible exact HS8.out _ hX) | fail "CELLS") (first | (go_at_call 38; (first | (with_reducible refine (verify_any _ _ _ _ _ _ _ _ (HC.out _ hX)).mono ?_) | (with_reducible refine (verify_any _ _ _ _ _ _ _ _ (HSS5.out _ hX)).mono ?_) | (with_reducible refine (verify_any _ _ _ _ _ _ _ _ (HR.out _ hX)).mono ?_) | fail "V"); rintro e wv ⟨rfl, hev⟩; have hX := hX.trans hev) | (go_at_call 39; (first | (with_reducible refine (refVerify_any _ _ _ _ _ _ _ _ (HC.out _ hX)).mono ?_) | (with_reducible refine (refVerify_any _ _ _ _ _ _ _ _ (HSS5.out _ hX)).mono ?_) | (with_reducible refine (refVerify_any _ _ _ _ _ _ _ _ (HR.out _ hX)).mono ?_) | fail "RV"); rintro e wv ⟨rfl, hev⟩; have hX := hX.trans hev) | (go_at_call 17; (with_reducible refine (awake5_any _).mono ?_); rintro e wv ⟨rfl, rfl⟩) | fail "ARM")
    all_goals (
      go_wp2_with fail
      have hX := hX.drew'
      go_region_held3 (fun w' => (∀ i, i < 8 → w'.cell? ⟨w3.heap.size, i, none⟩ = some (.int .u8 (nb8 (pubV seed 1) i))) ∧ (∀ i, i < 8 → w'.cell? ⟨w.heap.size + 1, i, none⟩ = some (.int .u8 (nb8 m i))) ∧ (∀ i, i < 8 → w'.cell? ⟨w.heap.size + 1 + 1, i, none⟩ = some (.int .u8 (nb8 other i)))) (first | (with_reducible exact HS8.out _ hX) | fail "CELLS") (first | (go_at_call 38; (first | (with_reducible refine (verify_any _ _ _ _ _ _ _ _ (HC.out _ hX)).mono ?_) | (with_reducible refine (verify_any _ _ _ _ _ _ _ _ (HSS5.out _ hX)).mono ?_) | (with_reducible refine (verify_any _ _ _ _ _ _ _ _ (HR.out _ hX)).mono ?_) | fail "V"); rintro e wv ⟨rfl, hev⟩; have hX := hX.trans hev) | (go_at_call 39; (first | (with_reducible refine (refVerify_any _ _ _ _ _ _ _ _ (HC.out _ hX)).mono ?_) | (with_reducible refine (refVerify_any _ _ _ _ _ _ _ _ (HSS5.out _ hX)).mono ?_) | (with_reducible refine (refVerify_any _ _ _ _ _ _ _ _ (HR.out _ hX)).mono ?_) | fail "RV"); rintro e wv ⟨rfl, hev⟩; have hX := hX.trans hev) | (go_at_call 17; (with_reducible refine (awake5_any _).mono ?_); rintro e wv ⟨rfl, rfl⟩) | fail "ARM")
      all_goals (
        go_wp2_with fail
        go_ret
        exact ⟨rfl, HEW.out.trans hX⟩))
  · clear HP
    have u1 : IntKind.u64.wrap 1024 = 1024 := by rw [IntKind.wrap_u64]; rfl
    go_region_held3 (fun w' => (∀ i, i < 8 → w'.cell? ⟨w.heap.size, i, none⟩ = some (.int .u8 (nb8 seed i))) ∧ (∀ i, i < 8 → w'.cell? ⟨w.heap.size + 1, i, none⟩ = some (.int .u8 (nb8 m i)))) (first | (with_reducible exact HSS.out _ hX) | fail "CELLS") (first | (go_at_call 14; (with_reducible refine (refCap2 _).mono ?_); rintro e w1 ⟨rfl, rfl⟩) | (go_at_call 36; (with_reducible refine (sgn2 seed m leaf _).mono ?_); rintro e w2 ⟨A2, c2, l2, rfl, hs2, he2⟩; have hX := hX.trans he2) | fail "ARM")
    have HS2 := Lib.hid hs2
    have HX2 := Lib.hid hX
    have hrs := rangeN (HBS.out.drew.ext hX)
    clear hs2 hX u1
    go_wp2_with (with_reducible refine wpList_loadN rfl (.tmp 8) rfl w.heap.size 0 rfl seed hrs ?_)
    clear hrs
    refine (refPublic_any seed 2 _).mono ?_
    rintro e w3 ⟨rfl, he3⟩
    have hsn := run_storeNewN w3 w3.heap.size rfl (pubV seed 2)
    go_wp2_with (at_builtin; go_must (refine wpList_appB bytesE rfl (.tmp 47) (.tmp 48) rfl (w3.heap.size + 1) _ _ _ [] rfl ?o1 _ _ _ l2 rfl ?r1 ?n1 ?b1 (w3.alloc (.cells (nmc (pubV seed 2)) 61)) ?w1 ?_))
    case o1 => exact OwnB.made _ _ _ 0 _ (by simp) (Nat.le_refl _) (by omega) (by simp)
    case r1 => exact ((HS2.out.ext he3).ext ((Ext.refl _).alloc' _)).ext ((Ext.refl _).alloc' _)
    case n1 => omega
    case b1 => simp
    case w1 => exact Below.alloc (Below.refl _ _) (by simp) _
    intro A4 c4 w4 hO4 hE4 hs4
    clear hsn
    obtain ⟨j, hj, hlt⟩ := rem_at at_ 370 (by omega) (by omega)
    obtain ⟨g, x, rfl, hgb, hgl, hcg, hfg⟩ := ownB_at hO4 j (by omega)
    have j0 : (0 : Int) ≤ (j : Int) := by omega
    have hxo := xorV_eq x by_
    have HO5 := Lib.hid (ownB_set hO4 j (xorV x by_)).sl
    have hE4' : Ext (w3.alloc (.cells (nmc (pubV seed 2)) 61)) w4 := by simpa [Ext] using hE4
    have HE5 := Lib.hid (Below.setCell hE4' (p := ⟨g, j, none⟩) (by simpa using hgb) (.int .u8 ((xorV x by_).toNat : Int)))
    have HBP := Lib.hid (Blk.new w3 61 (nmc (pubV seed 2)))
    have HX3 := Lib.hid ((HX2.out.trans he3).alloc' (.cells (nmc (pubV seed 2)) 61))
    have HS3 := Lib.hid ((HS2.out.ext he3).ext ((Ext.refl _).alloc' (.cells (nmc (pubV seed 2)) 61)))
    clear hO4 hE4 hE4' he3 HS2 HX2
    go_wp2_with fail
    clear hcg hfg hxo hj hgb hgl hs4
    generalize w4.setCell ⟨g, j, none⟩ (.int .u8 ((xorV x by_).toNat : Int)) = w5 at *
    have hE5 := HX3.out.trans HE5.out
    have HEW := Lib.hid ((HE0.out.trans (Ext.refl W).drew').trans hE5)
    have hbp := HBP.out.ext HE5.out
    have hbm := HBM.out.drew.ext hE5
    have hbo := HBO.out.drew.ext hE5
    have HS8 := Lib.hid (fun (w' : World) (hx : Ext w5 w') => (⟨cells8 (hbp.ext hx), cells8 (hbm.ext hx), cells8 (hbo.ext hx)⟩ : (∀ i, i < 8 → w'.cell? ⟨w3.heap.size, i, none⟩ = some (.int .u8 (nb8 (pubV seed 2) i))) ∧ (∀ i, i < 8 → w'.cell? ⟨w.heap.size + 1, i, none⟩ = some (.int .u8 (nb8 m i))) ∧ (∀ i, i < 8 → w'.cell? ⟨w.heap.size + 1 + 1, i, none⟩ = some (.int .u8 (nb8 other i)))))
    have HC := Lib.hid (fun (w' : World) (hx : Ext w5 w') => HO5.out.ext hx)
    have HSS5 := Lib.hid (fun (w' : World) (hx : Ext w5 w') => (HS3.out.ext HE5.out).ext hx)
    have hr5 := hs.ext HEW.out
    have HR := Lib.hid (fun (w' : World) (hx : Ext w5 w') => hr5.ext hx)
    have hX := (Ext.refl w5).drew'
    clear hE5 hbp hbm hbo hr5 hlt j0
    go_region_held3 (fun w' => (∀ i, i < 8 → w'.cell? ⟨w3.heap.size, i, none⟩ = some (.int .u8 (nb8 (pubV seed 2) i))) ∧ (∀ i, i < 8 → w'.cell? ⟨w.heap.size + 1, i, none⟩ = some (.int .u8 (nb8 m i))) ∧ (∀ i, i < 8 → w'.cell? ⟨w.heap.size + 1 + 1, i, none⟩ = some (.int .u8 (nb8 other i)))) (first | (with_reducible exact HS8.out _ hX) | fail "CELLS") (first | (go_at_call 38; (first | (with_reducible refine (verify_any _ _ _ _ _ _ _ _ (HC.out _ hX)).mono ?_) | (with_reducible refine (verify_any _ _ _ _ _ _ _ _ (HSS5.out _ hX)).mono ?_) | (with_reducible refine (verify_any _ _ _ _ _ _ _ _ (HR.out _ hX)).mono ?_) | fail "V"); rintro e wv ⟨rfl, hev⟩; have hX := hX.trans hev) | (go_at_call 39; (first | (with_reducible refine (refVerify_any _ _ _ _ _ _ _ _ (HC.out _ hX)).mono ?_) | (with_reducible refine (refVerify_any _ _ _ _ _ _ _ _ (HSS5.out _ hX)).mono ?_) | (with_reducible refine (refVerify_any _ _ _ _ _ _ _ _ (HR.out _ hX)).mono ?_) | fail "RV"); rintro e wv ⟨rfl, hev⟩; have hX := hX.trans hev) | (go_at_call 17; (with_reducible refine (awake5_any _).mono ?_); rintro e wv ⟨rfl, rfl⟩) | fail "ARM")
    all_goals (
      go_wp2_with fail
      have hX := hX.drew'
      go_region_held3 (fun w' => (∀ i, i < 8 → w'.cell? ⟨w3.heap.size, i, none⟩ = some (.int .u8 (nb8 (pubV seed 2) i))) ∧ (∀ i, i < 8 → w'.cell? ⟨w.heap.size + 1, i, none⟩ = some (.int .u8 (nb8 m i))) ∧ (∀ i, i < 8 → w'.cell? ⟨w.heap.size + 1 + 1, i, none⟩ = some (.int .u8 (nb8 other i)))) (first | (with_reducible exact HS8.out _ hX) | fail "CELLS") (first | (go_at_call 38; (first | (with_reducible refine (verify_any _ _ _ _ _ _ _ _ (HC.out _ hX)).mono ?_) | (with_reducible refine (verify_any _ _ _ _ _ _ _ _ (HSS5.out _ hX)).mono ?_) | (with_reducible refine (verify_any _ _ _ _ _ _ _ _ (HR.out _ hX)).mono ?_) | fail "V"); rintro e wv ⟨rfl, hev⟩; have hX := hX.trans hev) | (go_at_call 39; (first | (with_reducible refine (refVerify_any _ _ _ _ _ _ _ _ (HC.out _ hX)).mono ?_) | (with_reducible refine (refVerify_any _ _ _ _ _ _ _ _ (HSS5.out _ hX)).mono ?_) | (with_reducible refine (refVerify_any _ _ _ _ _ _ _ _ (HR.out _ hX)).mono ?_) | fail "RV"); rintro e wv ⟨rfl, hev⟩; have hX := hX.trans hev) | (go_at_call 17; (with_reducible refine (awake5_any _).mono ?_); rintro e wv ⟨rfl, rfl⟩) | fail "ARM")
      all_goals (
        go_wp2_with fail
        go_ret
        exact ⟨rfl, HEW.out.trans hX⟩))
end Go.Proofs.Ytengpfpeeihaoaa
