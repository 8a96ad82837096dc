/- Sign and Public (the reference's), at all levels. -/
import Derived.Test.YtengpfpeeihaoaaSig5
namespace Go.Proofs.Ytengpfpeeihaoaa
open Go.RowKit
set_option linter.unusedVariables false
set_option linter.unusedSimpArgs false
theorem ext_of_grown {w w1 w2 : World} {B : Nat} (h : Ext w w1) (hB : w.heap.size ≤ B) (g : w1.grownBy w2 (some B)) : Ext w w2 :=
  ⟨g.os.trans h.os, g.tape.trans h.tape, g.output.trans h.output, Nat.le_trans h.size g.size, fun k hk => (g.block k (Nat.lt_of_lt_of_le hk h.size) (by intro e; injection e; omega)).trans (h.block k hk)⟩
theorem refKSign_no (p : Value) (leaf : Int) (m : UInt64) (w : World) (h : leaf < 0 ∨ 1024 ≤ leaf) :
    Calls Try.prog 53 #[p, .int .i64 leaf, .agg (nmc m)] w fun e w' => e = .returned (.tuple #[.slice none 0 0, .bool false]) ∧ Ext w w' := by
  rcases h with h | h
  · have h1 : decide (leaf < 0) = true := by simpa using h
    go_enter Try.func53, Try.ntmps53
    go_wp2_with fail
    go_ret2
    exact ⟨rfl, (Ext.refl w).alloc' _⟩
  · have h0 : decide (leaf < 0) = false := by simp; omega
    have h1 : decide (1024 ≤ leaf) = true := by simpa using h
    go_enter Try.func53, Try.ntmps53
    go_wp2_with fail
    go_ret2
    exact ⟨rfl, (Ext.refl w).alloc' _⟩
set_option maxRecDepth 100000 in
set_option maxHeartbeats 1000000 in
theorem refNewKey_own (seed : UInt64) (w : World) :
    Calls Try.prog 52 #[.agg (nmc seed)] w fun e w' => ∃ B A c, e = .returned (.pointer (some ⟨B, 0, none⟩)) ∧ w.heap.size ≤ B ∧ Blk w' B 108 (keyC seed A c) ∧ SlN w' A 32 c (leavesU seed 2 0) ∧ Ext w w' := by
  have hbs := Blk.new w 61 (nmc seed)
  have HE0 := Lib.hid ((Ext.refl w).alloc' (.cells (nmc seed) 61))
  have HBS := Lib.hid hbs
  have hrs := rangeN hbs
  go_enter Try.func52, Try.ntmps52
  go_wp2_with fail
  have HSS := Lib.hid (fun (w' : World) (hx : Ext (w.alloc (.cells (nmc seed) 61)).drew w') => (cells8 (HBS.out.drew.ext hx) : ∀ i, i < 8 → w'.cell? ⟨w.heap.size, i, none⟩ = some (.int .u8 (nb8 seed i))))
  have hX := Ext.refl (w.alloc (.cells (nmc seed) 61)).drew
  have HZ0 := Lib.hid (show (0 : Int) ≤ 0 ∧ (0 : Int) ≤ 100000 from by omega)
  clear hbs hrs
  go_region_held3 (fun w' => (∀ i, i < 8 → w'.cell? ⟨w.heap.size, i, none⟩ = some (.int .u8 (nb8 seed i)))) (first | (with_reducible exact HSS.out _ hX) | (with_reducible exact HSS.out _ (hX.alloc' _)) | fail "CELLS") (first | (go_at_call 55; (with_reducible refine (refLeaves_any seed 2 0 HZ0.out.1 HZ0.out.2 _).mono ?_); rintro e w1 ⟨A1, c1, rfl, hs1, he1⟩; have hX := hX.trans he1) | fail "LEAVES")
  all_goals (go_wp2_with fail; go_ret; exact ⟨w1.heap.size, A1, c1, rfl, (HE0.out.trans ((Ext.refl _).drew'.trans hX)).size, Blk.new _ _ _, hs1.ext ((Ext.refl _).alloc' _), HE0.out.trans ((Ext.refl _).drew'.trans (hX.alloc' _))⟩)
/-- what Sign answers -/
def sigU (seed : UInt64) (lv leaf : Int) (m : UInt64) : Option (List UInt8) :=
  if lv = 1 ∧ 0 ≤ leaf ∧ leaf < 32 then some (sig1 seed leaf.toNat m) else if lv = 2 ∧ 0 ≤ leaf ∧ leaf < 1024 then some (sig2 seed leaf.toNat m) else none
/-- what Sign returns -/
def SigOut (w : World) (o : Option (List UInt8)) (e : Ending) (w' : World) : Prop := ∃ A n c, e = .returned (.tuple #[.slice A n c, .bool o.isSome]) ∧ SlB w' A n c (o.getD []) ∧ Ext w w'
theorem SigOut.no (w w' : World) (h : Ext w w') : SigOut w none (.returned (.tuple #[.slice none 0 0, .bool false])) w' := ⟨none, 0, 0, rfl, SlB.nil _, h⟩
set_option maxRecDepth 100000 in
set_option maxHeartbeats 1000000 in
theorem refSign2_any (seed m : UInt64) (leaf : Int) (w : World) :
    Calls Try.prog 36 #[.agg (nmc seed), .int .i64 2, .int .i64 leaf, .agg (nmc m)] w (SigOut w (sigU seed 2 leaf m)) := by
  have hbs := (Blk.new w 61 (nmc seed)).alloc (.cells (nmc m) 61)
  have hbm : Blk ((w.alloc (.cells (nmc seed) 61)).alloc (.cells (nmc m) 61)) (w.heap.size + 1) 61 (nmc m) := Blk.newAt _ _ _ _ (by simp)
  have HE0 := Lib.hid (((Ext.refl w).alloc' (.cells (nmc seed) 61)).alloc' (.cells (nmc m) 61))
  have HSS := Lib.hid (fun (w' : World) (hx : Ext ((w.alloc (.cells (nmc seed) 61)).alloc (.cells (nmc m) 61)).drew w') => (⟨cells8 (hbs.drew.ext hx), cells8 (hbm.drew.ext hx)⟩ : (∀ i, i < 8 → w'.cell? ⟨w.heap.size, i, none⟩ = some (.int .u8 (nb8 seed i))) ∧ (∀ i, i < 8 → w'.cell? ⟨w.heap.size + 1, i, none⟩ = some (.int .u8 (nb8 m i)))))
  have hX := Ext.refl ((w.alloc (.cells (nmc seed) 61)).alloc (.cells (nmc m) 61)).drew
  clear hbs hbm
  by_cases hl : 0 ≤ leaf ∧ leaf < 1024
  · obtain ⟨n, rfl⟩ := Int.eq_ofNat_of_zero_le hl.1
    have HU := Lib.hid (show sigU seed 2 (n : Int) m = some (sig2 seed n m) from by unfold sigU; rw [if_neg (by omega), if_pos ⟨rfl, hl.1, hl.2⟩, Int.toNat_natCast])
    have h1 : n / 32 < 32 := by omega
    have h2 : n % 32 < 32 := by omega
    have HKS := Lib.hid (fun B AT cT w hK hT => refKSign_yes seed m n (n / 32) (n % 32) h1 h2 (by omega) B AT cT w hK hT)
    clear h1 h2 hl
    go_enter Try.func36, Try.ntmps36
    go_wp2_with fail
    go_region_held3 (fun w' => (∀ i, i < 8 → w'.cell? ⟨w.heap.size, i, none⟩ = some (.int .u8 (nb8 seed i))) ∧ (∀ i, i < 8 → w'.cell? ⟨w.heap.size + 1, i, none⟩ = some (.int .u8 (nb8 m i)))) (first | (with_reducible exact HSS.out _ hX) | fail "CELLS") (first | (go_at_call 52; (with_reducible refine (refNewKey_own seed _).mono ?_); rintro e w1 ⟨B1, A1, c1, rfl, hB1, hK1, hT1, he1⟩; have hB := hB1; have hX0 := hX; have hX := hX.trans he1) | (go_at_call 53; (with_reducible refine (HKS.out B1 A1 c1 _ hK1 hT1).mono ?_); rintro e w2 ⟨A2, c2, rfl, hs2, hg2⟩; have hX := ext_of_grown hX (Nat.le_trans hX0.size hB) hg2) | fail "ARM")
    all_goals (
      go_wp2_with fail
      go_ret2
      rw [HU.out]
      exact ⟨A2, 370, c2, rfl, hs2, HE0.out.trans ((Ext.refl _).drew'.trans hX)⟩)
  · have HU := Lib.hid (show sigU seed 2 leaf m = none from by unfold sigU; rw [if_neg (by omega), if_neg (by omega)])
    have HKS := Lib.hid (fun p w => refKSign_no p leaf m w (by omega))
    clear hl
    go_enter Try.func36, Try.ntmps36
    go_wp2_with fail
    go_region_held3 (fun w' => (∀ i, i < 8 → w'.cell? ⟨w.heap.size, i, none⟩ = some (.int .u8 (nb8 seed i))) ∧ (∀ i, i < 8 → w'.cell? ⟨w.heap.size + 1, i, none⟩ = some (.int .u8 (nb8 m i)))) (first | (with_reducible exact HSS.out _ hX) | fail "CELLS") (first | (go_at_call 52; (with_reducible refine (refNewKey_any seed _).mono ?_); rintro e w1 ⟨B1, A1, c1, rfl, hK1, hT1, he1⟩; have hX := hX.trans he1) | (go_at_call 53; (with_reducible refine (HKS.out _ _).mono ?_); rintro e w2 ⟨rfl, he2⟩; have hX := hX.trans he2) | fail "ARM")
    all_goals (
      go_wp2_with fail
      go_ret2
      rw [HU.out]
      exact SigOut.no _ _ (HE0.out.trans ((Ext.refl _).drew'.trans hX)))
set_option maxRecDepth 100000 in
set_option maxHeartbeats 1000000 in
theorem refSign_no (seed m : UInt64) (lv leaf : Int) (w : World) (h2 : lv ≠ 2) (h : lv ≠ 1 ∨ leaf < 0 ∨ 32 ≤ leaf) :
    Calls Try.prog 36 #[.agg (nmc seed), .int .i64 lv, .int .i64 leaf, .agg (nmc m)] w (SigOut w none) := by
  have HE0 := Lib.hid (((Ext.refl w).alloc' (.cells (nmc seed) 61)).alloc' (.cells (nmc m) 61))
  have b2 : (lv == 2) = false := beq_eq_false_iff_ne.2 h2
  by_cases h1 : lv = 1
  · subst h1
    by_cases h0 : leaf < 0
    · have d0 : decide (leaf < 0) = true := by simpa using h0
      clear h b2 h2
      go_enter Try.func36, Try.ntmps36
      go_wp2_with fail
      go_ret2
      exact SigOut.no _ _ HE0.out
    · have d0 : decide (leaf < 0) = false := by simpa using h0
      have d1 : decide (32 ≤ leaf) = true := by simp; omega
      clear h b2 h2
      go_enter Try.func36, Try.ntmps36
      go_wp2_with fail
      go_ret2
      exact SigOut.no _ _ HE0.out
  · have b1 : (lv != 1) = true := by simpa using h1
    clear h
    go_enter Try.func36, Try.ntmps36
    go_wp2_with fail
    go_ret2
    exact SigOut.no _ _ HE0.out
theorem refSign_any (seed m : UInt64) (lv leaf : Int) (w : World) :
    Calls Try.prog 36 #[.agg (nmc seed), .int .i64 lv, .int .i64 leaf, .agg (nmc m)] w (SigOut w (sigU seed lv leaf m)) := by
  by_cases h2 : lv = 2
  · subst h2; exact refSign2_any seed m leaf w
  · by_cases h1 : lv = 1 ∧ 0 ≤ leaf ∧ leaf < 32
    · obtain ⟨rfl, h3, h4⟩ := h1
      obtain ⟨n, rfl⟩ := Int.eq_ofNat_of_zero_le h3
      refine (refSign1_yes seed m n (by omega) w).mono ?_
      rintro e w' ⟨A, c, rfl, hs, he⟩
      rw [show sigU seed 1 (n : Int) m = some (sig1 seed n m) from by unfold sigU; rw [if_pos ⟨rfl, h3, h4⟩, Int.toNat_natCast]]
      exact ⟨A, 186, c, rfl, hs, he⟩
    · rw [show sigU seed lv leaf m = none from by unfold sigU; rw [if_neg h1, if_neg (fun h => h2 h.1)]]
      exact refSign_no seed m lv leaf w h2 (by omega)
theorem nmc_zero : nmc 0 = zcs.toArray := by kernel_rfl
set_option maxRecDepth 100000 in
set_option maxHeartbeats 1000000 in
theorem refPublic_no (seed : UInt64) (lv : Int) (h : lv < 1 ∨ 2 < lv) (w : World) :
    Calls Try.prog 37 #[.agg (nmc seed), .int .i64 lv] w fun e w' => e = .returned (.agg (nmc 0)) ∧ Ext w w' := by
  rcases h with h | h
  · have d0 : decide (lv < 1) = true := by simpa using h
    go_enter Try.func37, Try.ntmps37
    go_wp2_with fail
    refine bodyPost_ret (v := .agg (nmc 0)) (retN rfl _ _ (w.heap.size + 1) _ rfl (by rw [nmc_zero]; exact Blk.newAt _ _ _ _ (by simp))) rfl ⟨rfl, ((Ext.refl w).alloc' _).alloc' _⟩
  · have d0 : decide (lv < 1) = false := by simp; omega
    have d1 : decide (2 < lv) = true := by simpa using h
    go_enter Try.func37, Try.ntmps37
    go_wp2_with fail
    refine bodyPost_ret (v := .agg (nmc 0)) (retN rfl _ _ (w.heap.size + 1) _ rfl (by rw [nmc_zero]; exact Blk.newAt _ _ _ _ (by simp))) rfl ⟨rfl, ((Ext.refl w).alloc' _).alloc' _⟩
/-- what Public answers -/
def pubV (seed : UInt64) (lv : Int) : UInt64 := if 1 ≤ lv ∧ lv ≤ 2 then pubU seed lv else 0
theorem refPublic_any (seed : UInt64) (lv : Int) (w : World) :
    Calls Try.prog 37 #[.agg (nmc seed), .int .i64 lv] w fun e w' => e = .returned (.agg (nmc (pubV seed lv))) ∧ Ext w w' := by
  unfold pubV
  by_cases h : 1 ≤ lv ∧ lv ≤ 2
  · rw [if_pos h]; exact refPublic_yes seed lv h.1 h.2 w
  · rw [if_neg h]; exact refPublic_no seed lv (by omega) w
end Go.Proofs.Ytengpfpeeihaoaa
