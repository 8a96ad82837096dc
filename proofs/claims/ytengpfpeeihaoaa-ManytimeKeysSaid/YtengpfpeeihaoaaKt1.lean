/- ManytimeKeys: the walk of the law, one level. -/
import Derived.Test.YtengpfpeeihaoaaKt
namespace Go.Proofs.Ytengpfpeeihaoaa
open Go.RowKit
set_option linter.unusedVariables false
set_option linter.unusedSimpArgs false
set_option maxRecDepth 100000 in
set_option maxHeartbeats 8000000 in
theorem mkeys_one (seed m : UInt64) (lv : Int) (hlv : lv = 1) (A : Option Addr) (n c : Nat) (l : List Int) (w : World) (hl : SlI w A n c l) (hn : n ≤ 9223372036854775807) :
    Calls Try.prog 9 #[.agg (nmc seed), .int .i64 lv, .slice A n c, .agg (nmc m)] w fun e w' => e = .returned (.bool true) ∧ Ext w w' := by
  obtain ⟨W, hW⟩ : ∃ W, W = (w.alloc (.cells (nmc seed) 61)).alloc (.cells (nmc m) 61) := ⟨_, rfl⟩
  have hbs := (Blk.new w 61 (nmc seed)).alloc (.cells (nmc m) 61)
  have hbm : Blk ((w.alloc (.cells (nmc seed) 61)).alloc (.cells (nmc m) 61)) (w.heap.size + 1) 61 (nmc m) := Blk.newAt _ _ _ _ (by simp)
  have hE0 := ((Ext.refl w).alloc' (.cells (nmc seed) 61)).alloc' (.cells (nmc m) 61)
  have hrs := rangeN hbs
  have hnew : Calls Try.prog 42 #[.agg (nmc seed), .int .i64 lv] ((w.alloc (.cells (nmc seed) 61)).alloc (.cells (nmc m) 61)) (KNew W seed lv isAt) := by rw [← hW]; exact knewYes W seed lv (by omega)
  rw [← hW] at hbs hbm hE0
  have HNEW := Lib.hid hnew
  have HE0 := Lib.hid hE0
  have HC := Lib.hid (fun (w' : World) (hx : Ext W w') => (cells8 (hbs.ext hx) : ∀ i, i < 8 → w'.cell? ⟨w.heap.size, i, none⟩ = some (.int .u8 (nb8 seed i))))
  have HM := Lib.hid (fun (w' : World) (hx : Ext W w') => (cells8 (hbm.ext hx) : ∀ i, i < 8 → w'.cell? ⟨w.heap.size + 1, i, none⟩ = some (.int .u8 (nb8 m i))))
  have HA := Lib.hid (fun h0 => (hl.ext hE0).cell h0)
  clear hbs hbm hE0 hl hnew hW
  have d1 : (lv == 1) = true := by rw [hlv]; rfl
  have d2 : (lv == 2) = false := by rw [hlv]; rfl
  have d3 : decide (lv = 1) = true := by rw [hlv]; rfl
  have d4 : decide (lv = 2) = false := by rw [hlv]; rfl
  clear hlv
  go_enter Try.func9, Try.ntmps9
  go_wp2_with (first | (with_reducible refine wpList_loadN rfl (.tmp 4) rfl w.heap.size 0 rfl seed hrs ?_))
  clear hrs
  refine HNEW.out.mono ?_
  rintro e w1 ⟨p, hp, rfl, hV⟩
  obtain ⟨B, rfl⟩ := hp
  have hq := fun w => run_neqSame (pubV seed lv) w
  have hX := hV.ext (Ext.refl w1).drew'
  clear hV
  go_wp2_with fail
  have hcs := HC.out _ hX.toE
  first | go_region_with (first | (go_at_call 43; (with_reducible refine (kvPublic hX).mono ?_); rintro e wv ⟨rfl, hX⟩; have hcs := HC.out _ hX.toE) | (go_at_call 41; (with_reducible refine (public5_any seed lv _).mono ?_); rintro e wv ⟨rfl, hev⟩; have hX := hX.ext hev) | fail "ARM") | fail "REGION"
  all_goals clear hcs
  all_goals (
    have HX := Lib.hid hX
    clear hX hq
    go_wp2_with fail
    go_loopw [10] (fun i wr => ∃ k : Nat, k ≤ n ∧ k ≤ 4 ∧ i = .int .i64 (k : Int) ∧ KeyVal W seed lv (some ⟨B, 0, none⟩) wr) (fun i _ => (4 - intOf i).toNat)
    case atStart => exact ⟨0, Nat.zero_le _, Nat.zero_le _, rfl, HX.out⟩
    case round =>
      obtain ⟨k, hk, hk4, rfl, hY⟩ := hrel
      have HY := Lib.hid hY
      clear hY HX
      by_cases hlt : k < n ∧ k < 4
      · obtain ⟨h1, h2⟩ := hlt
        obtain ⟨b, o, rfl, hcell⟩ := HA.out (by omega)
        have HCE := Lib.hid hcell
        clear hcell HA
        have i0 : (0 : Int) ≤ (k : Int) := by omega
        have i1 : (k : Int) < (n : Int) := by omega
        have i2 : (k : Int) < 4 := by omega
        have HF := Lib.hid (fun (w' : World) (hx : Ext W w') => (HCE.out w' hx k h1))
        have hX := HY.out.ext (Ext.refl wr).drew'
        go_wp2_with fail
        go_region_held3 (fun w' => (∀ i, i < 8 → w'.cell? ⟨w.heap.size + 1, i, none⟩ = some (.int .u8 (nb8 m i))) ∧ w'.cell? ⟨b, o + k, none⟩ = some (.int .i64 (nthI l k))) (first | (with_reducible exact ⟨HM.out _ hX.toE, HF.out _ hX.toE⟩) | fail "CELLS") (first | (go_at_call 44; (with_reducible refine (ksSign m (nthI l k) hX).mono ?_); rintro e wv ⟨A5, n5, c5, rfl, hs5, hX⟩) | fail "ARM")
        have HX5 := Lib.hid hX
        have HS5 := Lib.hid hs5
        have hX := HX5.out.ext (Ext.refl wv).drew'
        clear hs5
        go_wp2_with fail
        go_region_held3 (fun w' => (∀ i, i < 8 → w'.cell? ⟨w.heap.size, i, none⟩ = some (.int .u8 (nb8 seed i))) ∧ (∀ i, i < 8 → w'.cell? ⟨w.heap.size + 1, i, none⟩ = some (.int .u8 (nb8 m i))) ∧ w'.cell? ⟨b, o + k, none⟩ = some (.int .i64 (nthI l k))) (first | (with_reducible exact ⟨HC.out _ hX.toE, HM.out _ hX.toE, HF.out _ hX.toE⟩) | fail "CELLS") (first | (go_at_call 40; (with_reducible refine (ksSign5 m (nthI l k) hX).mono ?_); rintro e wq ⟨A6, n6, c6, rfl, hs6, hX, hE6⟩) | fail "ARM")
        have k1 := run_strV (HS5.out.ext ((Ext.refl wv).drew'.trans hE6))
        have k2 := run_strV hs6
        have HX6 := Lib.hid hX
        clear hs6 hX hE6
        go_wp2_with fail
        go_roundw
        case rel => exact ⟨k + 1, by omega, by omega, by go_num, HX6.out⟩
        case measure => simp [intOf]; omega
      · have hd : (n : Int) ≤ (k : Int) ∨ ((k : Int) < (n : Int) ∧ (4 : Int) ≤ (k : Int)) := by omega
        clear hlt HA
        rcases hd with hd1 | ⟨hd1, hd2⟩
        all_goals (
          go_wp2_with fail
          refine (awake5_any _).mono ?_
          rintro e w7 ⟨rfl, rfl⟩
          go_wp2_with fail
          go_ret
          exact ⟨rfl, HE0.out.trans HY.out.toE⟩))
theorem mkeys_any (seed m : UInt64) (lv : Int) (A : Option Addr) (n c : Nat) (l : List Int) (w : World) (hl : SlI w A n c l) (hn : n ≤ 9223372036854775807) :
    Calls Try.prog 9 #[.agg (nmc seed), .int .i64 lv, .slice A n c, .agg (nmc m)] w fun e w' => e = .returned (.bool true) ∧ Ext w w' := by
  by_cases h1 : lv = 1
  · exact mkeys_one seed m lv h1 A n c l w hl hn
  · by_cases h2 : lv = 2
    · exact mkeys_two seed m lv h2 A n c l w hl hn
    · exact mkeys_no seed m lv h1 h2 A n c l w hl hn
end Go.Proofs.Ytengpfpeeihaoaa
