/- ManytimeKeys: the walk of the law. -/
import Derived.Test.YtengpfpeeihaoaaKs
namespace Go.Proofs.Ytengpfpeeihaoaa
open Go.RowKit
set_option linter.unusedVariables false
set_option linter.unusedSimpArgs false
theorem run_neqN (a b : UInt64) (w : World) : (binOp .neq 61 (.agg (nmc a)) (.agg (nmc b))).run Try.prog w = .ok (.bool (!decide (a = b))) w := by
  have h := run_eqN a b w
  rw [run_eql_struct] at h
  rw [run_neq_struct]
  generalize (Op.equalIn 10000 61 (.agg (nmc a)) (.agg (nmc b))).run Try.prog w = r at *
  cases r with
  | ok v w' => simp [Result.andThen] at h ⊢; exact h
  | _ => simp [Result.andThen] at h
theorem run_neqSame (a : UInt64) (w : World) : (binOp .neq 61 (.agg (nmc a)) (.agg (nmc a))).run Try.prog w = .ok (.bool false) w := by
  rw [run_neqN]; simp
theorem KeyVal.toE {W0 w : World} {seed : UInt64} {lv : Int} {p : Option Addr} (h : KeyVal W0 seed lv p w) : Ext W0 w := h.1
def nthI (l : List Int) (k : Nat) : Int := l.getD k 0
theorem SlI.cell {w : World} {A : Option Addr} {n c : Nat} {l : List Int} (h : SlI w A n c l) (hn : 0 < n) : ∃ b o, A = some ⟨b, o, none⟩ ∧ ∀ (w' : World), Ext w w' → ∀ k, k < n → w'.cell? ⟨b, o + k, none⟩ = some (.int .i64 (nthI l k)) := by
  have hne : ics l ≠ [] := by intro h0; have := congrArg List.length h0; rw [ics_length, h.len] at this; simp at this; omega
  obtain ⟨b, o, rfl, hr, hb⟩ := h.rd.at hne
  refine ⟨b, o, rfl, fun w' he k hk => ?_⟩
  have hk' : k < (ics l).length := by rw [ics_length, h.len]; exact hk
  have hr' := rangeAt_keep hr (he.block b hb)
  have := hr' k ((ics l)[k]) (List.getElem?_eq_getElem hk')
  rw [this]
  simp [ics, iv, nthI, List.getD, h.len, hk]
def KNew (W0 : World) (seed : UInt64) (lv : Int) (P : Option Addr → Prop) (e : Ending) (w' : World) : Prop := ∃ p, P p ∧ e = .returned (.pointer p) ∧ KeyVal W0 seed lv p w'
def isNil (p : Option Addr) : Prop := p = none
def isAt (p : Option Addr) : Prop := ∃ B, p = some ⟨B, 0, none⟩
theorem knewNo (W : World) (seed : UInt64) (lv : Int) (h1 : lv ≠ 1) (h2 : lv ≠ 2) : Calls Try.prog 42 #[.agg (nmc seed), .int .i64 lv] W (KNew W seed lv isNil) :=
  (kvNew seed lv (Ext.refl W)).mono fun e w' ⟨p, he, hK⟩ => ⟨p, by
    rcases hK.2 with ⟨h, _⟩ | ⟨B, M, h, h12, _⟩
    · exact h
    · omega, he, hK⟩
theorem knewYes (W : World) (seed : UInt64) (lv : Int) (h : lv = 1 ∨ lv = 2) : Calls Try.prog 42 #[.agg (nmc seed), .int .i64 lv] W (KNew W seed lv isAt) :=
  (kvNew seed lv (Ext.refl W)).mono fun e w' ⟨p, he, hK⟩ => ⟨p, by
    rcases hK.2 with ⟨_, h1, h2⟩ | ⟨B, M, h, h12, _⟩
    · omega
    · exact ⟨B, h⟩, he, hK⟩
def KSig (W0 : World) (seed : UInt64) (lv : Int) (p : Option Addr) (s : List UInt8) (ok : Bool) (e : Ending) (w' : World) : Prop := ∃ A n c, e = .returned (.tuple #[.slice A n c, .bool ok]) ∧ SlB w' A n c s ∧ KeyVal W0 seed lv p w'
def sgV (seed : UInt64) (lv leaf : Int) (m : UInt64) : List UInt8 := (sigU seed lv leaf m).getD []
def sgO (seed : UInt64) (lv leaf : Int) (m : UInt64) : Bool := (sigU seed lv leaf m).isSome
theorem ksSign {W0 w : World} {seed : UInt64} {lv : Int} {p : Option Addr} (m : UInt64) (leaf : Int) (h : KeyVal W0 seed lv p w) : Calls Try.prog 44 #[.pointer p, .int .i64 leaf, .agg (nmc m)] w (KSig W0 seed lv p (sgV seed lv leaf m) (sgO seed lv leaf m)) := kvSign m leaf h
theorem ksSign5 {W0 w : World} {seed : UInt64} {lv : Int} {p : Option Addr} (m : UInt64) (leaf : Int) (h : KeyVal W0 seed lv p w) : Calls Try.prog 40 #[.agg (nmc seed), .int .i64 lv, .int .i64 leaf, .agg (nmc m)] w fun e w' => ∃ A n c, e = .returned (.tuple #[.slice A n c, .bool (sgO seed lv leaf m)]) ∧ SlB w' A n c (sgV seed lv leaf m) ∧ KeyVal W0 seed lv p w' ∧ Ext w w' :=
  (sign5_any seed m lv leaf w).mono fun e w' ⟨A, n, c, he, hs, hx⟩ => ⟨A, n, c, he, hs, h.ext hx, hx⟩
set_option maxRecDepth 100000 in
set_option maxHeartbeats 8000000 in
theorem mkeys_no (seed m : UInt64) (lv : Int) (hl1 : lv ≠ 1) (hl2 : lv ≠ 2) (A : Option Addr) (n c : Nat) (l : List Int) (w : World) (hl : SlI w A n c l) (hn : n ≤ 9223372036854775807) :
    Calls Try.prog 9 #[.agg (nmc seed), .int .i64 lv, .slice A n c, .agg (nmc m)] w fun e w' => e = .returned (.bool true) ∧ Ext w w' := by
  obtain ⟨W, hW⟩ : ∃ W, W = (w.alloc (.cells (nmc seed) 61)).alloc (.cells (nmc m) 61) := ⟨_, rfl⟩
  have hbs := (Blk.new w 61 (nmc seed)).alloc (.cells (nmc m) 61)
  have hbm : Blk ((w.alloc (.cells (nmc seed) 61)).alloc (.cells (nmc m) 61)) (w.heap.size + 1) 61 (nmc m) := Blk.newAt _ _ _ _ (by simp)
  have hE0 := ((Ext.refl w).alloc' (.cells (nmc seed) 61)).alloc' (.cells (nmc m) 61)
  have hrs := rangeN hbs
  have hnew : Calls Try.prog 42 #[.agg (nmc seed), .int .i64 lv] ((w.alloc (.cells (nmc seed) 61)).alloc (.cells (nmc m) 61)) (KNew W seed lv isNil) := by rw [← hW]; exact knewNo W seed lv hl1 hl2
  rw [← hW] at hbs hbm hE0
  have HNEW := Lib.hid hnew
  have HE0 := Lib.hid hE0
  have HC := Lib.hid (fun (w' : World) (hx : Ext W w') => (cells8 (hbs.ext hx) : ∀ i, i < 8 → w'.cell? ⟨w.heap.size, i, none⟩ = some (.int .u8 (nb8 seed i))))
  have HM := Lib.hid (fun (w' : World) (hx : Ext W w') => (cells8 (hbm.ext hx) : ∀ i, i < 8 → w'.cell? ⟨w.heap.size + 1, i, none⟩ = some (.int .u8 (nb8 m i))))
  have HA := Lib.hid (fun h0 => (hl.ext hE0).cell h0)
  clear hbs hbm hE0 hl hnew hW
  have d1 : (lv == 1) = false := beq_eq_false_iff_ne.2 hl1
  have d2 : (lv == 2) = false := beq_eq_false_iff_ne.2 hl2
  have d3 : decide (lv = 1) = false := by simpa using hl1
  have d4 : decide (lv = 2) = false := by simpa using hl2
  clear hl1 hl2
  go_enter Try.func9, Try.ntmps9
  go_wp2_with (first | (with_reducible refine wpList_loadN rfl (.tmp 4) rfl w.heap.size 0 rfl seed hrs ?_))
  clear hrs
  refine HNEW.out.mono ?_
  rintro e w1 ⟨p, hp, rfl, hV⟩
  unfold isNil at hp; subst hp
  have hq := fun w => run_neqSame (pubV seed lv) w
  have hX := hV.ext (Ext.refl w1).drew'
  clear hV
  go_wp2_with fail
  go_region_held3 (fun w' => (∀ i, i < 8 → w'.cell? ⟨w.heap.size, i, none⟩ = some (.int .u8 (nb8 seed i)))) (first | (with_reducible exact HC.out _ hX.toE) | fail "CELLS") (first | (go_at_call 43; (with_reducible refine (kvPublic hX).mono ?_); rintro e wv ⟨rfl, hX⟩) | (go_at_call 41; (with_reducible refine (public5_any seed lv _).mono ?_); rintro e wv ⟨rfl, hev⟩; have hX := hX.ext hev) | fail "ARM")
  all_goals (
    have HX := Lib.hid hX
    clear hX hq
    go_wp2_with fail
    go_loopw [10] (fun i wr => ∃ k : Nat, k ≤ n ∧ k ≤ 4 ∧ i = .int .i64 (k : Int) ∧ KeyVal W seed lv none wr) (fun i _ => (4 - intOf i).toNat)
    case atStart => exact ⟨0, Nat.zero_le _, Nat.zero_le _, rfl, HX.out⟩
    case round =>
      obtain ⟨k, hk, hk4, rfl, hY⟩ := hrel
      have HY := Lib.hid hY
      clear hY HX
      by_cases hlt : k < n ∧ k < 4
      · obtain ⟨h1, h2⟩ := hlt
        obtain ⟨b, o, rfl, hcell⟩ := HA.out (by omega)
        have HCE := Lib.hid hcell
        clear hcell HA
        have i0 : (0 : Int) ≤ (k : Int) := by omega
        have i1 : (k : Int) < (n : Int) := by omega
        have i2 : (k : Int) < 4 := by omega
        have HF := Lib.hid (fun (w' : World) (hx : Ext W w') => (HCE.out w' hx k h1))
        have hX := HY.out.ext (Ext.refl wr).drew'
        go_wp2_with fail
        go_region_held3 (fun w' => (∀ i, i < 8 → w'.cell? ⟨w.heap.size + 1, i, none⟩ = some (.int .u8 (nb8 m i))) ∧ w'.cell? ⟨b, o + k, none⟩ = some (.int .i64 (nthI l k))) (first | (with_reducible exact ⟨HM.out _ hX.toE, HF.out _ hX.toE⟩) | fail "CELLS") (first | (go_at_call 44; (with_reducible refine (ksSign m (nthI l k) hX).mono ?_); rintro e wv ⟨A5, n5, c5, rfl, hs5, hX⟩) | fail "ARM")
        have HX5 := Lib.hid hX
        have HS5 := Lib.hid hs5
        have hX := HX5.out.ext (Ext.refl wv).drew'
        clear hs5
        go_wp2_with fail
        go_region_held3 (fun w' => (∀ i, i < 8 → w'.cell? ⟨w.heap.size, i, none⟩ = some (.int .u8 (nb8 seed i))) ∧ (∀ i, i < 8 → w'.cell? ⟨w.heap.size + 1, i, none⟩ = some (.int .u8 (nb8 m i))) ∧ w'.cell? ⟨b, o + k, none⟩ = some (.int .i64 (nthI l k))) (first | (with_reducible exact ⟨HC.out _ hX.toE, HM.out _ hX.toE, HF.out _ hX.toE⟩) | fail "CELLS") (first | (go_at_call 40; (with_reducible refine (ksSign5 m (nthI l k) hX).mono ?_); rintro e wq ⟨A6, n6, c6, rfl, hs6, hX, hE6⟩) | fail "ARM")
        have k1 := run_strV (HS5.out.ext ((Ext.refl wv).drew'.trans hE6))
        have k2 := run_strV hs6
        have HX6 := Lib.hid hX
        clear hs6 hX hE6
        go_wp2_with fail
        go_roundw
        case rel => exact ⟨k + 1, by omega, by omega, by go_num, HX6.out⟩
        case measure => simp [intOf]; omega
      · have hd : (n : Int) ≤ (k : Int) ∨ ((k : Int) < (n : Int) ∧ (4 : Int) ≤ (k : Int)) := by omega
        clear hlt HA
        rcases hd with hd1 | ⟨hd1, hd2⟩
        all_goals (
          go_wp2_with fail
          refine (awake5_any _).mono ?_
          rintro e w7 ⟨rfl, rfl⟩
          go_wp2_with fail
          go_ret
          exact ⟨rfl, HE0.out.trans HY.out.toE⟩))
set_option maxRecDepth 100000 in
set_option maxHeartbeats 8000000 in
theorem mkeys_two (seed m : UInt64) (lv : Int) (hlv : lv = 2) (A : Option Addr) (n c : Nat) (l : List Int) (w : World) (hl : SlI w A n c l) (hn : n ≤ 9223372036854775807) :
    Calls Try.prog 9 #[.agg (nmc seed), .int .i64 lv, .slice A n c, .agg (nmc m)] w fun e w' => e = .returned (.bool true) ∧ Ext w w' := by
  obtain ⟨W, hW⟩ : ∃ W, W = (w.alloc (.cells (nmc seed) 61)).alloc (.cells (nmc m) 61) := ⟨_, rfl⟩
  have hbs := (Blk.new w 61 (nmc seed)).alloc (.cells (nmc m) 61)
  have hbm : Blk ((w.alloc (.cells (nmc seed) 61)).alloc (.cells (nmc m) 61)) (w.heap.size + 1) 61 (nmc m) := Blk.newAt _ _ _ _ (by simp)
  have hE0 := ((Ext.refl w).alloc' (.cells (nmc seed) 61)).alloc' (.cells (nmc m) 61)
  have hrs := rangeN hbs
  have hnew : Calls Try.prog 42 #[.agg (nmc seed), .int .i64 lv] ((w.alloc (.cells (nmc seed) 61)).alloc (.cells (nmc m) 61)) (KNew W seed lv isAt) := by rw [← hW]; exact knewYes W seed lv (by omega)
  rw [← hW] at hbs hbm hE0
  have HNEW := Lib.hid hnew
  have HE0 := Lib.hid hE0
  have HC := Lib.hid (fun (w' : World) (hx : Ext W w') => (cells8 (hbs.ext hx) : ∀ i, i < 8 → w'.cell? ⟨w.heap.size, i, none⟩ = some (.int .u8 (nb8 seed i))))
  have HM := Lib.hid (fun (w' : World) (hx : Ext W w') => (cells8 (hbm.ext hx) : ∀ i, i < 8 → w'.cell? ⟨w.heap.size + 1, i, none⟩ = some (.int .u8 (nb8 m i))))
  have HA := Lib.hid (fun h0 => (hl.ext hE0).cell h0)
  clear hbs hbm hE0 hl hnew hW
  have d1 : (lv == 2) = true := by rw [hlv]; rfl
  have d2 : (lv == 1) = false := by rw [hlv]; rfl
  have d3 : decide (lv = 2) = true := by rw [hlv]; rfl
  have d4 : decide (lv = 1) = false := by rw [hlv]; rfl
  clear hlv
  go_enter Try.func9, Try.ntmps9
  go_wp2_with (first | (with_reducible refine wpList_loadN rfl (.tmp 4) rfl w.heap.size 0 rfl seed hrs ?_))
  clear hrs
  refine HNEW.out.mono ?_
  rintro e w1 ⟨p, hp, rfl, hV⟩
  obtain ⟨B, rfl⟩ := hp
  have hq := fun w => run_neqSame (pubV seed lv) w
  have hX := hV.ext (Ext.refl w1).drew'
  clear hV
  go_wp2_with fail
  go_region_held3 (fun w' => (∀ i, i < 8 → w'.cell? ⟨w.heap.size, i, none⟩ = some (.int .u8 (nb8 seed i)))) (first | (with_reducible exact HC.out _ hX.toE) | fail "CELLS") (first | (go_at_call 43; (with_reducible refine (kvPublic hX).mono ?_); rintro e wv ⟨rfl, hX⟩) | (go_at_call 41; (with_reducible refine (public5_any seed lv _).mono ?_); rintro e wv ⟨rfl, hev⟩; have hX := hX.ext hev) | fail "ARM")
  all_goals (
    have HX := Lib.hid hX
    clear hX hq
    go_wp2_with fail
    go_loopw [10] (fun i wr => ∃ k : Nat, k ≤ n ∧ k ≤ 4 ∧ i = .int .i64 (k : Int) ∧ KeyVal W seed lv (some ⟨B, 0, none⟩) wr) (fun i _ => (4 - intOf i).toNat)
    case atStart => exact ⟨0, Nat.zero_le _, Nat.zero_le _, rfl, HX.out⟩
    case round =>
      obtain ⟨k, hk, hk4, rfl, hY⟩ := hrel
      have HY := Lib.hid hY
      clear hY HX
      by_cases hlt : k < n ∧ k < 4
      · obtain ⟨h1, h2⟩ := hlt
        obtain ⟨b, o, rfl, hcell⟩ := HA.out (by omega)
        have HCE := Lib.hid hcell
        clear hcell HA
        have i0 : (0 : Int) ≤ (k : Int) := by omega
        have i1 : (k : Int) < (n : Int) := by omega
        have i2 : (k : Int) < 4 := by omega
        have HF := Lib.hid (fun (w' : World) (hx : Ext W w') => (HCE.out w' hx k h1))
        have hX := HY.out.ext (Ext.refl wr).drew'
        go_wp2_with fail
        go_region_held3 (fun w' => (∀ i, i < 8 → w'.cell? ⟨w.heap.size + 1, i, none⟩ = some (.int .u8 (nb8 m i))) ∧ w'.cell? ⟨b, o + k, none⟩ = some (.int .i64 (nthI l k))) (first | (with_reducible exact ⟨HM.out _ hX.toE, HF.out _ hX.toE⟩) | fail "CELLS") (first | (go_at_call 44; (with_reducible refine (ksSign m (nthI l k) hX).mono ?_); rintro e wv ⟨A5, n5, c5, rfl, hs5, hX⟩) | fail "ARM")
        have HX5 := Lib.hid hX
        have HS5 := Lib.hid hs5
        have hX := HX5.out.ext (Ext.refl wv).drew'
        clear hs5
        go_wp2_with fail
        go_region_held3 (fun w' => (∀ i, i < 8 → w'.cell? ⟨w.heap.size, i, none⟩ = some (.int .u8 (nb8 seed i))) ∧ (∀ i, i < 8 → w'.cell? ⟨w.heap.size + 1, i, none⟩ = some (.int .u8 (nb8 m i))) ∧ w'.cell? ⟨b, o + k, none⟩ = some (.int .i64 (nthI l k))) (first | (with_reducible exact ⟨HC.out _ hX.toE, HM.out _ hX.toE, HF.out _ hX.toE⟩) | fail "CELLS") (first | (go_at_call 40; (with_reducible refine (ksSign5 m (nthI l k) hX).mono ?_); rintro e wq ⟨A6, n6, c6, rfl, hs6, hX, hE6⟩) | fail "ARM")
        have k1 := run_strV (HS5.out.ext ((Ext.refl wv).drew'.trans hE6))
        have k2 := run_strV hs6
        have HX6 := Lib.hid hX
        clear hs6 hX hE6
        go_wp2_with fail
        go_roundw
        case rel => exact ⟨k + 1, by omega, by omega, by go_num, HX6.out⟩
        case measure => simp [intOf]; omega
      · have hd : (n : Int) ≤ (k : Int) ∨ ((k : Int) < (n : Int) ∧ (4 : Int) ≤ (k : Int)) := by omega
        clear hlt HA
        rcases hd with hd1 | ⟨hd1, hd2⟩
        all_goals (
          go_wp2_with fail
          refine (awake5_any _).mono ?_
          rintro e w7 ⟨rfl, rfl⟩
          go_wp2_with fail
          go_ret
          exact ⟨rfl, HE0.out.trans HY.out.toE⟩))
end Go.Proofs.Ytengpfpeeihaoaa
