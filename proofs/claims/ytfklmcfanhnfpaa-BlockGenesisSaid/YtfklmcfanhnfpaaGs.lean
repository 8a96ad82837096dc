/- SameNames, SameInts, SameGenesis, where the two are equal. -/
import Derived.Test.YtfklmcfanhnfpaaGd2
namespace Go.Proofs.Ytfklmcfanhnfpaa
open Go.RowKit
set_option linter.unusedVariables false
set_option linter.unusedSimpArgs false
attribute [local go_sem ↓] Go.wp_at_zero Go.wp_at_succ

set_option maxRecDepth 100000 in
set_option maxHeartbeats 4000000 in
theorem sameNames_yes (A A' : Option Addr) (n c c' : Nat) (ns : List UInt64) (w : World) (hS : SlN w A n c ns) (hS' : SlN w A' n c' ns) :
    Calls Try.prog 65 #[.slice A n c, .slice A' n c'] w fun e w' => e = .returned (.bool true) ∧ Ext w w' := by
  have HLEN := Lib.hid hS.len
  have hle := hS.le
  have hcap := hS.cap
  rcases Nat.eq_zero_or_pos n with rfl | hn0
  · clear hS hS'
    go_enter Try.func65, Try.ntmps65
    go_wp2_with fail
    go_loopw [5] (fun i wr => i = .int .i64 0 ∧ w = wr) (fun i _ => 0)
    case atStart => exact ⟨rfl, rfl⟩
    case round =>
      obtain ⟨rfl, rfl⟩ := hrel
      go_wp2_with fail
      go_ret
      exact ⟨rfl, Ext.refl _⟩
  · obtain ⟨b, o, rfl, hr, hb⟩ := hS.at hn0
    obtain ⟨b', o', rfl, hr', hb'⟩ := hS'.at hn0
    have HR := Lib.hid hr
    have HR' := Lib.hid hr'
    have HBl := Lib.hid hb
    have HBl' := Lib.hid hb'
    clear hr hr' hb hb' hS hS'
    go_enter Try.func65, Try.ntmps65
    go_wp2_with fail
    go_loopw [5] (fun i wr => ∃ k : Nat, k ≤ n ∧ i = .int .i64 (k : Int) ∧ Ext w wr) (fun i _ => n - (intOf i).toNat)
    case atStart => exact ⟨0, Nat.zero_le _, rfl, Ext.refl _⟩
    case round =>
      obtain ⟨k, hk, rfl, hX⟩ := hrel
      have HX := Lib.hid hX
      clear hX
      by_cases hlt : k < n
      · have a1 := cells8At (nm_at (rangeAt_keep HR.out (HX.out.block b HBl.out)) (k := k) (by rw [HLEN.out]; exact hlt))
        have b1 := cells8At (nm_at (rangeAt_keep HR'.out (HX.out.block b' HBl'.out)) (k := k) (by rw [HLEN.out]; exact hlt))
        have a0 := a1 0 (by omega)
        have b0 := b1 0 (by omega)
        rw [Nat.add_zero] at a0 b0
        have hq := run_neqSame' (nmN ns k)
        have i0 : (0 : Int) ≤ (k : Int) := by omega
        have i1 : (k : Int) < (n : Int) := by omega
        generalize nmN ns k = v at *
        go_wp2_with fail
        go_quiet (fail)
        go_wp2_with fail
        go_roundw
        case rel => exact ⟨k + 1, by omega, by go_num, HX.out.trans (drewN_ext _ _)⟩
        case measure => simp [intOf]; omega
      · obtain rfl : k = n := by omega
        go_wp2_with fail
        go_ret
        exact ⟨rfl, HX.out⟩
set_option maxRecDepth 100000 in
set_option maxHeartbeats 4000000 in
theorem sameInts_yes (A A' : Option Addr) (n c c' : Nat) (l : List Int) (w : World) (hS : SlZ w A n c l) (hS' : SlZ w A' n c' l) :
    Calls Try.prog 66 #[.slice A n c, .slice A' n c'] w fun e w' => e = .returned (.bool true) ∧ Ext w w' := by
  have HLEN := Lib.hid hS.len
  have hle := hS.le
  have hcap := hS.cap
  rcases Nat.eq_zero_or_pos n with rfl | hn0
  · clear hS hS'
    go_enter Try.func66, Try.ntmps66
    go_wp2_with fail
    go_loopw [5] (fun i wr => i = .int .i64 0 ∧ w = wr) (fun i _ => 0)
    case atStart => exact ⟨rfl, rfl⟩
    case round =>
      obtain ⟨rfl, rfl⟩ := hrel
      go_wp2_with fail
      go_ret
      exact ⟨rfl, Ext.refl _⟩
  · obtain ⟨b, o, rfl, hr, hb⟩ := hS.at hn0
    obtain ⟨b', o', rfl, hr', hb'⟩ := hS'.at hn0
    have HR := Lib.hid hr
    have HR' := Lib.hid hr'
    have HBl := Lib.hid hb
    have HBl' := Lib.hid hb'
    clear hr hr' hb hb' hS hS'
    go_enter Try.func66, Try.ntmps66
    go_wp2_with fail
    go_loopw [5] (fun i wr => ∃ k : Nat, k ≤ n ∧ i = .int .i64 (k : Int) ∧ Ext w wr) (fun i _ => n - (intOf i).toNat)
    case atStart => exact ⟨0, Nat.zero_le _, rfl, Ext.refl _⟩
    case round =>
      obtain ⟨k, hk, rfl, hX⟩ := hrel
      have HX := Lib.hid hX
      clear hX
      by_cases hlt : k < n
      · have a1 := int_at (rangeAt_keep HR.out (HX.out.block b HBl.out)) (k := k) (by rw [HLEN.out]; exact hlt)
        have b1 := int_at (rangeAt_keep HR'.out (HX.out.block b' HBl'.out)) (k := k) (by rw [HLEN.out]; exact hlt)
        have i0 : (0 : Int) ≤ (k : Int) := by omega
        have i1 : (k : Int) < (n : Int) := by omega
        generalize nthZ l k = v at *
        go_wp2_with fail
        go_quiet (fail)
        go_wp2_with fail
        go_roundw
        case rel => exact ⟨k + 1, by omega, by go_num, HX.out.trans (drewN_ext _ _)⟩
        case measure => simp [intOf]; omega
      · obtain rfl : k = n := by omega
        go_wp2_with fail
        go_ret
        exact ⟨rfl, HX.out⟩
set_option maxRecDepth 100000 in
set_option maxHeartbeats 4000000 in
theorem sameGenesis_yes (N Z : Int) (A1 : Option Addr) (n1 c1 : Nat) (A2 : Option Addr) (n2 c2 : Nat) (A3 : Option Addr) (n3 c3 : Nat) (B1 : Option Addr) (d1 : Nat) (B2 : Option Addr) (d2 : Nat) (B3 : Option Addr) (d3 : Nat) (V Ac : List UInt64) (Bl : List Int) (w : World)
    (h1 : SlN w A1 n1 c1 V) (h2 : SlN w A2 n2 c2 Ac) (h3 : SlZ w A3 n3 c3 Bl) (k1 : SlN w B1 n1 d1 V) (k2 : SlN w B2 n2 d2 Ac) (k3 : SlZ w B3 n3 d3 Bl) :
    Calls Try.prog 29 #[.agg (genC N Z A1 n1 c1 A2 n2 c2 A3 n3 c3), .agg (genC N Z B1 n1 d1 B2 n2 d2 B3 n3 d3)] w fun e w' => e = .returned (.bool true) ∧ Ext w w' := by
  have hE := ((Ext.refl w).alloc' (.cells (genC N Z A1 n1 c1 A2 n2 c2 A3 n3 c3) 50)).alloc' (.cells (genC N Z B1 n1 d1 B2 n2 d2 B3 n3 d3) 50)
  have HE := Lib.hid hE
  have HN1 := Lib.hid (sameNames_yes A1 B1 n1 c1 d1 V _ (h1.ext hE) (k1.ext hE))
  have HN2 := Lib.hid (fun (W : World) (h : Ext w W) => sameNames_yes A2 B2 n2 c2 d2 Ac W (h2.ext h) (k2.ext h))
  have HN3 := Lib.hid (fun (W : World) (h : Ext w W) => sameInts_yes A3 B3 n3 c3 d3 Bl W (h3.ext h) (k3.ext h))
  have HBa := Lib.hid ((Blk.new w 50 (genC N Z A1 n1 c1 A2 n2 c2 A3 n3 c3)).alloc (.cells (genC N Z B1 n1 d1 B2 n2 d2 B3 n3 d3) 50))
  have HBb := Lib.hid (show Blk ((w.alloc (.cells (genC N Z A1 n1 c1 A2 n2 c2 A3 n3 c3) 50)).alloc (.cells (genC N Z B1 n1 d1 B2 n2 d2 B3 n3 d3) 50)) (w.heap.size + 1) 50 (genC N Z B1 n1 d1 B2 n2 d2 B3 n3 d3) from Blk.newAt _ _ _ _ (by simp))
  clear h1 h2 h3 k1 k2 k3 hE
  go_enter Try.func29, Try.ntmps29
  go_wp2_with fail
  refine HN1.out.mono ?_
  rintro e w1 ⟨rfl, he1⟩
  have q3 : w1.cell? ⟨w.heap.size, 3, none⟩ = some (.slice A2 n2 c2) := (HBa.out.ext he1).cell 3
  have r3 : w1.cell? ⟨w.heap.size + 1, 3, none⟩ = some (.slice B2 n2 d2) := (HBb.out.ext he1).cell 3
  have HX1 := Lib.hid (HE.out.trans he1)
  have HC1 := Lib.hid (HBa.out.ext he1)
  have HD1 := Lib.hid (HBb.out.ext he1)
  clear he1
  go_wp2_with fail
  refine (HN2.out _ HX1.out).mono ?_
  rintro e w2 ⟨rfl, he2⟩
  have q4 : w2.cell? ⟨w.heap.size, 4, none⟩ = some (.slice A3 n3 c3) := (HC1.out.ext he2).cell 4
  have r4 : w2.cell? ⟨w.heap.size + 1, 4, none⟩ = some (.slice B3 n3 d3) := (HD1.out.ext he2).cell 4
  have HX2 := Lib.hid (HX1.out.trans he2)
  clear he2 q3 r3
  go_wp2_with fail
  refine (HN3.out _ HX2.out).mono ?_
  rintro e w3 ⟨rfl, he3⟩
  go_wp2_with fail
  go_ret
  exact ⟨rfl, HX2.out.trans he3⟩
end Go.Proofs.Ytfklmcfanhnfpaa
