/- Duplicate where there is a network. -/
import Derived.Test.YtengpfpeeihaoaaNet13
namespace Go.Proofs.Ytengpfpeeihaoaa
open Go.RowKit
set_option linter.unusedVariables false
set_option linter.unusedSimpArgs false

set_option maxRecDepth 100000 in
set_option maxHeartbeats 2000000 in
theorem duplicate_no (i : Int) (base b : Nat) (p : Int) (A : Option Addr) (n c : Nat) (L : List Pc) (w : World) (hN : Net w base b p A n c L) (hi : i < 0 ∨ (n : Int) ≤ i) (hn : n ≤ 4096) :
    Calls Try.prog 22 #[.pointer (some ⟨b, 0, none⟩), .int .i64 i] w fun e w' => e = .returned (.int .i64 6) ∧ Ext w w' := by
  have HG := Lib.hid (get_no i base b p A n c L w hN hn hi)
  clear hN hi
  go_enter Try.func22, Try.ntmps22
  go_wp2_with fail
  refine HG.out.mono ?_
  rintro e w1 ⟨rfl, he1⟩
  go_wp2_with fail
  go_ret
  exact ⟨rfl, he1.alloc' _⟩
set_option maxRecDepth 100000 in
set_option maxHeartbeats 2000000 in
theorem duplicate_full (i : Nat) (base b : Nat) (p : Int) (A : Option Addr) (n c : Nat) (L : List Pc) (l : List UInt8) (w : World) (hN : Net w base b p A n c L) (hi : i < n) (hn : n = 4096)
    (hs : SlB w (nthP L i).a (nthP L i).n (nthP L i).c l) (hm : (nthP L i).n ≤ 140737488355328) :
    Calls Try.prog 22 #[.pointer (some ⟨b, 0, none⟩), .int .i64 (i : Int)] w fun e w' => e = .returned (.int .i64 5) ∧ Ext w w' := by
  have HG := Lib.hid (get_ok i base b p A n c L l w hN hi (by omega) hs hm)
  have HN := Lib.hid hN
  have hn2 : (4096 : Int) ≤ (n : Int) := by omega
  generalize (nthP L i).f = f at *
  generalize (nthP L i).t = t at *
  generalize (nthP L i).a = a at *
  generalize (nthP L i).n = m at *
  generalize (nthP L i).c = k at *
  clear hN hn
  go_enter Try.func22, Try.ntmps22
  go_wp2_with fail
  refine HG.out.mono ?_
  rintro e w1 ⟨a1, k1, rfl, hO1, he1⟩
  have c1 : (w1.alloc (.cells (pcs f t a1 m k1) 35)).cell? ⟨b, 1, none⟩ = some (.slice A n c) := (HN.out.ext (he1.alloc' _)).blk.cell 1
  go_wp2_with fail
  go_ret
  exact ⟨rfl, he1.alloc' _⟩
set_option maxRecDepth 100000 in
set_option maxHeartbeats 2000000 in
theorem duplicate_ok (i : Nat) (base b : Nat) (p : Int) (A : Option Addr) (n c : Nat) (L : List Pc) (l : List UInt8) (w : World) (hN : Net w base b p A n c L) (hi : i < n) (hn : n < 4096)
    (hs : SlB w (nthP L i).a (nthP L i).n (nthP L i).c l) (hm : (nthP L i).n ≤ 140737488355328) :
    Calls Try.prog 22 #[.pointer (some ⟨b, 0, none⟩), .int .i64 (i : Int)] w fun e w' => ∃ a' k' A' c', e = .returned (.int .i64 0) ∧ Net w' base b p A' (n + 1) c' (L ++ [⟨(nthP L i).f, (nthP L i).t, a', (nthP L i).n, k'⟩]) ∧ OwnB w' w.heap.size 5 a' (nthP L i).n k' l ∧ Below base w w' ∧ Kept w w' b (Value.ownBlock (.slice A n c)) := by
  have HG := Lib.hid (get_ok i base b p A n c L l w hN hi (by omega) hs hm)
  have HN0 := Lib.hid hN
  have hn2 : decide ((4096 : Int) ≤ (n : Int)) = false := decide_eq_false (by omega)
  generalize (nthP L i).f = f at *
  generalize (nthP L i).t = t at *
  generalize (nthP L i).a = a at *
  generalize (nthP L i).n = m at *
  generalize (nthP L i).c = k at *
  clear hN
  go_enter Try.func22, Try.ntmps22
  go_wp2_with fail
  refine HG.out.mono ?_
  rintro e w1 ⟨a1, k1, rfl, hO1, he1⟩
  have hE1 := he1.alloc' (.cells (pcs f t a1 m k1) 35)
  have hbx := Blk.new w1 35 (pcs f t a1 m k1)
  have hO := hO1.ext ((Ext.refl w1).alloc' (.cells (pcs f t a1 m k1) 35))
  have c1 : (w1.alloc (.cells (pcs f t a1 m k1) 35)).cell? ⟨b, 1, none⟩ = some (.slice A n c) := (HN0.out.ext hE1).blk.cell 1
  go_wp2_with fail
  clear c1
  generalize (w1.alloc (.cells (pcs f t a1 m k1) 35)) = W at *
  have HN1 := Lib.hid (HN0.out.ext hE1.drew')
  have hbd : Blk W.drew w1.heap.size 35 (pcs f t a1 m k1) := hbx.drew
  have c1 : W.drew.cell? ⟨b, 1, none⟩ = some (.slice A n c) := HN1.out.blk.cell 1
  have d0 : W.drew.cell? ⟨w1.heap.size, 0, none⟩ = some (.int .i64 f) := hbd.cell 0
  have d1 : W.drew.cell? ⟨w1.heap.size, 1, none⟩ = some (.int .i64 t) := hbd.cell 1
  have d2 : W.drew.cell? ⟨w1.heap.size, 2, none⟩ = some (.slice a1 m k1) := hbd.cell 2
  have g2 : (W.alloc (.cells #[.int .i64 f, .int .i64 t, .slice a1 m k1] 35)).cell? ⟨b, 1, none⟩ = some (.slice A n c) := ((HN0.out.ext hE1).blk.alloc _).cell 1
  have HB := Lib.hid (show base ≤ W.heap.size + 1 from by have := (HN0.out.ext hE1).blk.lt; have := HN0.out.le; omega)
  go_region_law ((refine step_appG parcelsE rfl (.tmp 29) (.tmp 31) rfl base A n c (rowP L) (by rfl) (own_ext HN1.out.own ((Ext.refl _).alloc' _)) (some ⟨W.heap.size, 0, none⟩) 1 1 (rowP [⟨f, t, a1, m, k1⟩]) (by rfl) (Rd.of_blk (Blk.new _ _ _)) (by rw [rowP_length]; rfl) (rowP_one' _) (by omega) (by omega) (by have := HB.out; simpa using this) ?_; intro A2 c2 w2 hO2 hg2; have hb2 := (HN1.out.blk.alloc _).grown hg2 (Ne.symm HN1.out.ne); have q1 : w2.cell? ⟨b, 1, none⟩ = some (.slice A n c) := hb2.cell 1; have q2 := hb2.frozen 1))
  all_goals go_wp2_with fail
  all_goals go_ret
  all_goals exact ⟨a1, k1, A2, c2, rfl, send_end HN0.out hE1.drew' (Nat.le_refl _) hO.drew hg2 hO2⟩
end Go.Proofs.Ytengpfpeeihaoaa
