/- The reference's network: Duplicate. -/
import Derived.Test.YtengpfpeeihaoaaR4
import Derived.Test.YtengpfpeeihaoaaRS
namespace Go.Proofs.Ytengpfpeeihaoaa
open Go.RowKit
set_option linter.unusedVariables false
set_option linter.unusedSimpArgs false

set_option maxRecDepth 100000 in
set_option maxHeartbeats 2000000 in
theorem rdup_no (i : Int) (base b : Nat) (p : Int) (A : Option Addr) (n c : Nat) (L : List Pc) (w : World) (hN : RNet w base b p A n c L) (hi : i < 0 ∨ (n : Int) ≤ i) (hn : n ≤ 4096) :
    Calls Try.prog 30 #[.pointer (some ⟨b, 0, none⟩), .int .i64 i] w fun e w' => e = .returned (.int .i64 6) ∧ w = w' := by
  have c1 : w.cell? ⟨b, 1, none⟩ = some (.slice A n c) := hN.blk.cell 1
  clear hN
  by_cases h0 : i < 0
  · clear hi
    go_enter Try.func30, Try.ntmps30
    go_wp2_with fail
    go_ret
    exact ⟨rfl, rfl⟩
  · have h1 : (0 : Int) ≤ i := by omega
    have h2 : (n : Int) ≤ i := by omega
    clear hi h0
    go_enter Try.func30, Try.ntmps30
    go_wp2_with fail
    go_ret
    exact ⟨rfl, rfl⟩
set_option maxRecDepth 100000 in
set_option maxHeartbeats 2000000 in
theorem rdup_ok (i : Nat) (base b : Nat) (p : Int) (A : Option Addr) (n c : Nat) (L : List Pc) (l : List UInt8) (w : World) (hN : RNet w base b p A n c L) (hi : i < n) (hn : n < 4096)
    (hs : SlB w (nthP L i).a (nthP L i).n (nthP L i).c l) (hm : (nthP L i).n ≤ 140737488355328) (hsd : 0 ≤ (nthP L i).f ∧ (nthP L i).f < p ∧ 0 ≤ (nthP L i).t ∧ (nthP L i).t < p) :
    Calls Try.prog 30 #[.pointer (some ⟨b, 0, none⟩), .int .i64 (i : Int)] w fun e w' => ∃ a' k' A' c', e = .returned (.int .i64 0) ∧ RNet w' base b p A' (n + 1) c' (L ++ [⟨(nthP L i).f, (nthP L i).t, a', (nthP L i).n, k'⟩]) ∧ OwnB w' w.heap.size 5 a' (nthP L i).n k' l ∧ Below base w w' ∧ Kept w w' b (Value.ownBlock (.slice A n c)) := by
  have HS := Lib.hid (rsend_ok base b p A n c L (nthP L i).f (nthP L i).t (nthP L i).a (nthP L i).n (nthP L i).c l w hN hs hm hsd.1 hsd.2.1 hsd.2.2.1 hsd.2.2.2 hn)
  have c1 : w.cell? ⟨b, 1, none⟩ = some (.slice A n c) := hN.blk.cell 1
  have hlen := hN.len
  obtain ⟨g, rfl, hgb, hg, _⟩ := rown_at3 hN.own (by omega)
  obtain ⟨e0, e1, e2⟩ := own_cells3 hN.own (by omega : i < L.length)
  generalize (nthP L i).f = f at *
  generalize (nthP L i).t = t at *
  generalize (nthP L i).a = a at *
  generalize (nthP L i).n = m at *
  generalize (nthP L i).c = k at *
  have i0 : (0 : Int) ≤ (i : Int) := by omega
  have i1 : (i : Int) < (n : Int) := by omega
  clear hN hlen
  go_enter Try.func30, Try.ntmps30
  go_wp2_with fail
  refine HS.out.mono ?_
  rintro e w1 ⟨a1, k1, A1, c2, rfl, h1, h2, h3, h4⟩
  go_wp2_with fail
  go_ret
  exact ⟨a1, k1, A1, c2, rfl, h1, h2, h3, h4⟩
end Go.Proofs.Ytengpfpeeihaoaa
