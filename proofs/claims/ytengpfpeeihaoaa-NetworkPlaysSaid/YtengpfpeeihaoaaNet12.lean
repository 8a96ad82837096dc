/- Get where there is a network. -/
import Derived.Test.YtengpfpeeihaoaaNet11
namespace Go.Proofs.Ytengpfpeeihaoaa
open Go.RowKit
set_option linter.unusedVariables false
set_option linter.unusedSimpArgs false

theorem own_at3 {w : World} {base : Nat} {A : Option Addr} {n c : Nat} {L : List Pc} (h : w.ownsRow base 35 3 (.slice A n c) n (rowP L)) (hn : 0 < n) : ∃ g, A = some ⟨g, 0, none⟩ ∧ base ≤ g ∧ g < w.heap.size ∧ w.rangeAt g 0 (rowP L) := by
  have hl := h.1
  rcases h.2 with ⟨hv, h0⟩ | ⟨g, cap, cur, hv, hb, hh, _⟩
  · omega
  · injection hv with hA; subst hA
    refine ⟨g, rfl, hb, (Array.getElem?_eq_some_iff.1 hh).1, fun j v hj => ?_⟩
    have := h.cells (g := g) rfl j v hj
    rwa [Addr.add_mid] at this

set_option maxRecDepth 100000 in
set_option maxHeartbeats 2000000 in
theorem get_ok (i : Nat) (base b : Nat) (p : Int) (A : Option Addr) (n c : Nat) (L : List Pc) (l : List UInt8) (w : World) (hN : Net w base b p A n c L) (hi : i < n) (hn : n ≤ 4096)
    (hs : SlB w (nthP L i).a (nthP L i).n (nthP L i).c l) (hm : (nthP L i).n ≤ 140737488355328) :
    Calls Try.prog 21 #[.pointer (some ⟨b, 0, none⟩), .int .i64 (i : Int)] w fun e w' => ∃ a' c', e = .returned (.tuple #[pcv (nthP L i).f (nthP L i).t a' (nthP L i).n c', .bool true]) ∧ OwnB w' w.heap.size 5 a' (nthP L i).n c' l ∧ Ext w w' := by
  have hE0 : Ext w (w.alloc (.cells (pcs 0 0 none 0 0) 35)) := (Ext.refl w).alloc' _
  have hlen := hN.len
  have hbb := Blk.new w 35 (pcs 0 0 none 0 0)
  have hN0 := hN.ext hE0
  obtain ⟨g, rfl, hgb, hg, hra⟩ := own_at3 hN0.own (by omega)
  obtain ⟨e0, e1, e2⟩ := cellsP hra (k := i) (by omega)
  have hs0 := hs.ext hE0
  have HN := Lib.hid hN0
  have c1 : (w.alloc (.cells (pcs 0 0 none 0 0) 35)).cell? ⟨b, 1, none⟩ = some (.slice (some ⟨g, 0, none⟩) n c) := hN0.blk.cell 1
  generalize (nthP L i).f = f at *
  generalize (nthP L i).t = t at *
  generalize (nthP L i).a = a at *
  generalize (nthP L i).n = m at *
  generalize (nthP L i).c = k at *
  have i0 : (0 : Int) ≤ (i : Int) := by omega
  have i1 : (i : Int) < (n : Int) := by omega
  clear hN hra hN0 hlen
  go_enter Try.func21, Try.ntmps21
  go_wp2_with (go_at_call 25; refine (len_any _ _ _ _ _ _ _ _ HN.out).mono ?_; rintro e w1 ⟨rfl, rfl⟩)
  refine (clone_any f t a m k l _ hs0 hm).mono ?_
  rintro e w1 ⟨a1, k1, rfl, hO1, he1⟩
  have hb1 := hbb.ext he1
  have z0 : w1.cell? ⟨w.heap.size, 0, none⟩ = some (.int .i64 0) := hb1.cell 0
  have z1 : w1.cell? ⟨w.heap.size, 1, none⟩ = some (.int .i64 0) := hb1.cell 1
  have z2 : w1.cell? ⟨w.heap.size, 2, none⟩ = some (.slice none 0 0) := hb1.cell 2
  have f0 := hb1.frozen 0
  have f1 := hb1.frozen 1
  have f2 := hb1.frozen 2
  go_wp2_with fail
  have hsz : w.heap.size < (w.alloc (.cells (pcs 0 0 none 0 0) 35)).heap.size := by simp
  refine bodyPost_ret (v := .tuple #[pcv f t a1 m k1, .bool true]) (retPV rfl _ _ w.heap.size f t a1 m k1 _ rfl rfl (((hb1.set 0 _).set 1 _).set 2 _)) rfl ⟨a1, k1, rfl, ?_, Below.setCell (Below.setCell (Below.setCell (hE0.trans he1) (Nat.le_refl _) _) (Nat.le_refl _) _) (Nat.le_refl _) _⟩
  unfold OwnB at hO1 ⊢
  exact own_mono (ownsRow_setCell_below (ownsRow_setCell_below (ownsRow_setCell_below hO1 hsz _) hsz _) hsz _) hE0.size
set_option maxRecDepth 100000 in
set_option maxHeartbeats 2000000 in
theorem get_no (i : Int) (base b : Nat) (p : Int) (A : Option Addr) (n c : Nat) (L : List Pc) (w : World) (hN : Net w base b p A n c L) (hn : n ≤ 4096) (hi : i < 0 ∨ (n : Int) ≤ i) :
    Calls Try.prog 21 #[.pointer (some ⟨b, 0, none⟩), .int .i64 i] w fun e w' => e = .returned (.tuple #[pcv 0 0 none 0 0, .bool false]) ∧ Ext w w' := by
  have HN := Lib.hid (hN.ext ((Ext.refl w).alloc' (.cells (pcs 0 0 none 0 0) 35)))
  clear hN
  by_cases h0 : i < 0
  · clear hi
    go_enter Try.func21, Try.ntmps21
    go_wp2_with fail
    refine bodyPost_ret (v := .tuple #[pcv 0 0 none 0 0, .bool false]) (retPV rfl _ _ w.heap.size 0 0 none 0 0 _ rfl rfl (Blk.new _ _ _)) rfl ⟨rfl, (Ext.refl w).alloc' _⟩
  · have h1 : (0 : Int) ≤ i := by omega
    have h2 : (n : Int) ≤ i := by omega
    clear hi h0
    go_enter Try.func21, Try.ntmps21
    go_wp2_with (go_at_call 25; refine (len_any _ _ _ _ _ _ _ _ HN.out).mono ?_; rintro e w1 ⟨rfl, rfl⟩)
    refine bodyPost_ret (v := .tuple #[pcv 0 0 none 0 0, .bool false]) (retPV rfl _ _ w.heap.size 0 0 none 0 0 _ rfl rfl (Blk.new _ _ _)) rfl ⟨rfl, (Ext.refl w).alloc' _⟩
end Go.Proofs.Ytengpfpeeihaoaa
