/- The reference's network: Send. (The region of the last statement draws its order: some seventy orders, six minutes.) -/
import Derived.Test.YtengpfpeeihaoaaR1
import Derived.Deep.RegionLaw
namespace Go.Proofs.Ytengpfpeeihaoaa
open Go.RowKit
set_option linter.unusedVariables false
set_option linter.unusedSimpArgs false

set_option maxRecDepth 100000 in
set_option maxHeartbeats 40000000 in
theorem rsend_ok (base b : Nat) (p : Int) (A : Option Addr) (n c : Nat) (L : List Pc) (f t : Int) (a : Option Addr) (m k : Nat) (l : List UInt8) (w : World)
    (hN : RNet w base b p A n c L) (hs : SlB w a m k l) (hm : m ≤ 140737488355328) (hf0 : 0 ≤ f) (hf1 : f < p) (ht0 : 0 ≤ t) (ht1 : t < p) (hn : n < 4096) :
    Calls Try.prog 27 #[.pointer (some ⟨b, 0, none⟩), pcv f t a m k] w fun e w' => ∃ a' k' A' c', e = .returned (.int .i64 0) ∧ RNet w' base b p A' (n + 1) c' (L ++ [⟨f, t, a', m, k'⟩]) ∧ OwnB w' w.heap.size 5 a' m k' l ∧ Below base w w' ∧ Kept w w' b (Value.ownBlock (.slice A n c)) := by
  have hlt := hN.blk.lt
  have e1 : decide (f < 0) = false := decide_eq_false (by omega)
  have e2 : decide (t < 0) = false := decide_eq_false (by omega)
  have e3 : decide (p ≤ f) = false := decide_eq_false (by omega)
  have e4 : decide (p ≤ t) = false := decide_eq_false (by omega)
  have e5 : decide ((4096 : Int) ≤ (n : Int)) = false := decide_eq_false (by omega)
  have hE0 : Ext w (w.alloc (.cells (pcs f t a m k) 48)) := (Ext.refl w).alloc' _
  have hbx := Blk.new w 48 (pcs f t a m k)
  go_enter Try.func27, Try.ntmps27
  go_wp2_with fail
  generalize w.alloc (.cells (pcs f t a m k) 48) = W0 at *
  have hNe := hN.ext hE0
  have c0 : W0.cell? ⟨b, 0, none⟩ = some (.int .i64 p) := hNe.blk.cell 0
  have c1 : W0.cell? ⟨b, 1, none⟩ = some (.slice A n c) := hNe.blk.cell 1
  have d0 : W0.cell? ⟨w.heap.size, 0, none⟩ = some (.int .i64 f) := hbx.cell 0
  have d1 : W0.cell? ⟨w.heap.size, 1, none⟩ = some (.int .i64 t) := hbx.cell 1
  go_quiet (fail)
  go_wp2_with fail
  have hE1 : Ext w (W0.drewN nq).drew := Ext.drew' (below_drewN hE0 _)
  have HN := Lib.hid (hN.ext hE1)
  have HS := Lib.hid (hs.ext hE1)
  have hbx1 : Blk (W0.drewN nq).drew w.heap.size 48 (pcs f t a m k) := hbx.ext (Ext.drew' (below_drewN (Ext.refl _) _))
  generalize W0.drewN nq = W1 at *
  clear c0 c1 d0 d1
  have c1 : W1.drew.cell? ⟨b, 1, none⟩ = some (.slice A n c) := HN.out.blk.cell 1
  have d0 : W1.drew.cell? ⟨w.heap.size, 0, none⟩ = some (.int .i64 f) := hbx1.cell 0
  have d1 : W1.drew.cell? ⟨w.heap.size, 1, none⟩ = some (.int .i64 t) := hbx1.cell 1
  have d2 : W1.drew.cell? ⟨w.heap.size, 2, none⟩ = some (.slice a m k) := hbx1.cell 2
  have HN0 := Lib.hid hN
  have HE1 := Lib.hid hE1
  clear e1 e2 e3 e4 e5 hf0 hf1 ht0 ht1 hNe hbx hE0 hs hN hlt hE1
  have HB := Lib.hid (show base ≤ W1.heap.size from by have := HN.out.blk.lt; have := HN.out.le; show base ≤ W1.drew.heap.size; omega)
  go_region_law (first | (refine step_appB (o := ⟨some 48, _, _, _, _, _⟩) bytesE rfl (.const (.slice none 0 0)) (.tmp 47) rfl W1.drew.heap.size none 0 0 [] (by rfl) (OwnB.nil _ _ _) a m k l (by rfl) HS.out (by omega) (Nat.le_refl _) W1.drew (Ext.refl _) ?_; intro a1 k1 w1 hO1' he1 hs1; have hO1 : OwnB w1 W1.drew.heap.size 5 a1 m k1 l := (by simpa using hO1'); have HN1 := Lib.hid (HN.out.ext he1); have hb1 := hbx1.ext he1; have y0 : w1.cell? ⟨w.heap.size, 0, none⟩ = some (.int .i64 f) := hb1.cell 0; have y1 : w1.cell? ⟨w.heap.size, 1, none⟩ = some (.int .i64 t) := hb1.cell 1; have g1 : w1.cell? ⟨b, 1, none⟩ = some (.slice A n c) := HN1.out.blk.cell 1; have g2 : (w1.alloc (.cells #[.int .i64 f, .int .i64 t, .slice a1 m k1] 48)).cell? ⟨b, 1, none⟩ = some (.slice A n c) := (HN1.out.blk.alloc _).cell 1) | (refine step_appG (o := ⟨some 51, _, _, _, _, _⟩) rparcelsE rfl (.tmp 41) (.tmp 50) rfl base A n c (rowP L) (by rfl) (own_ext HN1.out.own ((Ext.refl _).alloc' _)) (some ⟨w1.heap.size, 0, none⟩) 1 1 (rowP [⟨f, t, a1, m, k1⟩]) (by rfl) (Rd.of_blk (Blk.new _ _ _)) (by rw [rowP_length]; rfl) (rowP_one' _) (by omega) (by omega) (Nat.le_trans HN1.out.le (by simp; have := HN1.out.blk.lt; omega)) ?_; intro A2 c2 w2 hO2 hg2; have hb2 := (HN1.out.blk.alloc _).grown hg2 (Ne.symm HN1.out.ne); have q1 : w2.cell? ⟨b, 1, none⟩ = some (.slice A n c) := hb2.cell 1; have q2 := hb2.frozen 1))
  all_goals go_wp2_with fail
  all_goals go_ret
  all_goals exact ⟨a1, k1, A2, c2, rfl, rsend_end HN0.out (HE1.out.trans he1) HE1.out.size hO1 hg2 hO2⟩
end Go.Proofs.Ytengpfpeeihaoaa
