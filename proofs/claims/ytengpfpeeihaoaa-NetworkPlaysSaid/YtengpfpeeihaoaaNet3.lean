/- Send where it sends. -/
import Derived.Test.YtengpfpeeihaoaaNet2
import Derived.Deep.RegionLaw
namespace Go.Proofs.Ytengpfpeeihaoaa
open Go.RowKit
set_option linter.unusedVariables false
set_option linter.unusedSimpArgs false

theorem own_grown {w w' : World} {base : Nat} {e : TypeId} {size : Nat} {v : Value} {n : Nat} {xs : List Value} {row : Option Nat} (h : w.ownsRow base e size v n xs) (hg : w.grownBy w' row) (hr : ∀ g, row = some g → g < base) : w'.ownsRow base e size v n xs := by
  refine ⟨h.1, ?_⟩
  rcases h.2 with h2 | ⟨g, cap, cur, hv, hb, hh, r⟩
  · exact .inl h2
  · refine .inr ⟨g, cap, cur, hv, hb, ?_, r⟩
    rw [hg.block g (Array.getElem?_eq_some_iff.1 hh).1 (fun h => by have := hr g h.symm; omega)]; exact hh
theorem own_far {w : World} {base : Nat} {e : TypeId} {size : Nat} {v : Value} {n : Nat} {xs : List Value} {b i : Nat} (h : w.ownsRow base e size v n xs) (hne : Value.ownBlock v ≠ some b) (u : Value) : (w.setCell ⟨b, i, none⟩ u).ownsRow base e size v n xs := by
  refine ⟨h.1, ?_⟩
  rcases h.2 with h2 | ⟨g, cap, cur, hv, hb, hh, r⟩
  · exact .inl h2
  · refine .inr ⟨g, cap, cur, hv, hb, ?_, r⟩
    rw [Below.heap_setCell _ _ _ _ (show g ≠ b from fun hgb => hne (by subst hgb; rw [hv]; rfl))]; exact hh
theorem own_ne {w : World} {base : Nat} {v : Value} {n : Nat} {xs : List Value} {b : Nat} {cs : Array Value} (h : w.ownsRow base 35 3 v n xs) (hb : Blk w b 77 cs) : Value.ownBlock v ≠ some b := by
  intro hv
  rcases h.2 with ⟨rfl, _⟩ | ⟨g, cap, cur, rfl, _, hh, _⟩
  · cases hv
  · have : g = b := by simpa [Value.ownBlock] using hv
    subst this
    unfold Blk at hb
    rw [hh] at hb
    simp at hb
theorem row_lt {w : World} {base : Nat} {e : TypeId} {size : Nat} {v : Value} {n : Nat} {xs : List Value} (h : w.ownsRow base e size v n xs) : ∀ g, Value.ownBlock v = some g → base ≤ g ∧ g < w.heap.size := World.ownsRow.lt h
/-- what a network is after its row has been appended to and the slice been stored -/
theorem send_end {w w1 w2 : World} {base b : Nat} {p : Int} {A : Option Addr} {n c : Nat} {L : List Pc} {f t : Int} {a1 : Option Addr} {m k1 B : Nat} {l : List UInt8} {o : Obj} {A2 : Option Addr} {c2 : Nat}
    (hN : Net w base b p A n c L) (hE : Ext w w1) (hB : w.heap.size ≤ B) (hO1 : OwnB w1 B 5 a1 m k1 l) (hg2 : (w1.alloc o).grownBy w2 (Value.ownBlock (.slice A n c)))
    (hO2 : w2.ownsRow base 35 3 (.slice A2 (n + 1) c2) (n + 1) (rowP L ++ rowP [⟨f, t, a1, m, k1⟩])) :
    Net (w2.setCell ⟨b, 1, none⟩ (.slice A2 (n + 1) c2)) base b p A2 (n + 1) c2 (L ++ [⟨f, t, a1, m, k1⟩]) ∧ OwnB (w2.setCell ⟨b, 1, none⟩ (.slice A2 (n + 1) c2)) w.heap.size 5 a1 m k1 l ∧ Below base w (w2.setCell ⟨b, 1, none⟩ (.slice A2 (n + 1) c2)) ∧ Kept w (w2.setCell ⟨b, 1, none⟩ (.slice A2 (n + 1) c2)) b (Value.ownBlock (.slice A n c)) := by
  have hlt := hN.blk.lt
  have hN1 := hN.ext (hE.alloc' o)
  have hb2 := hN1.blk.grown hg2 (Ne.symm hN1.ne)
  have hrow := row_lt hN.own
  refine ⟨⟨hN.le, hb2.set 1 _, ?_⟩, ?_, ?_, ⟨?_, ?_⟩⟩
  · rw [rowP_append]; exact own_far hO2 (own_ne hO2 hb2) _
  · unfold OwnB at hO1 ⊢
    exact ownsRow_setCell_below (own_mono (own_grown (own_ext hO1 ((Ext.refl _).alloc' o)) hg2 (fun g hg => by have := hrow g hg; omega)) hB) hlt _
  · refine Below.setCell (Below.grown ((hE.alloc' o).mono (by have := hN.le; omega)) hg2 (by have := hN.le; have := (hE.alloc' o).size; omega) (fun k hk => (hrow k hk).1)) hN.le _
  · have h1 := (hE.alloc' o).size
    have h2 := hg2.size
    simp only [World.setCell, Array.size_modify]
    omega
  · intro k hk hkb hkr
    rw [Below.heap_setCell _ _ _ _ (show k ≠ b from hkb), hg2.block k (by have := (hE.alloc' o).size; omega) hkr, (hE.alloc' o).block k hk]
set_option maxRecDepth 100000 in
set_option maxHeartbeats 2000000 in
theorem send_ok (base b : Nat) (p : Int) (A : Option Addr) (n c : Nat) (L : List Pc) (f t : Int) (a : Option Addr) (m k : Nat) (l : List UInt8) (w : World)
    (hN : Net w base b p A n c L) (hs : SlB w a m k l) (hm : m ≤ 140737488355328) (hf0 : 0 ≤ f) (hf1 : f < p) (ht0 : 0 ≤ t) (ht1 : t < p) (hn : n < 4096) :
    Calls Try.prog 20 #[.pointer (some ⟨b, 0, none⟩), pcv f t a m k] w fun e w' => ∃ a' k' A' c', e = .returned (.int .i64 0) ∧ Net w' base b p A' (n + 1) c' (L ++ [⟨f, t, a', m, k'⟩]) ∧ OwnB w' w.heap.size 5 a' m k' l ∧ Below base w w' ∧ Kept w w' b (Value.ownBlock (.slice A n c)) := by
  have hlt := hN.blk.lt
  have e1 : decide (f < 0) = false := decide_eq_false (by omega)
  have e2 : decide (t < 0) = false := decide_eq_false (by omega)
  have e3 : decide (p ≤ f) = false := decide_eq_false (by omega)
  have e4 : decide (p ≤ t) = false := decide_eq_false (by omega)
  have e5 : decide ((4096 : Int) ≤ (n : Int)) = false := decide_eq_false (by omega)
  have hE0 : Ext w (w.alloc (.cells (pcs f t a m k) 35)) := (Ext.refl w).alloc' _
  have hbx := Blk.new w 35 (pcs f t a m k)
  go_enter Try.func20, Try.ntmps20
  go_wp2_with fail
  generalize w.alloc (.cells (pcs f t a m k) 35) = W0 at *
  have hNe := hN.ext hE0
  have c0 : W0.cell? ⟨b, 0, none⟩ = some (.int .i64 p) := hNe.blk.cell 0
  have c1 : W0.cell? ⟨b, 1, none⟩ = some (.slice A n c) := hNe.blk.cell 1
  have d0 : W0.cell? ⟨w.heap.size, 0, none⟩ = some (.int .i64 f) := hbx.cell 0
  have d1 : W0.cell? ⟨w.heap.size, 1, none⟩ = some (.int .i64 t) := hbx.cell 1
  go_quiet (fail)
  go_wp2_with fail
  have hE1 : Ext w (W0.drewN nq).drew := Ext.drew' (below_drewN hE0 _)
  have HN := Lib.hid (hN.ext hE1)
  have HS := Lib.hid (hs.ext hE1)
  have hbx1 : Blk (W0.drewN nq).drew w.heap.size 35 (pcs f t a m k) := hbx.ext (Ext.drew' (below_drewN (Ext.refl _) _))
  generalize W0.drewN nq = W1 at *
  clear c0 c1 d0 d1
  have c1 : W1.drew.cell? ⟨b, 1, none⟩ = some (.slice A n c) := HN.out.blk.cell 1
  have d0 : W1.drew.cell? ⟨w.heap.size, 0, none⟩ = some (.int .i64 f) := hbx1.cell 0
  have d1 : W1.drew.cell? ⟨w.heap.size, 1, none⟩ = some (.int .i64 t) := hbx1.cell 1
  have d2 : W1.drew.cell? ⟨w.heap.size, 2, none⟩ = some (.slice a m k) := hbx1.cell 2
  go_region_law (first | (go_simp; go_at_call 46; refine (clone_any f t a m k l _ HS.out hm).mono ?_; rintro e w1 ⟨a1, k1, rfl, hO1, he1⟩; have HN1 := Lib.hid (HN.out.ext he1); have g1 : w1.cell? ⟨b, 1, none⟩ = some (.slice A n c) := HN1.out.blk.cell 1; have g2 : (w1.alloc (.cells #[.int .i64 f, .int .i64 t, .slice a1 m k1] 35)).cell? ⟨b, 1, none⟩ = some (.slice A n c) := (HN1.out.blk.alloc _).cell 1) | (refine step_appG parcelsE rfl (.tmp 47) (.tmp 50) rfl base A n c (rowP L) (by rfl) (own_ext HN1.out.own ((Ext.refl _).alloc' _)) (some ⟨w1.heap.size, 0, none⟩) 1 1 (rowP [⟨f, t, a1, m, k1⟩]) (by rfl) (Rd.of_blk (Blk.new _ _ _)) (by rw [rowP_length]; rfl) (rowP_one' _) (by omega) (by omega) (Nat.le_trans HN1.out.le (by simp; have := HN1.out.blk.lt; omega)) ?_; intro A2 c2 w2 hO2 hg2; have hb2 := (HN1.out.blk.alloc _).grown hg2 (Ne.symm HN1.out.ne); have q1 : w2.cell? ⟨b, 1, none⟩ = some (.slice A n c) := hb2.cell 1; have q2 := hb2.frozen 1))
  all_goals go_wp2_with fail
  all_goals go_ret
  all_goals exact ⟨a1, k1, A2, c2, rfl, send_end hN (hE1.trans he1) hE1.size hO1 hg2 hO2⟩
end Go.Proofs.Ytengpfpeeihaoaa
