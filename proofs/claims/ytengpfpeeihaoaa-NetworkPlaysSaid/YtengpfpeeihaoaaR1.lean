/- The reference's network: NewNetwork, Send. -/
import Derived.Test.YtengpfpeeihaoaaKp
namespace Go.Proofs.Ytengpfpeeihaoaa
open Go.RowKit
set_option linter.unusedVariables false
set_option linter.unusedSimpArgs false

theorem rparcelsE : Elem Try.prog 54 48 (.agg (pcs 0 0 none 0 0)) 3 40 := ⟨Try.underlying54, by kernel_rfl, rfl, by decide⟩
theorem rsizeP (f t : Int) (a : Option Addr) (n c : Nat) : (Try.prog.info? 48).map (·.size) = some (pcs f t a n c).size := by show _ = some 3; kernel_rfl
theorem rretPV {fn : Func} {p q : Tmp} (hres : fn.results = #[.cell p 48, .tmp q]) (tmps : Array Value) (w1 : World) (g : Nat) (f t : Int) (a : Option Addr) (n c : Nat) (v : Value) (hp : tmps.getD p undef = .pointer (some ⟨g, 0, none⟩)) (hq : tmps.getD q undef = v) (hb : Blk w1 g 48 (pcs f t a n c)) :
    (results fn tmps).run Try.prog w1 = .ok (.tuple #[pcv f t a n c, v]) w1 := by
  have hp' : tmps[p]?.getD undef = .pointer (some ⟨g, 0, none⟩) := by simpa using hp
  have hq' : tmps[q]?.getD undef = v := by simpa using hq
  simp [results, hres, hp', hq', asAddr, run_loadVar_row w1 g 48 48 (pcs f t a n c) (0, 0) _ hb Try.underlying48 rfl (rsizeP f t a n c)]
theorem rown_ne {w : World} {base : Nat} {v : Value} {n : Nat} {xs : List Value} {b : Nat} {cs : Array Value} (h : w.ownsRow base 48 3 v n xs) (hb : Blk w b 57 cs) : Value.ownBlock v ≠ some b := by
  intro hv
  rcases h.2 with ⟨rfl, _⟩ | ⟨g, cap, cur, rfl, _, hh, _⟩
  · cases hv
  · have : g = b := by simpa [Value.ownBlock] using hv
    subst this
    unfold Blk at hb
    rw [hh] at hb
    simp at hb
/-- a network in memory -/
structure RNet (w : World) (base b : Nat) (p : Int) (A : Option Addr) (n c : Nat) (L : List Pc) : Prop where
  le : base ≤ b
  blk : Blk w b 57 #[.int .i64 p, .slice A n c]
  own : w.ownsRow base 48 3 (.slice A n c) n (rowP L)
theorem RNet.len {w : World} {base b : Nat} {p : Int} {A : Option Addr} {n c : Nat} {L : List Pc} (h : RNet w base b p A n c L) : L.length = n := by
  have := h.own.1; rw [rowP_length] at this; omega
theorem RNet.ext {w w' : World} {base b : Nat} {p : Int} {A : Option Addr} {n c : Nat} {L : List Pc} (h : RNet w base b p A n c L) (e : Ext w w') : RNet w' base b p A n c L := ⟨h.le, h.blk.ext e, own_ext h.own e⟩
/-- the row of the parcels is another block than the network -/
theorem RNet.ne {w : World} {base b : Nat} {p : Int} {A : Option Addr} {n c : Nat} {L : List Pc} (h : RNet w base b p A n c L) : Value.ownBlock (.slice A n c) ≠ some b := by
  intro hb
  rcases h.own.2 with ⟨hv, _⟩ | ⟨g, cap, cur, hv, _, hh, _⟩
  · injection hv with hA; subst hA; cases hb
  · injection hv with hA; subst hA
    have : g = b := by simpa [Value.ownBlock] using hb
    subst this
    have := h.blk
    unfold Blk at this
    rw [hh] at this
    simp at this
/-- what a network is after its row has been appended to and the slice been stored -/
theorem rsend_end {w w1 w2 : World} {base b : Nat} {p : Int} {A : Option Addr} {n c : Nat} {L : List Pc} {f t : Int} {a1 : Option Addr} {m k1 B : Nat} {l : List UInt8} {o : Obj} {A2 : Option Addr} {c2 : Nat}
    (hN : RNet w base b p A n c L) (hE : Ext w w1) (hB : w.heap.size ≤ B) (hO1 : OwnB w1 B 5 a1 m k1 l) (hg2 : (w1.alloc o).grownBy w2 (Value.ownBlock (.slice A n c)))
    (hO2 : w2.ownsRow base 48 3 (.slice A2 (n + 1) c2) (n + 1) (rowP L ++ rowP [⟨f, t, a1, m, k1⟩])) :
    RNet (w2.setCell ⟨b, 1, none⟩ (.slice A2 (n + 1) c2)) base b p A2 (n + 1) c2 (L ++ [⟨f, t, a1, m, k1⟩]) ∧ OwnB (w2.setCell ⟨b, 1, none⟩ (.slice A2 (n + 1) c2)) w.heap.size 5 a1 m k1 l ∧ Below base w (w2.setCell ⟨b, 1, none⟩ (.slice A2 (n + 1) c2)) ∧ Kept w (w2.setCell ⟨b, 1, none⟩ (.slice A2 (n + 1) c2)) b (Value.ownBlock (.slice A n c)) := by
  have hlt := hN.blk.lt
  have hN1 := hN.ext (hE.alloc' o)
  have hb2 := hN1.blk.grown hg2 (Ne.symm hN1.ne)
  have hrow := row_lt hN.own
  refine ⟨⟨hN.le, hb2.set 1 _, ?_⟩, ?_, ?_, ⟨?_, ?_⟩⟩
  · rw [rowP_append]; exact own_far hO2 (rown_ne hO2 hb2) _
  · unfold OwnB at hO1 ⊢
    exact ownsRow_setCell_below (own_mono (own_grown (own_ext hO1 ((Ext.refl _).alloc' o)) hg2 (fun g hg => by have := hrow g hg; omega)) hB) hlt _
  · refine Below.setCell (Below.grown ((hE.alloc' o).mono (by have := hN.le; omega)) hg2 (by have := hN.le; have := (hE.alloc' o).size; omega) (fun k hk => (hrow k hk).1)) hN.le _
  · have h1 := (hE.alloc' o).size
    have h2 := hg2.size
    simp only [World.setCell, Array.size_modify]
    omega
  · intro k hk hkb hkr
    rw [Below.heap_setCell _ _ _ _ (show k ≠ b from hkb), hg2.block k (by have := (hE.alloc' o).size; omega) hkr, (hE.alloc' o).block k hk]
set_option maxHeartbeats 1000000 in
theorem rnew_any (p : Int) (w : World) : Calls Try.prog 26 #[.int .i64 p] w fun e w' => e = .returned (.pointer (some ⟨w.heap.size, 0, none⟩)) ∧ Blk w' w.heap.size 57 #[.int .i64 (procs p), .slice none 0 0] ∧ Ext w w' := by
  go_enter Try.func26, Try.ntmps26
  go_wp2_with fail
  all_goals
    go_ret
    refine ⟨rfl, ?_, (Ext.refl w).alloc' _⟩
    first
      | (rw [show procs p = 0 from by unfold procs; (repeat' split) <;> omega]; exact Blk.new _ _ _)
      | (rw [show procs p = 62 from by unfold procs; (repeat' split) <;> omega]; exact Blk.new _ _ _)
      | (rw [show procs p = p from by unfold procs; (repeat' split) <;> omega]; exact Blk.new _ _ _)
end Go.Proofs.Ytengpfpeeihaoaa
