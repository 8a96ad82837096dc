/- slices.IndexFunc over parcels. -/
import Derived.Test.YtengpfpeeihaoaaNet4
namespace Go.Proofs.Ytengpfpeeihaoaa
open Go.RowKit
set_option linter.unusedVariables false
set_option linter.unusedSimpArgs false

def nthP (L : List Pc) (k : Nat) : Pc := L.getD k ⟨0, 0, none, 0, 0⟩
theorem rowP_drop (L : List Pc) : ∀ k, k < L.length → (rowP L).drop (k * 3) = (nthP L k).cs ++ rowP (L.drop (k + 1)) := by
  induction L with
  | nil => intro k hk; simp at hk
  | cons p r ih =>
    intro k hk
    cases k with
    | zero => simp [rowP, nthP]
    | succ k =>
      have : (rowP (p :: r)).drop ((k + 1) * 3) = (rowP r).drop (k * 3) := by
        show (p.cs ++ rowP r).drop _ = _
        rw [show (k + 1) * 3 = 3 + k * 3 from by omega, ← List.drop_drop]
        rfl
      rw [this, ih k (by simpa using hk)]
      simp [nthP]
theorem cellsP {w : World} {g : Nat} {L : List Pc} (h : w.rangeAt g 0 (rowP L)) {k : Nat} (hk : k < L.length) :
    w.cell? ⟨g, k * 3, none⟩ = some (.int .i64 (nthP L k).f) ∧ w.cell? ⟨g, k * 3 + 1, none⟩ = some (.int .i64 (nthP L k).t) ∧ w.cell? ⟨g, k * 3 + 2, none⟩ = some (.slice (nthP L k).a (nthP L k).n (nthP L k).c) := by
  have hd := rangeAt_drop h (k := k * 3)
  rw [rowP_drop L k hk, Nat.zero_add] at hd
  exact ⟨hd 0 _ rfl, hd 1 _ rfl, hd 2 _ rfl⟩
/-- a function value that tells of a parcel whether it fits -/
def Fits (fn B : Nat) (grp : Int) (q : Pc → Bool) (L : List Pc) : Prop := ∀ x ∈ L, ∀ W : World, W.cell? ⟨B, 0, none⟩ = some (.int .i64 grp) → B < W.heap.size →
  Calls Try.prog fn #[pcv x.f x.t x.a x.n x.c, .pointer (some ⟨B, 0, none⟩)] W fun e w' => e = .returned (.bool (q x)) ∧ Ext W w'
theorem nthP_mem {L : List Pc} {k : Nat} (h : k < L.length) : nthP L k ∈ L := by
  unfold nthP; rw [List.getD_eq_getElem?_getD, List.getElem?_eq_getElem h]; exact List.getElem_mem _
set_option maxRecDepth 100000 in
set_option maxHeartbeats 2000000 in
theorem indexFn_any (fn B : Nat) (eg : ∀ args w, (callFunc fn args).run Try.prog w = .ok (.enter fn args) w) (q : Pc → Bool) (base : Nat) (A : Option Addr) (n c : Nat) (L : List Pc) (w : World)
    (h : w.ownsRow base 35 3 (.slice A n c) n (rowP L)) (grp : Int) (hq : Fits fn B grp q L) (hcell : w.cell? ⟨B, 0, none⟩ = some (.int .i64 grp)) (hB : B < w.heap.size) (hn : n ≤ 4096) :
    Calls Try.prog 96 #[.slice A n c, .func (.func fn) #[] #[.pointer (some ⟨B, 0, none⟩)]] w fun e w' => Ext w w' ∧
      ((e = .returned (.int .i64 (-1)) ∧ ∀ j, j < n → q (nthP L j) = false) ∨ ∃ k, k < n ∧ e = .returned (.int .i64 (k : Int)) ∧ q (nthP L k) = true ∧ ∀ j, j < k → q (nthP L j) = false) := by
  have hlen : L.length = n := by have := h.1; rw [rowP_length] at this; omega
  have HQ := Lib.hid hq
  clear hq
  go_enter Try.func96, Try.ntmps96
  go_wp2_with fail
  go_loopw [8] (fun i wr => ∃ k : Nat, k ≤ n ∧ i = .int .i64 (k : Int) ∧ (∀ j, j < k → q (nthP L j) = false) ∧ Ext w wr) (fun i _ => n - (intOf i).toNat)
  case atStart => exact ⟨0, by omega, rfl, fun j hj => by omega, Ext.refl _⟩
  case round =>
    obtain ⟨k, hk, rfl, hno, hE⟩ := hrel
    have HNo := Lib.hid hno
    clear hno
    by_cases hlt : k < n
    · obtain ⟨g, rfl, hg, hra⟩ := own_at (own_ext h hE) (by omega)
      obtain ⟨e0, e1, e2⟩ := cellsP hra (k := k) (by omega)
      have hc := Lib.hid (HQ.out (nthP L k) (nthP_mem (by omega)) wr ((hE.cell (p := ⟨B, 0, none⟩) hB).trans hcell) (Nat.lt_of_lt_of_le hB hE.size))
      obtain ⟨x, hxe⟩ : ∃ x, nthP L k = x := ⟨_, rfl⟩
      rw [hxe] at e0 e1 e2 hc
      have HX := Lib.hid hxe
      clear hxe
      rcases hx : q x with _ | _
      · have Hx := Lib.hid hx
        rw [hx] at hc
        clear hx
        go_wp2_with fail
        refine hc.out.mono ?_
        rintro e w1 ⟨rfl, he1⟩
        go_wp2_with fail
        go_roundw
        case rel => exact ⟨k + 1, by omega, by go_num, fun j hj => by rcases Nat.lt_succ_iff_lt_or_eq.1 hj with h | rfl; exact HNo.out j h; rw [HX.out]; exact Hx.out, hE.trans he1⟩
        case measure => simp [intOf]; omega
      · have Hx := Lib.hid hx
        rw [hx] at hc
        clear hx
        go_wp2_with fail
        refine hc.out.mono ?_
        rintro e w1 ⟨rfl, he1⟩
        go_wp2_with fail
        go_ret
        exact ⟨hE.trans he1, .inr ⟨k, hlt, rfl, by rw [HX.out]; exact Hx.out, HNo.out⟩⟩
    · obtain rfl : k = n := by omega
      go_wp2_with fail
      go_ret
      exact ⟨hE, .inl ⟨rfl, HNo.out⟩⟩
end Go.Proofs.Ytengpfpeeihaoaa
