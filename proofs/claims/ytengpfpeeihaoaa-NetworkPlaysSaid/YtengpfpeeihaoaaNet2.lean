/- bytes.Clone, clone. -/
import Derived.Test.YtengpfpeeihaoaaNet1
import Derived.Lib.LazyBuf
namespace Go.Proofs.Ytengpfpeeihaoaa
open Go.RowKit
set_option linter.unusedVariables false
set_option linter.unusedSimpArgs false

theorem elemB22' : Elem Try.prog 22 5 (.int .u8 0) 1 1 := ⟨Try.underlying22, by kernel_rfl, rfl, by decide⟩

set_option maxRecDepth 100000 in
set_option maxHeartbeats 1000000 in
theorem bclone_any (A : Option Addr) (n c : Nat) (l : List UInt8) (w : World) (h : SlB w A n c l) (hn : n ≤ 140737488355328) :
    Calls Try.prog 70 #[.slice A n c] w fun e w' => ∃ A' c', e = .returned (.slice A' n c') ∧ OwnB w' w.heap.size 5 A' n c' l ∧ Ext w w' := by
  rcases A with _ | ad
  · have hl : l = [] := by
      rcases h.rd with h | ⟨b, o, h, _⟩
      · have := congrArg List.length h; rw [bcs_length] at this; exact List.length_eq_zero_iff.1 this
      · cases h
    subst hl
    obtain rfl : n = 0 := by have := h.len; simpa using this.symm
    have hq := run_eql_slice_nil (P := Try.prog) w 22 5 none 0 c Try.underlying22
    go_enter Try.func70, Try.ntmps70
    go_wp2_with fail
    go_ret
    exact ⟨_, _, rfl, OwnB.nil _ _ _, Ext.refl _⟩
  · have hq := run_eql_slice_nil (P := Try.prog) w 22 5 (some ad) n c Try.underlying22
    go_enter Try.func70, Try.ntmps70
    go_wp2_with (at_builtin; go_must (refine wpList_appB bytesE rfl (.tmp 5) (.tmp 6) rfl w.heap.size _ _ _ [] rfl ?r0 _ _ _ l rfl ?r1 (by omega) ?b1 w ?w1 ?_))
    case r0 => exact OwnB.made w w.heap.size _ 0 w.heap.size rfl (Nat.le_refl _) (by omega) rfl
    case r1 => exact h.ext ((Ext.refl w).alloc' _)
    case b1 => exact ((Ext.refl w).alloc' _).size
    case w1 => exact (Ext.refl w).alloc' _
    intro A' c' w' hO hB hs
    go_wp2_with fail
    go_ret
    exact ⟨_, _, rfl, hO, hB⟩
set_option maxRecDepth 100000 in
set_option maxHeartbeats 1000000 in
theorem clone_any (f t : Int) (A : Option Addr) (n c : Nat) (l : List UInt8) (w : World) (h : SlB w A n c l) (hn : n ≤ 140737488355328) :
    Calls Try.prog 46 #[pcv f t A n c] w fun e w' => ∃ A' c', e = .returned (pcv f t A' n c') ∧ OwnB w' w.heap.size 5 A' n c' l ∧ Ext w w' := by
  have hE1 : Ext w ((w.alloc (.cells (pcs f t A n c) 35)).alloc (.cells (pcs 0 0 none 0 0) 35)).drew := (((Ext.refl w).alloc' _).alloc' _).drew'
  have hX : Ext ((w.alloc (.cells (pcs f t A n c) 35)).alloc (.cells (pcs 0 0 none 0 0) 35)).drew ((w.alloc (.cells (pcs f t A n c) 35)).alloc (.cells (pcs 0 0 none 0 0) 35)).drew := Ext.refl _
  have hbx : Blk ((w.alloc (.cells (pcs f t A n c) 35)).alloc (.cells (pcs 0 0 none 0 0) 35)).drew w.heap.size 35 (pcs f t A n c) := ((Blk.new w _ _).alloc _).drew
  have hz : Blk ((w.alloc (.cells (pcs f t A n c) 35)).alloc (.cells (pcs 0 0 none 0 0) 35)).drew (w.heap.size + 1) 35 (pcs 0 0 none 0 0) := (Blk.newAt _ _ _ _ (by simp)).drew
  have hs := h.ext hE1
  have HSS := Lib.hid (show ∀ w', Below (w.heap.size + 1) ((w.alloc (.cells (pcs f t A n c) 35)).alloc (.cells (pcs 0 0 none 0 0) 35)).drew w' → w'.cell? ⟨w.heap.size, 0, none⟩ = some (.int .i64 f) ∧ w'.cell? ⟨w.heap.size, 1, none⟩ = some (.int .i64 t) ∧ w'.cell? ⟨w.heap.size, 2, none⟩ = some (.slice A n c) from fun w' hb => by
    have := hbx.below hb (by omega)
    exact ⟨this.cell 0, this.cell 1, this.cell 2⟩)
  have HB : w.heap.size + 1 ≤ ((w.alloc (.cells (pcs f t A n c) 35)).alloc (.cells (pcs 0 0 none 0 0) 35)).drew.heap.size := by simp
  go_enter Try.func46, Try.ntmps46
  go_wp2_with fail
  go_region_held3 (fun w' => w'.cell? ⟨w.heap.size, 0, none⟩ = some (.int .i64 f) ∧ w'.cell? ⟨w.heap.size, 1, none⟩ = some (.int .i64 t) ∧ w'.cell? ⟨w.heap.size, 2, none⟩ = some (.slice A n c)) (first | exact HSS.out _ (Below.setCell (Below.setCell (Below.setCell (Below.mono hX HB) (Nat.le_refl _) _) (Nat.le_refl _) _) (Nat.le_refl _) _) | exact HSS.out _ (Below.mono hX HB)) ((go_at_call 70; refine (bclone_any A n c l _ (hs.ext hX) hn).mono ?_; rintro e w1 ⟨A1, k1, rfl, hO1, he1⟩; have hX := Ext.trans hX he1; have hz1 := hz.ext hX; have c0 : w1.cell? ⟨w.heap.size + 1, 0, none⟩ = some (.int .i64 0) := hz1.cell 0; have c1 : w1.cell? ⟨w.heap.size + 1, 1, none⟩ = some (.int .i64 0) := hz1.cell 1; have c2 : w1.cell? ⟨w.heap.size + 1, 2, none⟩ = some (.slice none 0 0) := hz1.cell 2; have f0 := hz1.frozen 0; have f1 := hz1.frozen 1; have f2 := hz1.frozen 2))
  go_wp2_with fail
  refine bodyPost_ret (v := pcv f t A1 n k1) (retP rfl _ _ (w.heap.size + 1) f t A1 n k1 rfl (((hz1.set 0 _).set 1 _).set 2 _)) rfl ⟨A1, k1, rfl, ?_, Below.setCell (Below.setCell (Below.setCell (Ext.trans hE1 hX) (by simp) _) (by simp) _) (by simp) _⟩
  unfold OwnB at hO1 ⊢
  refine own_mono (ownsRow_setCell_below (ownsRow_setCell_below (ownsRow_setCell_below hO1 ?_ _) ?_ _) ?_ _) hE1.size
  all_goals (show w.heap.size + 1 < _; simp)
theorem step_appG {P : Program} {t e : TypeId} {z : Value} {size bytes : Nat} {ops : Array Oper} {o : Oper} {a : Act} {w : World} {K : Act → World → Prop} {Q : Exit → Act → World → Prop} {X : Prop} (E : Elem P t e z size bytes) (hgd : o.guard = none) (s x : Operand)
    (ho : o.op = .call { callee := .builtin .append, args := #[s, x], argTypes := #[t, t] })
    (base : Nat) (A : Option Addr) (n c : Nat) (xs : List Value) (hs : a.eval s = .slice A n c) (hown : w.ownsRow base e size (.slice A n c) n xs)
    (A2 : Option Addr) (m c2 : Nat) (ys : List Value) (hx : a.eval x = .slice A2 m c2) (hr : Rd w A2 ys) (hl : ys.length = m * size) (h1 : ∀ u ∈ ys, u.oneCell' = true)
    (hb : (n + m) * bytes ≤ 140737488355328) (h63 : n + m ≤ 4611686018427387904) (hbase : base ≤ w.heap.size)
    (h : ∀ A' c' w', w'.ownsRow base e size (.slice A' (n + m) c') (n + m) (xs ++ ys) → w.grownBy w' (Value.ownBlock (.slice A n c)) → K (a.put o.dst (.slice A' (n + m) c')) w') : if Region.wanted o (yielded ops a.tmps) = true then Oper.wp P o a w K Q else X := by
  have hw : Region.wanted o (yielded ops a.tmps) = true := by simp [Region.wanted, hgd]
  rw [if_pos hw]
  exact wp_app E s x ho base A n c xs hs hown A2 m c2 ys hx hr hl h1 hb h63 hbase h
/-- a parcel in flight -/
structure Pc where
  f : Int
  t : Int
  a : Option Addr
  n : Nat
  c : Nat
def Pc.cs (p : Pc) : List Value := [.int .i64 p.f, .int .i64 p.t, .slice p.a p.n p.c]
def rowP (L : List Pc) : List Value := L.flatMap Pc.cs
theorem rowP_append (L M : List Pc) : rowP (L ++ M) = rowP L ++ rowP M := by simp [rowP]
theorem rowP_one (p : Pc) : rowP [p] = p.cs := by simp [rowP]
theorem rowP_length (L : List Pc) : (rowP L).length = L.length * 3 := by
  induction L with
  | nil => rfl
  | cons p r ih => show (p.cs ++ rowP r).length = _; rw [List.length_append, ih]; simp [Pc.cs]; omega
theorem rowP_one' (p : Pc) : ∀ u ∈ rowP [p], u.oneCell' = true := by
  rw [rowP_one]; intro u hu; simp [Pc.cs] at hu; rcases hu with rfl | rfl | rfl <;> rfl
theorem parcelsE : Elem Try.prog 52 35 (.agg (pcs 0 0 none 0 0)) 3 40 := ⟨Try.underlying52, by kernel_rfl, rfl, by decide⟩
/-- a network in memory -/
structure Net (w : World) (base b : Nat) (p : Int) (A : Option Addr) (n c : Nat) (L : List Pc) : Prop where
  le : base ≤ b
  blk : Blk w b 77 #[.int .i64 p, .slice A n c]
  own : w.ownsRow base 35 3 (.slice A n c) n (rowP L)
theorem Net.len {w : World} {base b : Nat} {p : Int} {A : Option Addr} {n c : Nat} {L : List Pc} (h : Net w base b p A n c L) : L.length = n := by
  have := h.own.1; rw [rowP_length] at this; omega
theorem Net.ext {w w' : World} {base b : Nat} {p : Int} {A : Option Addr} {n c : Nat} {L : List Pc} (h : Net w base b p A n c L) (e : Ext w w') : Net w' base b p A n c L := ⟨h.le, h.blk.ext e, own_ext h.own e⟩
/-- the row of the parcels is another block than the network -/
theorem Net.ne {w : World} {base b : Nat} {p : Int} {A : Option Addr} {n c : Nat} {L : List Pc} (h : Net w base b p A n c L) : Value.ownBlock (.slice A n c) ≠ some b := by
  intro hb
  rcases h.own.2 with ⟨hv, _⟩ | ⟨g, cap, cur, hv, _, hh, _⟩
  · injection hv with hA; subst hA; cases hb
  · injection hv with hA; subst hA
    have : g = b := by simpa [Value.ownBlock] using hb
    subst this
    have := h.blk
    unfold Blk at this
    rw [hh] at this
    simp at this
/-- all that stood stands, but for two blocks -/
structure Kept (w w' : World) (b : Nat) (row : Option Nat) : Prop where
  size : w.heap.size ≤ w'.heap.size
  block : ∀ k, k < w.heap.size → k ≠ b → some k ≠ row → w'.heap[k]? = w.heap[k]?
end Go.Proofs.Ytengpfpeeihaoaa
