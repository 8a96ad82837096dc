/- Rows of elements of whatever type: one text for all. -/
import Derived.Test.YtjlnmpjffogpdaaTx1
import Derived.Sort.Grow
namespace Go.Proofs.Ytjlnmpjffogpdaa
open Go.RowKit
set_option linter.unusedVariables false
set_option linter.unusedSimpArgs false

/-- a type of elements: their cells, and what lies behind them -/
class RowT (α : Type) where
  sz : Nat
  z : α
  enc : α → List Value
  ok : α → World → Prop
  pos : 0 < sz
  len : ∀ x, (enc x).length = sz
  one : ∀ x, ∀ u ∈ enc x, u.oneCell' = true
  ext : ∀ x w w', ok x w → Ext w w' → ok x w'
section
variable {α : Type} [RowT α]
/-- the cells of a list -/
def gcs (L : List α) : List Value := L.flatMap RowT.enc
theorem gcs_nil : gcs ([] : List α) = [] := rfl
theorem gcs_cons (x : α) (r : List α) : gcs (x :: r) = RowT.enc x ++ gcs r := by simp [gcs]
theorem gcs_one (x : α) : gcs [x] = RowT.enc x := by simp [gcs]
theorem gcs_append (a b : List α) : gcs (a ++ b) = gcs a ++ gcs b := by simp [gcs]
theorem gcs_length (L : List α) : (gcs L).length = L.length * RowT.sz α := by
  induction L with
  | nil => simp [gcs]
  | cons x r ih => rw [gcs_cons, List.length_append, RowT.len, ih, List.length_cons, Nat.add_mul, Nat.one_mul, Nat.add_comm]
theorem gcs_cell (L : List α) : ∀ u ∈ gcs L, u.oneCell' = true := by
  intro u hu
  simp only [gcs, List.mem_flatMap] at hu
  obtain ⟨x, _, h⟩ := hu
  exact RowT.one x u h
theorem gcs_drop (L : List α) (k : Nat) : (gcs L).drop (k * RowT.sz α) = gcs (L.drop k) := by
  induction k generalizing L with
  | zero => simp
  | succ k ih =>
    cases L with
    | nil => simp [gcs]
    | cons n r =>
      rw [gcs_cons, List.drop_succ_cons, ← ih r, show (k + 1) * RowT.sz α = (RowT.enc n).length + k * RowT.sz α from by rw [RowT.len, Nat.add_mul, Nat.one_mul, Nat.add_comm], List.drop_append, List.drop_of_length_le (by omega)]
      simp
theorem gcs_take (L : List α) (k : Nat) : (gcs L).take (k * RowT.sz α) = gcs (L.take k) := by
  induction k generalizing L with
  | zero => simp [gcs]
  | succ k ih =>
    cases L with
    | nil => simp [gcs]
    | cons n r =>
      rw [gcs_cons, List.take_succ_cons, gcs_cons, ← ih r, show (k + 1) * RowT.sz α = (RowT.enc n).length + k * RowT.sz α from by rw [RowT.len, Nat.add_mul, Nat.one_mul, Nat.add_comm], List.take_append, List.take_of_length_le (by omega)]
      simp
def nthG (L : List α) (k : Nat) : α := L.getD k (RowT.z)
theorem nthG_eq {L : List α} {k : Nat} (h : k < L.length) : L[k] = nthG L k := by simp [nthG, h]
theorem nthG_get {L : List α} {k : Nat} (h : k < L.length) : L[k]? = some (nthG L k) := by simp [nthG, h]
theorem gcs_at {L : List α} {k : Nat} (h : k < L.length) : ((gcs L).drop (k * RowT.sz α)).take (RowT.sz α) = RowT.enc (nthG L k) := by
  rw [gcs_drop, List.drop_eq_getElem_cons h, gcs_cons, List.take_append_of_le_length (by rw [RowT.len]; omega), List.take_of_length_le (by rw [RowT.len]; omega), nthG_eq h]
theorem take_nthG {L : List α} {k : Nat} (h : k < L.length) : L.take (k + 1) = L.take k ++ [nthG L k] := by
  rw [List.take_succ_eq_append_getElem h, nthG_eq h]
theorem drop_nthG {L : List α} {k : Nat} (h : k < L.length) : L.drop k = nthG L k :: L.drop (k + 1) := by
  rw [List.drop_eq_getElem_cons h, nthG_eq h]
theorem nthG_mem {L : List α} {k : Nat} (h : k < L.length) : nthG L k ∈ L := by
  rw [← nthG_eq h]; exact List.getElem_mem _
/-- a slice of elements -/
structure SlG (w : World) (A : Option Addr) (n c : Nat) (L : List α) : Prop where
  len : L.length = n
  le : n ≤ c
  cap : c ≤ 9223372036854775807
  rd : Rd w A (gcs L)
  ok : ∀ R, R ∈ L → RowT.ok R w
variable {w w' : World} {A : Option Addr} {n c : Nat} {L : List α}
theorem SlG.ext (h : SlG w A n c L) (e : Ext w w') : SlG w' A n c L := ⟨h.len, h.le, h.cap, h.rd.ext e, fun R hR => RowT.ext _ _ _ (h.ok R hR) e⟩
theorem SlG.at (h : SlG w A n c L) (hn : 0 < n) : ∃ b o, A = some ⟨b, o, none⟩ ∧ w.rangeAt b o (gcs L) ∧ b < w.heap.size :=
  h.rd.at (by
    intro e
    have := congrArg List.length e
    rw [gcs_length, h.len] at this
    have := Nat.mul_pos hn (RowT.pos (α := α))
    simp at *; omega)
theorem SlG.nil (w : World) : SlG w none 0 0 ([] : List α) := ⟨rfl, Nat.le_refl _, Nat.zero_le _, .nil, fun R hR => by cases hR⟩
theorem SlG.empty (w : World) (A : Option Addr) (c : Nat) (hc : c ≤ 9223372036854775807) : SlG w A 0 c ([] : List α) := ⟨rfl, Nat.zero_le _, hc, .nil, fun R hR => by cases hR⟩
theorem SlG.nth (h : SlG w A n c L) {k : Nat} (hk : k < n) : RowT.ok (nthG L k) w := h.ok _ (nthG_mem (by rw [h.len]; exact hk))
/-- an element in memory -/
theorem el_at {b o k : Nat} (h : w.rangeAt b o (gcs L)) (hk : k < L.length) : w.rangeAt b (o + k * RowT.sz α) (RowT.enc (nthG L k)) := by
  have h1 := rangeAt_take (k := RowT.sz α) (rangeAt_drop (k := k * RowT.sz α) h)
  rwa [gcs_at hk] at h1
theorem SlG.upto (h : SlG w A n c L) {k c' : Nat} (hk : k ≤ n) (hc : k ≤ c') (hc' : c' ≤ 9223372036854775807) : SlG w A k c' (L.take k) := by
  refine ⟨by rw [List.length_take, h.len]; omega, hc, hc', ?_, fun R hR => h.ok R (List.mem_of_mem_take hR)⟩
  rw [← gcs_take]; exact h.rd.take _
theorem SlG.cut (h : SlG w A n c L) {k : Nat} (hk : k ≤ n) (hkc : k < c) : SlG w (A.map (·.add (k * RowT.sz α))) (n - k) (c - k) (L.drop k) := by
  refine ⟨by rw [List.length_drop, h.len], by have := h.le; omega, by have := h.cap; omega, ?_, fun R hR => h.ok R (List.mem_of_mem_drop hR)⟩
  have := h.rd.cut (n := n) (k := k) (c := c) (size := RowT.sz α) (by rw [gcs_length, h.len]) hk h.le
  rwa [if_neg (by omega), gcs_drop] at this
/-- a slice of elements of the call's own: it may be appended to (what lies behind its elements is told apart from it) -/
def OwnG (w : World) (base : Nat) (e : TypeId) (A : Option Addr) (n c : Nat) (L : List α) : Prop := w.ownsRow base e (RowT.sz α) (.slice A n c) n (gcs L)
section
variable {base : Nat} {e : TypeId}
theorem OwnG.len (h : OwnG w base e A n c L) : L.length = n := by
  have := h.1; rw [gcs_length] at this; exact Nat.eq_of_mul_eq_mul_right RowT.pos this
theorem OwnG.sl (h : OwnG w base e A n c L) (ok : ∀ R, R ∈ L → RowT.ok R w) : SlG w A n c L := by
  obtain ⟨h1, h2⟩ := own_cap h
  exact ⟨h.len, h1, h2, Rd.of_own h, ok⟩
theorem OwnG.nil (w : World) (base : Nat) (e : TypeId) : OwnG w base e none 0 0 ([] : List α) := World.ownsRow_nil w base e _
theorem OwnG.ext (h : OwnG w base e A n c L) (he : Ext w w') : OwnG w' base e A n c L := own_ext h he
theorem OwnG.mono {base' : Nat} (h : OwnG w base e A n c L) (hb : base' ≤ base) : OwnG w base' e A n c L := own_mono h hb
end
/-- rows of elements, one behind the other -/
theorem rows_G {sz : Nat} (hsz : RowT.sz α = sz) {b o : Nat} : ∀ (n : Nat), (∀ j, j < n → ∃ y : α, w.rangeAt b (o + j * sz) (RowT.enc y) ∧ RowT.ok y w) → ∃ L : List α, L.length = n ∧ w.rangeAt b o (gcs L) ∧ ∀ R, R ∈ L → RowT.ok R w := by
  intro n
  subst hsz
  induction n with
  | zero => intro _; exact ⟨[], rfl, fun j v hv => by simp [gcs] at hv, fun R hR => by cases hR⟩
  | succ n ih =>
    intro h
    obtain ⟨L, hL, hr, hok⟩ := ih (fun j hj => h j (by omega))
    obtain ⟨y, hy, hyo⟩ := h n (by omega)
    refine ⟨L ++ [y], by simp [hL], ?_, ?_⟩
    · rw [gcs_append, gcs_one]
      refine rangeAt_append hr ?_
      rw [gcs_length, hL]; exact hy
    · intro R hR
      rcases List.mem_append.1 hR with hR | hR
      · exact hok R hR
      · rw [List.mem_singleton.1 hR]; exact hyo
/-- two lists compared element by element -/
def eqG (f : α → α → Bool) (L M : List α) : Bool := decide (L.length = M.length ∧ ∀ k, k < L.length → f (nthG L k) (nthG M k) = true)
theorem eqG_len {f : α → α → Bool} {L M : List α} (h : L.length ≠ M.length) : eqG f L M = false := decide_eq_false (fun hh => h hh.1)
theorem eqG_at {f : α → α → Bool} {L M : List α} {k : Nat} (hk : k < L.length) (h : f (nthG L k) (nthG M k) = false) : eqG f L M = false := decide_eq_false (fun hh => by rw [hh.2 k hk] at h; cases h)
theorem eqG_yes {f : α → α → Bool} {L M : List α} (h1 : L.length = M.length) (h2 : ∀ k, k < L.length → f (nthG L k) (nthG M k) = true) : eqG f L M = true := decide_eq_true ⟨h1, h2⟩
theorem eqG_refl {f : α → α → Bool} (hf : ∀ x, f x x = true) (L : List α) : eqG f L L = true := eqG_yes rfl (fun k _ => hf _)
theorem eqG_comm {f : α → α → Bool} (hf : ∀ x y, f x y = f y x) (L M : List α) : eqG f L M = eqG f M L := by
  unfold eqG
  rw [decide_eq_decide]
  constructor
  · rintro ⟨h1, h2⟩; exact ⟨h1.symm, fun k hk => by rw [hf]; exact h2 k (by omega)⟩
  · rintro ⟨h1, h2⟩; exact ⟨h1.symm, fun k hk => by rw [hf]; exact h2 k (by omega)⟩
theorem eqG_congr {f g : α → α → Bool} (h : ∀ x y, f x y = g x y) (L M : List α) : eqG f L M = eqG g L M := by
  have : f = g := funext fun x => funext fun y => h x y
  rw [this]
end
/-! worlds that only grow, by draws and new blocks -/
/-- .. as the library's sorts ask it of a comparison -/
def Grw (w w' : World) : Prop := Ext w w' ∧ w.drawn ≤ w'.drawn
theorem Grw.refl (w : World) : Grw w w := ⟨Ext.refl w, Nat.le_refl _⟩
theorem Grw.ext {w w' : World} (h : Grw w w') : Ext w w' := h.1
theorem Grw.trans {a b c : World} (h : Grw a b) (k : Grw b c) : Grw a c := ⟨h.1.trans k.1, Nat.le_trans h.2 k.2⟩
theorem Grw.drew {a b : World} (h : Grw a b) : Grw a b.drew := ⟨h.1.drew', by have := h.2; show a.drawn ≤ b.drawn + 1; omega⟩
theorem Grw.drewN {a b : World} (h : Grw a b) (n : Nat) : Grw a (b.drewN n) := ⟨⟨h.1.os, h.1.tape, h.1.output, h.1.size, h.1.block⟩, by have := h.2; show a.drawn ≤ b.drawn + n; omega⟩
theorem Grw.alloc {a b : World} (h : Grw a b) (o : Obj) : Grw a (b.alloc o) := ⟨h.1.alloc' o, h.2⟩
theorem Grw.set {a b : World} (h : Grw a b) {p : Addr} (hp : a.heap.size ≤ p.block) (u : Value) : Grw a (b.setCell p u) := ⟨h.1.setCell hp u, h.2⟩
theorem Grw.grow {a b : World} (h : Grw a b) : ∃ q os, b = Sort.grow (a.drewN q) os := by
  obtain ⟨⟨h1, h2, h3, h4, h5⟩, h6⟩ := h
  refine ⟨b.drawn - a.drawn, b.heap.extract a.heap.size b.heap.size, ?_⟩
  obtain ⟨bh, bt, bd, bo, bu⟩ := b
  obtain ⟨ah, at', ad, ao, au⟩ := a
  simp only at h1 h2 h3 h4 h5 h6
  subst h1; subst h2; subst h3
  simp only [Sort.grow, World.drewN, World.mk.injEq, true_and, and_true]
  refine ⟨?_, by omega⟩
  apply Array.ext_getElem?
  intro i
  by_cases hi : i < ah.size
  · rw [Array.getElem?_append_left hi, h5 i hi]
  · rw [Array.getElem?_append_right (by omega)]
    simp [Array.getElem?_extract]
    by_cases hb : i < bh.size
    · rw [if_pos (by omega), show ah.size + (i - ah.size) = i from by omega]
    · rw [if_neg (by omega)]; simp; omega
end Go.Proofs.Ytjlnmpjffogpdaa
