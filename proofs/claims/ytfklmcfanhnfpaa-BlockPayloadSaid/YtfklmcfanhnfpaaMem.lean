/- What a slice reads as; worlds that only grow. -/
import Derived.Test.YtfklmcfanhnfpaaNum
import Derived.Laws.CopyOwn
import Derived.Deep.AppendLies
import Derived.Maps.AppendAt
namespace Go.Proofs.Ytfklmcfanhnfpaa
open Go.RowKit
set_option linter.unusedVariables false
set_option linter.unusedSimpArgs false

/-- a world that has grown: nothing that was there has turned -/
abbrev Ext (w w' : World) : Prop := Below w.heap.size w w'
theorem Ext.refl (w : World) : Ext w w := Below.refl _ _
theorem Ext.trans {a b c : World} (h : Ext a b) (k : Ext b c) : Ext a c := Below.trans h (k.mono h.size)
theorem Ext.drew' {a b : World} (h : Ext a b) : Ext a b.drew := Below.drew h
theorem Ext.alloc' {a b : World} (h : Ext a b) (o : Obj) : Ext a (b.alloc o) := Below.alloc h h.size o

/-- the slice at 'A' holds the cells xs -/
def Rd (w : World) (A : Option Addr) (xs : List Value) : Prop := xs = [] ∨ ∃ b o, A = some ⟨b, o, none⟩ ∧ w.rangeAt b o xs
section
variable {w w' : World} {A : Option Addr} {xs : List Value}
theorem rangeAt_lt {b o : Nat} (h : w.rangeAt b o xs) (hx : xs ≠ []) : b < w.heap.size := by
  cases xs with
  | nil => exact absurd rfl hx
  | cons v r => exact block_lt_of_cell (h 0 v rfl)
theorem rangeAt_keep {b o : Nat} (h : w.rangeAt b o xs) (hk : w'.heap[b]? = w.heap[b]?) : w'.rangeAt b o xs := fun j v hv => (World.cell?_of_block (a := ⟨b, o + j, none⟩) hk).trans (h j v hv)
theorem Rd.nil : Rd w A [] := .inl rfl
theorem Rd.ext (h : Rd w A xs) (e : Ext w w') : Rd w' A xs := by
  by_cases hx : xs = []
  · exact .inl hx
  · rcases h with h | ⟨b, o, rfl, h⟩
    · exact absurd h hx
    · exact .inr ⟨b, o, rfl, rangeAt_keep h (e.block b (rangeAt_lt h hx))⟩
theorem Rd.at (h : Rd w A xs) (hx : xs ≠ []) : ∃ b o, A = some ⟨b, o, none⟩ ∧ w.rangeAt b o xs ∧ b < w.heap.size := by
  rcases h with h | ⟨b, o, rfl, h⟩
  · exact absurd h hx
  · exact ⟨b, o, rfl, h, rangeAt_lt h hx⟩
theorem rangeAt_drop {b o k : Nat} (h : w.rangeAt b o xs) : w.rangeAt b (o + k) (xs.drop k) := fun j v hv => by
  have := h (k + j) v (by rw [← hv, List.getElem?_drop])
  rwa [← Nat.add_assoc] at this
theorem rangeAt_take {b o k : Nat} (h : w.rangeAt b o xs) : w.rangeAt b o (xs.take k) := fun j v hv => by
  rw [List.getElem?_take] at hv; split at hv
  · exact h j v hv
  · cases hv
theorem rangeAt_append {b o : Nat} {ys : List Value} (h : w.rangeAt b o xs) (k : w.rangeAt b (o + xs.length) ys) : w.rangeAt b o (xs ++ ys) := fun j v hv => by
  by_cases hj : j < xs.length
  · exact h j v (by rwa [List.getElem?_append_left hj] at hv)
  · rw [List.getElem?_append_right (by omega)] at hv
    have := k (j - xs.length) v hv
    rwa [show o + xs.length + (j - xs.length) = o + j from by omega] at this
/-- 's[k:]', as the model writes it -/
theorem Rd.cut (h : Rd w A xs) {n k c size : Nat} (hl : xs.length = n * size) (hk : k ≤ n) (hc : n ≤ c) :
    Rd w (if c = k then A else A.map (·.add (k * size))) (xs.drop (k * size)) := by
  by_cases hx : xs.drop (k * size) = []
  · exact .inl hx
  · have hkn : k < n := by
      rcases Nat.lt_or_ge k n with h' | h'
      · exact h'
      · exact absurd (List.drop_eq_nil_of_le (by rw [hl]; exact Nat.mul_le_mul_right _ h')) hx
    rw [if_neg (by omega)]
    obtain ⟨b, o, rfl, h, _⟩ := h.at (fun e => by rw [e] at hx; simp at hx)
    exact .inr ⟨b, o + k * size, by simp [Addr.add_mid], rangeAt_drop h⟩
theorem Rd.take (h : Rd w A xs) (k : Nat) : Rd w A (xs.take k) := by
  rcases h with rfl | ⟨b, o, rfl, h⟩
  · exact .inl (by simp)
  · exact .inr ⟨b, o, rfl, rangeAt_take h⟩
theorem rangeAt_of_blk {g : Nat} {t : TypeId} {cs : Array Value} (h : Blk w g t cs) : w.rangeAt g 0 cs.toList := fun j v hv => by
  rw [Nat.zero_add, h.cell j]; simpa using hv
theorem Rd.of_blk {g : Nat} {t : TypeId} {cs : Array Value} (h : Blk w g t cs) : Rd w (some ⟨g, 0, none⟩) cs.toList := .inr ⟨g, 0, rfl, rangeAt_of_blk h⟩
theorem Rd.of_own {base n c : Nat} {e : TypeId} {size : Nat} (h : w.ownsRow base e size (.slice A n c) n xs) : Rd w A xs := by
  by_cases hx : xs = []
  · exact .inl hx
  · rcases h.2 with ⟨hv, hn⟩ | ⟨g, cap, cur, hv, _, hh, _⟩
    · exact absurd (List.eq_nil_of_length_eq_zero (by rw [h.1, hn]; simp)) hx
    · injection hv with hA; subst hA
      refine .inr ⟨g, 0, rfl, fun j v hv => ?_⟩
      have := h.cells (g := g) rfl j v hv
      rwa [Addr.add_mid] at this
end
/-- the source of a copy or an append -/
theorem Rd.src {w : World} {A : Option Addr} {xs : List Value} (h : Rd w A xs) (hp : 0 < xs.length) : ∃ ad, A = some ad ∧ ∀ j v, xs[j]? = some v → w.cell? (ad.add j) = some v := by
  obtain ⟨b, o, rfl, h, _⟩ := h.at (fun e => by rw [e] at hp; simp at hp)
  exact ⟨_, rfl, fun j v hv => by rw [Addr.add_mid]; exact h j v hv⟩
/-- a byte of a list, as the walk meets it -/
theorem bcs_get (l : List UInt8) (k : Nat) (h : k < l.length) : (bcs l)[k]? = some (.int .u8 (l[k].toNat : Int)) := by
  simp [bcs, h, bv]
theorem byte_at {w : World} {b o : Nat} {l : List UInt8} (h : w.rangeAt b o (bcs l)) (k : Nat) (hk : k < l.length) : w.cell? ⟨b, o + k, none⟩ = some (.int .u8 (l[k].toNat : Int)) := h k _ (bcs_get l k hk)
/-! a whole variable of a name's type, stored into a block of the call's own -/
abbrev zcs : List Value := [.int .u8 0, .int .u8 0, .int .u8 0, .int .u8 0, .int .u8 0, .int .u8 0, .int .u8 0, .int .u8 0]
theorem zcs_eq : zcs = List.replicate 8 (.int .u8 0) := rfl
theorem there_of_blk {w : World} {g : Nat} {t : TypeId} {cs : Array Value} (h : Blk w g t cs) : w.there g 0 cs.size := fun j hj => by
  rw [Nat.zero_add]
  exact ⟨by rw [h.cell j]; simp [hj], h.frozen j⟩
theorem thereZ {w : World} {g : Nat} {t : TypeId} (h : Blk w g t zcs.toArray) : w.there g 0 8 := there_of_blk h
theorem blk_setCells {w : World} {g o : Nat} {t : TypeId} {vs : List Value} : ∀ {cs : Array Value}, Blk w g t cs → Blk (w.setCells g o vs) g t (vs.zipIdx.foldl (fun a p => a.setIfInBounds (o + p.2) p.1) cs) := by
  intro cs h
  suffices H : ∀ (vs : List Value) (i o : Nat) (w : World) (cs : Array Value), Blk w g t cs → Blk (w.setCells g (o + i) vs) g t ((vs.zipIdx i).foldl (fun a p => a.setIfInBounds (o + p.2) p.1) cs) from by
    simpa using H vs 0 o w cs h
  intro vs
  induction vs with
  | nil => intro i o w cs h; simpa [World.setCells] using h
  | cons v r ih =>
    intro i o w cs h
    rw [World.setCells, List.zipIdx_cons, List.foldl_cons]
    have := ih (i + 1) o (w.setCell ⟨g, o + i, none⟩ v) _ (h.set (o + i) v)
    rw [← Nat.add_assoc] at this
    exact this
theorem foldl_set_size (vs : List Value) (i o : Nat) : ∀ (cs : Array Value), ((vs.zipIdx i).foldl (fun a p => a.setIfInBounds (o + p.2) p.1) cs).size = cs.size := by
  induction vs generalizing i with
  | nil => intro cs; rfl
  | cons v r ih => intro cs; rw [List.zipIdx_cons, List.foldl_cons, ih]; simp
theorem foldl_set_get (vs : List Value) (i o : Nat) : ∀ (cs : Array Value) (j : Nat), ((vs.zipIdx i).foldl (fun a p => a.setIfInBounds (o + p.2) p.1) cs)[j]? = if o + i ≤ j ∧ j < o + i + vs.length ∧ j < cs.size then vs[j - (o + i)]? else cs[j]? := by
  induction vs generalizing i with
  | nil => intro cs j; rw [if_neg (by simp; omega)]; rfl
  | cons v r ih =>
    intro cs j
    rw [List.zipIdx_cons, List.foldl_cons, ih, Array.size_setIfInBounds]
    simp only [List.length_cons]
    by_cases h1 : o + (i + 1) ≤ j ∧ j < o + (i + 1) + r.length ∧ j < cs.size
    · rw [if_pos h1, if_pos (by omega), show j - (o + i) = (j - (o + (i + 1))) + 1 from by omega, List.getElem?_cons_succ]
    · rw [if_neg h1, Array.getElem?_setIfInBounds]
      by_cases h2 : o + i = j
      · subst h2
        rw [if_pos rfl]
        by_cases h3 : o + i < cs.size
        · rw [if_pos h3, if_pos (by omega)]; simp
        · rw [if_neg h3, if_neg (by omega)]; simp; omega
      · rw [if_neg h2, if_neg (by omega)]
theorem blk_whole {w : World} {g : Nat} {t : TypeId} {cs ds : Array Value} (h : Blk w g t cs) (hs : ds.size = cs.size) : Blk (w.setCells g 0 ds.toList) g t ds := by
  have := blk_setCells (o := 0) (vs := ds.toList) h
  have e : ((ds.toList.zipIdx 0).foldl (fun a p => a.setIfInBounds (0 + p.2) p.1) cs) = ds := by
    apply Array.ext_getElem?
    intro j
    rw [foldl_set_get]
    by_cases hj : j < ds.size
    · rw [if_pos (by simp; omega)]; simp
    · rw [if_neg (by simp; omega), Array.getElem?_eq_none (by omega), Array.getElem?_eq_none (by omega)]
  rw [e] at this
  exact this
theorem Below.setCells' {B : Nat} {a w : World} (h : Below B a w) {g : Nat} (hg : B ≤ g) : ∀ (vs : List Value) (o : Nat), Below B a (w.setCells g o vs) := by
  intro vs
  induction vs generalizing w with
  | nil => intro o; exact h
  | cons v r ih => intro o; exact ih (h.setCell (p := ⟨g, o, none⟩) hg v) (o + 1)
theorem setCells_alloc (w : World) (t : TypeId) (vs : List Value) : ∀ (o : Nat) (cs : Array Value) , (w.alloc (.cells cs t)).setCells w.heap.size o vs = w.alloc (.cells ((vs.zipIdx 0).foldl (fun a p => a.setIfInBounds (o + p.2) p.1) cs) t) := by
  suffices H : ∀ (vs : List Value) (i o : Nat) (cs : Array Value), (w.alloc (.cells cs t)).setCells w.heap.size (o + i) vs = w.alloc (.cells ((vs.zipIdx i).foldl (fun a p => a.setIfInBounds (o + p.2) p.1) cs) t) from fun o cs => by simpa using H vs 0 o cs
  intro vs
  induction vs with
  | nil => intro i o cs; rfl
  | cons v r ih =>
    intro i o cs
    rw [World.setCells, World.setCell_alloc_at _ _ _ _ _ rfl, List.zipIdx_cons, List.foldl_cons, ← ih (i + 1) o]
    rfl
theorem setCells_whole (w : World) (t : TypeId) (cs ds : Array Value) (h : ds.size = cs.size) : (w.alloc (.cells cs t)).setCells w.heap.size 0 ds.toList = w.alloc (.cells ds t) := by
  rw [setCells_alloc]
  congr 2
  apply Array.ext_getElem?
  intro j
  rw [foldl_set_get]
  by_cases hj : j < ds.size
  · rw [if_pos (by simp; omega)]; simp
  · rw [if_neg (by simp; omega), Array.getElem?_eq_none (by omega), Array.getElem?_eq_none (by omega)]
/-- a slice of bytes: the value '.slice A n c' holds the bytes l -/
structure SlB (w : World) (A : Option Addr) (n c : Nat) (l : List UInt8) : Prop where
  len : l.length = n
  le : n ≤ c
  cap : c ≤ 9223372036854775807
  rd : Rd w A (bcs l)
section
variable {w w' : World} {A : Option Addr} {n c : Nat} {l : List UInt8}
theorem SlB.ext (h : SlB w A n c l) (e : Ext w w') : SlB w' A n c l := ⟨h.len, h.le, h.cap, h.rd.ext e⟩
theorem SlB.nil (w : World) : SlB w none 0 0 [] := ⟨rfl, Nat.le_refl _, Nat.zero_le _, .nil⟩
theorem SlB.empty (w : World) (A : Option Addr) (c : Nat) (hc : c ≤ 9223372036854775807) : SlB w A 0 c [] := ⟨rfl, Nat.zero_le _, hc, .nil⟩
theorem SlB.cut (h : SlB w A n c l) {k : Nat} (hk : k ≤ n) (hkc : k < c) : SlB w (A.map (·.add k)) (n - k) (c - k) (l.drop k) := by
  refine ⟨by rw [List.length_drop, h.len], by have := h.le; omega, by have := h.cap; omega, ?_⟩
  have := h.rd.cut (n := n) (k := k) (c := c) (size := 1) (by rw [bcs_length, h.len, Nat.mul_one]) hk h.le
  rw [if_neg (by omega), Nat.mul_one] at this
  simpa [bcs] using this
theorem SlB.upto (h : SlB w A n c l) {k : Nat} (hk : k ≤ n) : SlB w A k c (l.take k) := by
  refine ⟨by rw [List.length_take, h.len]; omega, by have := h.le; omega, h.cap, ?_⟩
  have := h.rd.take k
  simpa [bcs] using this
theorem SlB.at (h : SlB w A n c l) (hn : 0 < n) : ∃ b o, A = some ⟨b, o, none⟩ ∧ w.rangeAt b o (bcs l) ∧ b < w.heap.size :=
  h.rd.at (by intro e; have := congrArg List.length e; rw [bcs_length, h.len] at this; simp at this; omega)
theorem SlB.of_own {base : Nat} {e : TypeId} (h : w.ownsRow base e 1 (.slice A n c) n (bcs l)) : SlB w A n c l := by
  have hl : l.length = n := by have := h.1; rw [bcs_length, Nat.mul_one] at this; exact this
  refine ⟨hl, ?_, ?_, Rd.of_own h⟩
  all_goals
    rcases h.2 with ⟨hv, hn⟩ | ⟨g, cap, cur, hv, _, _, hc, hm, _⟩
    · injection hv; omega
    · injection hv with _ _ hc'; subst hc'; first | exact hc | exact hm
end
end Go.Proofs.Ytfklmcfanhnfpaa
