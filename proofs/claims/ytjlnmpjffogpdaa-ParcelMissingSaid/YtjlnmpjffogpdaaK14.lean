/- A row of one's own whose elements are read, set and exchanged; the row as an array. -/
import Derived.Test.YtjlnmpjffogpdaaK09
import Derived.Test.YtjlnmpjffogpdaaK13
import Derived.Test.YtjlnmpjffogpdaaK05
import Derived.Laws.OwnMore
namespace Go.Proofs.Ytjlnmpjffogpdaa
open Go.RowKit
set_option linter.unusedVariables false
set_option linter.unusedSimpArgs false
set_option linter.unusedSectionVars false

theorem Grown.refl (w : World) (row : Option Nat) : w.grownBy w row := ⟨rfl, rfl, rfl, Nat.le_refl _, fun _ _ _ => rfl⟩
theorem Grown.trans {a b c : World} {row : Option Nat} (h : a.grownBy b row) (k : b.grownBy c row) : a.grownBy c row :=
  ⟨k.os.trans h.os, k.tape.trans h.tape, k.output.trans h.output, Nat.le_trans h.size k.size, fun i hi hr => (k.block i (Nat.lt_of_lt_of_le hi h.size) hr).trans (h.block i hi hr)⟩
theorem Ext.grown {a b : World} (h : Ext a b) (row : Option Nat) : a.grownBy b row := ⟨h.os, h.tape, h.output, h.size, fun i hi _ => h.block i hi⟩
theorem Grown.none {a b : World} (h : a.grownBy b none) : Ext a b := ⟨h.os, h.tape, h.output, h.size, fun k hk => h.block k hk (by simp)⟩
theorem splice_cons {xs : List Value} {o : Nat} {y : Value} {r : List Value} (h : o < xs.length) : splice (xs.set o y) (o + 1) r = splice xs o (y :: r) := by
  unfold splice
  rw [List.take_add_one, List.getElem?_set_self h, List.take_set_of_le (Nat.le_refl _)]
  simp [List.drop_set_of_lt, show o < o + 1 + r.length from by omega, show o + (r.length + 1) = o + 1 + r.length from by omega]
/-- a list of cells laid over one's own row -/
theorem own_splice {base : Nat} {e : TypeId} {size g n c : Nat} (ys : List Value) : ∀ (o : Nat) (w : World) (xs : List Value), o + ys.length ≤ xs.length → w.ownsRow base e size (.slice (some ⟨g, 0, none⟩) n c) n xs →
    (w.setCells g o ys).ownsRow base e size (.slice (some ⟨g, 0, none⟩) n c) n (splice xs o ys) ∧ w.grownBy (w.setCells g o ys) (some g) := by
  induction ys with
  | nil => intro o w xs hl h; exact ⟨by simpa [splice, World.setCells] using h, Grown.refl _ _⟩
  | cons y r ih =>
    intro o w xs hl h
    simp only [List.length_cons] at hl
    have hs := h.stored o y
    obtain ⟨h1, h2⟩ := ih (o + 1) _ _ (by rw [List.length_set]; omega) hs.1
    rw [splice_cons (by omega)] at h1
    exact ⟨h1, Grown.trans hs.2 h2⟩
/-- a slice of one's own, cut behind -/
theorem own_cut {w : World} {base : Nat} {e : TypeId} {size : Nat} {A : Option Addr} {n c : Nat} {xs : List Value} (h : w.ownsRow base e size (.slice A n c) n xs) {i : Nat} (hi : i ≤ n) (hA : A ≠ none) : w.ownsRow base e size (.slice A i c) i (xs.take (i * size)) := by
  have hle : i * size ≤ n * size := Nat.mul_le_mul_right _ hi
  refine ⟨by rw [List.length_take, h.1]; omega, ?_⟩
  rcases h.2 with ⟨hv, _⟩ | ⟨g, cap, cur, hv, hb, hh, hn, hm, hs, ht⟩
  · injection hv with hA'; exact absurd hA' hA
  · injection hv with h1 _ h3; subst h1; subst h3
    refine .inr ⟨g, c, cur, rfl, hb, hh, by omega, hm, hs, ?_⟩
    rw [← ht, List.take_take, Nat.min_eq_left hle]
/-- cells of one's own row are stored over, from place o on: what lies ahead stays -/
theorem own_over {base : Nat} {e : TypeId} {size g n c : Nat} (ys : List Value) : ∀ (o : Nat) (w : World) (xs : List Value), w.ownsRow base e size (.slice (some ⟨g, 0, none⟩) n c) n xs →
    ∃ xs', (w.setCells g o ys).ownsRow base e size (.slice (some ⟨g, 0, none⟩) n c) n xs' ∧ xs'.take o = xs.take o ∧ w.grownBy (w.setCells g o ys) (some g) := by
  induction ys with
  | nil => intro o w xs h; exact ⟨xs, h, rfl, Grown.refl _ _⟩
  | cons y r ih =>
    intro o w xs h
    have hs := h.stored o y
    obtain ⟨xs', h1, h2, h3⟩ := ih (o + 1) _ _ hs.1
    refine ⟨xs', h1, ?_, Grown.trans hs.2 h3⟩
    have := congrArg (List.take o) h2
    rw [List.take_take, List.take_take, Nat.min_eq_left (by omega)] at this
    rw [this, List.take_set_of_le (by omega)]
section
variable {α : Type} [RowT α]
instance (priority := low) rowInh : Inhabited α := ⟨RowT.z⟩
theorem arr_nth (d : Array α) (i : Nat) : d[i]! = nthG d.toList i := by
  show d[i]! = d.toList.getD i RowT.z
  rw [List.getD_eq_getElem?_getD, Array.getElem?_toList]
  by_cases h : i < d.size
  · rw [getElem!_pos d i h, Array.getElem?_eq_getElem h]; rfl
  · rw [getElem!_neg d i h, Array.getElem?_eq_none (by omega)]; rfl
theorem gcs_set (L : List α) (i : Nat) (x : α) (hi : i < L.length) : splice (gcs L) (i * RowT.sz α) (RowT.enc x) = gcs (L.set i x) := by
  rw [List.set_eq_take_append_cons_drop, if_pos hi, gcs_append, gcs_cons]
  unfold splice
  rw [gcs_take, RowT.len, ← gcs_drop, Nat.add_mul, Nat.one_mul]
/-- elements whose bytes are somebody's own -/
class RowB (α : Type) [RowT α] where
  ow : World → Nat → α → Prop
  ok : ∀ x w b, ow w b x → RowT.ok x w
  ext : ∀ x w w' b, ow w b x → Ext w w' → ow w' b x
  kept : ∀ x w w' b b' e sz A n c xs, ow w b x → w.ownsRow b' e sz (.slice A n c) n xs → e ≠ 5 → w.grownBy w' (Value.ownBlock (.slice A n c)) → ow w' b x
  mono : ∀ x w b b', ow w b x → b' ≤ b → ow w b' x
/-- the row d in the world w, which w0 has come to by nothing but this row and new blocks -/
structure RowS [RowB α] (w0 w : World) (base : Nat) (e : TypeId) (A : Option Addr) (n c : Nat) (d : Array α) : Prop where
  own : w.ownsRow base e (RowT.sz α) (.slice A n c) n (gcs d.toList)
  ow : ∀ x ∈ d.toList, RowB.ow w base x
  gr : w0.grownBy w (Value.ownBlock (.slice A n c))
  ne : e ≠ 5
variable [RowB α] {w0 w w' : World} {base : Nat} {e : TypeId} {A : Option Addr} {n c : Nat} {d : Array α}
theorem RowS.start (h : w.ownsRow base e (RowT.sz α) (.slice A n c) n (gcs d.toList)) (ho : ∀ x ∈ d.toList, RowB.ow w base x) (hne : e ≠ 5) : RowS w w base e A n c d := ⟨h, ho, Grown.refl _ _, hne⟩
theorem RowS.size (h : RowS w0 w base e A n c d) : d.size = n := by
  have := h.own.1
  rw [gcs_length] at this
  have hp := RowT.pos (α := α)
  have := Nat.eq_of_mul_eq_mul_right hp this
  simpa using this
theorem RowS.ext (h : RowS w0 w base e A n c d) (he : Ext w w') : RowS w0 w' base e A n c d := ⟨own_ext h.own he, fun x hx => RowB.ext _ _ _ _ (h.ow x hx) he, Grown.trans h.gr (Ext.grown he _), h.ne⟩
theorem RowS.at (h : RowS w0 w base e A n c d) (hn : 0 < n) : ∃ g, A = some ⟨g, 0, none⟩ ∧ base ≤ g ∧ w.rangeAt g 0 (gcs d.toList) := own_at h.own hn
theorem RowS.cell (h : RowS w0 w base e A n c d) {g : Nat} (hA : A = some ⟨g, 0, none⟩) {i : Nat} (hi : i < n) : w.rangeAt g (i * RowT.sz α) (RowT.enc d[i]!) := by
  obtain ⟨g', hA', _, hr⟩ := h.at (by omega)
  obtain rfl : g = g' := by rw [hA] at hA'; injection hA' with h1; injection h1
  have := el_at (L := d.toList) (k := i) hr (by have := h.size; simp; omega)
  rw [Nat.zero_add] at this
  rw [arr_nth]
  exact this
theorem arr_mem {i : Nat} (hi : i < d.size) : d[i]! ∈ d.toList := by
  rw [getElem!_pos d i hi]; exact Array.mem_toList_iff.2 (Array.getElem_mem hi)
theorem RowS.owAt (h : RowS w0 w base e A n c d) {i : Nat} (hi : i < n) : RowB.ow w base d[i]! := h.ow _ (arr_mem (by rw [h.size]; exact hi))
theorem RowS.ok (h : RowS w0 w base e A n c d) {i : Nat} (hi : i < n) : RowT.ok d[i]! w := RowB.ok _ _ _ (h.owAt hi)
theorem RowS.there (h : RowS w0 w base e A n c d) {g : Nat} (hA : A = some ⟨g, 0, none⟩) {i : Nat} (hi : i < n) : w.there g (i * RowT.sz α) (RowT.sz α) := by
  have hl := h.own.1
  have h1 : i * RowT.sz α + RowT.sz α ≤ n * RowT.sz α := by
    have := Nat.mul_le_mul_right (RowT.sz α) (show i + 1 ≤ n from hi)
    rwa [Nat.add_mul, Nat.one_mul] at this
  have ho := h.own
  subst hA
  intro j hj
  exact ⟨by rw [ho.cellAt (i * RowT.sz α + j) (by omega), List.getElem?_eq_getElem (by omega)]; rfl, ho.frozenAt _⟩
/-- an element set -/
theorem RowS.set (h : RowS w0 w base e A n c d) {g : Nat} (hA : A = some ⟨g, 0, none⟩) {i : Nat} (hi : i < n) (x : α) (hx : RowB.ow w base x) : RowS w0 (w.setCells g (i * RowT.sz α) (RowT.enc x)) base e A n c (d.setIfInBounds i x) := by
  have hs := h.size
  have ho := h.own
  subst hA
  obtain ⟨h1, h2⟩ := own_splice (RowT.enc x) (i * RowT.sz α) w (gcs d.toList) (by
    rw [RowT.len, gcs_length]
    have := Nat.mul_le_mul_right (RowT.sz α) (show i + 1 ≤ d.toList.length from by simp; omega)
    rwa [Nat.add_mul, Nat.one_mul] at this) ho
  rw [gcs_set _ _ _ (by simp; omega)] at h1
  refine ⟨by rw [Array.toList_setIfInBounds]; exact h1, fun y hy => ?_, Grown.trans h.gr h2, h.ne⟩
  rw [Array.toList_setIfInBounds] at hy
  rcases List.mem_or_eq_of_mem_set hy with hy | rfl
  · exact RowB.kept _ _ _ _ _ _ _ _ _ _ _ (h.ow y hy) ho h.ne h2
  · exact RowB.kept _ _ _ _ _ _ _ _ _ _ _ hx ho h.ne h2
theorem RowS.keep (h : RowS w0 w base e A n c d) {g : Nat} (hA : A = some ⟨g, 0, none⟩) (o : Nat) (vs : List Value) {x : α} (hx : RowB.ow w base x) : RowB.ow (w.setCells g o vs) base x := by
  have ho := h.own
  subst hA
  exact RowB.kept _ _ _ _ _ _ _ _ _ _ _ hx ho h.ne (grown_setCells' _ _ _ _)
/-- two elements exchanged: the later store's place first read -/
theorem RowS.swap (h : RowS w0 w base e A n c d) {g : Nat} (hA : A = some ⟨g, 0, none⟩) {i j : Nat} (hi : i < n) (hj : j < n) :
    RowS w0 ((w.setCells g (i * RowT.sz α) (RowT.enc d[j]!)).setCells g (j * RowT.sz α) (RowT.enc d[i]!)) base e A n c (Sort.swp d i j) :=
  (h.set hA hi _ (h.owAt hj)).set hA hj _ (h.keep hA _ _ (h.owAt hi))
theorem RowS.trans {w1 : World} (h : RowS w0 w1 base e A n c d) {d' : Array α} (k : RowS w1 w base e A n c d') : RowS w0 w base e A n c d' := ⟨k.own, k.ow, Grown.trans h.gr k.gr, k.ne⟩
end
theorem ownB_kept {w w' : World} {b b' n0 n1 sz c0 : Nat} {c1 : Nat} {A0 A1 : Option Addr} {l : List UInt8} {e : TypeId} {xs : List Value} (h : OwnB w b 5 A0 n0 c0 l) (hr : w.ownsRow b' e sz (.slice A1 n1 c1) n1 xs) (hne : e ≠ 5) (hg : w.grownBy w' (Value.ownBlock (.slice A1 n1 c1))) : OwnB w' b 5 A0 n0 c0 l :=
  World.ownsRow.kept h hg (own_ne h hr (Ne.symm hne))
instance : RowB SgR where
  ow w b S := OwnB w b 5 S.A S.n S.c S.sig ∧ S.v.wf
  ok S w b h := ⟨h.2, h.1.sl⟩
  ext S w w' b h he := ⟨h.1.ext he, h.2⟩
  kept S w w' b b' e sz A n c xs h hr hne hg := ⟨ownB_kept h.1 hr hne hg, h.2⟩
  mono S w b b' h hb := ⟨own_mono h.1 hb, h.2⟩
instance : RowB TeR where
  ow w b T := OwnB w b 5 T.A T.n T.c T.l
  ok T w b h := h.sl
  ext T w w' b h he := h.ext he
  kept T w w' b b' e sz A n c xs h hr hne hg := ownB_kept h hr hne hg
  mono T w b b' h hb := own_mono h hb
/-! signed votes loaded and stored, as values under a name of their own -/
section
variable {ops : Array Oper} {o : Oper} {a : Act} {w : World} {K : Act → World → Prop} {Q : Exit → Act → World → Prop} {X : Prop}
theorem step_loadSg (hgd : o.guard = none) (x : Operand) (ho : o.op = .load 45 x) (b of : Nat) (hx : a.eval x = .pointer (some ⟨b, of, none⟩)) (R : SgR) (hc : w.rangeAt b of (sgL R)) (v : Value) (hv : Value.agg (sgA R) = v)
    (h : K (a.put o.dst v) w) : if Region.wanted o (yielded ops a.tmps) = true then Oper.wp Try.prog o a w K Q else X := by
  have hw : Region.wanted o (yielded ops a.tmps) = true := by simp [Region.wanted, hgd]
  rw [if_pos hw]
  have := wp_load_mid (P := Try.prog) (Q := Q) (op := o) (K := K) 45 x ho b of hx (sgL R) _ hc Try.underlying45 rfl (by rw [sgL_length]; kernel_rfl)
  rw [sgL_arr, hv] at this
  exact this h
theorem step_storeSg (hgd : o.guard = none) (x y : Operand) (ho : o.op = .store 45 x y) (b of : Nat) (hx : a.eval x = .pointer (some ⟨b, of, none⟩)) (R : SgR) (v : Value) (hv : Value.agg (sgA R) = v) (hy : a.eval y = v) (ht : w.there b of 23)
    (h : K (a.put o.dst undef) (w.setCells b of (sgL R))) : if Region.wanted o (yielded ops a.tmps) = true then Oper.wp Try.prog o a w K Q else X := by
  have hw : Region.wanted o (yielded ops a.tmps) = true := by simp [Region.wanted, hgd]
  rw [if_pos hw]
  exact wp_store_mid (P := Try.prog) (Q := Q) (op := o) (K := K) 45 x y ho b of (sgA R) hx (by rw [hy, ← hv]) ht (by kernel_rfl) (sgA_all R) h
theorem yields_loadSgV {S : World → Prop} (hw : Region.wanted o (yielded ops a.tmps) = true) (x : Operand) (ho : o.op = .load 45 x) (b of : Nat) (hx : a.eval x = .pointer (some ⟨b, of, none⟩)) (R : SgR) (v : Value) (hv : Value.agg (sgA R) = v) (hS : ∀ w, S w → w.rangeAt b of (sgL R)) : YieldsIf Try.prog ops S o v a := by
  rw [← hv]
  exact yieldsIf_load_mid hw 45 x ho b of hx (sgL R) _ hS Try.underlying45 rfl (by rw [sgL_length]; kernel_rfl)
end
end Go.Proofs.Ytjlnmpjffogpdaa
