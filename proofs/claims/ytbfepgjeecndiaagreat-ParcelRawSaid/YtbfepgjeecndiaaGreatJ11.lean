/- A row of one's own whose elements are read, set and exchanged; the row as an array. -/
import Derived.Laws.OwnMore
import Derived.Test.YtbfepgjeecndiaaGreatJ10
import Derived.Test.YtbfepgjeecndiaaGreatLay
namespace Go.Proofs.YtbfepgjeecndiaaGreat
open Go.RowKit
set_option linter.unusedVariables false
set_option linter.unusedSimpArgs false
set_option linter.unusedSectionVars false
theorem Grown.refl (w : World) (row : Option Nat) : w.grownBy w row := ⟨rfl, rfl, rfl, Nat.le_refl _, fun _ _ _ => rfl⟩
theorem Grown.trans {a b c : World} {row : Option Nat} (h : a.grownBy b row) (k : b.grownBy c row) : a.grownBy c row :=
 ⟨k.os.trans h.os, k.tape.trans h.tape, k.output.trans h.output, Nat.le_trans h.size k.size, fun i hi hr => (k.block i (Nat.lt_of_lt_of_le hi h.size) hr).trans (h.block i hi hr)⟩
theorem Ext.grown {a b : World} (h : Ext a b) (row : Option Nat) : a.grownBy b row := ⟨h.os, h.tape, h.output, h.size, fun i hi _ => h.block i hi⟩
theorem Grown.none {a b : World} (h : a.grownBy b none) : Ext a b := ⟨h.os, h.tape, h.output, h.size, fun k hk => h.block k hk (by simp)⟩
theorem splice_cons {xs : List Value} {o : Nat} {y : Value} {r : List Value} (h : o < xs.length) : splice (xs.set o y) (o + 1) r = splice xs o (y :: r) := by
 unfold splice
 rw [List.take_add_one, List.getElem?_set_self h, List.take_set_of_le (Nat.le_refl _)]
 simp [List.drop_set_of_lt, show o < o + 1 + r.length from by omega, show o + (r.length + 1) = o + 1 + r.length from by omega]
theorem own_splice {base : Nat} {e : TypeId} {size g n c : Nat} (ys : List Value) : ∀ (o : Nat) (w : World) (xs : List Value), o + ys.length ≤ xs.length → w.ownsRow base e size (.slice (some ⟨g, 0, none⟩) n c) n xs →
  (w.setCells g o ys).ownsRow base e size (.slice (some ⟨g, 0, none⟩) n c) n (splice xs o ys) ∧ w.grownBy (w.setCells g o ys) (some g) := by
 induction ys with
 | nil => intro o w xs hl h; exact ⟨by simpa [splice, World.setCells] using h, Grown.refl _ _⟩
 | cons y r ih =>
  intro o w xs hl h
  simp only [List.length_cons] at hl
  have hs := h.stored o y
  obtain ⟨h1, h2⟩ := ih (o + 1) _ _ (by rw [List.length_set]; omega) hs.1
  rw [splice_cons (by omega)] at h1
  exact ⟨h1, Grown.trans hs.2 h2⟩
theorem own_cut {w : World} {base : Nat} {e : TypeId} {size : Nat} {A : Option Addr} {n c : Nat} {xs : List Value} (h : w.ownsRow base e size (.slice A n c) n xs) {i : Nat} (hi : i ≤ n) (hA : A ≠ none) : w.ownsRow base e size (.slice A i c) i (xs.take (i * size)) := by
 have hle : i * size ≤ n * size := Nat.mul_le_mul_right _ hi
 refine ⟨by rw [List.length_take, h.1]; omega, ?_⟩
 rcases h.2 with ⟨hv, _⟩ | ⟨g, cap, cur, hv, hb, hh, hn, hm, hs, ht⟩
 ·injection hv with hA'; exact absurd hA' hA
 ·injection hv with h1 _ h3; subst h1; subst h3
  refine .inr ⟨g, c, cur, rfl, hb, hh, by omega, hm, hs, ?_⟩
  rw [← ht, List.take_take, Nat.min_eq_left hle]
theorem own_over {base : Nat} {e : TypeId} {size g n c : Nat} (ys : List Value) : ∀ (o : Nat) (w : World) (xs : List Value), w.ownsRow base e size (.slice (some ⟨g, 0, none⟩) n c) n xs →
  ∃ xs', (w.setCells g o ys).ownsRow base e size (.slice (some ⟨g, 0, none⟩) n c) n xs' ∧ xs'.take o = xs.take o ∧ w.grownBy (w.setCells g o ys) (some g) := by
 induction ys with
 | nil => intro o w xs h; exact ⟨xs, h, rfl, Grown.refl _ _⟩
 | cons y r ih =>
  intro o w xs h
  have hs := h.stored o y
  obtain ⟨xs', h1, h2, h3⟩ := ih (o + 1) _ _ hs.1
  refine ⟨xs', h1, ?_, Grown.trans hs.2 h3⟩
  have := congrArg (List.take o) h2
  rw [List.take_take, List.take_take, Nat.min_eq_left (by omega)] at this
  rw [this, List.take_set_of_le (by omega)]
section
variable {α : Type} [RowT α]
instance (priority := low) rowInh : Inhabited α := ⟨RowT.z⟩
theorem arr_nth (d : Array α) (i : Nat) : d[i]! = nthG d.toList i := by
 show d[i]! = d.toList.getD i RowT.z
 rw [List.getD_eq_getElem?_getD, Array.getElem?_toList]
 by_cases h : i < d.size
 ·rw [getElem!_pos d i h, Array.getElem?_eq_getElem h]; rfl
 ·rw [getElem!_neg d i h, Array.getElem?_eq_none (by omega)]; rfl
theorem gcs_set (L : List α) (i : Nat) (x : α) (hi : i < L.length) : splice (gcs L) (i * RowT.sz α) (RowT.enc x) = gcs (L.set i x) := by
 rw [List.set_eq_take_append_cons_drop, if_pos hi, gcs_append, gcs_cons]
 unfold splice
 rw [gcs_take, RowT.len, ← gcs_drop, Nat.add_mul, Nat.one_mul]
class RowB (α : Type) [RowT α] where
 ow : World → Nat → α → Prop
 ok : ∀ x w b, ow w b x → RowT.ok x w
 ext : ∀ x w w' b, ow w b x → Ext w w' → ow w' b x
 kept : ∀ x w w' b b' e sz A n c xs, ow w b x → w.ownsRow b' e sz (.slice A n c) n xs → e ≠ 5 → w.grownBy w' (Value.ownBlock (.slice A n c)) → ow w' b x
 mono : ∀ x w b b', ow w b x → b' ≤ b → ow w b' x
structure RowS [RowB α] (w0 w : World) (base : Nat) (e : TypeId) (A : Option Addr) (n c : Nat) (d : Array α) : Prop where
 own : w.ownsRow base e (RowT.sz α) (.slice A n c) n (gcs d.toList)
 ow : ∀ x ∈ d.toList, RowB.ow w base x
 gr : w0.grownBy w (Value.ownBlock (.slice A n c))
 ne : e ≠ 5
variable [RowB α] {w0 w w' : World} {base : Nat} {e : TypeId} {A : Option Addr} {n c : Nat} {d : Array α}
theorem RowS.start (h : w.ownsRow base e (RowT.sz α) (.slice A n c) n (gcs d.toList)) (ho : ∀ x ∈ d.toList, RowB.ow w base x) (hne : e ≠ 5) : RowS w w base e A n c d := ⟨h, ho, Grown.refl _ _, hne⟩
theorem RowS.size (h : RowS w0 w base e A n c d) : d.size = n := by
 have := h.own.1
 rw [gcs_length] at this
 have hp := RowT.pos (α := α)
 have := Nat.eq_of_mul_eq_mul_right hp this
 simpa using this
theorem RowS.ext (h : RowS w0 w base e A n c d) (he : Ext w w') : RowS w0 w' base e A n c d := ⟨own_ext h.own he, fun x hx => RowB.ext _ _ _ _ (h.ow x hx) he, Grown.trans h.gr (Ext.grown he _), h.ne⟩
theorem RowS.at (h : RowS w0 w base e A n c d) (hn : 0 < n) : ∃ g, A = some ⟨g, 0, none⟩ ∧ base ≤ g ∧ w.rangeAt g 0 (gcs d.toList) := own_at h.own hn
theorem RowS.cell (h : RowS w0 w base e A n c d) {g : Nat} (hA : A = some ⟨g, 0, none⟩) {i : Nat} (hi : i < n) : w.rangeAt g (i * RowT.sz α) (RowT.enc d[i]!) := by
 obtain ⟨g', hA', _, hr⟩ := h.at (by omega)
 obtain rfl : g = g' := by rw [hA] at hA'; injection hA' with h1; injection h1
 have := el_at (L := d.toList) (k := i) hr (by have := h.size; simp; omega)
 rw [Nat.zero_add] at this
 rw [arr_nth]
 exact this
theorem arr_mem {i : Nat} (hi : i < d.size) : d[i]! ∈ d.toList := by
 rw [getElem!_pos d i hi]; exact Array.mem_toList_iff.2 (Array.getElem_mem hi)
theorem RowS.owAt (h : RowS w0 w base e A n c d) {i : Nat} (hi : i < n) : RowB.ow w base d[i]! := h.ow _ (arr_mem (by rw [h.size]; exact hi))
theorem RowS.ok (h : RowS w0 w base e A n c d) {i : Nat} (hi : i < n) : RowT.ok d[i]! w := RowB.ok _ _ _ (h.owAt hi)
theorem RowS.there (h : RowS w0 w base e A n c d) {g : Nat} (hA : A = some ⟨g, 0, none⟩) {i : Nat} (hi : i < n) : w.there g (i * RowT.sz α) (RowT.sz α) := by
 have hl := h.own.1
 have h1 : i * RowT.sz α + RowT.sz α ≤ n * RowT.sz α := by
  have := Nat.mul_le_mul_right (RowT.sz α) (show i + 1 ≤ n from hi)
  rwa [Nat.add_mul, Nat.one_mul] at this
 have ho := h.own
 subst hA
 intro j hj
 exact ⟨by rw [ho.cellAt (i * RowT.sz α + j) (by omega), List.getElem?_eq_getElem (by omega)]; rfl, ho.frozenAt _⟩
theorem RowS.set (h : RowS w0 w base e A n c d) {g : Nat} (hA : A = some ⟨g, 0, none⟩) {i : Nat} (hi : i < n) (x : α) (hx : RowB.ow w base x) : RowS w0 (w.setCells g (i * RowT.sz α) (RowT.enc x)) base e A n c (d.setIfInBounds i x) := by
 have hs := h.size
 have ho := h.own
 subst hA
 obtain ⟨h1, h2⟩ := own_splice (RowT.enc x) (i * RowT.sz α) w (gcs d.toList) (by
  rw [RowT.len, gcs_length]
  have := Nat.mul_le_mul_right (RowT.sz α) (show i + 1 ≤ d.toList.length from by simp; omega)
  rwa [Nat.add_mul, Nat.one_mul] at this) ho
 rw [gcs_set _ _ _ (by simp; omega)] at h1
 refine ⟨by rw [Array.toList_setIfInBounds]; exact h1, fun y hy => ?_, Grown.trans h.gr h2, h.ne⟩
 rw [Array.toList_setIfInBounds] at hy
 rcases List.mem_or_eq_of_mem_set hy with hy | rfl
 ·exact RowB.kept _ _ _ _ _ _ _ _ _ _ _ (h.ow y hy) ho h.ne h2
 ·exact RowB.kept _ _ _ _ _ _ _ _ _ _ _ hx ho h.ne h2
theorem RowS.keep (h : RowS w0 w base e A n c d) {g : Nat} (hA : A = some ⟨g, 0, none⟩) (o : Nat) (vs : List Value) {x : α} (hx : RowB.ow w base x) : RowB.ow (w.setCells g o vs) base x := by
 have ho := h.own
 subst hA
 exact RowB.kept _ _ _ _ _ _ _ _ _ _ _ hx ho h.ne (grown_setCells' _ _ _ _)
theorem RowS.swap (h : RowS w0 w base e A n c d) {g : Nat} (hA : A = some ⟨g, 0, none⟩) {i j : Nat} (hi : i < n) (hj : j < n) :
  RowS w0 ((w.setCells g (i * RowT.sz α) (RowT.enc d[j]!)).setCells g (j * RowT.sz α) (RowT.enc d[i]!)) base e A n c (Sort.swp d i j) :=
 (h.set hA hi _ (h.owAt hj)).set hA hj _ (h.keep hA _ _ (h.owAt hi))
theorem RowS.trans {w1 : World} (h : RowS w0 w1 base e A n c d) {d' : Array α} (k : RowS w1 w base e A n c d') : RowS w0 w base e A n c d' := ⟨k.own, k.ow, Grown.trans h.gr k.gr, k.ne⟩
end
theorem ownB_kept {w w' : World} {b b' n0 n1 sz c0 : Nat} {c1 : Nat} {A0 A1 : Option Addr} {l : List UInt8} {e : TypeId} {xs : List Value} (h : OwnB w b 5 A0 n0 c0 l) (hr : w.ownsRow b' e sz (.slice A1 n1 c1) n1 xs) (hne : e ≠ 5) (hg : w.grownBy w' (Value.ownBlock (.slice A1 n1 c1))) : OwnB w' b 5 A0 n0 c0 l :=
 World.ownsRow.kept h hg (own_ne h hr (Ne.symm hne))
instance : RowB SgR where
 ow w b S := OwnB w b 5 S.A S.n S.c S.sig ∧ S.v.wf
 ok S w b h := ⟨h.2, h.1.sl⟩
 ext S w w' b h he := ⟨h.1.ext he, h.2⟩
 kept S w w' b b' e sz A n c xs h hr hne hg := ⟨ownB_kept h.1 hr hne hg, h.2⟩
 mono S w b b' h hb := ⟨own_mono h.1 hb, h.2⟩
instance : RowB TeR where
 ow w b T := OwnB w b 5 T.A T.n T.c T.l
 ok T w b h := h.sl
 ext T w w' b h he := h.ext he
 kept T w w' b b' e sz A n c xs h hr hne hg := ownB_kept h hr hne hg
 mono T w b b' h hb := own_mono h hb
/-! signed votes loaded and stored, as values under a name of their own -/
section
variable {ops : Array Oper} {o : Oper} {a : Act} {w : World} {K : Act → World → Prop} {Q : Exit → Act → World → Prop} {X : Prop}
theorem step_loadSg (hgd : o.guard = none) (x : Operand) (ho : o.op = .load 48 x) (b of : Nat) (hx : a.eval x = .pointer (some ⟨b, of, none⟩)) (R : SgR) (hc : w.rangeAt b of (sgL R)) (v : Value) (hv : Value.agg (sgA R) = v)
  (h : K (a.put o.dst v) w) : if Region.wanted o (yielded ops a.tmps) = true then Oper.wp Tryz.prog o a w K Q else X := by
 have hw : Region.wanted o (yielded ops a.tmps) = true := by simp [Region.wanted, hgd]
 rw [if_pos hw]
 have := wp_load_mid (P := Tryz.prog) (Q := Q) (op := o) (K := K) 48 x ho b of hx (sgL R) _ hc Tryz.underlying48 rfl (by rw [sgL_length]; kernel_rfl)
 rw [sgL_arr, hv] at this
 exact this h
theorem step_storeSg (hgd : o.guard = none) (x y : Operand) (ho : o.op = .store 48 x y) (b of : Nat) (hx : a.eval x = .pointer (some ⟨b, of, none⟩)) (R : SgR) (v : Value) (hv : Value.agg (sgA R) = v) (hy : a.eval y = v) (ht : w.there b of 23)
  (h : K (a.put o.dst undef) (w.setCells b of (sgL R))) : if Region.wanted o (yielded ops a.tmps) = true then Oper.wp Tryz.prog o a w K Q else X := by
 have hw : Region.wanted o (yielded ops a.tmps) = true := by simp [Region.wanted, hgd]
 rw [if_pos hw]
 exact wp_store_mid (P := Tryz.prog) (Q := Q) (op := o) (K := K) 48 x y ho b of (sgA R) hx (by rw [hy, ← hv]) ht (by kernel_rfl) (sgA_all R) h
theorem yields_loadSgV {S : World → Prop} (hw : Region.wanted o (yielded ops a.tmps) = true) (x : Operand) (ho : o.op = .load 48 x) (b of : Nat) (hx : a.eval x = .pointer (some ⟨b, of, none⟩)) (R : SgR) (v : Value) (hv : Value.agg (sgA R) = v) (hS : ∀ w, S w → w.rangeAt b of (sgL R)) : YieldsIf Tryz.prog ops S o v a := by
 rw [← hv]
 exact yieldsIf_load_mid hw 48 x ho b of hx (sgL R) _ hS Tryz.underlying48 rfl (by rw [sgL_length]; kernel_rfl)
end
end Go.Proofs.YtbfepgjeecndiaaGreat

/- Views compared (both sides). -/
namespace Go.Proofs.YtbfepgjeecndiaaGreat
set_option maxRecDepth 100000
set_option maxHeartbeats 4000000
open Go.RowKit
set_option linter.unusedVariables false
set_option linter.unusedSimpArgs false
attribute [local go_sem ↓] Go.wp_at_zero Go.wp_at_succ
def eqVw (L : List SgR) (X : List TeR) (L' : List SgR) (X' : List TeR) : Bool := eqG eqSg L L' && eqG eqTe X X'
theorem vw_facts {w : World} {g : Nat} {t : TypeId} {A : Option Addr} {n c : Nat} {B : Option Addr} {m d : Nat} (h : Blk w g t (vwA A n c B m d)) : w.cell? ⟨g, 0, none⟩ = some (.slice A n c) ∧ w.cell? ⟨g, 1, none⟩ = some (.slice B m d) := ⟨h.cell 0, h.cell 1⟩
theorem sameSigned_any (R Q : SgR) (w : World) (hR : R.ok w) (hQ : Q.ok w) :
  Calls Tryz.prog 27 #[.agg (sgA R), .agg (sgA Q)] w fun e w' => e = .returned (.bool (eqSg R Q)) ∧ Ext w w' := by
 have hE := ((Ext.refl w).alloc' (.cells (sgA R) 48)).alloc' (.cells (sgA Q) 48)
 have HB1 := Lib.hid ((Blk.new w 48 (sgA R)).alloc (.cells (sgA Q) 48))
 have HB2 := Lib.hid (show Blk ((w.alloc (.cells (sgA R) 48)).alloc (.cells (sgA Q) 48)) (w.heap.size + 1) 48 (sgA Q) from Blk.newAt _ _ _ _ (by simp))
 have HE := Lib.hid hE
 have y8 := strV_eq' R.sig Q.sig
 have r8 := run_strV (hR.sig.ext hE)
 have t8 := run_strV (hQ.sig.ext hE)
 have hq := fun W => run_eqVt R.v Q.v hR.v hQ.v W
 have hqi := fun W => eqIn_Vt R.v Q.v hR.v hQ.v W
 have HV := Lib.hid (show eqSg R Q = (decide (R.v = Q.v) && decide (R.sig = Q.sig)) from rfl)
 obtain ⟨w0, hw0⟩ : ∃ w0, (w.alloc (.cells (sgA R) 48)).alloc (.cells (sgA Q) 48) = w0 := ⟨_, rfl⟩
 rw [hw0] at HB1 HB2 HE r8 t8
 have r1 : w0.rangeAt w.heap.size 0 (vtL R.v) := rangeAt_take (k := 22) (rangeAt_of_blk HB1.out)
 have r2 : w0.rangeAt (w.heap.size + 1) 0 (vtL Q.v) := rangeAt_take (k := 22) (rangeAt_of_blk HB2.out)
 have p1 : w0.cell? ⟨w.heap.size, 22, none⟩ = some (.slice R.A R.n R.c) := HB1.out.cell 22
 have p2 : w0.cell? ⟨w.heap.size + 1, 22, none⟩ = some (.slice Q.A Q.n Q.c) := HB2.out.cell 22
 clear hR hQ hE
 by_cases hv : R.v = Q.v
 ·have HV' := Lib.hid (show eqSg R Q = decide (R.sig = Q.sig) by rw [HV.out]; simp [hv])
  rw [decide_eq_true hv] at hq hqi
  obtain ⟨bb, hbb⟩ : ∃ bb, decide (R.sig = Q.sig) = bb := ⟨_, rfl⟩
  rw [hbb] at y8 HV'
  clear hbb
  clear hv HV
  go_enter Tryz.func27, Tryz.ntmps27
  go_wp2_with (first | (with_reducible refine wpList_loadVt rfl (.tmp 5) rfl w.heap.size 0 rfl R.v r1 ?_) | (with_reducible refine wpList_loadVt rfl (.tmp 7) rfl (w.heap.size + 1) 0 rfl Q.v r2 ?_))
  go_ret
  exact ⟨by rw [HV'.out]; rfl, HE.out⟩
 ·have HV' := Lib.hid (show eqSg R Q = false by rw [HV.out]; simp [hv])
  rw [decide_eq_false hv] at hq hqi
  clear y8 r8 t8
  clear hv HV
  go_enter Tryz.func27, Tryz.ntmps27
  go_wp2_with (first | (with_reducible refine wpList_loadVt rfl (.tmp 5) rfl w.heap.size 0 rfl R.v r1 ?_) | (with_reducible refine wpList_loadVt rfl (.tmp 7) rfl (w.heap.size + 1) 0 rfl Q.v r2 ?_))
  go_ret
  exact ⟨by rw [HV'.out]; rfl, HE.out⟩
theorem sameTexts_any (A : Option Addr) (n c : Nat) (L : List TeR) (A' : Option Addr) (n' c' : Nat) (M : List TeR) (w : World) (hS : SlG w A n c L) (hS' : SlG w A' n' c' M) :
  Calls Tryz.prog 16 #[.slice A n c, .slice A' n' c'] w fun e w' => e = .returned (.bool (eqG eqTe L M)) ∧ Ext w w' := by
 have hle := hS.le
 have hcap := hS.cap
 have hle' := hS'.le
 have hcap' := hS'.cap
 have HL := Lib.hid hS.len
 have HM := Lib.hid hS'.len
 by_cases hn : n = n'
 ·subst hn
  have HS := Lib.hid hS
  have HS' := Lib.hid hS'
  have HCA := Lib.hid (show n = 0 ∨ ((∃ b o, A = some ⟨b, o, none⟩ ∧ w.rangeAt b o (gcs L) ∧ b < w.heap.size) ∧ ∃ b o, A' = some ⟨b, o, none⟩ ∧ w.rangeAt b o (gcs M) ∧ b < w.heap.size) from by
   rcases Nat.eq_zero_or_pos n with h0 | h0
   ·exact .inl h0
   ·exact .inr ⟨HS.out.at h0, HS'.out.at h0⟩)
  clear hS hS'
  go_enter Tryz.func16, Tryz.ntmps16
  go_wp2_with fail
  go_loopw [5] (fun i wr => ∃ k : Nat, k ≤ n ∧ i = .int .i64 (k : Int) ∧ Hid (∀ j, j < k → eqTe (nthG L j) (nthG M j) = true) ∧ Ext w wr) (fun i _ => n - (intOf i).toNat)
  case atStart => exact ⟨0, Nat.zero_le _, rfl, Lib.hid (fun j hj => by omega), Ext.refl _⟩
  case round =>
   obtain ⟨k, hk, rfl, HP, hX⟩ := hrel
   have HX := Lib.hid hX
   clear hX
   by_cases hlt : k < n
   ·rcases HCA.out with h0 | ⟨⟨b, of, rfl, hr, hb⟩, b', of', rfl, hr', hb'⟩
    ·omega
    have hr1 : wr.rangeAt b (of + k * 1) (teL (nthG L k)) := el_at (rangeAt_keep hr (HX.out.block b hb)) (k := k) (by rw [HL.out]; exact hlt)
    have hr2 : wr.rangeAt b' (of' + k * 1) (teL (nthG M k)) := el_at (rangeAt_keep hr' (HX.out.block b' hb')) (k := k) (by rw [HM.out]; exact hlt)
    clear hr hr' hb hb' HCA
    have HOK := Lib.hid (HS.out.nth hlt : (nthG L k).ok w)
    have HOK' := Lib.hid (HS'.out.nth hlt : (nthG M k).ok w)
    have HQ := Lib.hid (fun (hx : eqTe (nthG L k) (nthG M k) = true) => show ∀ j, j < k + 1 → eqTe (nthG L j) (nthG M j) = true from fun j hj => by
     rcases Nat.lt_or_ge j k with h | h
     ·exact HP.out j h
     ·obtain rfl : j = k := by omega
      exact hx)
    have HN := Lib.hid (fun (hx : eqTe (nthG L k) (nthG M k) = false) => show eqG eqTe L M = false from eqG_at (by rw [HL.out]; exact hlt) hx)
    have i0 : (0 : Int) ≤ (k : Int) := by omega
    have i1 : (k : Int) < (n : Int) := by omega
    obtain ⟨R, hR⟩ : ∃ R, nthG L k = R := ⟨_, rfl⟩
    obtain ⟨Q, hQ⟩ : ∃ Q, nthG M k = Q := ⟨_, rfl⟩
    rw [hR, hQ] at HQ HN
    rw [hR] at hr1 HOK
    rw [hQ] at hr2 HOK'
    clear hR hQ
    obtain ⟨RA, Rn, Rc, Rl⟩ := R
    obtain ⟨QA, Qn, Qc, Ql⟩ := Q
    have HC := Lib.hid (fun (W : World) (h : Ext wr W) => (⟨by have := rangeAt_keep hr1 (h.block b (rangeAt_lt hr1 (by intro e; cases e))) 0 _ rfl; rwa [Nat.mul_one, Nat.add_zero] at this, by have := rangeAt_keep hr2 (h.block b' (rangeAt_lt hr2 (by intro e; cases e))) 0 _ rfl; rwa [Nat.mul_one, Nat.add_zero] at this, run_strV (SlB.ext HOK.out (HX.out.trans h)), run_strV (SlB.ext HOK'.out (HX.out.trans h))⟩ : W.cell? ⟨b, of + k, none⟩ = some (.slice RA Rn Rc) ∧ W.cell? ⟨b', of' + k, none⟩ = some (.slice QA Qn Qc) ∧ (convert 28 9 (.slice RA Rn Rc)).run Tryz.prog W = .ok (.string (strV Rl)) W ∧ (convert 28 9 (.slice QA Qn Qc)).run Tryz.prog W = .ok (.string (strV Ql)) W))
    have y8 := strV_eq' Rl Ql
    obtain ⟨bb, hbb⟩ : ∃ bb, decide (Rl = Ql) = bb := ⟨_, rfl⟩
    rw [hbb] at y8
    clear hr1 hr2
    go_wp2_with fail
    refine wp_region_plan (S := fun W => Ext wr W) (by kernel_rfl) (by kernel_rfl) ((Ext.refl wr).drew') ?_
    (refine pr 0 (oi := ⟨some 17, .move (.tmp 0), 23, "items.go:273", #[], none⟩) (v := ?_) rfl (by kernel_rfl) (by rfl) ?h ?_; case h => (intro W hSW; go_simp <;> with_reducible rfl))
    try simp only [lays]
    (refine pr 1 (oi := ⟨some 18, .move (.tmp 5), 3, "items.go:273", #[], none⟩) (v := ?_) rfl (by kernel_rfl) (by rfl) ?h ?_; case h => (intro W hSW; go_simp <;> with_reducible rfl))
    try simp only [lays]
    (refine pr 2 (oi := ⟨some 19, .indexAddr 23 (.tmp 17) (.tmp 18), 0, "items.go:273", #[⟨0, .data⟩, ⟨1, .data⟩], none⟩) (v := ?_) rfl (by kernel_rfl) (by rfl) ?h ?_; case h => (intro W hSW; go_simp <;> with_reducible rfl))
    try simp only [lays]
    (refine pr 3 (oi := ⟨some 20, .load 28 (.tmp 19), 28, "items.go:273", #[⟨2, .data⟩], none⟩) (v := ?_) rfl (by kernel_rfl) (by rfl) ?h ?_; case h => (intro W hSW; obtain ⟨s1, s2, s3, s4⟩ := HC.out W hSW; go_simp <;> with_reducible rfl))
    try simp only [lays]
    (refine pr 4 (oi := ⟨some 21, .convert 28 9 (.tmp 20), 9, "items.go:273", #[⟨3, .data⟩], none⟩) (v := ?_) rfl (by kernel_rfl) (by rfl) ?h ?_; case h => (intro W hSW; obtain ⟨s1, s2, s3, s4⟩ := HC.out W hSW; go_simp <;> with_reducible rfl))
    try simp only [lays]
    (refine pr 5 (oi := ⟨some 22, .move (.tmp 1), 23, "items.go:273", #[], none⟩) (v := ?_) rfl (by kernel_rfl) (by rfl) ?h ?_; case h => (intro W hSW; go_simp <;> with_reducible rfl))
    try simp only [lays]
    (refine pr 6 (oi := ⟨some 23, .move (.tmp 5), 3, "items.go:273", #[], none⟩) (v := ?_) rfl (by kernel_rfl) (by rfl) ?h ?_; case h => (intro W hSW; go_simp <;> with_reducible rfl))
    try simp only [lays]
    (refine pr 7 (oi := ⟨some 24, .indexAddr 23 (.tmp 22) (.tmp 23), 0, "items.go:273", #[⟨5, .data⟩, ⟨6, .data⟩], none⟩) (v := ?_) rfl (by kernel_rfl) (by rfl) ?h ?_; case h => (intro W hSW; go_simp <;> with_reducible rfl))
    try simp only [lays]
    (refine pr 8 (oi := ⟨some 25, .load 28 (.tmp 24), 28, "items.go:273", #[⟨7, .data⟩], none⟩) (v := ?_) rfl (by kernel_rfl) (by rfl) ?h ?_; case h => (intro W hSW; obtain ⟨s1, s2, s3, s4⟩ := HC.out W hSW; go_simp <;> with_reducible rfl))
    try simp only [lays]
    (refine pr 9 (oi := ⟨some 26, .convert 28 9 (.tmp 25), 9, "items.go:273", #[⟨8, .data⟩], none⟩) (v := ?_) rfl (by kernel_rfl) (by rfl) ?h ?_; case h => (intro W hSW; obtain ⟨s1, s2, s3, s4⟩ := HC.out W hSW; go_simp <;> with_reducible rfl))
    try simp only [lays]
    (refine pr 10 (oi := ⟨some 27, .binOp .neq 9 (.tmp 21) (.tmp 26) 9, 4, "items.go:273", #[⟨4, .data⟩, ⟨9, .data⟩], none⟩) (v := ?_) rfl (by kernel_rfl) (by rfl) ?h ?_; case h => (intro W hSW; go_simp <;> with_reducible rfl))
    try simp only [lays]
    refine Plan.done (by kernel_rfl) (fun W hSW => ?_)
    have HX1 := Lib.hid (HX.out.trans hSW)
    clear hSW
    cases bb with
    | true =>
     have HQ' := Lib.hid (HQ.out hbb)
     clear hbb
     go_wp2_with fail
     go_roundw
     case rel => exact ⟨k + 1, by omega, by go_num, HQ', HX1.out⟩
     case measure => simp [intOf]; omega
    | false =>
     have HN' := Lib.hid (HN.out hbb)
     clear hbb
     go_wp2_with fail
     go_ret
     exact ⟨by rw [HN'.out]; rfl, HX1.out⟩
   ·obtain rfl : k = n := by omega
    have HV := Lib.hid (show eqG eqTe L M = true from eqG_yes (by rw [HL.out, HM.out]) (fun j hj => HP.out j (by rw [HL.out] at hj; exact hj)))
    go_wp2_with fail
    go_ret
    exact ⟨by rw [HV.out]; rfl, HX.out⟩
 ·have HV := Lib.hid (show eqG eqTe L M = false from eqG_len (by rw [HL.out, HM.out]; exact hn))
  have d1 : ((n : Int) == (n' : Int)) = false := by simp; omega
  have d2 : decide ((n : Int) = (n' : Int)) = false := decide_eq_false (by omega)
  clear hS hS' hn
  go_enter Tryz.func16, Tryz.ntmps16
  go_wp2_with fail
  go_ret
  exact ⟨by rw [HV.out]; rfl, Ext.refl _⟩
end Go.Proofs.YtbfepgjeecndiaaGreat
