/- slices.SortFunc of texts by bytes.Compare, out of the kit's proved sort. -/
import Derived.Test.YtjlnmpjffogpdaaK14
import Derived.Test.YtjlnmpjffogpdaaK28
import Derived.Test.YtjlnmpjffogpdaaK02
import Derived.Shelf.SlSortCmp.NoneTotal
import Derived.Sort.OwnSorted
import Derived.Test.YtjlnmpjffogpdaaK30
import Derived.Test.YtjlnmpjffogpdaaK29
import Derived.Test.YtjlnmpjffogpdaaK13
namespace Go.Proofs.Ytjlnmpjffogpdaa
open Go.RowKit
set_option linter.unusedVariables false
set_option linter.unusedSimpArgs false
set_option linter.unusedSectionVars false

section
variable {α : Type} [Inhabited α] (enc : α → Value)
theorem grownBy_sw {w : World} {g n : Nat} {os : Array Obj} (d : Array α) : w.grownBy (sortWorld enc w g 0 n d os) (some g) := by
  unfold sortWorld
  refine ⟨rfl, rfl, rfl, by simp, fun k hk hne => ?_⟩
  rw [Sort.heap_grow_old _ _ (by simpa using hk)]
  have : g ≠ k := fun e => hne (by rw [e])
  simp [Sort.putRow, Sort.mapBlock, Sort.ahead, Array.getElem?_modify, this]
theorem heap_sw {w : World} {g n : Nat} {os : Array Obj} {cur : Array Value} {e : TypeId} {fr : Nat × Nat} (d : Array α) (hb : w.heap[g]? = some (.cells cur e fr)) :
    (sortWorld enc w g 0 n d os).heap[g]? = some (.cells (Sort.putCells enc 0 d cur) e fr) := by
  have hg : g < w.heap.size := (Array.getElem?_eq_some_iff.1 hb).1
  unfold sortWorld
  rw [Sort.heap_grow_old _ _ (by simpa using hg)]
  simp [Sort.putRow, Sort.mapBlock, Sort.ahead, Array.getElem?_modify, hb, Sort.onCells]
theorem take_putG (cur : Array Value) (d : Array α) (h : d.size ≤ cur.size) : (Sort.putCells enc 0 d cur).toList.take d.size = d.toList.map enc := by
  apply List.ext_getElem?
  intro j
  by_cases hj : j < d.size
  · rw [List.getElem?_take_of_lt hj, Array.getElem?_toList]
    simp [Sort.putCells, hj, show j < cur.size by omega]
  · rw [List.getElem?_take_eq_none (by omega), List.getElem?_eq_none (by simp; omega)]
theorem own_sw {w : World} {base g c n m : Nat} {e : TypeId} {os : Array Obj} {xs : List Value} (d : Array α) (hd : d.size = n) (h : w.ownsRow base e 1 (.slice (some ⟨g, 0, none⟩) n c) n xs) :
    (sortWorld enc w g 0 m d os).ownsRow base e 1 (.slice (some ⟨g, 0, none⟩) n c) n (d.toList.map enc) := by
  rcases h.2 with ⟨hv, _⟩ | ⟨g', cap, cur, hv, hb, hh, hn, hm, hs, ht⟩
  · cases hv
  cases hv
  exact ⟨by simp [hd], .inr ⟨g, c, _, rfl, hb, heap_sw enc d hh, hn, hm, by simp [Sort.putCells, hs], by rw [Nat.mul_one, ← hd]; exact take_putG enc cur d (by omega)⟩⟩
end
/-- texts whose bytes are one's own in w -/
structure TeW (w : World) (b : Nat) where
  t : TeR
  ok : OwnB w b 5 t.A t.n t.c t.l
instance teWInh (w : World) (b : Nat) : Inhabited (TeW w b) := ⟨⟨⟨none, 0, 0, []⟩, World.ownsRow_nil _ _ _ _⟩⟩
section
variable {w : World} {b : Nat}
def teV (x : TeW w b) : Value := .slice x.t.A x.t.n x.t.c
def teCf (x y : TeW w b) : Int := Lib.compareBytes x.t.l y.t.l
theorem teCf_lt (x y : TeW w b) : ltOf teCf x y = ltTe x.t y.t := by
  unfold ltOf teCf ltTe
  have h := (cmp_lex x.t.l y.t.l).1
  cases hh : lexB x.t.l y.t.l with
  | true => rw [hh] at h; exact decide_eq_true (h.mpr rfl)
  | false => rw [hh] at h; exact decide_eq_false (fun hc => by rw [h] at hc; cases hc)
theorem teSwo : Sort.SWO (ltOf (teCf (w := w) (b := b))) where
  irrefl x := by rw [teCf_lt]; exact lexB_irrefl _
  trans x y z h1 h2 := by rw [teCf_lt] at *; exact lexB_trans _ _ _ h1 h2
  ntrans x y z h1 h2 := by rw [teCf_lt] at *; exact lexB_sto.ntrans h1 h2
theorem gcs_teV (D : List (TeW w b)) : gcs (D.map TeW.t) = D.map teV := by
  induction D with
  | nil => rfl
  | cons x r ih => rw [List.map_cons, List.map_cons, gcs_cons, ih]; rfl
end
theorem teCmp {w : World} {base b g n c size : Nat} {xs : List Value} (hr : w.ownsRow base 33 1 (.slice (some ⟨g, 0, none⟩) n c) n xs) : CmpLays1 Try.prog 70 #[] (teV (w := w) (b := b)) teCf g 0 size w := fun m os dk hs x y => by
  have hx := (ownB_kept x.ok hr (by decide) (grownBy_sw teV dk (g := g) (n := m) (os := os))).sl
  have hy := (ownB_kept y.ok hr (by decide) (grownBy_sw teV dk (g := g) (n := m) (os := os))).sl
  have h := bCompare_any x.t.A x.t.n x.t.c x.t.l y.t.A y.t.n y.t.c y.t.l _ hx hy
  rw [Array.append_empty]
  refine h.mono ?_
  rintro e w' ⟨rfl, rfl⟩
  exact ⟨rfl, 0, #[], by rw [Sort.grow_empty]; rfl⟩
theorem sortTe_any (w0 w : World) (base : Nat) (A : Option Addr) (n c : Nat) (d : Array TeR) (h : RowS w0 w base 33 A n c d) (hn : n ≤ 1000000000) :
    Calls Try.prog 69 #[.slice A n c, .func (.func 70) #[] #[]] w (fun e w' => e = .returned (.tuple #[]) ∧ ∃ d', RowS w0 w' base 33 A n c d' ∧ Sort.PermIn 0 n d d' ∧ Sort.SortedIn ltTe 0 n d') := by
  rcases Nat.eq_zero_or_pos n with rfl | hpos
  · refine (AnyF.slices_SortFunc_none (P := Try.prog) (ρ := sortTe_ren) { sortTe with } A c (.func (.func 70) #[] #[]) w).mono ?_
    rintro e w' ⟨rfl, rfl⟩
    exact ⟨rfl, d, h, Sort.permIn_refl _ _ _, fun i j _ _ hj => absurd hj (Nat.not_lt_zero _)⟩
  obtain ⟨g, rfl, -, hr⟩ := h.at hpos
  have hsz := h.size
  have ho : w.ownsRow base 33 1 (.slice (some ⟨g, 0, none⟩) n c) n (gcs d.toList) := h.own
  obtain ⟨D, hD⟩ : ∃ D : Array (TeW w base), D.toList.map TeW.t = d.toList := by
    refine ⟨(d.toList.attach.map fun x => (⟨x.1, h.ow x.1 x.2⟩ : TeW w base)).toArray, ?_⟩
    show List.map TeW.t (List.map (fun x => (⟨x.1, h.ow x.1 x.2⟩ : TeW w base)) d.toList.attach) = d.toList
    rw [List.map_map]
    exact List.attach_map_subtype_val d.toList
  have hDs : D.size = n := by rw [← hsz, ← Array.length_toList, ← Array.length_toList, ← hD, List.length_map]
  have hcells : gcs d.toList = D.toList.map teV := by rw [← hD]; exact gcs_teV _
  have hH : Sort.Holds teV w g 0 D := fun j hj => by
    refine ⟨?_, ho.frozenAt _⟩
    rw [hcells] at ho
    rw [ho.cellAt (0 + j) (by omega), Nat.zero_add, List.getElem?_map, Array.getElem?_toList, getElem!_pos D j hj, Array.getElem?_eq_getElem hj]
    rfl
  have hlt : g < w.heap.size := (ho.lt g rfl).2
  have eg : ∀ args w, (callFunc 70 args).run Try.prog w = .ok (.enter 70 args) w := enters_of Try.func70 (by kernel_rfl) rfl
  have hc := Any.slices_SortFunc sortTe (teV (w := w) (b := base)) (fun _ => rfl) teCf teSwo 70 #[] g 0 c D w eg (teCmp ho) hH hlt (by omega)
  rw [hDs] at hc
  change Calls Try.prog 69 _ _ _ at hc
  refine hc.mono ?_
  rintro e w' ⟨rfl, D', m, os, ⟨hp1, hp2, hp3⟩, hs, rfl⟩
  have hi : ∀ (E : Array (TeW w base)) (i : Nat), i < E.size → (E.map TeW.t)[i]! = (E[i]!).t := fun E i hi => by
    rw [getElem!_pos _ i (by simpa using hi), getElem!_pos E i hi]; simp
  have hdD : d = D.map TeW.t := by apply Array.ext'; rw [Array.toList_map]; exact hD.symm
  refine ⟨rfl, D'.map TeW.t, ⟨?_, ?_, ?_, h.ne⟩, ⟨?_, ?_, ?_⟩, ?_⟩
  · rw [Array.toList_map, gcs_teV]
    exact own_sw teV D' (by rw [hp1]; exact hDs) ho
  · intro x hx
    rw [Array.toList_map, List.mem_map] at hx
    obtain ⟨y, _, rfl⟩ := hx
    exact ownB_kept y.ok ho h.ne (grownBy_sw teV D')
  · exact Grown.trans h.gr (grownBy_sw teV D')
  · rw [hdD, Array.size_map, Array.size_map]; exact hp1
  · intro i hi2
    rcases hi2 with hi2 | hi2
    · omega
    · rw [hdD, getElem!_neg _ i (by rw [Array.size_map, hp1]; omega), getElem!_neg _ i (by rw [Array.size_map]; omega)]
  · have e1 : D'.extract 0 n = D' := by rw [← hDs, ← hp1]; exact Array.extract_size
    have e2 : D.extract 0 n = D := by rw [← hDs]; exact Array.extract_size
    have e3 : (D'.map TeW.t).extract 0 n = D'.map TeW.t := by rw [← hDs, ← hp1, ← Array.size_map (f := TeW.t)]; exact Array.extract_size
    have e4 : (D.map TeW.t).extract 0 n = D.map TeW.t := by rw [← hDs, ← Array.size_map (f := TeW.t)]; exact Array.extract_size
    rw [e1, e2] at hp3
    rw [hdD, e3, e4, Array.toList_map, Array.toList_map]
    exact hp3.map TeW.t
  · intro i j h1 h2 h3
    have := hs i j h1 h2 h3
    rw [teCf_lt] at this
    rw [hi _ _ (by rw [hp1]; omega), hi _ _ (by rw [hp1]; omega)]
    exact this
end Go.Proofs.Ytjlnmpjffogpdaa

/- The view that bytes tell: plain; and the state of snapshot.Decode. -/
namespace Go.Proofs.Ytjlnmpjffogpdaa
open Go.RowKit
set_option linter.unusedVariables false
set_option linter.unusedSimpArgs false
attribute [local go_sem ↓] Go.wp_at_zero Go.wp_at_succ

/-- one signed vote ahead of the rest -/
def chunk (r : List UInt8) : Option (SgV × List UInt8) := if 393 ≤ r.length ∧ vldVt (decVt (r.take 23)) = true then some ((decVt (r.take 23), (r.take 393).drop 23), r.drop 393) else none
def dSg : Nat → List UInt8 → List SgV → Option (List SgV × List UInt8)
  | 0, r, acc => some (acc, r)
  | k + 1, r, acc => match chunk r with
    | none => none
    | some (v, r') => dSg k r' (acc ++ [v])
def dTe : Nat → List UInt8 → List (List UInt8) → Option (List (List UInt8) × List UInt8)
  | 0, r, acc => some (acc, r)
  | k + 1, r, acc => if blobOk r = true then dTe k (r.drop (2 + beNat (r.take 2))) (acc ++ [(r.drop 2).take (beNat (r.take 2))]) else none
/-- what is read behind the votes: texts -/
def contT (M : Nat) (s : Option (List UInt8)) (P : List SgV) (Q : List (List UInt8)) : Option (List SgV × List (List UInt8)) := match s with
  | none => none
  | some r => match dTe M r Q with
    | none => none
    | some (Q', r') => if r' = [] then some (P, Q') else none
/-- what is read behind the number of votes -/
def contS (N : Nat) (s : Option (List UInt8)) (P : List SgV) : Option (List SgV × List (List UInt8)) := match s with
  | none => none
  | some r => match dSg N r P with
    | none => none
    | some (P', r') => contT (rNum 4 (some r')).toNat (rRest 4 (some r')) P' []
/-- the votes and texts that bytes tell, in whatever order -/
def rawVw (l : List UInt8) : Option (List SgV × List (List UInt8)) := contS (rNum 4 (some l)).toNat (rRest 4 (some l)) []
theorem contS_zero (r : List UInt8) (P : List SgV) : contS 0 (some r) P = contT (rNum 4 (some r)).toNat (rRest 4 (some r)) P [] := rfl
theorem contS_yes {r : List UInt8} {v : SgV} {r' : List UInt8} (h : chunk r = some (v, r')) (k : Nat) (P : List SgV) : contS (k + 1) (some r) P = contS k (some r') (P ++ [v]) := by
  unfold contS; simp only [dSg, h]
theorem contS_no {r : List UInt8} (h : chunk r = none) (k : Nat) (P : List SgV) : contS (k + 1) (some r) P = none := by
  unfold contS; simp only [dSg, h]
theorem contT_none (M : Nat) (P : List SgV) (Q : List (List UInt8)) : contT M none P Q = none := rfl
theorem contT_zero (s : Option (List UInt8)) (P : List SgV) (Q : List (List UInt8)) : contT 0 s P Q = if s = some [] then some (P, Q) else none := by
  cases s with
  | none => rfl
  | some r => unfold contT; simp only [dTe]; simp
theorem contT_step (M : Nat) (s : Option (List UInt8)) (P : List SgV) (Q : List (List UInt8)) : contT (M + 1) s P Q = contT M (rAft s) P (Q ++ [rBlob s]) := by
  cases s with
  | none => rfl
  | some r =>
    unfold contT
    simp only [dTe, rAft, rBlob]
    by_cases h : blobOk r = true
    · simp only [if_pos h]
    · simp only [if_neg h]
/-- a view whose rows are one's own -/
structure VwO (w : World) (base : Nat) (A : Option Addr) (n c : Nat) (L : List SgR) (B : Option Addr) (m d : Nat) (X : List TeR) : Prop where
  own1 : w.ownsRow base 45 23 (.slice A n c) n (gcs L)
  own2 : w.ownsRow base 33 1 (.slice B m d) m (gcs X)
  sig : ∀ S, S ∈ L → OwnB w base 5 S.A S.n S.c S.sig ∧ S.v.wf
  tex : ∀ T, T ∈ X → OwnB w base 5 T.A T.n T.c T.l
theorem VwO.nil (w : World) (base : Nat) : VwO w base none 0 0 [] none 0 0 [] := ⟨World.ownsRow_nil _ _ _ _, World.ownsRow_nil _ _ _ _, (fun S hS => by cases hS), (fun T hT => by cases hT)⟩
/-- what Decode answers -/
def VwDec (w : World) (l : List UInt8) (e : Ending) (w' : World) : Prop :=
  Ext w w' ∧ ((∃ (A : Option Addr) (n c : Nat) (L : List SgR) (B : Option Addr) (m d : Nat) (X : List TeR), e = .returned (.tuple #[.agg (vwA A n c B m d), .int .i64 0]) ∧ VwO w' w.heap.size A n c L B m d X ∧ rawVw l = some (L.map SgR.V, X.map TeR.l) ∧ ordV L X = true ∧ ∀ S, S ∈ L → vldSg S = true) ∨
    (e = .returned (.tuple #[.agg (vwA none 0 0 none 0 0), .int .i64 4]) ∧ ∀ (L : List SgR) (X : List TeR), rawVw l = some (L.map SgR.V, X.map TeR.l) → ordV L X = false))
theorem gcs_len1 {w : World} {base : Nat} {A : Option Addr} {n c : Nat} {L : List SgR} (h : w.ownsRow base 45 23 (.slice A n c) n (gcs L)) : L.length = n := by
  have := h.1; rw [gcs_length, show RowT.sz SgR = 23 from rfl] at this; omega
theorem gcs_len2 {w : World} {base : Nat} {B : Option Addr} {m d : Nat} {X : List TeR} (h : w.ownsRow base 33 1 (.slice B m d) m (gcs X)) : X.length = m := by
  have := h.1; rw [gcs_length, show RowT.sz TeR = 1 from rfl] at this; omega
section
variable {w w' : World} {base base' : Nat} {A : Option Addr} {n c : Nat} {L : List SgR} {B : Option Addr} {m d : Nat} {X : List TeR}
theorem VwO.sl1 (h : VwO w base A n c L B m d X) : SlG w A n c L :=
  ⟨gcs_len1 h.own1, (own_cap h.own1).1, (own_cap h.own1).2, Rd.of_own h.own1, fun S hS => ⟨(h.sig S hS).2, (h.sig S hS).1.sl⟩⟩
theorem VwO.sl2 (h : VwO w base A n c L B m d X) : SlG w B m d X :=
  ⟨gcs_len2 h.own2, (own_cap h.own2).1, (own_cap h.own2).2, Rd.of_own h.own2, fun T hT => (h.tex T hT).sl⟩
theorem VwO.ext (h : VwO w base A n c L B m d X) (he : Ext w w') : VwO w' base A n c L B m d X := ⟨own_ext h.own1 he, own_ext h.own2 he, fun S hS => ⟨OwnB.ext (h.sig S hS).1 he, (h.sig S hS).2⟩, fun T hT => OwnB.ext (h.tex T hT) he⟩
theorem VwO.mono (h : VwO w base A n c L B m d X) (hb : base' ≤ base) : VwO w base' A n c L B m d X := ⟨own_mono h.own1 hb, own_mono h.own2 hb, fun S hS => ⟨own_mono (h.sig S hS).1 hb, (h.sig S hS).2⟩, fun T hT => own_mono (h.tex T hT) hb⟩
theorem VwO.set (h : VwO w base A n c L B m d X) {g : Nat} {cs : Array Value} (hb : Blk w g 32 cs) (vs : List Value) : VwO (w.setCells g 0 vs) base A n c L B m d X := by
  have hg := grown_setCells' w g vs 0
  have hB : ∀ {A0 : Option Addr} {n0 c0 : Nat} {l0 : List UInt8}, OwnB w base 5 A0 n0 c0 l0 → OwnB (w.setCells g 0 vs) base 5 A0 n0 c0 l0 := fun hQ => World.ownsRow.kept hQ hg (.inr (Ne.symm (own_other hQ hb (by decide))))
  exact ⟨h.own1.kept hg (.inr (Ne.symm (own_other h.own1 hb (by decide)))), h.own2.kept hg (.inr (Ne.symm (own_other h.own2 hb (by decide)))), fun S hS => ⟨hB (h.sig S hS).1, (h.sig S hS).2⟩, fun T hT => hB (h.tex T hT)⟩
end
/-- the state of Decode: the cursor in CB, the view in VB, its rows the call's own -/
structure VdS (w0 w : World) (CB VB : Nat) (A : Option Addr) (n c : Nat) (L : List SgR) (B : Option Addr) (m d : Nat) (X : List TeR) (s : Option (List UInt8)) : Prop where
  cur : CurAt 156 w0.heap.size w CB s
  blk : Blk w VB 32 (vwA A n c B m d)
  own1 : w.ownsRow w0.heap.size 45 23 (.slice A n c) n (gcs L)
  own2 : w.ownsRow w0.heap.size 33 1 (.slice B m d) m (gcs X)
  sig : ∀ S, S ∈ L → OwnB w w0.heap.size 5 S.A S.n S.c S.sig ∧ S.v.wf ∧ vldSg S = true
  tex : ∀ T, T ∈ X → OwnB w w0.heap.size 5 T.A T.n T.c T.l
  low : Ext w0 w
  hC : w0.heap.size ≤ CB
  hV : w0.heap.size < VB
  res : Blk w w0.heap.size 32 (vwA none 0 0 none 0 0)
section
variable {w0 w w' : World} {CB VB : Nat} {A : Option Addr} {n c : Nat} {L : List SgR} {B : Option Addr} {m d : Nat} {X : List TeR} {s s' : Option (List UInt8)}
theorem VdS.ne (h : VdS w0 w CB VB A n c L B m d X s) : VB ≠ CB := by
  obtain ⟨cs, hb⟩ := cur_blk h.cur
  exact blk_ne h.blk hb (by decide)
theorem VdS.ext (h : VdS w0 w CB VB A n c L B m d X s) (he : Ext w w') : VdS w0 w' CB VB A n c L B m d X s :=
  ⟨h.cur.ext he, h.blk.ext he, own_ext h.own1 he, own_ext h.own2 he, fun S hS => ⟨OwnB.ext (h.sig S hS).1 he, (h.sig S hS).2⟩, fun T hT => OwnB.ext (h.tex T hT) he, h.low.trans he, h.hC, h.hV, h.res.ext he⟩
theorem VdS.read (h : VdS w0 w CB VB A n c L B m d X s) (hc : CurAt 156 w0.heap.size w' CB s') (hg : w.grownBy w' (some CB)) : VdS w0 w' CB VB A n c L B m d X s' := by
  obtain ⟨cs, hb⟩ := cur_blk h.cur
  exact ⟨hc, h.blk.grown hg (fun e => h.ne (by injection e)), h.own1.kept hg (.inr (Ne.symm (own_other h.own1 hb (by decide)))), h.own2.kept hg (.inr (Ne.symm (own_other h.own2 hb (by decide)))),
    fun S hS => ⟨World.ownsRow.kept (h.sig S hS).1 hg (.inr (Ne.symm (own_other (h.sig S hS).1 hb (by decide)))), (h.sig S hS).2⟩, fun T hT => World.ownsRow.kept (h.tex T hT) hg (.inr (Ne.symm (own_other (h.tex T hT) hb (by decide)))), ext_grown h.low hg h.hC, h.hC, h.hV, h.res.grown hg (fun e => blk_ne h.res hb (by decide) (by injection e))⟩
theorem VdS.sl1 (h : VdS w0 w CB VB A n c L B m d X s) : SlG w A n c L :=
  ⟨gcs_len1 h.own1, (own_cap h.own1).1, (own_cap h.own1).2, Rd.of_own h.own1, fun S hS => ⟨(h.sig S hS).2.1, (h.sig S hS).1.sl⟩⟩
theorem VdS.sl2 (h : VdS w0 w CB VB A n c L B m d X s) : SlG w B m d X :=
  ⟨gcs_len2 h.own2, (own_cap h.own2).1, (own_cap h.own2).2, Rd.of_own h.own2, fun T hT => (h.tex T hT).sl⟩
theorem VdS.vwo (h : VdS w0 w CB VB A n c L B m d X s) : VwO w w0.heap.size A n c L B m d X := ⟨h.own1, h.own2, fun S hS => ⟨(h.sig S hS).1, (h.sig S hS).2.1⟩, h.tex⟩
/-- a vote is appended, and the row stored -/
theorem VdS.push1 (h : VdS w0 w CB VB A n c L B m d X s) {A' : Option Addr} {c' : Nat} {S : SgR} (hS : OwnB w w0.heap.size 5 S.A S.n S.c S.sig ∧ S.v.wf ∧ vldSg S = true) (hg : w.grownBy w' (Value.ownBlock (.slice A n c))) (ho : w'.ownsRow w0.heap.size 45 23 (.slice A' (n + 1) c') (n + 1) (gcs L ++ sgL S)) :
    VdS w0 (w'.setCell ⟨VB, 0, none⟩ (.slice A' (n + 1) c')) CB VB A' (n + 1) c' (L ++ [S]) B m d X s := by
  obtain ⟨cs, hb⟩ := cur_blk h.cur
  have h2 : Blk w' VB 32 (vwA A n c B m d) := h.blk.grown hg (own_other h.own1 h.blk (by decide))
  have h3 := grown_set w' VB 0 (.slice A' (n + 1) c')
  have h4 : Ext w0 w' := Below.grown h.low hg h.low.size (fun k hk => (World.ownsRow.lt h.own1 k hk).1)
  have h5 : Ext w0 (w'.setCell ⟨VB, 0, none⟩ (.slice A' (n + 1) c')) := h4.setCell (p := ⟨VB, 0, none⟩) (Nat.le_of_lt h.hV) _
  have hB1 : ∀ {A0 : Option Addr} {n0 c0 : Nat} {l0 : List UInt8}, OwnB w w0.heap.size 5 A0 n0 c0 l0 → OwnB (w'.setCell ⟨VB, 0, none⟩ (.slice A' (n + 1) c')) w0.heap.size 5 A0 n0 c0 l0 := fun hQ => by
    have hq : OwnB w' w0.heap.size 5 _ _ _ _ := World.ownsRow.kept hQ hg (own_ne hQ h.own1 (by decide))
    exact World.ownsRow.kept hq h3 (.inr (Ne.symm (own_other hq h2 (by decide))))
  refine ⟨h.cur.low ?_ (fun b hb => (h5.block b hb).trans (h.low.block b hb).symm), h2.set 0 _, ?_, ?_, ?_, fun T hT => hB1 (h.tex T hT), h5, h.hC, h.hV, (h.res.grown hg (own_other h.own1 h.res (by decide))).far (p := ⟨VB, 0, none⟩) (Nat.ne_of_lt h.hV) _⟩
  · rw [Below.heap_setCell _ _ _ _ (Ne.symm h.ne)]
    exact hg.block CB hb.lt (own_other h.own1 hb (by decide))
  · have := ho.kept h3 (.inr (Ne.symm (own_other ho h2 (by decide))))
    rw [gcs_append, gcs_one]
    exact this
  · have hq := World.ownsRow.kept h.own2 hg (own_ne h.own2 h.own1 (by decide))
    exact hq.kept h3 (.inr (Ne.symm (own_other hq h2 (by decide))))
  · intro Q hQ
    rcases List.mem_append.1 hQ with hQ | hQ
    · exact ⟨hB1 (h.sig Q hQ).1, (h.sig Q hQ).2⟩
    · rw [List.mem_singleton.1 hQ]; exact ⟨hB1 hS.1, hS.2⟩
/-- a text is appended, and the row stored -/
theorem VdS.push2 (h : VdS w0 w CB VB A n c L B m d X s) {B' : Option Addr} {d' : Nat} {T : TeR} (hT : OwnB w w0.heap.size 5 T.A T.n T.c T.l) (hg : w.grownBy w' (Value.ownBlock (.slice B m d))) (ho : w'.ownsRow w0.heap.size 33 1 (.slice B' (m + 1) d') (m + 1) (gcs X ++ teL T)) :
    VdS w0 (w'.setCell ⟨VB, 1, none⟩ (.slice B' (m + 1) d')) CB VB A n c L B' (m + 1) d' (X ++ [T]) s := by
  obtain ⟨cs, hb⟩ := cur_blk h.cur
  have h2 : Blk w' VB 32 (vwA A n c B m d) := h.blk.grown hg (own_other h.own2 h.blk (by decide))
  have h3 := grown_set w' VB 1 (.slice B' (m + 1) d')
  have h4 : Ext w0 w' := Below.grown h.low hg h.low.size (fun k hk => (World.ownsRow.lt h.own2 k hk).1)
  have h5 : Ext w0 (w'.setCell ⟨VB, 1, none⟩ (.slice B' (m + 1) d')) := h4.setCell (p := ⟨VB, 1, none⟩) (Nat.le_of_lt h.hV) _
  have hB1 : ∀ {A0 : Option Addr} {n0 c0 : Nat} {l0 : List UInt8}, OwnB w w0.heap.size 5 A0 n0 c0 l0 → OwnB (w'.setCell ⟨VB, 1, none⟩ (.slice B' (m + 1) d')) w0.heap.size 5 A0 n0 c0 l0 := fun hQ => by
    have hq : OwnB w' w0.heap.size 5 _ _ _ _ := World.ownsRow.kept hQ hg (own_ne hQ h.own2 (by decide))
    exact World.ownsRow.kept hq h3 (.inr (Ne.symm (own_other hq h2 (by decide))))
  refine ⟨h.cur.low ?_ (fun b hb => (h5.block b hb).trans (h.low.block b hb).symm), h2.set 1 _, ?_, ?_, fun Q hQ => ⟨hB1 (h.sig Q hQ).1, (h.sig Q hQ).2⟩, ?_, h5, h.hC, h.hV, (h.res.grown hg (own_other h.own2 h.res (by decide))).far (p := ⟨VB, 1, none⟩) (Nat.ne_of_lt h.hV) _⟩
  · rw [Below.heap_setCell _ _ _ _ (Ne.symm h.ne)]
    exact hg.block CB hb.lt (own_other h.own2 hb (by decide))
  · have hq := World.ownsRow.kept h.own1 hg (own_ne h.own1 h.own2 (by decide))
    exact hq.kept h3 (.inr (Ne.symm (own_other hq h2 (by decide))))
  · have := ho.kept h3 (.inr (Ne.symm (own_other ho h2 (by decide))))
    rw [gcs_append, gcs_one]
    exact this
  · intro Q hQ
    rcases List.mem_append.1 hQ with hQ | hQ
    · exact hB1 (h.tex Q hQ)
    · rw [List.mem_singleton.1 hQ]; exact hB1 hT
end
end Go.Proofs.Ytjlnmpjffogpdaa
