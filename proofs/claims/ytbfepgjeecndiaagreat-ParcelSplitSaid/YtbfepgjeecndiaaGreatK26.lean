/- slices.SortFunc of texts by bytes.Compare, out of the kit's proved sort. -/
import Derived.Shelf.SlSortCmp.NoneTotal
import Derived.Sort.OwnSorted
import Derived.Test.YtbfepgjeecndiaaGreatK19
import Derived.Test.YtbfepgjeecndiaaGreatK22
import Derived.Test.YtbfepgjeecndiaaGreatK24
namespace Go.Proofs.YtbfepgjeecndiaaGreat
open Go.RowKit
set_option linter.unusedVariables false
set_option linter.unusedSimpArgs false
set_option linter.unusedSectionVars false
section
variable {α : Type} [Inhabited α] (enc : α → Value)
theorem grownBy_sw {w : World} {g n : Nat} {os : Array Obj} (d : Array α) : w.grownBy (sortWorld enc w g 0 n d os) (some g) := by
 unfold sortWorld
 refine ⟨rfl, rfl, rfl, by simp, fun k hk hne => ?_⟩
 rw [Sort.heap_grow_old _ _ (by simpa using hk)]
 have : g ≠ k := fun e => hne (by rw [e])
 simp [Sort.putRow, Sort.mapBlock, Sort.ahead, Array.getElem?_modify, this]
theorem heap_sw {w : World} {g n : Nat} {os : Array Obj} {cur : Array Value} {e : TypeId} {fr : Nat × Nat} (d : Array α) (hb : w.heap[g]? = some (.cells cur e fr)) :
  (sortWorld enc w g 0 n d os).heap[g]? = some (.cells (Sort.putCells enc 0 d cur) e fr) := by
 have hg : g < w.heap.size := (Array.getElem?_eq_some_iff.1 hb).1
 unfold sortWorld
 rw [Sort.heap_grow_old _ _ (by simpa using hg)]
 simp [Sort.putRow, Sort.mapBlock, Sort.ahead, Array.getElem?_modify, hb, Sort.onCells]
theorem take_putG (cur : Array Value) (d : Array α) (h : d.size ≤ cur.size) : (Sort.putCells enc 0 d cur).toList.take d.size = d.toList.map enc := by
 apply List.ext_getElem?
 intro j
 by_cases hj : j < d.size
 ·rw [List.getElem?_take_of_lt hj, Array.getElem?_toList]
  simp [Sort.putCells, hj, show j < cur.size by omega]
 ·rw [List.getElem?_take_eq_none (by omega), List.getElem?_eq_none (by simp; omega)]
theorem own_sw {w : World} {base g c n m : Nat} {e : TypeId} {os : Array Obj} {xs : List Value} (d : Array α) (hd : d.size = n) (h : w.ownsRow base e 1 (.slice (some ⟨g, 0, none⟩) n c) n xs) :
  (sortWorld enc w g 0 m d os).ownsRow base e 1 (.slice (some ⟨g, 0, none⟩) n c) n (d.toList.map enc) := by
 rcases h.2 with ⟨hv, _⟩ | ⟨g', cap, cur, hv, hb, hh, hn, hm, hs, ht⟩
 ·cases hv
 cases hv
 exact ⟨by simp [hd], .inr ⟨g, c, _, rfl, hb, heap_sw enc d hh, hn, hm, by simp [Sort.putCells, hs], by rw [Nat.mul_one, ← hd]; exact take_putG enc cur d (by omega)⟩⟩
end
structure TeW (w : World) (b : Nat) where
 t : TeR
 ok : OwnB w b 5 t.A t.n t.c t.l
instance teWInh (w : World) (b : Nat) : Inhabited (TeW w b) := ⟨⟨⟨none, 0, 0, []⟩, World.ownsRow_nil _ _ _ _⟩⟩
section
variable {w : World} {b : Nat}
def teV (x : TeW w b) : Value := .slice x.t.A x.t.n x.t.c
def teCf (x y : TeW w b) : Int := Lib.compareBytes x.t.l y.t.l
theorem teCf_lt (x y : TeW w b) : ltOf teCf x y = ltTe x.t y.t := by
 unfold ltOf teCf ltTe
 have h := (cmp_lex x.t.l y.t.l).1
 cases hh : lexB x.t.l y.t.l with
 | true => rw [hh] at h; exact decide_eq_true (h.mpr rfl)
 | false => rw [hh] at h; exact decide_eq_false (fun hc => by rw [h] at hc; cases hc)
theorem teSwo : Sort.SWO (ltOf (teCf (w := w) (b := b))) where
 irrefl x := by rw [teCf_lt]; exact lexB_irrefl _
 trans x y z h1 h2 := by rw [teCf_lt] at *; exact lexB_trans _ _ _ h1 h2
 ntrans x y z h1 h2 := by rw [teCf_lt] at *; exact lexB_sto.ntrans h1 h2
theorem gcs_teV (D : List (TeW w b)) : gcs (D.map TeW.t) = D.map teV := by
 induction D with
 | nil => rfl
 | cons x r ih => rw [List.map_cons, List.map_cons, gcs_cons, ih]; rfl
end
theorem teCmp {w : World} {base b g n c size : Nat} {xs : List Value} (hr : w.ownsRow base 28 1 (.slice (some ⟨g, 0, none⟩) n c) n xs) : CmpLays1 Tryz.prog 63 #[] (teV (w := w) (b := b)) teCf g 0 size w := fun m os dk hs x y => by
 have hx := (ownB_kept x.ok hr (by decide) (grownBy_sw teV dk (g := g) (n := m) (os := os))).sl
 have hy := (ownB_kept y.ok hr (by decide) (grownBy_sw teV dk (g := g) (n := m) (os := os))).sl
 have h := bCompare_any x.t.A x.t.n x.t.c x.t.l y.t.A y.t.n y.t.c y.t.l _ hx hy
 rw [Array.append_empty]
 refine h.mono ?_
 rintro e w' ⟨rfl, rfl⟩
 exact ⟨rfl, 0, #[], by rw [Sort.grow_empty]; rfl⟩
theorem sortTe_any (w0 w : World) (base : Nat) (A : Option Addr) (n c : Nat) (d : Array TeR) (h : RowS w0 w base 28 A n c d) (hn : n ≤ 1000000000) :
  Calls Tryz.prog 62 #[.slice A n c, .func (.func 63) #[] #[]] w (fun e w' => e = .returned (.tuple #[]) ∧ ∃ d', RowS w0 w' base 28 A n c d' ∧ Sort.PermIn 0 n d d' ∧ Sort.SortedIn ltTe 0 n d') := by
 rcases Nat.eq_zero_or_pos n with rfl | hpos
 ·refine (AnyF.slices_SortFunc_none (P := Tryz.prog) (ρ := sortTe_ren) { sortTe with } A c (.func (.func 63) #[] #[]) w).mono ?_
  rintro e w' ⟨rfl, rfl⟩
  exact ⟨rfl, d, h, Sort.permIn_refl _ _ _, fun i j _ _ hj => absurd hj (Nat.not_lt_zero _)⟩
 obtain ⟨g, rfl, -, hr⟩ := h.at hpos
 have hsz := h.size
 have ho : w.ownsRow base 28 1 (.slice (some ⟨g, 0, none⟩) n c) n (gcs d.toList) := h.own
 obtain ⟨D, hD⟩ : ∃ D : Array (TeW w base), D.toList.map TeW.t = d.toList := by
  refine ⟨(d.toList.attach.map fun x => (⟨x.1, h.ow x.1 x.2⟩ : TeW w base)).toArray, ?_⟩
  show List.map TeW.t (List.map (fun x => (⟨x.1, h.ow x.1 x.2⟩ : TeW w base)) d.toList.attach) = d.toList
  rw [List.map_map]
  exact List.attach_map_subtype_val d.toList
 have hDs : D.size = n := by rw [← hsz, ← Array.length_toList, ← Array.length_toList, ← hD, List.length_map]
 have hcells : gcs d.toList = D.toList.map teV := by rw [← hD]; exact gcs_teV _
 have hH : Sort.Holds teV w g 0 D := fun j hj => by
  refine ⟨?_, ho.frozenAt _⟩
  rw [hcells] at ho
  rw [ho.cellAt (0 + j) (by omega), Nat.zero_add, List.getElem?_map, Array.getElem?_toList, getElem!_pos D j hj, Array.getElem?_eq_getElem hj]
  rfl
 have hlt : g < w.heap.size := (ho.lt g rfl).2
 have eg : ∀ args w, (callFunc 63 args).run Tryz.prog w = .ok (.enter 63 args) w := enters_of Tryz.func63 (by kernel_rfl) rfl
 have hc := Any.slices_SortFunc sortTe (teV (w := w) (b := base)) (fun _ => rfl) teCf teSwo 63 #[] g 0 c D w eg (teCmp ho) hH hlt (by omega)
 rw [hDs] at hc
 change Calls Tryz.prog 62 _ _ _ at hc
 refine hc.mono ?_
 rintro e w' ⟨rfl, D', m, os, ⟨hp1, hp2, hp3⟩, hs, rfl⟩
 have hi : ∀ (E : Array (TeW w base)) (i : Nat), i < E.size → (E.map TeW.t)[i]! = (E[i]!).t := fun E i hi => by
  rw [getElem!_pos _ i (by simpa using hi), getElem!_pos E i hi]; simp
 have hdD : d = D.map TeW.t := by apply Array.ext'; rw [Array.toList_map]; exact hD.symm
 refine ⟨rfl, D'.map TeW.t, ⟨?_, ?_, ?_, h.ne⟩, ⟨?_, ?_, ?_⟩, ?_⟩
 ·rw [Array.toList_map, gcs_teV]
  exact own_sw teV D' (by rw [hp1]; exact hDs) ho
 ·intro x hx
  rw [Array.toList_map, List.mem_map] at hx
  obtain ⟨y, _, rfl⟩ := hx
  exact ownB_kept y.ok ho h.ne (grownBy_sw teV D')
 ·exact Grown.trans h.gr (grownBy_sw teV D')
 ·rw [hdD, Array.size_map, Array.size_map]; exact hp1
 ·intro i hi2
  rcases hi2 with hi2 | hi2
  ·omega
  ·rw [hdD, getElem!_neg _ i (by rw [Array.size_map, hp1]; omega), getElem!_neg _ i (by rw [Array.size_map]; omega)]
 ·have e1 : D'.extract 0 n = D' := by rw [← hDs, ← hp1]; exact Array.extract_size
  have e2 : D.extract 0 n = D := by rw [← hDs]; exact Array.extract_size
  have e3 : (D'.map TeW.t).extract 0 n = D'.map TeW.t := by rw [← hDs, ← hp1, ← Array.size_map (f := TeW.t)]; exact Array.extract_size
  have e4 : (D.map TeW.t).extract 0 n = D.map TeW.t := by rw [← hDs, ← Array.size_map (f := TeW.t)]; exact Array.extract_size
  rw [e1, e2] at hp3
  rw [hdD, e3, e4, Array.toList_map, Array.toList_map]
  exact hp3.map TeW.t
 ·intro i j h1 h2 h3
  have := hs i j h1 h2 h3
  rw [teCf_lt] at this
  rw [hi _ _ (by rw [hp1]; omega), hi _ _ (by rw [hp1]; omega)]
  exact this
end Go.Proofs.YtbfepgjeecndiaaGreat

/- The bytes of a parcel (parcel.Encode). -/
namespace Go.Proofs.YtbfepgjeecndiaaGreat
set_option maxRecDepth 100000
set_option maxHeartbeats 8000000
open Go.RowKit
set_option linter.unusedVariables false
set_option linter.unusedSimpArgs false
attribute [local go_sem ↓] Go.wp_at_zero Go.wp_at_succ
def lrgN (n m : Nat) : Bool := decide (64 < n) || decide (64 < m)
theorem parLarge_any (A : Option Addr) (n c : Nat) (B : Option Addr) (m d : Nat) (w : World) (hn : n ≤ 9223372036854775807) (hm : m ≤ 9223372036854775807) :
  Calls Tryz.prog 20 #[.agg (vwA A n c B m d)] w fun e w' => e = .returned (.bool (lrgN n m)) ∧ Ext w w' := by
 have HE := Lib.hid ((Ext.refl w).alloc' (.cells (vwA A n c B m d) 25))
 obtain ⟨c0, c1⟩ := vw_facts (Blk.new w 25 (vwA A n c B m d))
 by_cases h1 : 64 < n
 ·have HV := Lib.hid (show lrgN n m = true by unfold lrgN; rw [decide_eq_true h1]; rfl)
  have i1 : (64 : Int) < (n : Int) := by omega
  go_enter Tryz.func20, Tryz.ntmps20
  go_wp2_with fail
  go_ret
  exact ⟨by rw [HV.out]; rfl, HE.out⟩
 ·have i1 : ¬ (64 : Int) < (n : Int) := by omega
  by_cases h2 : 64 < m
  ·have HV := Lib.hid (show lrgN n m = true by unfold lrgN; rw [decide_eq_true h2, Bool.or_true])
   have i2 : (64 : Int) < (m : Int) := by omega
   go_enter Tryz.func20, Tryz.ntmps20
   go_wp2_with fail
   go_ret
   exact ⟨by rw [HV.out]; rfl, HE.out⟩
  ·have HV := Lib.hid (show lrgN n m = false by unfold lrgN; rw [decide_eq_false h1, decide_eq_false h2]; rfl)
   have i2 : ¬ (64 : Int) < (m : Int) := by omega
   go_enter Tryz.func20, Tryz.ntmps20
   go_wp2_with fail
   go_ret
   exact ⟨by rw [HV.out]; rfl, HE.out⟩
def pcE (L : List SgR) (X : List TeR) : Int := if lrgN L.length X.length = true then 5 else vwE L X
def encPc (L : List SgR) (X : List TeR) : List UInt8 := nmb (tagU 89 (encVw L X)) ++ encVw L X
def PcEnc (w : World) (L : List SgR) (X : List TeR) (e : Ending) (w' : World) : Prop :=
 ((pcE L X ≠ 0 ∧ e = .returned (.tuple #[.slice none 0 0, .int .i64 (pcE L X)])) ∨ (pcE L X = 0 ∧ ∃ A' n' c', e = .returned (.tuple #[.slice A' n' c', .int .i64 0]) ∧ OwnB w' w.heap.size 5 A' n' c' (encPc L X) ∧ n' ≤ 10000000)) ∧ Ext w w'
theorem encVw_pos (L : List SgR) (X : List TeR) : 8 ≤ (encVw L X).length := by
 unfold encVw; simp only [List.length_append, beI_length]; omega
theorem tagged89 (A : Option Addr) (n c : Nat) (l : List UInt8) (w : World) (h : SlB w A n c l) (hm : n < 140737488355328) :
  Calls Tryz.prog 22 #[.int .u8 89, .slice A n c] w fun e w' => e = .returned (.agg (nmc (tagU 89 l))) ∧ Ext w w' := tagged_any 89 A n c l w h hm
theorem pcEnc_any (A : Option Addr) (n c : Nat) (L : List SgR) (B : Option Addr) (m d : Nat) (X : List TeR) (w : World) (hS : SlG w A n c L) (hX : SlG w B m d X) :
  Calls Tryz.prog 9 #[.agg (vwA A n c B m d)] w (PcEnc w L X) := by
 have hcap := hS.cap
 have hle := hS.le
 have hcap2 := hX.cap
 have hle2 := hX.le
 have hE := (Ext.refl w).alloc' (.cells (vwA A n c B m d) 25)
 have HB := Lib.hid (Blk.new w 25 (vwA A n c B m d))
 have HE := Lib.hid hE
 have HS := Lib.hid (hS.ext hE)
 have HX := Lib.hid (hX.ext hE)
 have HL := Lib.hid hS.len
 have HM := Lib.hid hX.len
 obtain ⟨W0, hW0⟩ : ∃ W0, w.alloc (.cells (vwA A n c B m d) 25) = W0 := ⟨_, rfl⟩
 rw [hW0] at HB HE HS HX
 have HC := Lib.hid (fun (W : World) (h : Ext W0 W) => vw_facts (HB.out.ext h))
 clear hS hX hE
 obtain ⟨c0, c1⟩ := HC.out W0 (Ext.refl _)
 go_enter Tryz.func9, Tryz.ntmps9
 go_wp2_with fail
 refine (parLarge_any A n c B m d W0 (by omega) (by omega)).mono ?_
 rintro e w1 ⟨rfl, he1⟩
 have HX1 := Lib.hid he1
 clear he1 c0 c1
 cases hv : lrgN n m with
 | true =>
  have HN := Lib.hid (show pcE L X = 5 by unfold pcE; rw [HL.out, HM.out, hv]; rfl)
  have HF := Lib.hid (HE.out.trans HX1.out)
  clear hv
  go_wp2_with fail
  go_ret2
  exact ⟨.inl ⟨by rw [HN.out]; decide, by rw [HN.out]; rfl⟩, HF.out⟩
 | false =>
  have HN := Lib.hid (show pcE L X = vwE L X by unfold pcE; rw [HL.out, HM.out, hv]; rfl)
  have hbd : n ≤ 64 ∧ m ≤ 64 := by
   unfold lrgN at hv
   simp only [Bool.or_eq_false_iff, decide_eq_false_iff_not] at hv
   omega
  obtain ⟨b1, b2⟩ := hbd
  obtain ⟨c0, c1⟩ := HC.out w1 HX1.out
  clear hv
  go_wp2_with fail
  refine (snEnc_any A n c L B m d X w1 (HS.out.ext HX1.out) (HX.out.ext HX1.out) (by omega) (by omega)).mono ?_
  intro e w2 h2
  obtain ⟨hcase, he2⟩ := h2
  have HX2 := Lib.hid (HE.out.trans (HX1.out.trans he2))
  have HXZ := Lib.hid he2.size
  clear he2 c0 c1
  rcases hcase with ⟨hne, rfl⟩ | ⟨h0, A2, n2, c2, rfl, hO2, hn2⟩
  ·obtain ⟨z, hz⟩ : ∃ z, vwE L X = z := ⟨_, rfl⟩
   rw [hz] at hne HN ⊢
   have z1 : (z != 0) = true := bne_iff_ne.2 hne
   have HNE := Lib.hid hne
   clear hne hz
   go_wp2_with fail
   go_ret2
   exact ⟨.inl ⟨by rw [HN.out]; exact HNE.out, by rw [HN.out]; rfl⟩, HX2.out⟩
  ·rw [h0] at HN
   rw [HL.out, HM.out] at hn2
   have HO2 := Lib.hid hO2
   have HLE := Lib.hid (show (encVw L X).length = n2 from hO2.len)
   have HPO := Lib.hid (encVw_pos L X)
   clear h0 hO2
   go_wp2_with fail
   refine (tagged89 A2 n2 c2 (encVw L X) w2 HO2.out.sl (by omega)).mono ?_
   rintro e w3 ⟨rfl, he3⟩
   have HX3 := Lib.hid (HX2.out.trans he3)
   have HO3 := Lib.hid (HO2.out.ext he3)
   obtain ⟨N, hN⟩ : ∃ N, tagU 89 (encVw L X) = N := ⟨_, rfl⟩
   have HNN := Lib.hid hN
   rw [hN]
   clear he3 hN
   have hp : 8 ≤ n2 := by have := HPO.out; have := HLE.out; omega
   have HZ := Lib.hid hp
   have HBN := Lib.hid (slB_at (n := 8) (c := 8) (rangeNm (Blk.new w3 44 (nmc N))) (nmb_length _) (by omega) (by omega))
   have HO4 := Lib.hid (HO3.out.sl.ext ((Ext.refl w3).alloc' (.cells (nmc N) 44)))
   have HX4 := Lib.hid (HX3.out.alloc' (.cells (nmc N) 44))
   go_wp2_with (first | (with_reducible refine wpList_storeNew rfl (.tmp 6) (.tmp 18) rfl w3.heap.size N rfl rfl rfl ?_) | (at_builtin; go_must (refine wpList_growB bytesE rfl (.tmp 19) (.tmp 20) rfl _ 8 8 (nmb N) rfl HBN.out (by omega) A2 n2 c2 (encVw L X) rfl HO4.out (by omega) (by omega) (by omega) ?_; intro A5 c5 w5 hO5 hx5)))
   have HX5 := Lib.hid (Ext.trans HX4.out hx5)
   have HF := Lib.hid (show OwnB w5 w.heap.size 5 A5 (8 + n2) c5 (encPc L X) from by
    unfold encPc; rw [HNN.out]; exact own_mono hO5 HX4.out.size)
   clear hO5 hx5
   go_wp2_with fail
   go_ret2
   exact ⟨.inr ⟨HN.out, A5, 8 + n2, c5, rfl, HF.out, by omega⟩, HX5.out⟩
end Go.Proofs.YtbfepgjeecndiaaGreat

/- The bytes of votes and of signed votes (the reference's Encode). -/
namespace Go.Proofs.YtbfepgjeecndiaaGreat
set_option maxRecDepth 100000
set_option maxHeartbeats 8000000
open Go.RowKit
set_option linter.unusedVariables false
set_option linter.unusedSimpArgs false
attribute [local go_sem ↓] Go.wp_at_zero Go.wp_at_succ
theorem own_lit7 (w : World) (base : Nat) (e : TypeId) (z0 z1 z2 z3 z4 z5 z6 : Int) (b0 b1 b2 b3 b4 b5 b6 : UInt8) (g : Nat) (hg : w.heap.size = g) (hb : base ≤ g) (h0 : z0 = (b0.toNat : Int)) (h1 : z1 = (b1.toNat : Int)) (h2 : z2 = (b2.toNat : Int)) (h3 : z3 = (b3.toNat : Int)) (h4 : z4 = (b4.toNat : Int)) (h5 : z5 = (b5.toNat : Int)) (h6 : z6 = (b6.toNat : Int)) : OwnB (w.alloc (.cells #[.int .u8 z0, .int .u8 z1, .int .u8 z2, .int .u8 z3, .int .u8 z4, .int .u8 z5, .int .u8 z6] e)) base e (some ⟨g, 0, none⟩) 7 7 [b0, b1, b2, b3, b4, b5, b6] := by
 subst hg; subst h0; subst h1; subst h2; subst h3; subst h4; subst h5; subst h6
 exact own_cells (heap_alloc_new w _) hb rfl (Nat.le_refl _) (by omega) rfl rfl
theorem beI_two {z : Int} (h0 : 0 ≤ z) (h1 : z < 65536) : beI 2 z = [toB (z / 256), toB z] := by
 have hb : ∀ a b : UInt8, ((beNat [a, b] : Nat) : Int) = (a.toNat : Int) * 256 + (b.toNat : Int) := fun a b => by simp [beNat]
 have e1 := beI_2 h0 (by omega)
 have hl := beI_length 2 z
 match hm : beI 2 z, hl with
 | [a, b], _ =>
  rw [hm, hb] at e1
  have ha := a.toNat_lt
  have hbb := b.toNat_lt
  have t1 : (toB (z / 256)).toNat = a.toNat := by have := toB_toNat (z := z / 256) (by omega) (by omega); omega
  have t2 : (toB z).toNat = b.toNat := by have h := toB_eq z; omega
  rw [UInt8.toNat_inj.1 t1, UInt8.toNat_inj.1 t2]
theorem rVtEnc_no (v : VtR) (h : vldVt v = false) (w : World) : Calls Tryz.prog 77 #[.agg (vtA v)] w fun e w' => e = .returned (.tuple #[.slice none 0 0, .bool false]) ∧ Ext w w' := by
 have HE := Lib.hid ((Ext.refl w).alloc' (.cells (vtA v) 46))
 have hr : (w.alloc (.cells (vtA v) 46)).rangeAt w.heap.size 0 (vtL v) := rangeAt_of_blk (Blk.new w 46 (vtA v))
 have HV := Lib.hid (fun (W : World) => rVtValid_any v W)
 rw [h] at HV
 clear h
 go_enter Tryz.func77, Tryz.ntmps77
 go_wp2_with (first | (with_reducible refine wpList_loadVt rfl (.tmp 1) rfl w.heap.size 0 rfl v hr ?_))
 refine (HV.out _).mono ?_
 rintro e w1 ⟨rfl, he1⟩
 have HX := Lib.hid (HE.out.trans he1)
 clear he1 hr
 go_wp2_with fail
 go_ret2
 exact ⟨rfl, HX.out⟩
theorem rVtEnc_yes (v : VtR) (hwf : v.wf) (h : vldVt v = true) (w : World) : Calls Tryz.prog 77 #[.agg (vtA v)] w fun e w' => ∃ A' c', e = .returned (.tuple #[.slice A' 23 c', .bool true]) ∧ OwnB w' w.heap.size 5 A' 23 c' (encVt v) ∧ Ext w w' := by
 have HBD := Lib.hid (vldVt_bd h hwf)
 have HE0 := Lib.hid ((Ext.refl w).alloc' (.cells (vtA v) 46))
 have HB := Lib.hid (Blk.new w 46 (vtA v))
 obtain ⟨W0, hW0⟩ : ∃ W0, w.alloc (.cells (vtA v) 46) = W0 := ⟨_, rfl⟩
 rw [hW0] at HE0 HB
 have hr : W0.rangeAt w.heap.size 0 (vtL v) := rangeAt_of_blk HB.out
 have HV := Lib.hid (fun (W : World) => rVtValid_any v W)
 rw [h] at HV
 clear h
 go_enter Tryz.func77, Tryz.ntmps77
 go_wp2_with (first | (with_reducible refine wpList_loadVt rfl (.tmp 1) rfl w.heap.size 0 rfl v hr ?_))
 refine (HV.out _).mono ?_
 rintro e w1 ⟨rfl, he1⟩
 have HX := Lib.hid (HE0.out.trans he1)
 have HB1 := Lib.hid (HB.out.ext he1)
 obtain ⟨a0, a1, a2, a3, a4, a5, a6, a7⟩ := vt_facts HB1.out
 clear he1 hr hW0 a6 a7
 go_upto_region 4 with (fail)
 have HO := Lib.hid (own_lit7 w1 w1.heap.size 5 (v.k % 256) (v.sl % 256) (v.ro % 256) (v.ch % 256) (v.si % 256) (v.su / 256 % 256) (v.su % 256) (toB v.k) (toB v.sl) (toB v.ro) (toB v.ch) (toB v.si) (toB (v.su / 256)) (toB v.su) w1.heap.size rfl (Nat.le_refl _) (toB_eq _) (toB_eq _) (toB_eq _) (toB_eq _) (toB_eq _) (toB_eq _) (toB_eq _))
 have HE := Lib.hid ((Ext.refl w1).alloc' (.cells #[.int .u8 (v.k % 256), .int .u8 (v.sl % 256), .int .u8 (v.ro % 256), .int .u8 (v.ch % 256), .int .u8 (v.si % 256), .int .u8 (v.su / 256 % 256), .int .u8 (v.su % 256)] 5))
 obtain ⟨W3, hW3⟩ : ∃ W3, w1.alloc (.cells #[.int .u8 (v.k % 256), .int .u8 (v.sl % 256), .int .u8 (v.ro % 256), .int .u8 (v.ch % 256), .int .u8 (v.si % 256), .int .u8 (v.su / 256 % 256), .int .u8 (v.su % 256)] 5) = W3 := ⟨_, rfl⟩
 rw [hW3] at HO HE ⊢
 have HO := Lib.hid (OwnB.ext HO.out (Ext.refl W3).drew')
 have HE := Lib.hid (HE.out.trans (Ext.refl W3).drew')
 clear hW3 a0 a1 a2 a3 a4 a5
 refine wp_region_held_drew (S := fun W => Ext w1 W) (by kernel_rfl) (HE.out) (fun hHeld => ?_)
 (refine wr 0 (oi := ⟨some 31, .move (.tmp 4), 28, "ref.go:106", #[], none⟩) (v := ?_) rfl (by kernel_rfl) (by rfl) (fun _ _ _ h => h) ?h hHeld ?_; case h => (intro W hSW; go_simp <;> with_reducible rfl))
 try simp only [lays]
 (refine wr 1 (oi := ⟨some 32, .fieldAddr 46 (.tmp 1) 6, 0, "ref.go:106", #[], none⟩) (v := ?_) rfl (by kernel_rfl) (by rfl) (fun _ _ _ h => h) ?h hHeld ?_; case h => (intro W hSW; go_simp <;> with_reducible rfl))
 try simp only [lays]
 (refine wr 2 (oi := ⟨some 33, .slice 44 (.tmp 32) none none none, 28, "ref.go:106", #[⟨1, .data⟩], none⟩) (v := ?_) rfl (by kernel_rfl) (by rfl) (fun _ _ _ h => h) ?h hHeld ?_; case h => (intro W hSW; go_simp <;> with_reducible rfl))
 try simp only [lays]
 (refine wr 4 (oi := ⟨some 35, .fieldAddr 46 (.tmp 1) 7, 0, "ref.go:106", #[], none⟩) (v := ?_) rfl (by kernel_rfl) (by rfl) (fun _ _ _ h => h) ?h hHeld ?_; case h => (intro W hSW; go_simp <;> with_reducible rfl))
 try simp only [lays]
 (refine wr 5 (oi := ⟨some 36, .slice 44 (.tmp 35) none none none, 28, "ref.go:106", #[⟨4, .data⟩], none⟩) (v := ?_) rfl (by kernel_rfl) (by rfl) (fun _ _ _ h => h) ?h hHeld ?_; case h => (intro W hSW; go_simp <;> with_reducible rfl))
 try simp only [lays]
 refine wpAnyH_ready (rs := [3]) (by kernel_rfl) (by simp) ?_
 refine (AllReadyH.cons (o := ⟨some 34, .call { callee := .builtin .append, args := #[.tmp 31, .tmp 33], argTypes := #[28, 28] }, 28, "ref.go:106", #[⟨0, .data⟩, ⟨2, .data⟩], none⟩) rfl (fun K hK => ?_) AllReadyH.nil)
 (refine step_appBG bytesE rfl (.tmp 31) (.tmp 33) rfl w1.heap.size (some ⟨w1.heap.size, 0, none⟩) 7 7 [toB v.k, toB v.sl, toB v.ro, toB v.ch, toB v.si, toB (v.su / 256), toB v.su] (by rfl) HO.out (some ⟨w.heap.size, 6, none⟩) 8 8 (nmb v.pa) (by rfl) (slB_at (vt_pa (HB1.out.ext HE.out)) (nmb_length _) (by omega) (by omega)) (by omega) HE.out.size ?_; intro A4 c4 w4 ho hg; have HE := Lib.hid (show Ext _ _ from Below.grown HE.out hg HE.out.size (fun q hq => (own_lt HO.out q hq).1)); have HO := Lib.hid ho; clear ho hg)
 refine hK.out _ _ (HE.out) (fun hHeld => ?_)
 clear hK K
 try simp only [lays]
 refine wpAnyH_ready (rs := [6]) (by kernel_rfl) (by simp) ?_
 refine (AllReadyH.cons (o := ⟨some 37, .call { callee := .builtin .append, args := #[.tmp 34, .tmp 36], argTypes := #[28, 28] }, 28, "ref.go:106", #[⟨3, .data⟩, ⟨5, .data⟩, ⟨3, .chain⟩], none⟩) rfl (fun K hK => ?_) AllReadyH.nil)
 (refine step_appBG bytesE rfl (.tmp 34) (.tmp 36) rfl w1.heap.size A4 15 c4 ([toB v.k, toB v.sl, toB v.ro, toB v.ch, toB v.si, toB (v.su / 256), toB v.su] ++ nmb v.pa) (by rfl) HO.out (some ⟨w.heap.size, 14, none⟩) 8 8 (nmb v.va) (by rfl) (slB_at (vt_va (HB1.out.ext HE.out)) (nmb_length _) (by omega) (by omega)) (by omega) HE.out.size ?_; intro A5 c5 w5 ho hg; have HE := Lib.hid (show Ext _ _ from Below.grown HE.out hg HE.out.size (fun q hq => (own_lt HO.out q hq).1)); have HO := Lib.hid ho; clear ho hg)
 refine hK.out _ _ (HE.out) (fun hHeld => ?_)
 clear hK K
 try simp only [lays]
 (refine wr 7 (oi := ⟨some 2, .assign (.tmp 37), 28, "ref.go:106", #[⟨6, .data⟩, ⟨6, .chain⟩, ⟨0, .phase⟩, ⟨1, .phase⟩, ⟨2, .phase⟩, ⟨3, .phase⟩, ⟨4, .phase⟩, ⟨5, .phase⟩, ⟨6, .phase⟩], none⟩) (v := ?_) rfl (by kernel_rfl) (by rfl) (fun _ _ _ h => h) ?h hHeld ?_; case h => (intro W hSW; go_simp <;> with_reducible rfl))
 try simp only [lays]
 (refine wr 8 (oi := ⟨some 3, .assign (.const (.bool true)), 4, "ref.go:106", #[⟨7, .chain⟩, ⟨0, .phase⟩, ⟨1, .phase⟩, ⟨2, .phase⟩, ⟨3, .phase⟩, ⟨4, .phase⟩, ⟨5, .phase⟩, ⟨6, .phase⟩, ⟨7, .phase⟩], none⟩) (v := ?_) rfl (by kernel_rfl) (by rfl) (fun _ _ _ h => h) ?h hHeld ?_; case h => (intro W hSW; go_simp <;> with_reducible rfl))
 try simp only [lays]
 refine wpAnyH_done (by kernel_rfl) ?_ _
 have HF := Lib.hid (show OwnB w5 w.heap.size 5 A5 23 c5 (encVt v) from by
  have h1 : OwnB w5 w.heap.size 5 A5 23 c5 _ := own_mono (base' := w.heap.size) HO.out HX.out.size
  obtain ⟨-, -, -, -, -, -, -, -, -, -, b0, b1⟩ := HBD.out
  have e : encVt v = [toB v.k, toB v.sl, toB v.ro, toB v.ch, toB v.si, toB (v.su / 256), toB v.su] ++ nmb v.pa ++ nmb v.va := by unfold encVt; rw [beI_two b0 (by omega)]; simp
  rw [e]
  exact h1)
 have HG := Lib.hid (HX.out.trans HE.out)
 clear hHeld
 go_wp2_with fail
 go_ret2
 exact ⟨A5, c5, rfl, HF.out, HG.out⟩
theorem rSgEnc_no1 (S : SgR) (w : World) (hS : S.ok w) (h : vldVt S.v = false) : Calls Tryz.prog 43 #[.agg (sgA S)] w fun e w' => e = .returned (.tuple #[.slice none 0 0, .bool false]) ∧ Ext w w' := by
 have HE := Lib.hid ((Ext.refl w).alloc' (.cells (sgA S) 48))
 have HB := Lib.hid (Blk.new w 48 (sgA S))
 have HWF := Lib.hid hS.v
 obtain ⟨W0, hW0⟩ : ∃ W0, w.alloc (.cells (sgA S) 48) = W0 := ⟨_, rfl⟩
 rw [hW0] at HE HB
 have HS := Lib.hid (hS.ext HE.out)
 have hr := sg_vote HB.out
 clear hS
 have hl : (S.n : Int) ≤ 9223372036854775807 := by have := HS.out.sig.le; have := HS.out.sig.cap; omega
 go_enter Tryz.func43, Tryz.ntmps43
 go_wp2_with (first | (with_reducible refine wpList_loadVt rfl (.tmp 7) rfl w.heap.size 0 rfl S.v hr ?_))
 refine (rVtEnc_no S.v h W0).mono ?_
 rintro e w1 ⟨rfl, he1⟩
 have HX := Lib.hid (HE.out.trans he1)
 clear he1 hr h
 go_wp2_with fail
 go_ret2
 exact ⟨rfl, HX.out⟩
theorem rSgEnc_no2 (S : SgR) (w : World) (hS : S.ok w) (h : vldVt S.v = true) (hn : ¬ S.n = 370) : Calls Tryz.prog 43 #[.agg (sgA S)] w fun e w' => e = .returned (.tuple #[.slice none 0 0, .bool false]) ∧ Ext w w' := by
 have HE := Lib.hid ((Ext.refl w).alloc' (.cells (sgA S) 48))
 have HB := Lib.hid (Blk.new w 48 (sgA S))
 have HWF := Lib.hid hS.v
 obtain ⟨W0, hW0⟩ : ∃ W0, w.alloc (.cells (sgA S) 48) = W0 := ⟨_, rfl⟩
 rw [hW0] at HE HB
 have HS := Lib.hid (hS.ext HE.out)
 have hr := sg_vote HB.out
 clear hS
 have hl : (S.n : Int) ≤ 9223372036854775807 := by have := HS.out.sig.le; have := HS.out.sig.cap; omega
 go_enter Tryz.func43, Tryz.ntmps43
 go_wp2_with (first | (with_reducible refine wpList_loadVt rfl (.tmp 7) rfl w.heap.size 0 rfl S.v hr ?_))
 refine (rVtEnc_yes S.v HWF.out h W0).mono ?_
 rintro e w1 ⟨A1, c1, rfl, hO1, he1⟩
 have HX := Lib.hid (HE.out.trans he1)
 have hc : w1.cell? ⟨w.heap.size, 22, none⟩ = some (.slice S.A S.n S.c) := (HB.out.ext he1).cell 22
 have hn1 : ((S.n : Int) != 370) = true := by simp; omega
 have hn2 : ((S.n : Int) == 370) = false := by simp; omega
 clear he1 hr h hO1 hn hW0
 go_wp2_with fail
 go_ret2
 exact ⟨rfl, HX.out⟩
theorem rSgEnc_yes (S : SgR) (w : World) (hS : S.ok w) (h : vldVt S.v = true) (hn : S.n = 370) : Calls Tryz.prog 43 #[.agg (sgA S)] w fun e w' => ∃ A' c', e = .returned (.tuple #[.slice A' 393 c', .bool true]) ∧ OwnB w' w.heap.size 5 A' 393 c' (encSg S) ∧ Ext w w' := by
 have HE := Lib.hid ((Ext.refl w).alloc' (.cells (sgA S) 48))
 have HB := Lib.hid (Blk.new w 48 (sgA S))
 have HWF := Lib.hid hS.v
 obtain ⟨W0, hW0⟩ : ∃ W0, w.alloc (.cells (sgA S) 48) = W0 := ⟨_, rfl⟩
 rw [hW0] at HE HB
 have HS := Lib.hid (hS.ext HE.out)
 have hr := sg_vote HB.out
 clear hS
 have hl : (S.n : Int) ≤ 9223372036854775807 := by have := HS.out.sig.le; have := HS.out.sig.cap; omega
 go_enter Tryz.func43, Tryz.ntmps43
 go_wp2_with (first | (with_reducible refine wpList_loadVt rfl (.tmp 7) rfl w.heap.size 0 rfl S.v hr ?_))
 refine (rVtEnc_yes S.v HWF.out h W0).mono ?_
 rintro e w1 ⟨A1, c1, rfl, hO1, he1⟩
 have HX := Lib.hid (HE.out.trans he1)
 have hc : w1.cell? ⟨w.heap.size, 22, none⟩ = some (.slice S.A S.n S.c) := (HB.out.ext he1).cell 22
 have HN := Lib.hid hn
 have HS1 := Lib.hid (HS.out.sig.ext he1)
 have HO1 := Lib.hid hO1
 have HL1 := Lib.hid he1.size
 rw [hn] at hc HS1
 clear he1 hr h hO1 hn hW0
 go_wp2_with (at_builtin; go_must (refine wpList_appB bytesE rfl (.tmp 20) (.tmp 22) rfl W0.heap.size _ _ _ _ rfl HO1.out _ 370 S.c S.sig rfl HS1.out (by omega) HL1.out w1 (Below.refl _ _) ?_))
 intro A3 c3 w3 ho3 hw3 hs3
 have HF := Lib.hid (show OwnB w3 w.heap.size 5 A3 393 c3 (encSg S) from own_mono ho3 HE.out.size)
 have HG := Lib.hid (Below.trans HX.out (Below.mono hw3 HE.out.size) : Ext w w3)
 clear ho3 hw3 hs3
 go_wp2_with fail
 go_ret2
 exact ⟨A3, c3, rfl, HF.out, HG.out⟩
end Go.Proofs.YtbfepgjeecndiaaGreat
