/- Sets of votes and sets of texts: maps to bool that a call makes. -/
import Derived.Maps.OwnSet
import Derived.DeepKeys4
import Derived.Shelf.SlSortCmp.NoneTotal
import Derived.Sort.OwnSorted
import Derived.Test.YtbfepgjeecndiaaGreatJ21
namespace Go.Proofs.YtbfepgjeecndiaaGreat
set_option maxRecDepth 100000
open Go.RowKit
set_option linter.unusedVariables false
set_option linter.unusedSimpArgs false
def yesD : DataW Unit := .lit (.bool true)
theorem at_fold (kl : Lit) (z : DataW Unit) (hk : WideAt.IsKeyLit kl) : ∀ (acc : List Lit) (m : DataW Unit), Maps.IsMap m → (acc.foldl (fun m x => m.put x yesD) m).atKey kl z = if acc.any (fun x => x.sameKey kl) then yesD else m.atKey kl z
 | [], m, _ => rfl
 | x :: r, m, hm => by
  rw [List.foldl_cons, at_fold kl z hk r _ (hm.put x yesD), List.any_cons]
  by_cases hx : x = kl
  ·subst hx
   rw [Maps.atKey_put_same hm hk, WideAt.sameKey_self hk, Bool.true_or, if_pos rfl]
   split <;> rfl
  ·rw [Maps.atKey_put_other (fun e => hx e.symm), Maps.sameKey_ne hx, Bool.false_or]
theorem at_setOf (kl : Lit) (z : DataW Unit) (acc : List Lit) (hk : WideAt.IsKeyLit kl) : (Maps.setOf yesD acc).atKey kl z = if acc.any (fun x => x.sameKey kl) then yesD else z := by
 unfold Maps.setOf
 rw [at_fold kl z hk acc _ Maps.isMap_empty]
 rfl
section
variable {P : Program} {t k e : TypeId} {w : World} {M n : Nat} {acc : List Lit} {key : Value} {kl : Lit}
theorem look_set (K : Maps.Keyed P k) (ht : P.underlying t = some (.map k e)) (he : P.underlying e = some .bool) (hz : (zeroValue e).run P w = .ok (.bool false) w) (h : w.ownsMap P k (plainElem P e) M n (Maps.setOf yesD acc)) (hkey : keyOf P k key = some kl) :
  (Instr.lookup t (.map (some M)) key false).run P w = .ok (.bool (acc.any (fun x => x.sameKey kl))) w := by
 obtain ⟨v, ps, hrun, hv⟩ := h.lookup K ht hz (plainElem_bool he false) hkey
 rw [at_setOf kl _ acc (K.key hkey)] at hv
 rw [hrun]
 have hb : ∀ b : Bool, plainElem (H := Unit) P e v = some (.lit (.bool b), ps) → v = .bool b := fun b hh => by
  unfold plainElem at hh
  rw [he] at hh
  split at hh
  ·injection hh with hh; injection hh with h1 _; injection h1 with h1; injection h1 with h1; subst h1; rfl
  ·rename_i hq; exact absurd hq (by simp)
  ·rename_i hq; exact absurd hq (by simp)
  ·cases hh
 split at hv
 ·rename_i hc; rw [hb true hv, hc]
 ·rename_i hc; rw [hb false hv]; simp only [Bool.not_eq_true] at hc; rw [hc]
end
/-! votes as keys -/
section
variable (m : Nat)
theorem keyByteN (c : UInt8) : Tryz.prog.keyLits (m + 1) 5 [.int .u8 (c.toNat : Int)] = some [litB c] := by
 unfold Program.keyLits
 rw [Tryz.underlying5]
 simp only
 rw [if_pos ⟨trivial, litB_wf c⟩]; rfl
theorem keyNameN (n : UInt64) : Tryz.prog.keyLits (m + 2) 44 (bcs (nmb n)) = some ((nmb n).map litB) := by
 unfold Program.keyLits
 rw [Tryz.underlying44]
 simp only
 rw [if_pos (by rw [bcs_length, nmb_length, cellsN]), cellsU8']
 rw [nmb_list n]
 generalize (nmb n).getD 0 0 = x0
 generalize (nmb n).getD 1 0 = x1
 generalize (nmb n).getD 2 0 = x2
 generalize (nmb n).getD 3 0 = x3
 generalize (nmb n).getD 4 0 = x4
 generalize (nmb n).getD 5 0 = x5
 generalize (nmb n).getD 6 0 = x6
 generalize (nmb n).getD 7 0 = x7
 rw [show List.range 8 = [0, 1, 2, 3, 4, 5, 6, 7] from rfl]
 simp only [bcs, bv, List.map_cons, List.map_nil, List.mapM_cons, List.mapM_nil, Nat.zero_mul, Nat.one_mul, Nat.mul_one, List.drop_zero, List.drop_succ_cons, List.take_succ_cons, List.take_zero, keyByteN]
 rfl
theorem wfI_keyN (x : Int) (hx : wfI x) : Tryz.prog.keyLits (m + 1) 3 [.int .i64 x] = some [.int .i64 x] := by
 unfold Program.keyLits
 rw [Tryz.underlying3]
 simp only
 rw [if_pos ⟨trivial, hx⟩]
theorem wfI_maskN (x : Int) (hx : wfI x) : Tryz.prog.keyLits (m + 1) 42 [.int .i64 x] = some [.int .i64 x] := by
 unfold Program.keyLits
 rw [Tryz.underlying42]
 simp only
 rw [if_pos ⟨trivial, hx⟩]
theorem keyVtN (v : VtR) (h : v.wf) : Tryz.prog.keyLits (m + 3) 46 (vtC v) = some (vtK v) := by
 obtain ⟨h1, h2, h3, h4, h5, h6⟩ := h
 have c1 : Tryz.prog.cellsOf 3 = 1 := by kernel_rfl
 have cm : Tryz.prog.cellsOf 42 = 1 := by kernel_rfl
 have c22 : Tryz.prog.cellsOf 46 = 22 := by kernel_rfl
 have hp : (bcs (nmb v.pa)).length = 8 := by rw [bcs_length, nmb_length]
 have hv : (bcs (nmb v.va)).length = 8 := by rw [bcs_length, nmb_length]
 have t8 : (bcs (nmb v.pa) ++ bcs (nmb v.va)).take 8 = bcs (nmb v.pa) := by rw [← hp]; exact List.take_left
 have d8 : (bcs (nmb v.pa) ++ bcs (nmb v.va)).drop 8 = bcs (nmb v.va) := by rw [← hp]; exact List.drop_left
 have t8' : (bcs (nmb v.va)).take 8 = bcs (nmb v.va) := List.take_of_length_le (by omega)
 have hl : (vtC v).length = 22 := by unfold vtC; rw [List.length_append, List.length_append, hp, hv]; rfl
 unfold Program.keyLits
 rw [Tryz.underlying46]
 simp only
 rw [if_pos ⟨by rw [hl, c22], by kernel_rfl⟩]
 simp only [List.mapM_cons, List.mapM_nil, c1, cm, cellsN, vtC, List.cons_append, List.nil_append, List.drop_zero, List.drop_succ_cons, List.take_succ_cons, List.take_zero, wfI_keyN (m + 1) _ h1, wfI_keyN (m + 1) _ h2, wfI_keyN (m + 1) _ h3, wfI_keyN (m + 1) _ h4, wfI_keyN (m + 1) _ h5, wfI_maskN (m + 1) _ h6, t8, d8, t8', keyNameN]
 simp [vtK]
end
theorem laidMp : laidOutB Tryz.prog = true := by kernel_rfl
theorem rowVt : (46 : TypeId) < Tryz.prog.types.size := of_decide_eq_true (by kernel_rfl)
theorem wideVt : (match Tryz.prog.underlying 46 with | some (.array _ _) | some (.struct _) => true | _ => false) = true := by rw [Tryz.underlying46]
theorem lawVt : Maps.Keyed Tryz.prog 46 := Maps.Keyed.of_law (deep_law_laid laidMp (m := 3) (by omega) rowVt (by kernel_rfl) wideVt)
def vtKl (v : VtR) : Lit := .string (keyBytes (vtK v))
theorem keyOf_vt (v : VtR) (h : v.wf) : keyOf Tryz.prog 46 (.agg (vtA v)) = some (vtKl v) := by
 have c22 : Tryz.prog.cellsOf 46 = 22 := by kernel_rfl
 have hf : (Value.agg (vtA v)).formed Tryz.prog 46 = true := by simp [Value.formed, Tryz.underlying46, c22]
 have hk : Tryz.prog.keyType 46 = true := by kernel_rfl
 unfold keyOf
 rw [Tryz.underlying46]
 simp only [hk, hf, Bool.and_self, if_true]
 obtain ⟨m, hm⟩ : ∃ m, Tryz.prog.types.size + 1 = m + 3 := ⟨Tryz.prog.types.size - 2, by
  have h : 2 ≤ Tryz.prog.types.size := of_decide_eq_true (by kernel_rfl)
  generalize Tryz.prog.types.size = s at *
  omega⟩
 rw [hm, show (Value.agg (vtA v)).cells.toList = vtC v from vtL_C v, keyVtN m v h]
 rfl
set_option maxRecDepth 10000 in
theorem vtKl_inj {a b : VtR} (ha : a.wf) (hb : b.wf) (h : vtKl a = vtKl b) : a = b := by
 have h1 := keyOf_vt a ha
 rw [h] at h1
 have := lawVt.inj h1 (keyOf_vt b hb)
 refine vtK_inj ?_
 have h2 : vtA a = vtA b := Value.agg.inj this
 have hc : vtC a = vtC b := by
  rw [← vtL_C a, ← vtL_C b]; exact congrArg Array.toList h2
 have ka := keyVtN 0 a ha
 rw [hc, keyVtN 0 b hb] at ka
 injection ka with ka
 exact ka.symm
set_option maxRecDepth 10000 in
theorem vtKl_key (v : VtR) (h : v.wf) : WideAt.IsKeyLit (vtKl v) := lawVt.key (keyOf_vt v h)
theorem any_vt {S : List VtR} {v : VtR} (hS : ∀ x ∈ S, x.wf) (hv : v.wf) : (S.map vtKl).any (fun x => x.sameKey (vtKl v)) = decide (v ∈ S) := by
 rw [Bool.eq_iff_iff]
 simp only [List.any_map, List.any_eq_true, Function.comp, decide_eq_true_eq]
 constructor
 ·rintro ⟨x, hx, h⟩
  have := vtKl_inj (hS x hx) hv (WideAt.sameKey_eq h)
  subst this; exact hx
 ·intro h
  exact ⟨v, h, WideAt.sameKey_self (vtKl_key v hv)⟩
/-! texts as keys -/
theorem lawStr : Maps.Keyed Tryz.prog 9 := Maps.string_keyed Tryz.underlying9
def teKl (l : List UInt8) : Lit := .string l
theorem keyOf_te (l : List UInt8) (h : l.length ≤ maxLen) : keyOf Tryz.prog 9 (.string ⟨l.toArray⟩) = some (teKl l) := by
 have := WideMaps.keyOf_string_mk (P := Tryz.prog) Tryz.underlying9 (s := ⟨l.toArray⟩) (by simpa [ByteArray.size] using h)
 simpa [teKl] using this
theorem teKl_key (l : List UInt8) : WideAt.IsKeyLit (teKl l) := trivial
theorem any_te {S : List (List UInt8)} {l : List UInt8} : (S.map teKl).any (fun x => x.sameKey (teKl l)) = decide (l ∈ S) := by
 rw [Bool.eq_iff_iff]
 simp only [List.any_map, List.any_eq_true, Function.comp, decide_eq_true_eq]
 constructor
 ·rintro ⟨x, hx, h⟩
  have := WideAt.sameKey_eq h
  unfold teKl at this
  injection this with this
  subst this; exact hx
 ·intro h
  exact ⟨l, h, WideAt.sameKey_self (teKl_key l)⟩
end Go.Proofs.YtbfepgjeecndiaaGreat

/- slices.SortFunc of texts by bytes.Compare, out of the kit's proved sort. -/
namespace Go.Proofs.YtbfepgjeecndiaaGreat
open Go.RowKit
set_option linter.unusedVariables false
set_option linter.unusedSimpArgs false
set_option linter.unusedSectionVars false
section
variable {α : Type} [Inhabited α] (enc : α → Value)
theorem grownBy_sw {w : World} {g n : Nat} {os : Array Obj} (d : Array α) : w.grownBy (sortWorld enc w g 0 n d os) (some g) := by
 unfold sortWorld
 refine ⟨rfl, rfl, rfl, by simp, fun k hk hne => ?_⟩
 rw [Sort.heap_grow_old _ _ (by simpa using hk)]
 have : g ≠ k := fun e => hne (by rw [e])
 simp [Sort.putRow, Sort.mapBlock, Sort.ahead, Array.getElem?_modify, this]
theorem heap_sw {w : World} {g n : Nat} {os : Array Obj} {cur : Array Value} {e : TypeId} {fr : Nat × Nat} (d : Array α) (hb : w.heap[g]? = some (.cells cur e fr)) :
  (sortWorld enc w g 0 n d os).heap[g]? = some (.cells (Sort.putCells enc 0 d cur) e fr) := by
 have hg : g < w.heap.size := (Array.getElem?_eq_some_iff.1 hb).1
 unfold sortWorld
 rw [Sort.heap_grow_old _ _ (by simpa using hg)]
 simp [Sort.putRow, Sort.mapBlock, Sort.ahead, Array.getElem?_modify, hb, Sort.onCells]
theorem take_putG (cur : Array Value) (d : Array α) (h : d.size ≤ cur.size) : (Sort.putCells enc 0 d cur).toList.take d.size = d.toList.map enc := by
 apply List.ext_getElem?
 intro j
 by_cases hj : j < d.size
 ·rw [List.getElem?_take_of_lt hj, Array.getElem?_toList]
  simp [Sort.putCells, hj, show j < cur.size by omega]
 ·rw [List.getElem?_take_eq_none (by omega), List.getElem?_eq_none (by simp; omega)]
theorem own_sw {w : World} {base g c n m : Nat} {e : TypeId} {os : Array Obj} {xs : List Value} (d : Array α) (hd : d.size = n) (h : w.ownsRow base e 1 (.slice (some ⟨g, 0, none⟩) n c) n xs) :
  (sortWorld enc w g 0 m d os).ownsRow base e 1 (.slice (some ⟨g, 0, none⟩) n c) n (d.toList.map enc) := by
 rcases h.2 with ⟨hv, _⟩ | ⟨g', cap, cur, hv, hb, hh, hn, hm, hs, ht⟩
 ·cases hv
 cases hv
 exact ⟨by simp [hd], .inr ⟨g, c, _, rfl, hb, heap_sw enc d hh, hn, hm, by simp [Sort.putCells, hs], by rw [Nat.mul_one, ← hd]; exact take_putG enc cur d (by omega)⟩⟩
end
structure TeW (w : World) (b : Nat) where
 t : TeR
 ok : OwnB w b 5 t.A t.n t.c t.l
instance teWInh (w : World) (b : Nat) : Inhabited (TeW w b) := ⟨⟨⟨none, 0, 0, []⟩, World.ownsRow_nil _ _ _ _⟩⟩
section
variable {w : World} {b : Nat}
def teV (x : TeW w b) : Value := .slice x.t.A x.t.n x.t.c
def teCf (x y : TeW w b) : Int := Lib.compareBytes x.t.l y.t.l
theorem teCf_lt (x y : TeW w b) : ltOf teCf x y = ltTe x.t y.t := by
 unfold ltOf teCf ltTe
 have h := (cmp_lex x.t.l y.t.l).1
 cases hh : lexB x.t.l y.t.l with
 | true => rw [hh] at h; exact decide_eq_true (h.mpr rfl)
 | false => rw [hh] at h; exact decide_eq_false (fun hc => by rw [h] at hc; cases hc)
theorem teSwo : Sort.SWO (ltOf (teCf (w := w) (b := b))) where
 irrefl x := by rw [teCf_lt]; exact lexB_irrefl _
 trans x y z h1 h2 := by rw [teCf_lt] at *; exact lexB_trans _ _ _ h1 h2
 ntrans x y z h1 h2 := by rw [teCf_lt] at *; exact lexB_sto.ntrans h1 h2
theorem gcs_teV (D : List (TeW w b)) : gcs (D.map TeW.t) = D.map teV := by
 induction D with
 | nil => rfl
 | cons x r ih => rw [List.map_cons, List.map_cons, gcs_cons, ih]; rfl
end
theorem teCmp {w : World} {base b g n c size : Nat} {xs : List Value} (hr : w.ownsRow base 28 1 (.slice (some ⟨g, 0, none⟩) n c) n xs) : CmpLays1 Tryz.prog 63 #[] (teV (w := w) (b := b)) teCf g 0 size w := fun m os dk hs x y => by
 have hx := (ownB_kept x.ok hr (by decide) (grownBy_sw teV dk (g := g) (n := m) (os := os))).sl
 have hy := (ownB_kept y.ok hr (by decide) (grownBy_sw teV dk (g := g) (n := m) (os := os))).sl
 have h := bCompare_any x.t.A x.t.n x.t.c x.t.l y.t.A y.t.n y.t.c y.t.l _ hx hy
 rw [Array.append_empty]
 refine h.mono ?_
 rintro e w' ⟨rfl, rfl⟩
 exact ⟨rfl, 0, #[], by rw [Sort.grow_empty]; rfl⟩
theorem sortTe_any (w0 w : World) (base : Nat) (A : Option Addr) (n c : Nat) (d : Array TeR) (h : RowS w0 w base 28 A n c d) (hn : n ≤ 1000000000) :
  Calls Tryz.prog 62 #[.slice A n c, .func (.func 63) #[] #[]] w (fun e w' => e = .returned (.tuple #[]) ∧ ∃ d', RowS w0 w' base 28 A n c d' ∧ Sort.PermIn 0 n d d' ∧ Sort.SortedIn ltTe 0 n d') := by
 rcases Nat.eq_zero_or_pos n with rfl | hpos
 ·refine (AnyF.slices_SortFunc_none (P := Tryz.prog) (ρ := sortTe_ren) { sortTe with } A c (.func (.func 63) #[] #[]) w).mono ?_
  rintro e w' ⟨rfl, rfl⟩
  exact ⟨rfl, d, h, Sort.permIn_refl _ _ _, fun i j _ _ hj => absurd hj (Nat.not_lt_zero _)⟩
 obtain ⟨g, rfl, -, hr⟩ := h.at hpos
 have hsz := h.size
 have ho : w.ownsRow base 28 1 (.slice (some ⟨g, 0, none⟩) n c) n (gcs d.toList) := h.own
 obtain ⟨D, hD⟩ : ∃ D : Array (TeW w base), D.toList.map TeW.t = d.toList := by
  refine ⟨(d.toList.attach.map fun x => (⟨x.1, h.ow x.1 x.2⟩ : TeW w base)).toArray, ?_⟩
  show List.map TeW.t (List.map (fun x => (⟨x.1, h.ow x.1 x.2⟩ : TeW w base)) d.toList.attach) = d.toList
  rw [List.map_map]
  exact List.attach_map_subtype_val d.toList
 have hDs : D.size = n := by rw [← hsz, ← Array.length_toList, ← Array.length_toList, ← hD, List.length_map]
 have hcells : gcs d.toList = D.toList.map teV := by rw [← hD]; exact gcs_teV _
 have hH : Sort.Holds teV w g 0 D := fun j hj => by
  refine ⟨?_, ho.frozenAt _⟩
  rw [hcells] at ho
  rw [ho.cellAt (0 + j) (by omega), Nat.zero_add, List.getElem?_map, Array.getElem?_toList, getElem!_pos D j hj, Array.getElem?_eq_getElem hj]
  rfl
 have hlt : g < w.heap.size := (ho.lt g rfl).2
 have eg : ∀ args w, (callFunc 63 args).run Tryz.prog w = .ok (.enter 63 args) w := enters_of Tryz.func63 (by kernel_rfl) rfl
 have hc := Any.slices_SortFunc sortTe (teV (w := w) (b := base)) (fun _ => rfl) teCf teSwo 63 #[] g 0 c D w eg (teCmp ho) hH hlt (by omega)
 rw [hDs] at hc
 change Calls Tryz.prog 62 _ _ _ at hc
 refine hc.mono ?_
 rintro e w' ⟨rfl, D', m, os, ⟨hp1, hp2, hp3⟩, hs, rfl⟩
 have hi : ∀ (E : Array (TeW w base)) (i : Nat), i < E.size → (E.map TeW.t)[i]! = (E[i]!).t := fun E i hi => by
  rw [getElem!_pos _ i (by simpa using hi), getElem!_pos E i hi]; simp
 have hdD : d = D.map TeW.t := by apply Array.ext'; rw [Array.toList_map]; exact hD.symm
 refine ⟨rfl, D'.map TeW.t, ⟨?_, ?_, ?_, h.ne⟩, ⟨?_, ?_, ?_⟩, ?_⟩
 ·rw [Array.toList_map, gcs_teV]
  exact own_sw teV D' (by rw [hp1]; exact hDs) ho
 ·intro x hx
  rw [Array.toList_map, List.mem_map] at hx
  obtain ⟨y, _, rfl⟩ := hx
  exact ownB_kept y.ok ho h.ne (grownBy_sw teV D')
 ·exact Grown.trans h.gr (grownBy_sw teV D')
 ·rw [hdD, Array.size_map, Array.size_map]; exact hp1
 ·intro i hi2
  rcases hi2 with hi2 | hi2
  ·omega
  ·rw [hdD, getElem!_neg _ i (by rw [Array.size_map, hp1]; omega), getElem!_neg _ i (by rw [Array.size_map]; omega)]
 ·have e1 : D'.extract 0 n = D' := by rw [← hDs, ← hp1]; exact Array.extract_size
  have e2 : D.extract 0 n = D := by rw [← hDs]; exact Array.extract_size
  have e3 : (D'.map TeW.t).extract 0 n = D'.map TeW.t := by rw [← hDs, ← hp1, ← Array.size_map (f := TeW.t)]; exact Array.extract_size
  have e4 : (D.map TeW.t).extract 0 n = D.map TeW.t := by rw [← hDs, ← Array.size_map (f := TeW.t)]; exact Array.extract_size
  rw [e1, e2] at hp3
  rw [hdD, e3, e4, Array.toList_map, Array.toList_map]
  exact hp3.map TeW.t
 ·intro i j h1 h2 h3
  have := hs i j h1 h2 h3
  rw [teCf_lt] at this
  rw [hi _ _ (by rw [hp1]; omega), hi _ _ (by rw [hp1]; omega)]
  exact this
end Go.Proofs.YtbfepgjeecndiaaGreat
