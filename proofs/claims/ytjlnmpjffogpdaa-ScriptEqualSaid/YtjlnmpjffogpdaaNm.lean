import Derived.Test.YtjlnmpjffogpdaaDig
namespace Go.Proofs.Ytjlnmpjffogpdaa
open Go.RowKit
set_option linter.unusedVariables false
set_option linter.unusedSimpArgs false
attribute [local go_sem ↓] Go.wp_at_zero Go.wp_at_succ

/-! slices of names -/
def ncs (ns : List UInt64) : List Value := ns.flatMap fun n => bcs (nmb n)
theorem ncs_nil : ncs [] = [] := rfl
theorem ncs_cons (n : UInt64) (r : List UInt64) : ncs (n :: r) = bcs (nmb n) ++ ncs r := by simp [ncs]
theorem ncs_append (a b : List UInt64) : ncs (a ++ b) = ncs a ++ ncs b := by simp [ncs]
theorem ncs_length (ns : List UInt64) : (ncs ns).length = ns.length * 8 := by
  induction ns with
  | nil => rfl
  | cons n r ih => rw [ncs_cons, List.length_append, bcs_length, nmb_length, ih, List.length_cons]; omega
theorem ncs_bytes (ns : List UInt64) : ncs ns = bcs (ns.flatMap nmb) := by
  induction ns with
  | nil => rfl
  | cons n r ih => rw [ncs_cons, ih, ← bcs_append]; rfl
theorem ncs_one (ns : List UInt64) : ∀ u ∈ ncs ns, u.oneCell' = true := by rw [ncs_bytes]; exact bcs_one _
theorem flat_length (ns : List UInt64) : (ns.flatMap nmb).length = 8 * ns.length := by
  have := ncs_length ns; rw [ncs_bytes, bcs_length] at this; omega
theorem ncs_drop (ns : List UInt64) (k : Nat) : (ncs ns).drop (k * 8) = ncs (ns.drop k) := by
  induction k generalizing ns with
  | zero => simp
  | succ k ih =>
    cases ns with
    | nil => simp [ncs]
    | cons n r =>
      rw [ncs_cons, List.drop_succ_cons, ← ih r, show (k + 1) * 8 = (bcs (nmb n)).length + k * 8 from by rw [bcs_length, nmb_length]; omega, List.drop_append, List.drop_of_length_le (by omega)]
      simp
theorem ncs_take (ns : List UInt64) (k : Nat) : (ncs ns).take (k * 8) = ncs (ns.take k) := by
  induction k generalizing ns with
  | zero => simp [ncs]
  | succ k ih =>
    cases ns with
    | nil => simp [ncs]
    | cons n r =>
      rw [ncs_cons, List.take_succ_cons, ncs_cons, ← ih r, show (k + 1) * 8 = (bcs (nmb n)).length + k * 8 from by rw [bcs_length, nmb_length]; omega, List.take_append, List.take_of_length_le (by omega)]
      simp
/-- the slice '.slice A n c' holds the names ns -/
structure SlN (w : World) (A : Option Addr) (n c : Nat) (ns : List UInt64) : Prop where
  len : ns.length = n
  le : n ≤ c
  cap : c ≤ 9223372036854775807
  rd : Rd w A (ncs ns)
section
variable {w w' : World} {A : Option Addr} {n c : Nat} {ns : List UInt64}
theorem SlN.ext (h : SlN w A n c ns) (e : Ext w w') : SlN w' A n c ns := ⟨h.len, h.le, h.cap, h.rd.ext e⟩
theorem SlN.at (h : SlN w A n c ns) (hn : 0 < n) : ∃ b o, A = some ⟨b, o, none⟩ ∧ w.rangeAt b o (ncs ns) ∧ b < w.heap.size :=
  h.rd.at (by intro e; have := congrArg List.length e; rw [ncs_length, h.len] at this; simp at this; omega)
theorem ncs_one_at {k : Nat} (hk : k < ns.length) : ((ncs ns).drop (k * 8)).take 8 = bcs (nmb (ns.getD k 0)) := by
  have e : ns[k] = ns.getD k 0 := by simp [hk]
  rw [ncs_drop, List.drop_eq_getElem_cons hk, ncs_cons, List.take_append_of_le_length (by rw [bcs_length, nmb_length]; exact Nat.le_refl _), List.take_of_length_le (by rw [bcs_length, nmb_length]; exact Nat.le_refl _), e]
theorem name_at {b o k : Nat} (h : w.rangeAt b o (ncs ns)) (hk : k < ns.length) : w.rangeAt b (o + k * 8) (bcs (nmb (ns.getD k 0))) := by
  have h1 := rangeAt_take (k := 8) (rangeAt_drop (k := k * 8) h)
  rwa [ncs_one_at hk] at h1
theorem SlN.cut (h : SlN w A n c ns) {k : Nat} (hk : k ≤ n) (hkc : k < c) : SlN w (A.map (·.add (k * 8))) (n - k) (c - k) (ns.drop k) := by
  refine ⟨by rw [List.length_drop, h.len], by have := h.le; omega, by have := h.cap; omega, ?_⟩
  have := h.rd.cut (n := n) (k := k) (c := c) (size := 8) (by rw [ncs_length, h.len]) hk h.le
  rw [if_neg (by omega), ncs_drop] at this
  exact this
theorem SlN.upto (h : SlN w A n c ns) {k : Nat} (hk : k ≤ n) : SlN w A k c (ns.take k) := by
  refine ⟨by rw [List.length_take, h.len]; omega, by have := h.le; omega, h.cap, ?_⟩
  have := h.rd.take (k * 8)
  rwa [ncs_take] at this
theorem SlN.uptoCap (h : SlN w A n c ns) {k d : Nat} (hk : k ≤ n) (hd : k ≤ d) (hd2 : d ≤ 9223372036854775807) : SlN w A k d (ns.take k) := ⟨(h.upto hk).len, hd, hd2, (h.upto hk).rd⟩
theorem SlN.of_own {base : Nat} {e : TypeId} (h : w.ownsRow base e 8 (.slice A n c) n (ncs ns)) : SlN w A n c ns := by
  have hl : ns.length = n := by have := h.1; rw [ncs_length] at this; omega
  exact ⟨hl, (own_cap h).1, (own_cap h).2, Rd.of_own h⟩
theorem SlN.of_blk {g : Nat} {t : TypeId} (h : Blk w g t (ncs ns).toArray) (hn : ns.length = n) (hc : n ≤ 9223372036854775807) : SlN w (some ⟨g, 0, none⟩) n n ns :=
  ⟨hn, Nat.le_refl _, hc, by have := Rd.of_blk h; simpa using this⟩
end
theorem foldl_splice (cs vs : List Value) (o : Nat) (h : o + vs.length ≤ cs.length) : ((vs.zipIdx 0).foldl (fun a p => a.setIfInBounds (o + p.2) p.1) cs.toArray) = (cs.take o ++ vs ++ cs.drop (o + vs.length)).toArray := by
  apply Array.ext_getElem?
  intro j
  rw [foldl_set_get]
  simp only [List.getElem?_toArray, List.size_toArray, Nat.add_zero]
  have ht : (cs.take o).length = o := by rw [List.length_take]; omega
  by_cases h1 : j < o
  · rw [if_neg (by omega), List.append_assoc, List.getElem?_append_left (by rw [ht]; exact h1), List.getElem?_take, if_pos h1]
  · by_cases h2 : j < o + vs.length
    · rw [if_pos ⟨by omega, h2, by omega⟩, List.getElem?_append_left (by rw [List.length_append, ht]; exact h2), List.getElem?_append_right (by rw [ht]; omega), ht]
    · rw [if_neg (by omega), List.getElem?_append_right (by rw [List.length_append, ht]; omega), List.length_append, ht, List.getElem?_drop]
      congr 1; omega
/-- one name stored into a row of names -/
theorem blk_name {w : World} {g k : Nat} {t : TypeId} {ns : List UInt64} (h : Blk w g t (ncs ns).toArray) (hk : k < ns.length) (n : UInt64) : Blk (w.setCells g (k * 8) (nmc n).toList) g t (ncs (ns.set k n)).toArray := by
  have h1 := blk_setCells (o := k * 8) (vs := (nmc n).toList) h
  have hl8 : (nmc n).toList.length = 8 := by rw [nmc_toList, bcs_length, nmb_length]
  rw [foldl_splice _ _ _ (by rw [hl8, ncs_length]; omega), hl8, ncs_take, show k * 8 + 8 = (k + 1) * 8 from by omega, ncs_drop, nmc_toList, List.append_assoc, ← ncs_cons, ← ncs_append] at h1
  have hs : ns.set k n = ns.take k ++ n :: ns.drop (k + 1) := by rw [List.set_eq_take_append_cons_drop, if_pos hk]
  rw [hs, nmc_toList]
  exact h1
theorem there_blk {w : World} {g o m : Nat} {t : TypeId} {cs : Array Value} (h : Blk w g t cs) (hm : o + m ≤ cs.size) : w.there g o m := fun j hj => by
  exact ⟨by rw [h.cell (o + j)]; simp; omega, h.frozen (o + j)⟩
/-- the first k entries of a table of m, zeros behind them -/
def tabN (F : Nat → UInt64) (m k : Nat) : List UInt64 := (List.range k).map F ++ List.replicate (m - k) 0
theorem tabN_length (F : Nat → UInt64) (m k : Nat) (h : k ≤ m) : (tabN F m k).length = m := by simp [tabN]; omega
theorem tabN_set (F : Nat → UInt64) (m k : Nat) (h : k < m) : (tabN F m k).set k (F k) = tabN F m (k + 1) := by
  unfold tabN
  rw [List.range_succ, List.map_append, List.set_append_right _ _ (by simp), show m - k = (m - (k + 1)) + 1 from by omega, List.replicate_succ]
  simp
theorem tabN_full (F : Nat → UInt64) (m : Nat) : tabN F m m = (List.range m).map F := by simp [tabN]
theorem nmb_zero : nmb 0 = List.replicate 8 0 := by decide
theorem made_names (m : Nat) : madeCells (Value.agg zcs.toArray).cells (m * 8) = (ncs (List.replicate m 0)).toArray := by
  have h : ncs (List.replicate m 0) = List.replicate (m * 8) (.int .u8 0) := by
    rw [ncs_bytes]
    have : (List.replicate m (0 : UInt64)).flatMap nmb = List.replicate (m * 8) 0 := by
      rw [List.flatMap_replicate, nmb_zero, List.flatten_replicate_replicate]
    rw [this]; simp [bcs, bv]
  rw [h]
  apply Array.ext_getElem?
  intro i
  have h8 : zcs.length = 8 := rfl
  have hz : ∀ j, j < 8 → zcs.toArray[j]! = .int .u8 0 := by
    intro j hj
    match j, hj with
    | 0, _ | 1, _ | 2, _ | 3, _ | 4, _ | 5, _ | 6, _ | 7, _ => rfl
  simp only [madeCells, Value.cells]
  by_cases hi : i < m * 8
  · have h9 := hz (i % 8) (by omega)
    simp [hi, h8]
    simpa using h9
  · simp [hi]
end Go.Proofs.Ytjlnmpjffogpdaa
/- A slice literal of one name; a struct or array built of parts. -/
namespace Go.Proofs.Ytjlnmpjffogpdaa
open Go.RowKit
set_option linter.unusedVariables false
set_option linter.unusedSimpArgs false

theorem fold_arr (ds cs : Array Value) (o : Nat) : ds.zipIdx.foldl (fun cs (x : Value × Nat) => cs.setIfInBounds (o + x.2) x.1) cs = (ds.toList.zipIdx 0).foldl (fun a p => a.setIfInBounds (o + p.2) p.1) cs := by
  rw [← Array.foldl_toList, Array.toList_zipIdx]
theorem fold_whole (ds cs : Array Value) (h : ds.size = cs.size) : (ds.toList.zipIdx 0).foldl (fun a p => a.setIfInBounds (0 + p.2) p.1) cs = ds := by
  apply Array.ext_getElem?
  intro j
  rw [foldl_set_get]
  by_cases hj : j < ds.size
  · rw [if_pos (by simp; omega)]; simp
  · rw [if_neg (by simp; omega), Array.getElem?_eq_none (by omega), Array.getElem?_eq_none (by omega)]
@[go_sem] theorem fold_nmc (n : UInt64) (Z : Array Value) (hZ : Z.size = 8) : Array.foldl (fun cs x => cs.setIfInBounds x.snd x.fst) Z (nmc n).zipIdx 0 (nmc n).size = nmc n := by
  have h := fold_arr (nmc n) Z 0
  rw [fold_whole _ _ (by rw [nmc_size, hZ])] at h
  simpa using h
@[go_sem] theorem fold_nmc8 (n : UInt64) (Z : Array Value) (hZ : Z.size = 8) : Array.foldl (fun cs x => cs.setIfInBounds x.snd x.fst) Z (nmc n).zipIdx 0 8 = nmc n := by
  have h := fold_nmc n Z hZ
  rwa [nmc_size] at h
attribute [go_sem] nmc_size
/-- a byte of a name, closed to the walk -/
def nb8 (n : UInt64) (i : Nat) : Int := (((nmb n).getD i 0).toNat : Int)
theorem nmc_nb8 (n : UInt64) : #[.int .u8 (nb8 n 0), .int .u8 (nb8 n 1), .int .u8 (nb8 n 2), .int .u8 (nb8 n 3), .int .u8 (nb8 n 4), .int .u8 (nb8 n 5), .int .u8 (nb8 n 6), .int .u8 (nb8 n 7)] = nmc n := by
  unfold nmc nb8
  rw [show bcs (nmb n) = bcs [(nmb n).getD 0 0, (nmb n).getD 1 0, (nmb n).getD 2 0, (nmb n).getD 3 0, (nmb n).getD 4 0, (nmb n).getD 5 0, (nmb n).getD 6 0, (nmb n).getD 7 0] from congrArg bcs (nmb_list n)]
  rfl
attribute [go_sem] nmc_nb8
theorem cells8 {w : World} {g : Nat} {t : TypeId} {n : UInt64} (h : Blk w g t (nmc n)) : ∀ i, i < 8 → w.cell? ⟨g, i, none⟩ = some (.int .u8 (nb8 n i)) := fun i hi => by
  rw [h.cell i]; exact nmc_get n i hi
theorem cells8At {w : World} {b o : Nat} {n : UInt64} (h : w.rangeAt b o (bcs (nmb n))) : ∀ i, i < 8 → w.cell? ⟨b, o + i, none⟩ = some (.int .u8 (nb8 n i)) := fun i hi => by
  refine h i _ ?_
  have hl := nmb_length n
  simp [bcs, bv, nb8, hl, hi]
end Go.Proofs.Ytjlnmpjffogpdaa
