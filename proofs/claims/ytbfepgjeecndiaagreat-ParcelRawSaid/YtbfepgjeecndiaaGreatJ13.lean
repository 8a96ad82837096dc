/- Bytes of a fixed number out of the cursor (cursor.Fixed). -/
import Derived.Deep.DeepCutAuto
import Derived.Deep.CutBlock
import Derived.Lib.BytesEntry
import Derived.Lib.LazyBuf
import Derived.Test.YtbfepgjeecndiaaGreatJ11
namespace Go.Proofs.YtbfepgjeecndiaaGreat
set_option maxRecDepth 100000
set_option maxHeartbeats 4000000
open Go.RowKit
set_option linter.unusedVariables false
set_option linter.unusedSimpArgs false
attribute [local go_sem ↓] Go.wp_at_zero Go.wp_at_succ
def rTkF (k : Nat) (s : Option (List UInt8)) : List UInt8 := match s with
 | none => []
 | some r => if r.length < k then [] else r.take k
variable {D : Nat}
def TkOutF (t : TypeId) (D B k : Nat) (s : Option (List UInt8)) (w : World) (e : Ending) (w' : World) : Prop :=
 ∃ A' m c', e = .returned (.slice A' m c') ∧ SlB w' A' m c' (rTkF k s) ∧ CurAt t D w' B (rRest k s) ∧ w.grownBy w' (some B)
theorem slb_partF {w : World} {b o n c : Nat} {l : List UInt8} {k j : Nat} (h : SlB w (some ⟨b, o, none⟩) n c l) (hj : k + j ≤ n) (h0 : 0 < j) : SlB w (some ⟨b, o + k, none⟩) j j ((l.drop k).take j) := by
 have h1 := (h.cut (k := k) (by omega) (by have := h.le; omega)).upto (k := j) (by omega)
 refine ⟨h1.len, Nat.le_refl _, by have := h1.cap; have := h1.le; omega, ?_⟩
 have h2 := h1.rd
 have e : (some (⟨b, o, none⟩ : Addr)).map (·.add k) = some ⟨b, o + k, none⟩ := by
  by_cases hk : k = 0
  ·subst hk; simp [Addr.add]
  ·simp [Addr.add, hk]
 rw [e] at h2; exact h2
theorem cur_store2F {t : TypeId} {w : World} {B : Nat} (A : Option Addr) (n c k : Nat) (l : List UInt8) (b b' : Bool) (s : Option (List UInt8)) (hB : Blk w B t #[.slice A n c, .int .i64 ((k : Nat) : Int), .bool b]) (hS : SlB w A n c l) (hk : k ≤ n) (hn : n ≤ 140737488355328) (hb : s.isNone = b') (hr : ∀ r, s = some r → r = l.drop k) (hD : LowB D A n) : CurAt t D (w.setCell ⟨B, 2, none⟩ (.bool b')) B s := by
 refine ⟨A, n, c, l, k, ?_, ?_, hk, hn, hr, hD⟩
 ·rw [hb]; exact hB.set 2 _
 ·exact slb_kept hS hB (grown_set w B 2 _)
theorem cur_move2F {t : TypeId} {w : World} {B : Nat} (A : Option Addr) (n c k j : Nat) (l : List UInt8) (r : List UInt8) (hB : Blk w B t #[.slice A n c, .int .i64 ((k : Nat) : Int), .bool false]) (hS : SlB w A n c l) (hk : j ≤ n) (hn : n ≤ 140737488355328) (hr : r = l.drop j) (z : Int) (hz : z = (j : Int)) (hD : LowB D A n) : CurAt t D (w.setCell ⟨B, 1, none⟩ (.int .i64 z)) B (some r) := by
 subst hz
 refine ⟨A, n, c, l, j, ?_, ?_, hk, hn, fun r' h => by injection h with h; rw [← h]; exact hr, hD⟩
 ·exact hB.set 1 _
 ·exact slb_kept hS hB (grown_set w B 1 _)
theorem cfixed_any (j : Nat) (h1 : 1 ≤ j) (hj : j ≤ 1000) (B : Nat) (s : Option (List UInt8)) (w : World) (h : CurAt 101 D w B s) :
  Calls Tryz.prog 51 #[.pointer (some ⟨B, 0, none⟩), .int .i64 (j : Int)] w (TkOutF 101 D B j s w) := by
 obtain ⟨A, n, c, l, k, hB, hS, hk, hn, hr, hD⟩ := h
 have hlen := hS.len
 have hle := hS.le
 have hcap := hS.cap
 have hc0 : w.cell? ⟨B, 0, none⟩ = some (.slice A n c) := hB.cell 0
 have hc1 : w.cell? ⟨B, 1, none⟩ = some (.int .i64 (k : Int)) := hB.cell 1
 have hc2 : w.cell? ⟨B, 2, none⟩ = some (.bool s.isNone) := hB.cell 2
 have hf1 := hB.frozen 1
 have hf2 := hB.frozen 2
 have HB := Lib.hid hB
 have HS := Lib.hid hS
 have HR := Lib.hid hr
 have k0 : (0 : Int) ≤ (k : Int) := by omega
 have j0 : ¬ (j : Int) < 0 := by omega
 have wz1 : IntKind.i64.wrap ((n : Int) - (k : Int)) = (n : Int) - (k : Int) := by rw [IntKind.wrap_i64]; omega
 have wz2 : IntKind.i64.wrap ((k : Int) + (j : Int)) = (k : Int) + (j : Int) := by rw [IntKind.wrap_i64]; omega
 clear hB hS hr
 cases s with
 | none =>
  have hc2 : w.cell? ⟨B, 2, none⟩ = some (.bool true) := hc2
  go_enter Tryz.func51, Tryz.ntmps51
  go_wp2_with fail
  go_quiet (fail)
  go_wp2_with fail
  go_ret
  exact ⟨none, 0, 0, rfl, SlB.nil _, cur_store2F A n c k l true true none (HB.out.ext (drewN_ext _ _)) (HS.out.ext (drewN_ext _ _)) hk hn rfl (fun _ h => by cases h) hD, World.grownBy.trans (grown_ext (drewN_ext _ _) _) (grown_set _ B 2 _)⟩
 | some r =>
  have hc2 : w.cell? ⟨B, 2, none⟩ = some (.bool false) := hc2
  by_cases hfit : k + j ≤ n
  ·have f1 : ¬ (n : Int) - (k : Int) < (j : Int) := by omega
   have HL := Lib.hid (show ¬ r.length < j by rw [HR.out r rfl, List.length_drop, HS.out.len]; omega)
   obtain ⟨b, o, rfl, _, hbl⟩ := HS.out.at (by omega)
   have HC := Lib.hid (fun (W : World) (h : Ext w W) => (⟨(HB.out.ext h).cell 0, (HB.out.ext h).cell 1⟩ : W.cell? ⟨B, 0, none⟩ = some (.slice (some ⟨b, o, none⟩) n c) ∧ W.cell? ⟨B, 1, none⟩ = some (.int .i64 (k : Int))))
   have s1 : (k : Int) ≤ (k : Int) + (j : Int) := by omega
   have s2 : (k : Int) + (j : Int) ≤ (c : Int) := by omega
   go_enter Tryz.func51, Tryz.ntmps51
   go_wp2_with fail
   go_quiet (fail)
   have HX1 := Lib.hid (drewN_ext w nq)
   generalize w.drewN nq = W1 at HX1 ⊢
   clear hc0 hc1 hc2 hf1 hf2
   go_wp2_with fail
   refine wp_region_held_drew (S := fun W => Ext W1 W) (by kernel_rfl) ((Ext.refl W1).drew') (fun hHeld => ?_)
   (refine wr 0 (oi := ⟨some 31, .move (.tmp 0), 66, "cursor.go:68", #[], none⟩) (v := ?_) rfl (by kernel_rfl) (by rfl) (fun _ _ _ h => h) ?h hHeld ?_; case h => (intro W hSW; go_simp <;> with_reducible rfl))
   try simp only [lays]
   (refine wr 1 (oi := ⟨some 32, .nilCheck (.tmp 31), 0, "cursor.go:68", #[⟨0, .data⟩], none⟩) (v := ?_) rfl (by kernel_rfl) (by rfl) (fun _ _ _ h => h) ?h hHeld ?_; case h => (intro W hSW; obtain ⟨e0, e1⟩ := HC.out W (HX1.out.trans hSW); go_simp <;> with_reducible rfl))
   try simp only [lays]
   (refine wr 2 (oi := ⟨some 33, .fieldAddr 101 (.tmp 32) 0, 0, "cursor.go:68", #[⟨1, .data⟩], none⟩) (v := ?_) rfl (by kernel_rfl) (by rfl) (fun _ _ _ h => h) ?h hHeld ?_; case h => (intro W hSW; go_simp <;> with_reducible rfl))
   try simp only [lays]
   (refine wr 3 (oi := ⟨some 34, .load 28 (.tmp 33), 28, "cursor.go:68", #[⟨2, .data⟩], none⟩) (v := ?_) rfl (by kernel_rfl) (by rfl) (fun _ _ _ h => h) ?h hHeld ?_; case h => (intro W hSW; obtain ⟨e0, e1⟩ := HC.out W (HX1.out.trans hSW); go_simp <;> with_reducible rfl))
   try simp only [lays]
   (refine wr 4 (oi := ⟨some 35, .move (.tmp 0), 66, "cursor.go:68", #[], none⟩) (v := ?_) rfl (by kernel_rfl) (by rfl) (fun _ _ _ h => h) ?h hHeld ?_; case h => (intro W hSW; go_simp <;> with_reducible rfl))
   try simp only [lays]
   (refine wr 5 (oi := ⟨some 36, .nilCheck (.tmp 35), 0, "cursor.go:68", #[⟨4, .data⟩], none⟩) (v := ?_) rfl (by kernel_rfl) (by rfl) (fun _ _ _ h => h) ?h hHeld ?_; case h => (intro W hSW; obtain ⟨e0, e1⟩ := HC.out W (HX1.out.trans hSW); go_simp <;> with_reducible rfl))
   try simp only [lays]
   (refine wr 6 (oi := ⟨some 37, .fieldAddr 101 (.tmp 36) 1, 0, "cursor.go:68", #[⟨5, .data⟩], none⟩) (v := ?_) rfl (by kernel_rfl) (by rfl) (fun _ _ _ h => h) ?h hHeld ?_; case h => (intro W hSW; go_simp <;> with_reducible rfl))
   try simp only [lays]
   (refine wr 7 (oi := ⟨some 38, .load 3 (.tmp 37), 3, "cursor.go:68", #[⟨6, .data⟩], none⟩) (v := ?_) rfl (by kernel_rfl) (by rfl) (fun _ _ _ h => h) ?h hHeld ?_; case h => (intro W hSW; obtain ⟨e0, e1⟩ := HC.out W (HX1.out.trans hSW); go_simp <;> with_reducible rfl))
   try simp only [lays]
   (refine wr 8 (oi := ⟨some 39, .move (.tmp 0), 66, "cursor.go:68", #[], none⟩) (v := ?_) rfl (by kernel_rfl) (by rfl) (fun _ _ _ h => h) ?h hHeld ?_; case h => (intro W hSW; go_simp <;> with_reducible rfl))
   try simp only [lays]
   (refine wr 9 (oi := ⟨some 40, .nilCheck (.tmp 39), 0, "cursor.go:68", #[⟨8, .data⟩], none⟩) (v := ?_) rfl (by kernel_rfl) (by rfl) (fun _ _ _ h => h) ?h hHeld ?_; case h => (intro W hSW; obtain ⟨e0, e1⟩ := HC.out W (HX1.out.trans hSW); go_simp <;> with_reducible rfl))
   try simp only [lays]
   (refine wr 10 (oi := ⟨some 41, .fieldAddr 101 (.tmp 40) 1, 0, "cursor.go:68", #[⟨9, .data⟩], none⟩) (v := ?_) rfl (by kernel_rfl) (by rfl) (fun _ _ _ h => h) ?h hHeld ?_; case h => (intro W hSW; go_simp <;> with_reducible rfl))
   try simp only [lays]
   (refine wr 11 (oi := ⟨some 42, .load 3 (.tmp 41), 3, "cursor.go:68", #[⟨10, .data⟩], none⟩) (v := ?_) rfl (by kernel_rfl) (by rfl) (fun _ _ _ h => h) ?h hHeld ?_; case h => (intro W hSW; obtain ⟨e0, e1⟩ := HC.out W (HX1.out.trans hSW); go_simp <;> with_reducible rfl))
   try simp only [lays]
   (refine wr 12 (oi := ⟨some 43, .move (.tmp 1), 3, "cursor.go:68", #[], none⟩) (v := ?_) rfl (by kernel_rfl) (by rfl) (fun _ _ _ h => h) ?h hHeld ?_; case h => (intro W hSW; go_simp <;> with_reducible rfl))
   try simp only [lays]
   (refine wr 13 (oi := ⟨some 44, .binOp .add 3 (.tmp 42) (.tmp 43) 3, 3, "cursor.go:68", #[⟨11, .data⟩, ⟨12, .data⟩], none⟩) (v := ?_) rfl (by kernel_rfl) (by rfl) (fun _ _ _ h => h) ?h hHeld ?_; case h => (intro W hSW; go_simp <;> with_reducible rfl))
   try simp only [lays]
   (refine wr 14 (oi := ⟨some 45, .slice 28 (.tmp 34) (some (.tmp 38)) (some (.tmp 44)) none, 28, "cursor.go:68", #[⟨3, .data⟩, ⟨7, .data⟩, ⟨13, .data⟩], none⟩) (v := ?_) rfl (by kernel_rfl) (by rfl) (fun _ _ _ h => h) ?h hHeld ?_; case h => (intro W hSW; obtain ⟨e0, e1⟩ := HC.out W (HX1.out.trans hSW); go_simp <;> with_reducible rfl))
   try simp only [lays]
   refine wpAnyH_ready (rs := [15]) (by kernel_rfl) (by simp) ?_
   refine AllReadyH.cons (o := ⟨some 46, .call { callee := .builtin .append, args := #[.const (.slice none 0 0), .tmp 45], argTypes := #[28, 28] }, 28, "cursor.go:68", #[⟨14, .data⟩], none⟩) rfl (fun K hK => ?_) AllReadyH.nil
   refine step_appB bytesE rfl (.const (.slice none 0 0)) (.tmp 45) rfl W1.heap.size none 0 0 [] rfl (OwnB.nil _ _ _) (some ⟨b, o + k, none⟩) j (c - k) ((l.drop k).take j) ?hx ?hr ?hb (Nat.le_refl _) W1 (Ext.refl W1).drew' ?_
   case hx => (show Value.slice (if c = k then _ else _) _ _ = _; rw [if_neg (by omega)]; congr 1; omega)
   case hr => (have h1' := slb_partF (HS.out.ext (Ext.trans HX1.out (Ext.refl W1).drew')) hfit h1; exact ⟨h1'.len, by omega, by omega, h1'.rd⟩)
   case hb => omega
   intro A1 c1 w1 ho1 hw1 hs1
   refine hK.out _ _ (hw1) (fun hHeld => ?_)
   clear hK K
   try simp only [lays]
   (refine wr 16 (oi := ⟨some 5, .assign (.tmp 46), 28, "cursor.go:68", #[⟨15, .data⟩, ⟨15, .chain⟩, ⟨0, .phase⟩, ⟨1, .phase⟩, ⟨2, .phase⟩, ⟨3, .phase⟩, ⟨4, .phase⟩, ⟨5, .phase⟩, ⟨6, .phase⟩, ⟨7, .phase⟩, ⟨8, .phase⟩, ⟨9, .phase⟩, ⟨10, .phase⟩, ⟨11, .phase⟩, ⟨12, .phase⟩, ⟨13, .phase⟩, ⟨14, .phase⟩, ⟨15, .phase⟩], none⟩) (v := ?_) rfl (by kernel_rfl) (by rfl) (fun _ _ _ h => h) ?h hHeld ?_; case h => (intro W hSW; go_simp <;> with_reducible rfl))
   try simp only [lays]
   refine wpAnyH_done (by kernel_rfl) ?_ _
   have HX2 := Lib.hid (Ext.trans HX1.out (Below.mono hw1 (Nat.le_refl _) : Ext W1 w1))
   have HO := Lib.hid ho1.sl
   have hc1 : w1.cell? ⟨B, 1, none⟩ = some (.int .i64 (k : Int)) := (HC.out w1 HX2.out).2
   have hf1 : w1.frozen? ⟨B, 1, none⟩ = false := (HB.out.ext HX2.out).frozen 1
   clear ho1 hw1 hs1
   go_wp2_with fail
   go_ret
   have HN := Lib.hid (show rTkF j (some r) = (l.drop k).take j ∧ rRest j (some r) = some (r.drop j) by
    have := HL.out
    simp only [rTkF, rRest, if_neg this]
    rw [HR.out r rfl]; exact ⟨rfl, trivial⟩)
   have hox : SlB w1 A1 j c1 ((l.drop k).take j) := by have := HO.out; rwa [Nat.zero_add, List.nil_append] at this
   refine ⟨A1, j, c1, by first | rfl | simp, ?_, ?_, World.grownBy.trans (grown_ext HX2.out _) (grown_set _ B 1 _)⟩
   ·rw [HN.out.1]
    exact slb_kept hox (HB.out.ext HX2.out) (grown_set _ B 1 _)
   ·rw [HN.out.2]
    exact cur_move2F (some ⟨b, o, none⟩) n c k (k + j) l _ (HB.out.ext HX2.out) (HS.out.ext HX2.out) hfit hn (by rw [HR.out r rfl, List.drop_drop]) _ (by omega) hD
  ·have f1 : (n : Int) - (k : Int) < (j : Int) := by omega
   go_enter Tryz.func51, Tryz.ntmps51
   go_wp2_with fail
   go_quiet (fail)
   go_wp2_with fail
   go_ret
   have HN := Lib.hid (show rTkF j (some r) = [] ∧ rRest j (some r) = none by
    have : r.length < j := by rw [HR.out r rfl, List.length_drop, HS.out.len]; omega
    simp [rTkF, rRest, this])
   refine ⟨none, 0, 0, rfl, ?_, ?_, World.grownBy.trans (grown_ext (drewN_ext _ _) _) (grown_set _ B 2 _)⟩
   ·rw [HN.out.1]; exact SlB.nil _
   ·rw [HN.out.2]
    exact cur_store2F A n c k l false true none (HB.out.ext (drewN_ext _ _)) (HS.out.ext (drewN_ext _ _)) hk hn rfl (fun _ h => by cases h) hD
end Go.Proofs.YtbfepgjeecndiaaGreat

/- Repetitions struck from a row, side by side (what slices.CompactFunc does, plain); the end of a row cleared and cut off. -/
namespace Go.Proofs.YtbfepgjeecndiaaGreat
open Go.RowKit
set_option linter.unusedVariables false
set_option linter.unusedSimpArgs false
set_option linter.unusedSectionVars false
attribute [local go_sem ↓] Go.wp_at_zero Go.wp_at_succ
section
variable {α β : Type} [RowT α] [DecidableEq β] {V : α → β} {d dk : Array α} {k j : Nat}
theorem compO_take (hj : 1 ≤ j) (hn : j < d.size) : compO ((d.toList.take (j + 1)).map V) = if V d[j]! = V d[j - 1]! then compO ((d.toList.take j).map V) else compO ((d.toList.take j).map V) ++ [V d[j]!] := by
 obtain ⟨i, rfl⟩ : ∃ i, j = i + 1 := ⟨j - 1, by omega⟩
 have e1 := take_nthG (L := d.toList) (k := i + 1) (by simpa using hn)
 have e2 := take_nthG (L := d.toList) (k := i) (by simp; omega)
 rw [e1, e2, List.map_append, List.map_append, List.map_cons, List.map_nil, List.map_cons, List.map_nil, List.append_assoc, arr_nth, arr_nth]
 simp only [Nat.add_sub_cancel, List.cons_append, List.nil_append]
 exact compO_snoc _ _ _
structure Cm1 (V : α → β) (d : Array α) (k : Nat) : Prop where
 pos : 1 ≤ k
 le : k ≤ d.size
 val : compO ((d.toList.take k).map V) = (d.toList.take k).map V
structure Cmp (V : α → β) (d dk : Array α) (k j : Nat) : Prop where
 size : dk.size = d.size
 pos : 1 ≤ k
 kj : k < j
 jn : j ≤ d.size
 rest : ∀ i, k ≤ i → dk[i]! = d[i]!
 val : (dk.toList.take k).map V = compO ((d.toList.take j).map V)
theorem Cm1.start (h : 1 ≤ d.size) : Cm1 V d 1 := ⟨Nat.le_refl _, h, by
 have e := take_nthG (L := d.toList) (k := 0) (by simp; omega)
 rw [e]; rfl⟩
theorem Cm1.next (h : Cm1 V d k) (hk : k < d.size) (hv : V d[k]! ≠ V d[k - 1]!) : Cm1 V d (k + 1) := ⟨by omega, hk, by
 rw [compO_take h.pos hk, if_neg hv, h.val, take_nthG (L := d.toList) (k := k) (by simpa using hk), List.map_append, arr_nth]; rfl⟩
theorem Cm1.dup (h : Cm1 V d k) (hk : k < d.size) (hv : V d[k]! = V d[k - 1]!) : Cmp V d d k (k + 1) := ⟨rfl, h.pos, by omega, hk, fun _ _ => rfl, by rw [compO_take h.pos hk, if_pos hv, h.val]⟩
theorem Cm1.all (h : Cm1 V d k) (hk : d.size ≤ k) : d.toList.map V = compO (d.toList.map V) := by
 have := h.val
 rw [List.take_of_length_le (by simpa using hk)] at this
 exact this.symm
theorem Cmp.dup (h : Cmp V d dk k j) (hj : j < d.size) (hv : V d[j]! = V d[j - 1]!) : Cmp V d dk k (j + 1) := ⟨h.size, h.pos, by have := h.kj; omega, hj, h.rest, by rw [compO_take (by have := h.kj; omega) hj, if_pos hv]; exact h.val⟩
theorem Cmp.keep (h : Cmp V d dk k j) (hj : j < d.size) (hv : V d[j]! ≠ V d[j - 1]!) : Cmp V d (dk.setIfInBounds k d[j]!) (k + 1) (j + 1) := by
 have hkj := h.kj
 have hk : k < dk.size := by rw [h.size]; omega
 refine ⟨by rw [Array.size_setIfInBounds]; exact h.size, by omega, by omega, hj, fun i hi => ?_, ?_⟩
 ·rw [← h.rest i (by omega)]
  by_cases hs : i < dk.size
  ·rw [getElem!_pos _ i (by simpa using hs), getElem!_pos dk i hs, Array.getElem_setIfInBounds (by simpa using hs), if_neg (by omega)]
  ·rw [getElem!_neg _ i (by simpa using hs), getElem!_neg dk i hs]
 ·rw [compO_take (by omega) hj, if_neg hv, ← h.val, Array.toList_setIfInBounds, take_nthG (k := k) (by simpa using hk), List.take_set_of_le (Nat.le_refl _), List.map_append]
  congr 1
  rw [show nthG (dk.toList.set k d[j]!) k = d[j]! from by simp [nthG, hk]]; rfl
theorem Cmp.all (h : Cmp V d dk k j) (hj : d.size ≤ j) : (dk.toList.take k).map V = compO (d.toList.map V) := by
 have := h.val
 rw [List.take_of_length_le (show (d.toList).length ≤ j by simpa using hj)] at this
 exact this
end
theorem run_clearG {P : Program} {t e : TypeId} {z : Value} {size bytes : Nat} (E : Elem P t e z size bytes) (hz1 : ∀ v ∈ z.cells, v.oneCell' = true) (w : World) (ty : TypeId) (g o n c : Nat) (hn : 0 < n) (hc : ∀ j, j < n * size → (w.cell? ⟨g, o + j, none⟩).isSome = true) (hf : ∀ j, j < n * size → w.frozen? ⟨g, o + j, none⟩ = false) :
  (Builtin.clear_ #[t] ty #[.slice (some ⟨g, o, none⟩) n c]).run P w = .ok (.tuple #[]) (w.setCells g o (Builtin.zeroCells z.cells n).toList) := by
 obtain ⟨i, hi, hz, hsz, hby⟩ := E.get
 have hlen : (Builtin.zeroCells z.cells n).toList.length = n * size := by rw [Array.length_toList, size_zeroCells, E.zs]
 have h1 : ∀ v ∈ (Builtin.zeroCells z.cells n).toList, v.oneCell' = true := by
  intro v hv
  simp only [Builtin.zeroCells, Array.toList_map, List.mem_map] at hv
  obtain ⟨q, _, rfl⟩ := hv
  have hp : 0 < z.cells.size := by rw [E.zs]; exact E.pos
  have hq : q % z.cells.size < z.cells.size := Nat.mod_lt _ hp
  rw [getElem!_pos z.cells _ hq]
  exact hz1 _ (Array.getElem_mem hq)
 have hst := run_storeCells_cells (P := P) g o (Builtin.zeroCells z.cells n).toList 0 w (fun j hj => by rw [hlen] at hj; simpa using hc j hj) (fun j hj => by rw [hlen] at hj; simpa using hf j hj) h1
 simp only [Nat.add_zero] at hst
 obtain ⟨m, rfl⟩ : ∃ m, n = m + 1 := ⟨n - 1, by omega⟩
 simp [Builtin.clear_, run_underlying E.ut, zeroValue, typeInfo, hi, hz, hst]
section
variable {α : Type} [RowT α] [RowB α] {w0 w : World} {base n c : Nat} {e : TypeId} {A : Option Addr} {d : Array α}
theorem RowS.cutClear (h : RowS w0 w base e A n c d) {g : Nat} (hA : A = some ⟨g, 0, none⟩) {k : Nat} (hk : k ≤ n) (ys : List Value) : RowS w0 (w.setCells g (k * RowT.sz α) ys) base e A k c (d.toList.take k).toArray := by
 have ho := h.own
 subst hA
 obtain ⟨xs', k1, k2, k3⟩ := own_over ys (k * RowT.sz α) w (gcs d.toList) ho
 have h2 := own_cut k1 hk (by simp)
 rw [k2, gcs_take] at h2
 exact ⟨h2, fun x hx => RowB.kept _ _ _ _ _ _ _ _ _ _ _ (h.ow x (List.mem_of_mem_take hx)) ho h.ne k3, Grown.trans h.gr k3, h.ne⟩
theorem RowS.clearOk (h : RowS w0 w base e A n c d) {g : Nat} (hA : A = some ⟨g, 0, none⟩) {k : Nat} (hk : k ≤ n) : (∀ j, j < (n - k) * RowT.sz α → (w.cell? ⟨g, k * RowT.sz α + j, none⟩).isSome = true) ∧ ∀ j, j < (n - k) * RowT.sz α → w.frozen? ⟨g, k * RowT.sz α + j, none⟩ = false := by
 have hl := h.own.1
 have ho := h.own
 have he : k * RowT.sz α + (n - k) * RowT.sz α = n * RowT.sz α := by rw [← Nat.add_mul]; congr 1; omega
 subst hA
 exact ⟨fun j hj => by rw [ho.cellAt (k * RowT.sz α + j) (by omega), List.getElem?_eq_getElem (by omega)]; rfl, fun j hj => ho.frozenAt _⟩
end
end Go.Proofs.YtbfepgjeecndiaaGreat

/- ValidOp (the reference's), any operation. -/
namespace Go.Proofs.YtbfepgjeecndiaaGreat
set_option maxRecDepth 100000
set_option maxHeartbeats 1000000
open Go.RowKit
set_option linter.unusedVariables false
set_option linter.unusedSimpArgs false
attribute [local go_sem ↓] Go.wp_at_zero Go.wp_at_succ
end Go.Proofs.YtbfepgjeecndiaaGreat
/- AppendBytes, str, appendOp (the reference's). -/
namespace Go.Proofs.YtbfepgjeecndiaaGreat
open Go.RowKit
set_option linter.unusedVariables false
set_option linter.unusedSimpArgs false
attribute [local go_sem ↓] Go.wp_at_zero Go.wp_at_succ
theorem refAppendUI_any (A : Option Addr) (n c : Nat) (l : List UInt8) (z : Int) (wd : Nat) (hwd1 : 1 ≤ wd) (hwd : wd ≤ 8) (w : World) (h : SlB w A n c l) (hn : n ≤ 140737488351232) :
  Calls Tryz.prog 42 #[.slice A n c, .int .u64 (un (uI z)), .int .i64 (wd : Int)] w fun e w' => ∃ A' c', e = .returned (.slice A' (n + wd) c') ∧ OwnB w' w.heap.size 5 A' (n + wd) c' (l ++ beI wd z) ∧ Ext w w' := by
 have := refAppendUint_any A n c l (uI z) wd hwd1 hwd w h hn
 rw [uI_nat] at this; exact this
theorem refAppendBytes_any (A : Option Addr) (n c : Nat) (l : List UInt8) (P : Option Addr) (m d : Nat) (p : List UInt8) (w : World) (h : SlB w A n c l) (hp : SlB w P m d p) (hm : m ≤ 65535) (hn : n ≤ 1000000000) :
  Calls Tryz.prog 44 #[.slice A n c, .slice P m d] w fun e w' => ∃ A' n' c', e = .returned (.tuple #[.slice A' n' c', .bool true]) ∧ OwnB w' w.heap.size 5 A' n' c' (l ++ blob p) ∧ Ext w w' := by
 have hu := uI_un (m : Int)
 have hlen := hp.len
 have HA := Lib.hid (refAppendUI_any A n c l (m : Int) 2 (by omega) (by omega) w h (by omega))
 have HP := Lib.hid hp
 have HB := Lib.hid (show blob p = beI 2 (m : Int) ++ p by unfold blob; rw [hlen])
 have d1 : decide (65535 < (m : Int)) = false := decide_eq_false (by omega)
 clear h hp hlen
 generalize uI (m : Int) = u at *
 go_enter Tryz.func44, Tryz.ntmps44
 go_wp2_with fail
 refine HA.out.mono ?_
 rintro e w1 ⟨A1, c1, rfl, hO1, he1⟩
 have HO1 := Lib.hid hO1
 have HE1 := Lib.hid he1
 clear hO1 he1
 go_wp2_with (at_builtin; go_must (refine wpList_appB bytesE rfl (.tmp 13) (.tmp 14) rfl w.heap.size A1 _ c1 _ rfl HO1.out P m d p rfl (HP.out.ext HE1.out) (by omega) HE1.out.size w HE1.out ?_))
 intro A2 c2 w2 hO2 hE2 hs2
 have HO2 := Lib.hid hO2
 clear hO2
 go_wp2_with fail
 go_ret2
 exact ⟨A2, _, c2, rfl, by rw [HB.out]; simpa using HO2.out, hE2⟩
end Go.Proofs.YtbfepgjeecndiaaGreat
/- ValidTx, TxBytes, EncodeTx (the reference's). -/
namespace Go.Proofs.YtbfepgjeecndiaaGreat
open Go.RowKit
set_option linter.unusedVariables false
set_option linter.unusedSimpArgs false
attribute [local go_sem ↓] Go.wp_at_zero Go.wp_at_succ
end Go.Proofs.YtbfepgjeecndiaaGreat

/- What is written is read again: a block's text. -/
namespace Go.Proofs.YtbfepgjeecndiaaGreat
open Go.RowKit
set_option linter.unusedVariables false
set_option linter.unusedSimpArgs false
theorem toB_toNat {z : Int} (h0 : 0 ≤ z) (h1 : z < 256) : ((toB z).toNat : Int) = z := by rw [← toB_eq, Int.emod_eq_of_lt h0 h1]
end Go.Proofs.YtbfepgjeecndiaaGreat
/- Transactions in a row; what is written is read again: a transaction. -/
namespace Go.Proofs.YtbfepgjeecndiaaGreat
open Go.RowKit
set_option linter.unusedVariables false
set_option linter.unusedSimpArgs false
end Go.Proofs.YtbfepgjeecndiaaGreat

/- The bytes of a parcel (the reference's EncodeParcel). -/
namespace Go.Proofs.YtbfepgjeecndiaaGreat
open Go.RowKit
set_option linter.unusedVariables false
set_option linter.unusedSimpArgs false
attribute [local go_sem ↓] Go.wp_at_zero Go.wp_at_succ
theorem rTagged89 (A : Option Addr) (n c : Nat) (l : List UInt8) (w : World) (h : SlB w A n c l) (hm : n < 140737488355328) :
  Calls Tryz.prog 24 #[.int .u8 89, .slice A n c] w fun e w' => e = .returned (.agg (nmc (tagU 89 l))) ∧ Ext w w' := refTagged_any 89 A n c l w h hm
end Go.Proofs.YtbfepgjeecndiaaGreat

/- readOp (the program's). -/
namespace Go.Proofs.YtbfepgjeecndiaaGreat
open Go.RowKit
set_option linter.unusedVariables false
set_option linter.unusedSimpArgs false
attribute [local go_sem ↓] Go.wp_at_zero Go.wp_at_succ
theorem nb8_nil (i : Nat) (hi : i < 8) : nb8 0 i = 0 := by
 match i, hi with
 | 0, _ | 1, _ | 2, _ | 3, _ | 4, _ | 5, _ | 6, _ | 7, _ => rfl
theorem retC {fn : Func} {p : Tmp} {ty : TypeId} (hres : fn.results = #[.cell p ty]) (tmps : Array Value) (w1 : World) (g : Nat) (cs : Array Value) (hp : tmps.getD p undef = .pointer (some ⟨g, 0, none⟩)) (hl : (loadVar ty ⟨g, 0, none⟩).run Tryz.prog w1 = .ok (.agg cs) w1) :
  (results fn tmps).run Tryz.prog w1 = .ok (.agg cs) w1 := by
 have hp' : tmps[p]?.getD undef = .pointer (some ⟨g, 0, none⟩) := by simpa using hp
 simp [results, hres, hp', asAddr, hl]
end Go.Proofs.YtbfepgjeecndiaaGreat

/- A slice of byte strings that came in. -/
namespace Go.Proofs.YtbfepgjeecndiaaGreat
open Go.ChangeShapes Go.WideShapes Go.ChangeAt Go.RowKit Go.Deep
theorem open_texts {H : Type} {enc : TypeId × Value → H} {W : World} {base : Nat} {held : Bool} {A : Option Addr} {n c : Nat} {d : DataW H} {q : List MemPlace}
  (h : DataW.Trod enc Tryz.prog W base (fun _ => true) held 23 (.slice A n c) d q) : ∃ X : List TeR, SlG W A n c X := by
 obtain ⟨fuel, hf⟩ := h
 obtain ⟨A', n', c', L, e, h1⟩ := open_tes hf
 have e2 : [Value.slice A n c] = [Value.slice A' n' c'] := e
 injection e2 with e3
 injection e3 with e4 e5 e6
 subst e4; subst e5; subst e6
 exact ⟨L, h1⟩
end Go.Proofs.YtbfepgjeecndiaaGreat
