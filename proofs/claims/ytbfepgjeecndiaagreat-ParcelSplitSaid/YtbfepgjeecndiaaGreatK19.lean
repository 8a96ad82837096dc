/- Bytes of a fixed number out of the cursor (cursor.Fixed). -/
import Derived.Lib.BytesEntry
import Derived.Test.YtbfepgjeecndiaaGreatK16
namespace Go.Proofs.YtbfepgjeecndiaaGreat
set_option maxRecDepth 100000
set_option maxHeartbeats 4000000
open Go.RowKit
set_option linter.unusedVariables false
set_option linter.unusedSimpArgs false
attribute [local go_sem ↓] Go.wp_at_zero Go.wp_at_succ
def rTkF (k : Nat) (s : Option (List UInt8)) : List UInt8 := match s with
 | none => []
 | some r => if r.length < k then [] else r.take k
variable {D : Nat}
def TkOutF (t : TypeId) (D B k : Nat) (s : Option (List UInt8)) (w : World) (e : Ending) (w' : World) : Prop :=
 ∃ A' m c', e = .returned (.slice A' m c') ∧ SlB w' A' m c' (rTkF k s) ∧ CurAt t D w' B (rRest k s) ∧ w.grownBy w' (some B)
theorem slb_partF {w : World} {b o n c : Nat} {l : List UInt8} {k j : Nat} (h : SlB w (some ⟨b, o, none⟩) n c l) (hj : k + j ≤ n) (h0 : 0 < j) : SlB w (some ⟨b, o + k, none⟩) j j ((l.drop k).take j) := by
 have h1 := (h.cut (k := k) (by omega) (by have := h.le; omega)).upto (k := j) (by omega)
 refine ⟨h1.len, Nat.le_refl _, by have := h1.cap; have := h1.le; omega, ?_⟩
 have h2 := h1.rd
 have e : (some (⟨b, o, none⟩ : Addr)).map (·.add k) = some ⟨b, o + k, none⟩ := by
  by_cases hk : k = 0
  ·subst hk; simp [Addr.add]
  ·simp [Addr.add, hk]
 rw [e] at h2; exact h2
theorem cur_store2F {t : TypeId} {w : World} {B : Nat} (A : Option Addr) (n c k : Nat) (l : List UInt8) (b b' : Bool) (s : Option (List UInt8)) (hB : Blk w B t #[.slice A n c, .int .i64 ((k : Nat) : Int), .bool b]) (hS : SlB w A n c l) (hk : k ≤ n) (hn : n ≤ 140737488355328) (hb : s.isNone = b') (hr : ∀ r, s = some r → r = l.drop k) (hD : LowB D A n) : CurAt t D (w.setCell ⟨B, 2, none⟩ (.bool b')) B s := by
 refine ⟨A, n, c, l, k, ?_, ?_, hk, hn, hr, hD⟩
 ·rw [hb]; exact hB.set 2 _
 ·exact slb_kept hS hB (grown_set w B 2 _)
theorem cur_move2F {t : TypeId} {w : World} {B : Nat} (A : Option Addr) (n c k j : Nat) (l : List UInt8) (r : List UInt8) (hB : Blk w B t #[.slice A n c, .int .i64 ((k : Nat) : Int), .bool false]) (hS : SlB w A n c l) (hk : j ≤ n) (hn : n ≤ 140737488355328) (hr : r = l.drop j) (z : Int) (hz : z = (j : Int)) (hD : LowB D A n) : CurAt t D (w.setCell ⟨B, 1, none⟩ (.int .i64 z)) B (some r) := by
 subst hz
 refine ⟨A, n, c, l, j, ?_, ?_, hk, hn, fun r' h => by injection h with h; rw [← h]; exact hr, hD⟩
 ·exact hB.set 1 _
 ·exact slb_kept hS hB (grown_set w B 1 _)
theorem cfixed_any (j : Nat) (h1 : 1 ≤ j) (hj : j ≤ 1000) (B : Nat) (s : Option (List UInt8)) (w : World) (h : CurAt 101 D w B s) :
  Calls Tryz.prog 51 #[.pointer (some ⟨B, 0, none⟩), .int .i64 (j : Int)] w (TkOutF 101 D B j s w) := by
 obtain ⟨A, n, c, l, k, hB, hS, hk, hn, hr, hD⟩ := h
 have hlen := hS.len
 have hle := hS.le
 have hcap := hS.cap
 have hc0 : w.cell? ⟨B, 0, none⟩ = some (.slice A n c) := hB.cell 0
 have hc1 : w.cell? ⟨B, 1, none⟩ = some (.int .i64 (k : Int)) := hB.cell 1
 have hc2 : w.cell? ⟨B, 2, none⟩ = some (.bool s.isNone) := hB.cell 2
 have hf1 := hB.frozen 1
 have hf2 := hB.frozen 2
 have HB := Lib.hid hB
 have HS := Lib.hid hS
 have HR := Lib.hid hr
 have k0 : (0 : Int) ≤ (k : Int) := by omega
 have j0 : ¬ (j : Int) < 0 := by omega
 have wz1 : IntKind.i64.wrap ((n : Int) - (k : Int)) = (n : Int) - (k : Int) := by rw [IntKind.wrap_i64]; omega
 have wz2 : IntKind.i64.wrap ((k : Int) + (j : Int)) = (k : Int) + (j : Int) := by rw [IntKind.wrap_i64]; omega
 clear hB hS hr
 cases s with
 | none =>
  have hc2 : w.cell? ⟨B, 2, none⟩ = some (.bool true) := hc2
  go_enter Tryz.func51, Tryz.ntmps51
  go_wp2_with fail
  go_quiet (fail)
  go_wp2_with fail
  go_ret
  exact ⟨none, 0, 0, rfl, SlB.nil _, cur_store2F A n c k l true true none (HB.out.ext (drewN_ext _ _)) (HS.out.ext (drewN_ext _ _)) hk hn rfl (fun _ h => by cases h) hD, World.grownBy.trans (grown_ext (drewN_ext _ _) _) (grown_set _ B 2 _)⟩
 | some r =>
  have hc2 : w.cell? ⟨B, 2, none⟩ = some (.bool false) := hc2
  by_cases hfit : k + j ≤ n
  ·have f1 : ¬ (n : Int) - (k : Int) < (j : Int) := by omega
   have HL := Lib.hid (show ¬ r.length < j by rw [HR.out r rfl, List.length_drop, HS.out.len]; omega)
   obtain ⟨b, o, rfl, _, hbl⟩ := HS.out.at (by omega)
   have HC := Lib.hid (fun (W : World) (h : Ext w W) => (⟨(HB.out.ext h).cell 0, (HB.out.ext h).cell 1⟩ : W.cell? ⟨B, 0, none⟩ = some (.slice (some ⟨b, o, none⟩) n c) ∧ W.cell? ⟨B, 1, none⟩ = some (.int .i64 (k : Int))))
   have s1 : (k : Int) ≤ (k : Int) + (j : Int) := by omega
   have s2 : (k : Int) + (j : Int) ≤ (c : Int) := by omega
   go_enter Tryz.func51, Tryz.ntmps51
   go_wp2_with fail
   go_quiet (fail)
   have HX1 := Lib.hid (drewN_ext w nq)
   generalize w.drewN nq = W1 at HX1 ⊢
   clear hc0 hc1 hc2 hf1 hf2
   go_wp2_with fail
   refine wp_region_held_drew (S := fun W => Ext W1 W) (by kernel_rfl) ((Ext.refl W1).drew') (fun hHeld => ?_)
   (refine wr 0 (oi := ⟨some 31, .move (.tmp 0), 66, "cursor.go:68", #[], none⟩) (v := ?_) rfl (by kernel_rfl) (by rfl) (fun _ _ _ h => h) ?h hHeld ?_; case h => (intro W hSW; go_simp <;> with_reducible rfl))
   try simp only [lays]
   (refine wr 1 (oi := ⟨some 32, .nilCheck (.tmp 31), 0, "cursor.go:68", #[⟨0, .data⟩], none⟩) (v := ?_) rfl (by kernel_rfl) (by rfl) (fun _ _ _ h => h) ?h hHeld ?_; case h => (intro W hSW; obtain ⟨e0, e1⟩ := HC.out W (HX1.out.trans hSW); go_simp <;> with_reducible rfl))
   try simp only [lays]
   (refine wr 2 (oi := ⟨some 33, .fieldAddr 101 (.tmp 32) 0, 0, "cursor.go:68", #[⟨1, .data⟩], none⟩) (v := ?_) rfl (by kernel_rfl) (by rfl) (fun _ _ _ h => h) ?h hHeld ?_; case h => (intro W hSW; go_simp <;> with_reducible rfl))
   try simp only [lays]
   (refine wr 3 (oi := ⟨some 34, .load 28 (.tmp 33), 28, "cursor.go:68", #[⟨2, .data⟩], none⟩) (v := ?_) rfl (by kernel_rfl) (by rfl) (fun _ _ _ h => h) ?h hHeld ?_; case h => (intro W hSW; obtain ⟨e0, e1⟩ := HC.out W (HX1.out.trans hSW); go_simp <;> with_reducible rfl))
   try simp only [lays]
   (refine wr 4 (oi := ⟨some 35, .move (.tmp 0), 66, "cursor.go:68", #[], none⟩) (v := ?_) rfl (by kernel_rfl) (by rfl) (fun _ _ _ h => h) ?h hHeld ?_; case h => (intro W hSW; go_simp <;> with_reducible rfl))
   try simp only [lays]
   (refine wr 5 (oi := ⟨some 36, .nilCheck (.tmp 35), 0, "cursor.go:68", #[⟨4, .data⟩], none⟩) (v := ?_) rfl (by kernel_rfl) (by rfl) (fun _ _ _ h => h) ?h hHeld ?_; case h => (intro W hSW; obtain ⟨e0, e1⟩ := HC.out W (HX1.out.trans hSW); go_simp <;> with_reducible rfl))
   try simp only [lays]
   (refine wr 6 (oi := ⟨some 37, .fieldAddr 101 (.tmp 36) 1, 0, "cursor.go:68", #[⟨5, .data⟩], none⟩) (v := ?_) rfl (by kernel_rfl) (by rfl) (fun _ _ _ h => h) ?h hHeld ?_; case h => (intro W hSW; go_simp <;> with_reducible rfl))
   try simp only [lays]
   (refine wr 7 (oi := ⟨some 38, .load 3 (.tmp 37), 3, "cursor.go:68", #[⟨6, .data⟩], none⟩) (v := ?_) rfl (by kernel_rfl) (by rfl) (fun _ _ _ h => h) ?h hHeld ?_; case h => (intro W hSW; obtain ⟨e0, e1⟩ := HC.out W (HX1.out.trans hSW); go_simp <;> with_reducible rfl))
   try simp only [lays]
   (refine wr 8 (oi := ⟨some 39, .move (.tmp 0), 66, "cursor.go:68", #[], none⟩) (v := ?_) rfl (by kernel_rfl) (by rfl) (fun _ _ _ h => h) ?h hHeld ?_; case h => (intro W hSW; go_simp <;> with_reducible rfl))
   try simp only [lays]
   (refine wr 9 (oi := ⟨some 40, .nilCheck (.tmp 39), 0, "cursor.go:68", #[⟨8, .data⟩], none⟩) (v := ?_) rfl (by kernel_rfl) (by rfl) (fun _ _ _ h => h) ?h hHeld ?_; case h => (intro W hSW; obtain ⟨e0, e1⟩ := HC.out W (HX1.out.trans hSW); go_simp <;> with_reducible rfl))
   try simp only [lays]
   (refine wr 10 (oi := ⟨some 41, .fieldAddr 101 (.tmp 40) 1, 0, "cursor.go:68", #[⟨9, .data⟩], none⟩) (v := ?_) rfl (by kernel_rfl) (by rfl) (fun _ _ _ h => h) ?h hHeld ?_; case h => (intro W hSW; go_simp <;> with_reducible rfl))
   try simp only [lays]
   (refine wr 11 (oi := ⟨some 42, .load 3 (.tmp 41), 3, "cursor.go:68", #[⟨10, .data⟩], none⟩) (v := ?_) rfl (by kernel_rfl) (by rfl) (fun _ _ _ h => h) ?h hHeld ?_; case h => (intro W hSW; obtain ⟨e0, e1⟩ := HC.out W (HX1.out.trans hSW); go_simp <;> with_reducible rfl))
   try simp only [lays]
   (refine wr 12 (oi := ⟨some 43, .move (.tmp 1), 3, "cursor.go:68", #[], none⟩) (v := ?_) rfl (by kernel_rfl) (by rfl) (fun _ _ _ h => h) ?h hHeld ?_; case h => (intro W hSW; go_simp <;> with_reducible rfl))
   try simp only [lays]
   (refine wr 13 (oi := ⟨some 44, .binOp .add 3 (.tmp 42) (.tmp 43) 3, 3, "cursor.go:68", #[⟨11, .data⟩, ⟨12, .data⟩], none⟩) (v := ?_) rfl (by kernel_rfl) (by rfl) (fun _ _ _ h => h) ?h hHeld ?_; case h => (intro W hSW; go_simp <;> with_reducible rfl))
   try simp only [lays]
   (refine wr 14 (oi := ⟨some 45, .slice 28 (.tmp 34) (some (.tmp 38)) (some (.tmp 44)) none, 28, "cursor.go:68", #[⟨3, .data⟩, ⟨7, .data⟩, ⟨13, .data⟩], none⟩) (v := ?_) rfl (by kernel_rfl) (by rfl) (fun _ _ _ h => h) ?h hHeld ?_; case h => (intro W hSW; obtain ⟨e0, e1⟩ := HC.out W (HX1.out.trans hSW); go_simp <;> with_reducible rfl))
   try simp only [lays]
   refine wpAnyH_ready (rs := [15]) (by kernel_rfl) (by simp) ?_
   refine AllReadyH.cons (o := ⟨some 46, .call { callee := .builtin .append, args := #[.const (.slice none 0 0), .tmp 45], argTypes := #[28, 28] }, 28, "cursor.go:68", #[⟨14, .data⟩], none⟩) rfl (fun K hK => ?_) AllReadyH.nil
   refine step_appB bytesE rfl (.const (.slice none 0 0)) (.tmp 45) rfl W1.heap.size none 0 0 [] rfl (OwnB.nil _ _ _) (some ⟨b, o + k, none⟩) j (c - k) ((l.drop k).take j) ?hx ?hr ?hb (Nat.le_refl _) W1 (Ext.refl W1).drew' ?_
   case hx => (show Value.slice (if c = k then _ else _) _ _ = _; rw [if_neg (by omega)]; congr 1; omega)
   case hr => (have h1' := slb_partF (HS.out.ext (Ext.trans HX1.out (Ext.refl W1).drew')) hfit h1; exact ⟨h1'.len, by omega, by omega, h1'.rd⟩)
   case hb => omega
   intro A1 c1 w1 ho1 hw1 hs1
   refine hK.out _ _ (hw1) (fun hHeld => ?_)
   clear hK K
   try simp only [lays]
   (refine wr 16 (oi := ⟨some 5, .assign (.tmp 46), 28, "cursor.go:68", #[⟨15, .data⟩, ⟨15, .chain⟩, ⟨0, .phase⟩, ⟨1, .phase⟩, ⟨2, .phase⟩, ⟨3, .phase⟩, ⟨4, .phase⟩, ⟨5, .phase⟩, ⟨6, .phase⟩, ⟨7, .phase⟩, ⟨8, .phase⟩, ⟨9, .phase⟩, ⟨10, .phase⟩, ⟨11, .phase⟩, ⟨12, .phase⟩, ⟨13, .phase⟩, ⟨14, .phase⟩, ⟨15, .phase⟩], none⟩) (v := ?_) rfl (by kernel_rfl) (by rfl) (fun _ _ _ h => h) ?h hHeld ?_; case h => (intro W hSW; go_simp <;> with_reducible rfl))
   try simp only [lays]
   refine wpAnyH_done (by kernel_rfl) ?_ _
   have HX2 := Lib.hid (Ext.trans HX1.out (Below.mono hw1 (Nat.le_refl _) : Ext W1 w1))
   have HO := Lib.hid ho1.sl
   have hc1 : w1.cell? ⟨B, 1, none⟩ = some (.int .i64 (k : Int)) := (HC.out w1 HX2.out).2
   have hf1 : w1.frozen? ⟨B, 1, none⟩ = false := (HB.out.ext HX2.out).frozen 1
   clear ho1 hw1 hs1
   go_wp2_with fail
   go_ret
   have HN := Lib.hid (show rTkF j (some r) = (l.drop k).take j ∧ rRest j (some r) = some (r.drop j) by
    have := HL.out
    simp only [rTkF, rRest, if_neg this]
    rw [HR.out r rfl]; exact ⟨rfl, trivial⟩)
   have hox : SlB w1 A1 j c1 ((l.drop k).take j) := by have := HO.out; rwa [Nat.zero_add, List.nil_append] at this
   refine ⟨A1, j, c1, by first | rfl | simp, ?_, ?_, World.grownBy.trans (grown_ext HX2.out _) (grown_set _ B 1 _)⟩
   ·rw [HN.out.1]
    exact slb_kept hox (HB.out.ext HX2.out) (grown_set _ B 1 _)
   ·rw [HN.out.2]
    exact cur_move2F (some ⟨b, o, none⟩) n c k (k + j) l _ (HB.out.ext HX2.out) (HS.out.ext HX2.out) hfit hn (by rw [HR.out r rfl, List.drop_drop]) _ (by omega) hD
  ·have f1 : (n : Int) - (k : Int) < (j : Int) := by omega
   go_enter Tryz.func51, Tryz.ntmps51
   go_wp2_with fail
   go_quiet (fail)
   go_wp2_with fail
   go_ret
   have HN := Lib.hid (show rTkF j (some r) = [] ∧ rRest j (some r) = none by
    have : r.length < j := by rw [HR.out r rfl, List.length_drop, HS.out.len]; omega
    simp [rTkF, rRest, this])
   refine ⟨none, 0, 0, rfl, ?_, ?_, World.grownBy.trans (grown_ext (drewN_ext _ _) _) (grown_set _ B 2 _)⟩
   ·rw [HN.out.1]; exact SlB.nil _
   ·rw [HN.out.2]
    exact cur_store2F A n c k l false true none (HB.out.ext (drewN_ext _ _)) (HS.out.ext (drewN_ext _ _)) hk hn rfl (fun _ h => by cases h) hD
end Go.Proofs.YtbfepgjeecndiaaGreat

/- Valid votes (the reference's), all cases together. -/
namespace Go.Proofs.YtbfepgjeecndiaaGreat
open Go.RowKit
set_option linter.unusedVariables false
set_option linter.unusedSimpArgs false
theorem restV_3 {v : VtR} (h : v.k = 3) : restV v = (inI v.sl 0 9 && (inI v.ro 1 12 && (inI v.ch 0 1 && (decide (v.ro ≠ 1) || (decide (v.ch ≠ 0) || decide (v.su = 0)))))) := by unfold restV; rw [if_pos h]
theorem restV_4 {v : VtR} (h : v.k = 4) : restV v = (inI v.sl 0 9 && (inI v.ro 1 12 && inI v.ch 0 2)) := by unfold restV; rw [if_neg (by omega), if_pos h]
theorem restV_p {v : VtR} (h3 : v.k ≠ 3) (h4 : v.k ≠ 4) (h : v.k ≤ 4) : restV v = (inI v.sl 0 9 && (decide (v.ro = 0 ∧ v.su = 0) && decide (v.ch = 1))) := by unfold restV; rw [if_neg h3, if_neg h4, if_pos (by omega)]
theorem restV_q {v : VtR} (h : 5 ≤ v.k) : restV v = (inI v.sl 0 0 && (decide (v.ro = 0 ∧ v.su = 0) && decide (v.ch = 1))) := by unfold restV; rw [if_neg (by omega), if_neg (by omega), if_neg (by omega)]
theorem rVtValid_any (v : VtR) (w : World) : Calls Tryz.prog 98 #[.agg (vtA v)] w fun e w' => e = .returned (.bool (vldVt v)) ∧ Ext w w' := by
 have no : vldVt v = false → (Calls Tryz.prog 98 #[.agg (vtA v)] w fun e w' => e = .returned (.bool false) ∧ Ext w w') → Calls Tryz.prog 98 #[.agg (vtA v)] w fun e w' => e = .returned (.bool (vldVt v)) ∧ Ext w w' := fun h hc => by rw [h]; exact hc
 by_cases hk1 : v.k < 1
 ·exact no (by unfold vldVt inI; rw [decide_eq_false (p := 1 ≤ v.k ∧ v.k ≤ 7) (by omega)]; rfl) (rVtV_k1 v hk1 w)
 by_cases hk7 : v.k > 7
 ·exact no (by unfold vldVt inI; rw [decide_eq_false (p := 1 ≤ v.k ∧ v.k ≤ 7) (by omega)]; rfl) (rVtV_k7 v hk1 hk7 w)
 by_cases hs0 : v.si < 0
 ·exact no (by unfold vldVt inI; rw [decide_eq_false (p := 0 ≤ v.si ∧ v.si ≤ 9) (by omega), Bool.and_false]; rfl) (rVtV_s0 v hk1 hk7 hs0 w)
 by_cases hs9 : v.si ≥ 10
 ·exact no (by unfold vldVt inI; rw [decide_eq_false (p := 0 ≤ v.si ∧ v.si ≤ 9) (by omega), Bool.and_false]; rfl) (rVtV_s9 v hk1 hk7 hs0 hs9 w)
 by_cases hu : supI v.su = 0
 case neg => exact no (by unfold vldVt; rw [decide_eq_false hu, Bool.and_false, Bool.false_and, Bool.and_false]) (rVtV_u v hk1 hk7 hs0 hs9 hu (bne_iff_ne.2 hu) w)
 have hv : vldVt v = (chV v && restV v) := by
  unfold vldVt inI
  rw [decide_eq_true (p := 1 ≤ v.k ∧ v.k ≤ 7) (by omega), decide_eq_true (p := 0 ≤ v.si ∧ v.si ≤ 9) (by omega), decide_eq_true hu, Bool.and_true]; simp
 rw [hv] at no ⊢
 have nr : restV v = false → (chV v && restV v) = false := fun h => by rw [h, Bool.and_false]
 by_cases h4 : v.k ≤ 4
 ·have hag : inI v.k 1 4 = true := decide_eq_true ⟨by omega, h4⟩
  by_cases hl0 : v.sl < 0 ∨ v.sl ≥ 10
  ·have hr : restV v = false := by
    by_cases e3 : v.k = 3
    ·rw [restV_3 e3, Bool.eq_false_iff]; unfold inI; simp only [ne_eq, Bool.and_eq_true, Bool.or_eq_true, decide_eq_true_eq]; omega
    ·by_cases e4 : v.k = 4
     ·rw [restV_4 e4, Bool.eq_false_iff]; unfold inI; simp only [ne_eq, Bool.and_eq_true, Bool.or_eq_true, decide_eq_true_eq]; omega
     ·rw [restV_p e3 e4 h4, Bool.eq_false_iff]; unfold inI; simp only [ne_eq, Bool.and_eq_true, Bool.or_eq_true, decide_eq_true_eq]; omega
   by_cases hl : v.sl < 0
   ·exact no (nr hr) (rVtV_l0 v hk1 hk7 hs0 hs9 hu hl hag w)
   ·exact no (nr hr) (rVtV_l9 v hk1 hk7 hs0 hs9 hu hl (by omega) hag w)
  have l0 : ¬ v.sl < 0 := by omega
  have l9 : ¬ v.sl ≥ 10 := by omega
  rcases Bool.eq_false_or_eq_true (chV v) with hcv | hcv
  case inr =>
   refine no (by rw [hcv]; rfl) ?_
   unfold chV at hcv
   have hcv := of_decide_eq_false hcv
   by_cases c : v.ch = 1
   ·exact rVtV_cv1a v c hk1 hk7 hs0 hs9 hu l0 l9 hag (decide_eq_true (by apply Classical.byContradiction; intro hh; exact hcv ⟨fun _ => hh, fun _ => c⟩)) w
   ·exact rVtV_cv0a v hk1 hk7 hs0 hs9 hu l0 l9 c hag (decide_eq_false (fun hh => hcv ⟨fun q => absurd q c, fun q => absurd hh q⟩)) w
  case inl =>
   rw [hcv, Bool.true_and] at no ⊢
   have ok : restV v = true → (Calls Tryz.prog 98 #[.agg (vtA v)] w fun e w' => e = .returned (.bool true) ∧ Ext w w') → Calls Tryz.prog 98 #[.agg (vtA v)] w fun e w' => e = .returned (.bool (restV v)) ∧ Ext w w' := fun h hc => by rw [h]; exact hc
   unfold chV at hcv
   have hcv := of_decide_eq_true hcv
   have va1 : v.ch = 1 → decide (v.va = 0) = false := fun c => decide_eq_false (hcv.1 c)
   have va0 : v.ch ≠ 1 → decide (v.va = 0) = true := fun c => decide_eq_true (Classical.byContradiction fun hh => c (hcv.2 hh))
   by_cases e3 : v.k = 3
   ·by_cases r0 : v.ro ≥ 1
    ·by_cases r9 : v.ro ≤ 12
     ·by_cases c1 : v.ch = 1
      ·by_cases r1 : v.ro = 1
       ·exact ok (by rw [restV_3 e3]; unfold inI; simp only [Bool.and_eq_true, Bool.or_eq_true, decide_eq_true_eq]; omega) (rVtV_3c1e v e3 c1 r1 hs0 hs9 hu l0 l9 hag (va1 c1) w)
       ·exact ok (by rw [restV_3 e3]; unfold inI; simp only [Bool.and_eq_true, Bool.or_eq_true, decide_eq_true_eq]; omega) (rVtV_3c1n v e3 c1 hs0 hs9 hu l0 l9 r0 r9 r1 hag (va1 c1) w)
      ·by_cases c0 : v.ch = 0
       ·by_cases r1 : v.ro = 1
        ·by_cases u0 : v.su = 0
         ·exact ok (by rw [restV_3 e3]; unfold inI; simp only [Bool.and_eq_true, Bool.or_eq_true, decide_eq_true_eq]; omega) (rVtV_3c0e v e3 c0 r1 u0 hs0 hs9 l0 l9 hag (va0 c1) w)
         ·exact no (by rw [restV_3 e3, Bool.eq_false_iff]; unfold inI; simp only [ne_eq, Bool.and_eq_true, Bool.or_eq_true, decide_eq_true_eq]; omega) (rVtV_3c0u v e3 c0 r1 hs0 hs9 hu l0 l9 u0 hag (va0 c1) w)
        ·exact ok (by rw [restV_3 e3]; unfold inI; simp only [Bool.and_eq_true, Bool.or_eq_true, decide_eq_true_eq]; omega) (rVtV_3c0n v e3 c0 hs0 hs9 hu l0 l9 r0 r9 r1 hag (va0 c1) w)
       ·exact no (by rw [restV_3 e3, Bool.eq_false_iff]; unfold inI; simp only [ne_eq, Bool.and_eq_true, Bool.or_eq_true, decide_eq_true_eq]; omega) (rVtV_3cx v e3 hs0 hs9 hu l0 l9 r0 r9 c1 c0 hag (va0 c1) w)
     ·have hr : restV v = false := by rw [restV_3 e3, Bool.eq_false_iff]; unfold inI; simp only [ne_eq, Bool.and_eq_true, Bool.or_eq_true, decide_eq_true_eq]; omega
      by_cases c1 : v.ch = 1
      ·exact no hr (rVtV_3r9c1 v e3 c1 hs0 hs9 hu l0 l9 r0 r9 hag (va1 c1) w)
      ·exact no hr (rVtV_3r9c0 v e3 hs0 hs9 hu l0 l9 r0 r9 c1 hag (va0 c1) w)
    ·have hr : restV v = false := by rw [restV_3 e3, Bool.eq_false_iff]; unfold inI; simp only [ne_eq, Bool.and_eq_true, Bool.or_eq_true, decide_eq_true_eq]; omega
     by_cases c1 : v.ch = 1
     ·exact no hr (rVtV_3r0c1 v e3 c1 hs0 hs9 hu l0 l9 r0 hag (va1 c1) w)
     ·exact no hr (rVtV_3r0c0 v e3 hs0 hs9 hu l0 l9 r0 c1 hag (va0 c1) w)
   ·by_cases e4 : v.k = 4
    ·by_cases r0 : v.ro ≥ 1
     ·by_cases r9 : v.ro ≤ 12
      ·by_cases c1 : v.ch = 1
       ·exact ok (by rw [restV_4 e4]; unfold inI; simp only [Bool.and_eq_true, Bool.or_eq_true, decide_eq_true_eq]; omega) (rVtV_4c1 v e4 c1 hs0 hs9 hu l0 l9 r0 r9 hag (va1 c1) w)
       ·by_cases c0 : v.ch ≥ 0
        ·by_cases c2 : v.ch ≤ 2
         ·exact ok (by rw [restV_4 e4]; unfold inI; simp only [Bool.and_eq_true, Bool.or_eq_true, decide_eq_true_eq]; omega) (rVtV_4ok v e4 hs0 hs9 hu l0 l9 r0 r9 c1 c0 c2 hag (va0 c1) w)
         ·exact no (by rw [restV_4 e4, Bool.eq_false_iff]; unfold inI; simp only [ne_eq, Bool.and_eq_true, Bool.or_eq_true, decide_eq_true_eq]; omega) (rVtV_4ch v e4 hs0 hs9 hu l0 l9 r0 r9 c1 c0 c2 hag (va0 c1) w)
        ·exact no (by rw [restV_4 e4, Bool.eq_false_iff]; unfold inI; simp only [ne_eq, Bool.and_eq_true, Bool.or_eq_true, decide_eq_true_eq]; omega) (rVtV_4cl v e4 hs0 hs9 hu l0 l9 r0 r9 c1 c0 hag (va0 c1) w)
      ·have hr : restV v = false := by rw [restV_4 e4, Bool.eq_false_iff]; unfold inI; simp only [ne_eq, Bool.and_eq_true, Bool.or_eq_true, decide_eq_true_eq]; omega
       by_cases c1 : v.ch = 1
       ·exact no hr (rVtV_4r9c1 v e4 c1 hs0 hs9 hu l0 l9 r0 r9 hag (va1 c1) w)
       ·exact no hr (rVtV_4r9c0 v e4 hs0 hs9 hu l0 l9 r0 r9 c1 hag (va0 c1) w)
     ·have hr : restV v = false := by rw [restV_4 e4, Bool.eq_false_iff]; unfold inI; simp only [ne_eq, Bool.and_eq_true, Bool.or_eq_true, decide_eq_true_eq]; omega
      by_cases c1 : v.ch = 1
      ·exact no hr (rVtV_4r0c1 v e4 c1 hs0 hs9 hu l0 l9 r0 hag (va1 c1) w)
      ·exact no hr (rVtV_4r0c0 v e4 hs0 hs9 hu l0 l9 r0 c1 hag (va0 c1) w)
    ·by_cases r0 : v.ro = 0
     ·by_cases c1 : v.ch = 1
      ·by_cases u0 : v.su = 0
       ·exact ok (by rw [restV_p e3 e4 h4]; unfold inI; simp only [Bool.and_eq_true, Bool.or_eq_true, decide_eq_true_eq]; omega) (rVtV_py v r0 c1 u0 hk1 hk7 hs0 hs9 l0 l9 e3 e4 hag (va1 c1) w)
       ·exact no (by rw [restV_p e3 e4 h4, Bool.eq_false_iff]; unfold inI; simp only [ne_eq, Bool.and_eq_true, Bool.or_eq_true, decide_eq_true_eq]; omega) (rVtV_pu v r0 c1 hk1 hk7 hs0 hs9 hu l0 l9 e3 e4 u0 hag (va1 c1) w)
      ·exact no (by rw [restV_p e3 e4 h4, Bool.eq_false_iff]; unfold inI; simp only [ne_eq, Bool.and_eq_true, Bool.or_eq_true, decide_eq_true_eq]; omega) (rVtV_pc v r0 hk1 hk7 hs0 hs9 hu l0 l9 e3 e4 c1 hag (va0 c1) w)
     ·have hr : restV v = false := by rw [restV_p e3 e4 h4, Bool.eq_false_iff]; unfold inI; simp only [ne_eq, Bool.and_eq_true, Bool.or_eq_true, decide_eq_true_eq]; omega
      by_cases c1 : v.ch = 1
      ·exact no hr (rVtV_prc1 v c1 hk1 hk7 hs0 hs9 hu l0 l9 e3 e4 r0 hag (va1 c1) w)
      ·exact no hr (rVtV_prc0 v hk1 hk7 hs0 hs9 hu l0 l9 e3 e4 r0 c1 hag (va0 c1) w)
 ·have hag : inI v.k 1 4 = false := decide_eq_false (fun h => h4 h.2)
  have h5 : 5 ≤ v.k := by omega
  have e3 : v.k ≠ 3 := by omega
  have e4 : v.k ≠ 4 := by omega
  by_cases hl : v.sl = 0
  case neg => exact no (nr (by rw [restV_q h5, Bool.eq_false_iff]; unfold inI; simp only [ne_eq, Bool.and_eq_true, Bool.or_eq_true, decide_eq_true_eq]; omega)) (rVtV_l v hk1 hk7 hs0 hs9 hu hl hag w)
  rcases Bool.eq_false_or_eq_true (chV v) with hcv | hcv
  case inr =>
   refine no (by rw [hcv]; rfl) ?_
   unfold chV at hcv
   have hcv := of_decide_eq_false hcv
   by_cases c : v.ch = 1
   ·exact rVtV_cv1b v hl c hk1 hk7 hs0 hs9 hu hag (decide_eq_true (by apply Classical.byContradiction; intro hh; exact hcv ⟨fun _ => hh, fun _ => c⟩)) w
   ·exact rVtV_cv0b v hl hk1 hk7 hs0 hs9 hu c hag (decide_eq_false (fun hh => hcv ⟨fun q => absurd q c, fun q => absurd hh q⟩)) w
  case inl =>
   rw [hcv, Bool.true_and] at no ⊢
   have ok : restV v = true → (Calls Tryz.prog 98 #[.agg (vtA v)] w fun e w' => e = .returned (.bool true) ∧ Ext w w') → Calls Tryz.prog 98 #[.agg (vtA v)] w fun e w' => e = .returned (.bool (restV v)) ∧ Ext w w' := fun h hc => by rw [h]; exact hc
   unfold chV at hcv
   have hcv := of_decide_eq_true hcv
   have va1 : v.ch = 1 → decide (v.va = 0) = false := fun c => decide_eq_false (hcv.1 c)
   have va0 : v.ch ≠ 1 → decide (v.va = 0) = true := fun c => decide_eq_true (Classical.byContradiction fun hh => c (hcv.2 hh))
   by_cases r0 : v.ro = 0
   ·by_cases c1 : v.ch = 1
    ·by_cases u0 : v.su = 0
     ·exact ok (by rw [restV_q h5]; unfold inI; simp only [Bool.and_eq_true, Bool.or_eq_true, decide_eq_true_eq]; omega) (rVtV_qy v hl r0 c1 u0 hk1 hk7 hs0 hs9 e3 e4 hag (va1 c1) w)
     ·exact no (by rw [restV_q h5, Bool.eq_false_iff]; unfold inI; simp only [ne_eq, Bool.and_eq_true, Bool.or_eq_true, decide_eq_true_eq]; omega) (rVtV_qu v hl r0 c1 hk1 hk7 hs0 hs9 hu e3 e4 u0 hag (va1 c1) w)
    ·exact no (by rw [restV_q h5, Bool.eq_false_iff]; unfold inI; simp only [ne_eq, Bool.and_eq_true, Bool.or_eq_true, decide_eq_true_eq]; omega) (rVtV_qc v hl r0 hk1 hk7 hs0 hs9 hu e3 e4 c1 hag (va0 c1) w)
   ·have hr : restV v = false := by rw [restV_q h5, Bool.eq_false_iff]; unfold inI; simp only [ne_eq, Bool.and_eq_true, Bool.or_eq_true, decide_eq_true_eq]; omega
    by_cases c1 : v.ch = 1
    ·exact no hr (rVtV_qrc1 v hl c1 hk1 hk7 hs0 hs9 hu e3 e4 r0 hag (va1 c1) w)
    ·exact no hr (rVtV_qrc0 v hl hk1 hk7 hs0 hs9 hu e3 e4 r0 c1 hag (va0 c1) w)
end Go.Proofs.YtbfepgjeecndiaaGreat
