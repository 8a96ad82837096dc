/- The program's cursor: Name. -/
import Derived.Test.YtjlnmpjffogpdaaCur
namespace Go.Proofs.Ytjlnmpjffogpdaa
open Go.RowKit
set_option linter.unusedVariables false
set_option linter.unusedSimpArgs false
attribute [local go_sem ↓] Go.wp_at_zero Go.wp_at_succ

variable {D : Nat}
def rName (s : Option (List UInt8)) : UInt64 := match s with
  | none => 0
  | some r => if r.length < 8 then 0 else ofNm (r.take 8)
theorem zcs_nmc : zcs.toArray = nmc 0 := by
  unfold nmc; rw [nmb_zero]; rfl
theorem grown_setCells' (w : World) (g : Nat) : ∀ (vs : List Value) (o : Nat), w.grownBy (w.setCells g o vs) (some g) := by
  intro vs
  induction vs generalizing w with
  | nil => intro o; exact grown_refl w _
  | cons v r ih => intro o; exact World.grownBy.trans (grown_set w g o v) (ih _ (o + 1))
/-- what is stored into a block of the call's own is no part of what was there -/
theorem grown_new {w w' : World} {B g : Nat} (h : w.grownBy w' (some B)) (hg : w.heap.size ≤ g) (vs : List Value) (o : Nat) : w.grownBy (w'.setCells g o vs) (some B) :=
  World.grownBy.andThen h (grown_setCells' w' g vs o) (fun j hj => by injection hj with hj; omega)
theorem drewN_ext (w : World) (n : Nat) : Ext w (w.drewN n) := ⟨rfl, rfl, rfl, Nat.le_refl _, fun _ _ => rfl⟩
/-- a cursor in a later world -/
theorem cur_close {t : TypeId} {w w' : World} {B : Nat} {A : Option Addr} {n c k j : Nat} {l : List UInt8} {q : Bool} {s : Option (List UInt8)} (hB : Blk w B t #[.slice A n c, .int .i64 ((k : Nat) : Int), .bool q]) (hS : SlB w A n c l) (hg : w.grownBy w' (some B)) (z : Int) (hB' : Blk w' B t #[.slice A n c, .int .i64 z, .bool s.isNone]) (hz : z = (j : Int)) (hk : j ≤ n) (hn : n ≤ 140737488355328) (hr : ∀ r, s = some r → r = l.drop j) (hD : LowB D A n) : CurAt t D w' B s := by
  subst hz; exact ⟨A, n, c, l, j, hB', slb_kept hS hB hg, hk, hn, hr, hD⟩
theorem blk_zero {w : World} {g : Nat} {t : TypeId} (h : Blk w g t zcs.toArray) : Blk (w.setCells g 0 zcs) g t (nmc 0) := by
  have := blkN h 0
  rwa [← zcs_nmc] at this ⊢
theorem grown_alloc (w : World) (o : Obj) (row : Option Nat) : w.grownBy (w.alloc o) row := World.grownBy_alloc w o row
set_option maxRecDepth 100000 in
set_option maxHeartbeats 2000000 in
theorem cname_no (B : Nat) (s : Option (List UInt8)) (hs : ∀ r, s = some r → r.length < 8) (w : World) (h : CurAt 156 D w B s) :
    Calls Try.prog 144 #[.pointer (some ⟨B, 0, none⟩)] w fun e w' => e = .returned (.agg (nmc 0)) ∧ CurAt 156 D w' B none ∧ w.grownBy w' (some B) := by
  obtain ⟨A, n, c, l, k, hB, hS, hk, hn, hr, hD⟩ := h
  have hlt := hB.lt
  have hlen := hS.len
  have hA := (Ext.refl w).alloc' (.cells zcs.toArray 26)
  have hB1 := hB.ext hA
  have hc0 : (w.alloc (.cells zcs.toArray 26)).cell? ⟨B, 0, none⟩ = some (.slice A n c) := hB1.cell 0
  have hc1 : (w.alloc (.cells zcs.toArray 26)).cell? ⟨B, 1, none⟩ = some (.int .i64 (k : Int)) := hB1.cell 1
  have hc2 : (w.alloc (.cells zcs.toArray 26)).cell? ⟨B, 2, none⟩ = some (.bool s.isNone) := hB1.cell 2
  have hf2 := hB1.frozen 2
  have HB := Lib.hid hB
  have HB1 := Lib.hid hB1
  have HS := Lib.hid hS
  have HN := Lib.hid (Blk.new w 26 zcs.toArray)
  have HFIN := Lib.hid (fun (W : World) (hW : Ext (w.alloc (.cells zcs.toArray 26)) W) => show CurAt 156 D ((W.setCell ⟨B, 2, none⟩ (.bool true)).setCells w.heap.size 0 zcs) B none ∧ w.grownBy ((W.setCell ⟨B, 2, none⟩ (.bool true)).setCells w.heap.size 0 zcs) (some B) ∧ Blk ((W.setCell ⟨B, 2, none⟩ (.bool true)).setCells w.heap.size 0 zcs) w.heap.size 26 (nmc 0) from by
    have hg : w.grownBy ((W.setCell ⟨B, 2, none⟩ (.bool true)).setCells w.heap.size 0 zcs) (some B) :=
      grown_new (World.grownBy.trans (grown_ext (hA.trans hW) _) (grown_set W B 2 _)) (Nat.le_refl _) _ _
    refine ⟨cur_close hB hS hg _ ?_ rfl hk hn (fun r h => by cases h) hD, hg, ?_⟩
    · exact Blk.setCells_far (((hB1.ext hW).set 2 (.bool true))) (by omega) _ 0
    · exact blk_zero (((Blk.new w 26 zcs.toArray).ext hW).far (p := ⟨B, 2, none⟩) (by simp; omega) _))
  cases s with
  | none =>
    have hc2 : (w.alloc (.cells zcs.toArray 26)).cell? ⟨B, 2, none⟩ = some (.bool true) := hc2
    clear hB hB1 hS hr hlen hs
    go_enter Try.func144, Try.ntmps144
    go_wp2_with fail
    go_quiet (fail)
    go_wp2_with fail
    obtain ⟨f1, f2, f3⟩ := HFIN.out _ (drewN_ext _ nq)
    exact bodyPost_ret (v := .agg (nmc 0)) (retN rfl _ _ w.heap.size 0 rfl f3) rfl ⟨rfl, f1, f2⟩
  | some r =>
    have hc2 : (w.alloc (.cells zcs.toArray 26)).cell? ⟨B, 2, none⟩ = some (.bool false) := hc2
    have hsh : (n : Int) - (k : Int) < 8 := by have h1 := hs r rfl; rw [hr r rfl, List.length_drop, hlen] at h1; omega
    have k0 : (0 : Int) ≤ (k : Int) := by omega
    have k1 : (k : Int) ≤ (n : Int) := by omega
    clear hB hB1 hS hr hlen hs
    go_enter Try.func144, Try.ntmps144
    go_wp2_with fail
    go_quiet (fail)
    go_wp2_with fail
    obtain ⟨f1, f2, f3⟩ := HFIN.out _ (drewN_ext _ nq)
    exact bodyPost_ret (v := .agg (nmc 0)) (retN rfl _ _ w.heap.size 0 rfl f3) rfl ⟨rfl, f1, f2⟩
theorem cname_fin {t : TypeId} {w w1 : World} {B n c k : Nat} {A : Option Addr} {l r : List UInt8} (hB : Blk w B t #[.slice A n c, .int .i64 ((k : Nat) : Int), .bool false]) (hS : SlB w A n c l) (he : Below w.heap.size w w1) (h8 : k + 8 ≤ n) (hn : n ≤ 140737488355328) (hrl : r = l.drop k) (hD : LowB D A n) (vs : List Value) : CurAt t D ((w1.setCell ⟨B, 1, none⟩ (.int .i64 ((k : Int) + 8))).setCells w.heap.size 0 vs) B (some (r.drop 8)) ∧ w.grownBy ((w1.setCell ⟨B, 1, none⟩ (.int .i64 ((k : Int) + 8))).setCells w.heap.size 0 vs) (some B) := by
  have hlt := hB.lt
  have hg : w.grownBy ((w1.setCell ⟨B, 1, none⟩ (.int .i64 ((k : Int) + 8))).setCells w.heap.size 0 vs) (some B) := grown_new (World.grownBy.trans (grown_ext he _) (grown_set w1 B 1 _)) (Nat.le_refl _) _ _
  have hb : Blk ((w1.setCell ⟨B, 1, none⟩ (.int .i64 ((k : Int) + 8))).setCells w.heap.size 0 vs) B t #[.slice A n c, .int .i64 ((k : Int) + 8), .bool (some (r.drop 8)).isNone] := Blk.setCells_far ((hB.ext he).set 1 (.int .i64 ((k : Int) + 8))) (by omega) vs 0
  exact ⟨cur_close hB hS hg _ hb (show (k : Int) + 8 = ((k + 8 : Nat) : Int) by omega) h8 hn (fun r' h => by injection h with h; rw [← h, hrl, List.drop_drop]) hD, hg⟩
theorem rangeNm {w : World} {g : Nat} {t : TypeId} {n : UInt64} (h : Blk w g t (nmc n)) : w.rangeAt g 0 (bcs (nmb n)) := by have := rangeAt_of_blk h; rwa [nmc_toList] at this
theorem splice_whole (cs : List Value) (h : cs.length = 8) : splice zcs 0 cs = cs := by
  unfold splice
  rw [h]
  simp
set_option maxRecDepth 100000 in
set_option maxHeartbeats 4000000 in
theorem cname_yes (B : Nat) (r : List UInt8) (hr8 : 8 ≤ r.length) (w : World) (h : CurAt 156 D w B (some r)) :
    Calls Try.prog 144 #[.pointer (some ⟨B, 0, none⟩)] w fun e w' => e = .returned (.agg (nmc (ofNm (r.take 8)))) ∧ CurAt 156 D w' B (some (r.drop 8)) ∧ w.grownBy w' (some B) := by
  obtain ⟨A, n, c, l, k, hB, hS, hk, hn, hr, hD⟩ := h
  have hlt := hB.lt
  have hlen := hS.len
  have hle := hS.le
  have hcap := hS.cap
  have hrl : r = l.drop k := hr r rfl
  have h8 : k + 8 ≤ n := by rw [hrl, List.length_drop, hlen] at hr8; omega
  have hA := (Ext.refl w).alloc' (.cells zcs.toArray 26)
  have hB1 := hB.ext hA
  obtain ⟨b, o, rfl, hra, hbl⟩ := hS.at (by omega)
  have hc0 : (w.alloc (.cells zcs.toArray 26)).cell? ⟨B, 0, none⟩ = some (.slice (some ⟨b, o, none⟩) n c) := hB1.cell 0
  have hc1 : (w.alloc (.cells zcs.toArray 26)).cell? ⟨B, 1, none⟩ = some (.int .i64 (k : Int)) := hB1.cell 1
  have hc2 : (w.alloc (.cells zcs.toArray 26)).cell? ⟨B, 2, none⟩ = some (.bool false) := hB1.cell 2
  have hf1 := hB1.frozen 1
  have HB := Lib.hid hB
  have HB1 := Lib.hid hB1
  have HS := Lib.hid hS
  have HN := Lib.hid (Blk.new w 26 zcs.toArray)
  obtain ⟨cs, hcs⟩ : ∃ cs, cs = bcs ((l.drop k).take 8) := ⟨_, rfl⟩
  have hl8 : cs.length = 8 := by rw [hcs, bcs_length, List.length_take, List.length_drop, hlen]; omega
  have HONE := Lib.hid (show ∀ u ∈ cs, u.oneCell' = true by rw [hcs]; exact bcs_one _)
  have HSRC := Lib.hid (fun (W : World) (hW : Ext w W) => show ∀ j v, cs[j]? = some v → W.cell? ((⟨b, o + k, none⟩ : Addr).add j) = some v from by
    intro j v hv
    have hx := rangeAt_keep hra (hW.block b hbl)
    have hy := rangeAt_take (k := 8) (rangeAt_drop (k := k) hx)
    rw [Addr.add_mid]
    refine hy j v ?_
    rw [← hv, hcs]
    simp [bcs])
  have HMIN := Lib.hid (show cs.length = Nat.min (n - k) 8 by rw [hl8]; exact (Nat.min_eq_right (by omega)).symm)
  have HFIT := Lib.hid (show 0 + cs.length ≤ zcs.length by rw [hl8]; decide)
  have HCS := Lib.hid (show cs.toArray = nmc (ofNm (r.take 8)) by rw [hcs, ← hrl]; exact nmc_of _ (by rw [List.length_take]; omega))
  have HL8 := Lib.hid hl8
  have hnsh : decide ((n : Int) - (k : Int) < 8) = false := decide_eq_false (by omega)
  have k0 : (0 : Int) ≤ (k : Int) := by omega
  have k1 : (k : Int) ≤ (n : Int) := by omega
  have k2 : (n : Int) ≤ (c : Int) := by omega
  have hck : ¬ c = k := by omega
  have HA := Lib.hid hA
  have HRL := Lib.hid hrl
  clear hB hB1 hS hr hlen hra hbl hcs hA hrl hr8
  go_enter Try.func144, Try.ntmps144
  go_wp2_with fail
  go_quiet (fail)
  go_wp2_with fail
  go_region_law ((refine step_copy_splice rfl (.tmp 28) (.tmp 37) _ _ rfl 5 Try.underlying33 (by kernel_rfl) (some ⟨w.heap.size, 0, none⟩) (some ⟨b, o + k, none⟩) 8 8 (n - k) (c - k) (by rfl) (by rfl) w.heap.size 0 zcs 26 HN.out cs HMIN.out (fun _ => ⟨rfl, _, rfl, HSRC.out _ (HA.out.trans (drewN_ext _ _).drew')⟩) HFIT.out HONE.out w.heap.size w (HA.out.trans (drewN_ext _ _).drew') (Nat.le_refl _) ?_; intro w1 hb1 he1; have q0 := (HB.out.ext he1).cell 0; have q1 := (HB.out.ext he1).cell 1; have q2 := (HB.out.ext he1).frozen 1))
  all_goals (
    clear q0 q1 q2
    have hBN : Blk w1 w.heap.size 26 (nmc (ofNm (r.take 8))) := by have := hb1.out; rwa [splice_whole _ HL8.out, HCS.out] at this
    have hkw : IntKind.i64.wrap ((k : Int) + 8) = (k : Int) + 8 := by rw [IntKind.wrap_i64]; omega
    rw [hkw]
    have hBN2 : Blk (w1.setCell ⟨B, 1, none⟩ (.int .i64 ((k : Int) + 8))) w.heap.size 26 (nmc (ofNm (r.take 8))) := hBN.far (p := ⟨B, 1, none⟩) (by simp; omega) _
    have hrg := rangeNm hBN2
    have hth : (w1.setCell ⟨B, 1, none⟩ (.int .i64 ((k : Int) + 8))).there w.heap.size 0 8 := by have := thereN' hBN2 0; rwa [nmc_size] at this
    have HFIN := Lib.hid (cname_fin (r := r) HB.out HS.out he1 h8 hn HRL.out hD (nmc (ofNm (r.take 8))).toList)
    have HBN := Lib.hid hBN2
    clear hBN hBN2 hkw hb1 he1 hc0 hc1 hc2 hf1
    go_wp2_with (first | (with_reducible refine wpList_loadN rfl (.tmp 2) rfl w.heap.size 0 rfl (ofNm (r.take 8)) hrg ?_) | (with_reducible refine wpList_storeN rfl (.tmp 2) (.tmp 42) rfl w.heap.size 0 (ofNm (r.take 8)) rfl rfl hth ?_))
    exact bodyPost_ret (v := .agg (nmc (ofNm (r.take 8)))) (retN rfl _ _ w.heap.size _ rfl (blkN' HBN.out _)) rfl ⟨rfl, HFIN.out.1, HFIN.out.2⟩)
theorem cname_any (B : Nat) (s : Option (List UInt8)) (w : World) (h : CurAt 156 D w B s) :
    Calls Try.prog 144 #[.pointer (some ⟨B, 0, none⟩)] w fun e w' => e = .returned (.agg (nmc (rName s))) ∧ CurAt 156 D w' B (rRest 8 s) ∧ w.grownBy w' (some B) := by
  cases s with
  | none => exact cname_no B none (fun r h => by cases h) w h
  | some r =>
    by_cases h8 : r.length < 8
    · simp only [rName, rRest, if_pos h8]; exact cname_no B (some r) (fun r' h => by injection h with h; rw [← h]; exact h8) w h
    · simp only [rName, rRest, if_neg h8]; exact cname_yes B r (by omega) w h
end Go.Proofs.Ytjlnmpjffogpdaa
