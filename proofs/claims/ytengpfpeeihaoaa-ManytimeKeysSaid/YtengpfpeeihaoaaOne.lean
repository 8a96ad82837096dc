import Derived.Test.YtengpfpeeihaoaaNm
namespace Go.Proofs.Ytengpfpeeihaoaa
open Go.RowKit
set_option linter.unusedVariables false
set_option linter.unusedSimpArgs false
attribute [local go_sem ↓] Go.wp_at_zero Go.wp_at_succ

theorem hmk144 (w : World) : (Instr.makeSlice 22 (.int .i64 0) (.int .i64 144)).run Try.prog w = .ok (.slice (some ⟨w.heap.size, 0, none⟩) 0 144) (w.alloc (.cells (madeCells (Value.int .u8 0).cells 144) 5)) := by
  obtain ⟨i, hi, hz, hs, hby⟩ := bytesE.get
  have h := run_make (P := Try.prog) w 22 5 i (.int .u8 0) bytesE.ut hi hz .i64 .i64 0 144 (by omega) (by omega) (by rw [hby]; omega) (by omega)
  simpa [hs] using h
theorem flat_take (ns : List UInt64) (k : Nat) (hk : k < ns.length) : (ns.take (k + 1)).flatMap nmb = (ns.take k).flatMap nmb ++ nmb (ns.getD k 0) := by
  have e : ns[k] = ns.getD k 0 := by simp [hk]
  rw [List.take_succ_eq_append_getElem hk, List.flatMap_append, e]; simp
set_option maxRecDepth 100000 in
set_option maxHeartbeats 1000000 in
theorem public_any (A : Option Addr) (n c : Nat) (ns : List UInt64) (w : World) (h : SlN w A n c ns) (hm : n ≤ 1000000) :
    Calls Try.prog 100 #[.slice A n c] w fun e w' => e = .returned (.agg (nmc (tagU 34 (ns.flatMap nmb)))) ∧ Ext w w' := by
  have hmk := hmk144
  have hlen := h.len
  go_enter Try.func100, Try.ntmps100
  go_wp2_with fail
  go_loopw [3, 9] (fun o i wr => ∃ (k : Nat) (A' : Option Addr) (c' : Nat), k ≤ n ∧ i = .int .i64 (k : Int) ∧ o = .slice A' (8 * k) c' ∧ OwnB wr (w.heap.size + 1) 5 A' (8 * k) c' ((ns.take k).flatMap nmb) ∧ Below (w.heap.size + 1) (w.alloc (.cells zcs.toArray 61)) wr ∧ w.heap.size + 1 ≤ wr.heap.size) (fun _ i _ => n - (intOf i).toNat)
  case atStart => exact ⟨0, _, _, by omega, rfl, rfl, OwnB.made _ _ _ 144 _ (by simp) (Nat.le_refl _) (by omega) (size_madeCells _ _), Below.alloc (Below.refl _ _) (by simp) _, by simp⟩
  case round =>
    obtain ⟨k, A', c', hk, rfl, rfl, hO, hB, hsz⟩ := hrel
    by_cases hlt : k < n
    · have hrk := h.ext (((Ext.refl w).alloc' _).trans (by simpa [Ext] using hB))
      obtain ⟨b, o, rfl, hra, hbl⟩ := hrk.at (by omega)
      have hnm := name_at hra (k := k) (by omega)
      have HF := Lib.hid (flat_take ns k (by omega))
      generalize ns.getD k 0 = x at *
      generalize (ns.take k).flatMap nmb = l at *
      go_wp2_with (first | (with_reducible refine wpList_loadN rfl (.tmp 11) rfl b (o + k * 8) rfl x hnm ?_) | (refine wpList_storeNew rfl (.tmp 5) (.tmp 12) rfl wr.heap.size x rfl rfl rfl ?_) | (at_builtin; go_must (refine wpList_appB bytesE rfl (.tmp 13) (.tmp 14) rfl (w.heap.size + 1) _ _ _ l rfl (hO.alloc _) _ _ _ (nmb x) rfl ?r1 ?b1 ?c1 (w.alloc (.cells zcs.toArray 61)) ?w1 ?_)))
      case r1 => exact SlB.blkN (Blk.new wr _ (nmc x))
      case b1 => omega
      case c1 => simp; omega
      case w1 => exact Below.alloc hB hsz _
      intro A1 c1 w1 ho1 hw1 hs1
      go_wp2_with fail
      go_roundw
      case rel => exact ⟨k + 1, A1, c1, by omega, by go_num, by go_num, by rw [HF.out]; exact ho1, hw1, by omega⟩
      case measure => simp [intOf]; omega
    · obtain rfl : k = n := by omega
      have HF := Lib.hid (show (ns.take k).flatMap nmb = ns.flatMap nmb by rw [List.take_of_length_le (by omega)])
      rw [HF.out] at hO
      clear HF
      go_wp2_with fail
      refine (tagged_any 34 _ _ _ _ _ hO.sl (by omega)).mono ?_
      rintro e w3 ⟨rfl, he3⟩
      have hE3 : Below (w.heap.size + 1) (w.alloc (.cells zcs.toArray 61)) w3 := Below.trans hB (he3.mono hsz)
      have hb0 : Blk w3 w.heap.size 61 zcs.toArray := (Blk.new w _ _).below hE3 (by omega)
      go_wp2_with (with_reducible refine wpList_storeN rfl _ _ rfl w.heap.size 0 _ rfl rfl (thereZ hb0) ?_)
      refine bodyPost_ret (v := .agg (nmc (tagU 34 (ns.flatMap nmb)))) (retN rfl _ _ w.heap.size _ rfl (blkN hb0 _)) rfl ⟨rfl, Below.setCells' (((Ext.refl w).alloc' _).trans (by simpa [Ext] using hE3)) (Nat.le_refl _) _ _⟩
set_option maxRecDepth 100000 in
set_option maxHeartbeats 1000000 in
theorem refEnds_any (A : Option Addr) (n c : Nat) (ns : List UInt64) (w : World) (h : SlN w A n c ns) (hm : n ≤ 1000000) :
    Calls Try.prog 82 #[.slice A n c] w fun e w' => e = .returned (.agg (nmc (tagU 34 (ns.flatMap nmb)))) ∧ Ext w w' := by
  have hlen := h.len
  go_enter Try.func82, Try.ntmps82
  go_wp2_with fail
  go_loopw [3, 4] (fun o i wr => ∃ (k : Nat) (A' : Option Addr) (c' : Nat), k ≤ n ∧ i = .int .i64 (k : Int) ∧ o = .slice A' (8 * k) c' ∧ OwnB wr (w.heap.size + 1) 5 A' (8 * k) c' ((ns.take k).flatMap nmb) ∧ Below (w.heap.size + 1) (w.alloc (.cells zcs.toArray 61)) wr ∧ w.heap.size + 1 ≤ wr.heap.size) (fun _ i _ => n - (intOf i).toNat)
  case atStart => exact ⟨0, _, _, by omega, rfl, rfl, OwnB.nil _ _ _, Below.refl _ _, by simp⟩
  case round =>
    obtain ⟨k, A', c', hk, rfl, rfl, hO, hB, hsz⟩ := hrel
    by_cases hlt : k < n
    · have hrk := h.ext (((Ext.refl w).alloc' _).trans (by simpa [Ext] using hB))
      obtain ⟨b, o, rfl, hra, hbl⟩ := hrk.at (by omega)
      have hnm := name_at hra (k := k) (by omega)
      have HF := Lib.hid (flat_take ns k (by omega))
      generalize ns.getD k 0 = x at *
      generalize (ns.take k).flatMap nmb = l at *
      go_wp2_with (at_builtin; go_must (refine wpList_appB bytesE rfl (.tmp 11) (.tmp 15) rfl (w.heap.size + 1) _ _ _ l rfl hO _ _ _ (nmb x) rfl ?r1 ?b1 hsz (w.alloc (.cells zcs.toArray 61)) hB ?_))
      case r1 => exact ⟨nmb_length x, Nat.le_refl _, by omega, .inr ⟨b, o + k * 8, rfl, hnm⟩⟩
      case b1 => omega
      intro A1 c1 w1 ho1 hw1 hs1
      go_wp2_with fail
      go_roundw
      case rel => exact ⟨k + 1, A1, c1, by omega, by go_num, by go_num, by rw [HF.out]; exact ho1, hw1, by omega⟩
      case measure => simp [intOf]; omega
    · obtain rfl : k = n := by omega
      have HF := Lib.hid (show (ns.take k).flatMap nmb = ns.flatMap nmb by rw [List.take_of_length_le (by omega)])
      rw [HF.out] at hO
      clear HF
      go_wp2_with fail
      refine (refTagged_any 34 _ _ _ _ _ hO.sl (by omega)).mono ?_
      rintro e w3 ⟨rfl, he3⟩
      have hE3 : Below (w.heap.size + 1) (w.alloc (.cells zcs.toArray 61)) w3 := Below.trans hB (he3.mono hsz)
      have hb0 : Blk w3 w.heap.size 61 zcs.toArray := (Blk.new w _ _).below hE3 (by omega)
      go_wp2_with (with_reducible refine wpList_storeN rfl _ _ rfl w.heap.size 0 _ rfl rfl (thereZ hb0) ?_)
      refine bodyPost_ret (v := .agg (nmc (tagU 34 (ns.flatMap nmb)))) (retN rfl _ _ w.heap.size _ rfl (blkN hb0 _)) rfl ⟨rfl, Below.setCells' (((Ext.refl w).alloc' _).trans (by simpa [Ext] using hE3)) (Nat.le_refl _) _ _⟩
end Go.Proofs.Ytengpfpeeihaoaa
