/- The empty payload, genesis and record; awake. -/
import Derived.Test.YtfklmcfanhnfpaaBk5
namespace Go.Proofs.Ytfklmcfanhnfpaa
open Go.RowKit
set_option linter.unusedVariables false
set_option linter.unusedSimpArgs false
attribute [local go_sem ↓] Go.wp_at_zero Go.wp_at_succ

set_option maxRecDepth 100000 in
set_option maxHeartbeats 1000000 in
theorem encPayload_empty (w : World) :
    Calls Try.prog 18 #[.agg #[.slice none 0 0]] w fun e w' => ∃ A c, e = .returned (.tuple #[.slice A 2 c, .int .i64 0]) ∧ SlB w' A 2 c [2, 0] ∧ Ext w w' := by
  have HS := Lib.hid (SlB.new2 (w.alloc (.cells #[.slice none 0 0] 31)) 5 2 0 2 0 (w.heap.size + 1) (by simp) rfl rfl)
  have HE := Lib.hid (((Ext.refl w).alloc' (.cells #[.slice none 0 0] 31)).alloc' (.cells #[.int .u8 2, .int .u8 0] 5))
  go_enter Try.func18, Try.ntmps18
  go_wp2_with fail
  go_loopw [21, 4] (fun i v wr => i = .int .i64 0 ∧ v = .slice (some ⟨w.heap.size + 1, 0, none⟩) 2 2 ∧ wr = (w.alloc (.cells #[.slice none 0 0] 31)).alloc (.cells #[.int .u8 2, .int .u8 0] 5)) (fun i _ _ => 0)
  case atStart => exact ⟨rfl, rfl, rfl⟩
  case round =>
    obtain ⟨rfl, rfl, rfl⟩ := hrel
    go_wp2_with fail
    go_ret2
    exact ⟨_, _, rfl, HS.out, HE.out⟩
set_option maxRecDepth 100000 in
set_option maxHeartbeats 1000000 in
theorem valGenesis_empty (w : World) :
    Calls Try.prog 62 #[.agg #[.int .i64 0, .int .i64 0, .slice none 0 0, .slice none 0 0, .slice none 0 0]] w fun e w' => e = .returned (.int .i64 1) ∧ Ext w w' := by
  have HE := Lib.hid ((Ext.refl w).alloc' (.cells #[.int .i64 0, .int .i64 0, .slice none 0 0, .slice none 0 0, .slice none 0 0] 50))
  go_enter Try.func62, Try.ntmps62
  go_wp2_with fail
  go_quiet (fail)
  go_wp2_with fail
  go_ret
  exact ⟨rfl, HE.out.trans (drewN_ext _ _)⟩
set_option maxRecDepth 100000 in
set_option maxHeartbeats 1000000 in
theorem encGenesis_empty (w : World) :
    Calls Try.prog 26 #[.agg #[.int .i64 0, .int .i64 0, .slice none 0 0, .slice none 0 0, .slice none 0 0]] w fun e w' => e = .returned (.tuple #[.slice none 0 0, .int .i64 1]) ∧ Ext w w' := by
  have HE := Lib.hid ((Ext.refl w).alloc' (.cells #[.int .i64 0, .int .i64 0, .slice none 0 0, .slice none 0 0, .slice none 0 0] 50))
  go_enter Try.func26, Try.ntmps26
  go_wp2_with fail
  refine (valGenesis_empty _).mono ?_
  rintro e w1 ⟨rfl, he1⟩
  go_wp2_with fail
  go_ret2
  exact ⟨rfl, HE.out.trans he1⟩
abbrev recC0 : Array Value := #[.int .u8 0, .int .u8 0, .int .u8 0, .int .u8 0, .int .u8 0, .int .u8 0, .int .u8 0, .int .u8 0, .slice none 0 0, .slice none 0 0, .int .i64 0]
theorem egRec : ∀ args w, (callFunc 115 args).run Try.prog w = .ok (.enter 115 args) w := fun _ _ => by kernel_rfl
set_option maxRecDepth 100000 in
set_option maxHeartbeats 1000000 in
theorem valRecord_empty (w : World) :
    Calls Try.prog 93 #[.agg recC0] w fun e w' => e = .returned (.bool true) ∧ Ext w w' := by
  have HF := Lib.hid (validators_any 115 egRec (.pointer (some ⟨w.heap.size, 0, none⟩)) (fun _ => 0) 0 (by omega) (w.alloc (.cells recC0 81)) (fun i hi => by omega))
  rw [show okIds (fun _ => 0) 0 = true from okIds_yes (fun i hi => by omega)] at HF
  have HE := Lib.hid ((Ext.refl w).alloc' (.cells recC0 81))
  go_enter Try.func93, Try.ntmps93
  go_wp2_with fail
  refine HF.out.mono ?_
  rintro e w1 ⟨rfl, rfl⟩
  go_wp2_with fail
  go_loopw [3] (fun i wr => i = .int .i64 1 ∧ wr = w.alloc (.cells recC0 81)) (fun i _ => 0)
  case atStart => exact ⟨rfl, rfl⟩
  case round =>
    obtain ⟨rfl, rfl⟩ := hrel
    go_wp2_with fail
    go_ret
    exact ⟨rfl, HE.out⟩
theorem appendUint_zero (A : Option Addr) (n c : Nat) (l : List UInt8) (wd : Nat) (hwd : wd ≤ 8) (w : World) (h : SlB w A n c l) (hn : n ≤ 140737488351232) :
    Calls Try.prog 63 #[.slice A n c, .int .u64 0, .int .i64 (wd : Int)] w fun e w' => ∃ A' c', e = .returned (.slice A' (n + wd) c') ∧ OwnB w' w.heap.size 5 A' (n + wd) c' (l ++ beBytes wd 0) ∧ Ext w w' :=
  appendUint_any A n c l 0 wd hwd w h hn
set_option maxRecDepth 100000 in
set_option maxHeartbeats 1000000 in
theorem appendNames_empty (A : Option Addr) (n c : Nat) (l : List UInt8) (w : World) (h : SlB w A n c l) (hn : n ≤ 140737488351232) :
    Calls Try.prog 94 #[.slice A n c, .slice none 0 0] w fun e w' => ∃ A' c', e = .returned (.tuple #[.slice A' (n + 1) c', .bool true]) ∧ SlB w' A' (n + 1) c' (l ++ [0]) ∧ Ext w w' := by
  have HA := Lib.hid (appendUint_zero A n c l 1 (by omega) w h hn)
  clear h
  go_enter Try.func94, Try.ntmps94
  go_wp2_with fail
  refine HA.out.mono ?_
  rintro e w1 ⟨A1, c1, rfl, hO1, he1⟩
  have HO1 := Lib.hid hO1
  have HE1 := Lib.hid he1
  clear hO1 he1
  go_wp2_with fail
  go_loopw [19, 6] (fun i v wr => i = .int .i64 0 ∧ v = .slice A1 (n + 1) c1 ∧ w1 = wr) (fun i _ _ => 0)
  case atStart => exact ⟨rfl, rfl, rfl⟩
  case round =>
    obtain ⟨rfl, rfl, rfl⟩ := hrel
    go_wp2_with fail
    go_ret2
    exact ⟨A1, c1, rfl, HO1.out.sl, HE1.out⟩
set_option maxRecDepth 100000 in
set_option maxHeartbeats 4000000 in
theorem encRecord_empty (w : World) :
    Calls Try.prog 49 #[.agg recC0] w fun e w' => ∃ A c, e = .returned (.tuple #[.slice A 13 c, .int .i64 0]) ∧ Ext w w' := by
  have HE := Lib.hid ((Ext.refl w).alloc' (.cells recC0 81))
  have HB := Lib.hid (Blk.new w 81 recC0)
  go_enter Try.func49, Try.ntmps49
  go_wp2_with fail
  refine (valRecord_empty _).mono ?_
  rintro e w1 ⟨rfl, he1⟩
  have HB1 := Lib.hid (HB.out.ext he1)
  have HE1 := Lib.hid (HE.out.trans he1)
  have HP := Lib.hid (fun (W : World) (hW : Ext w1 W) => (show SlB W (some ⟨w.heap.size, 0, none⟩) 8 8 (nmb 0) from ⟨nmb_length 0, Nat.le_refl _, by omega, .inr ⟨_, 0, rfl, by
    have := rangeAt_take (k := 8) (rangeAt_of_blk (HB1.out.ext hW)); rw [nmb_zero]; exact this⟩⟩))
  clear he1
  go_wp2_with (at_builtin; go_must (refine wpList_appB bytesE rfl (.tmp 10) (.tmp 12) rfl w1.heap.size _ _ _ [4] rfl (own_lit1 w1 w1.heap.size _ _ 4 _ rfl (Nat.le_refl _) rfl) _ 8 8 (nmb 0) rfl (HP.out _ ((Ext.refl w1).alloc' _)) (by omega) ((Ext.refl w1).alloc' _).size w1 ((Ext.refl w1).alloc' _) ?_))
  intro A2 c2 w2 hO2 hE2 hs2
  have HO2 := Lib.hid hO2
  have HE2 := Lib.hid hE2
  have hX := (HB1.out.ext hE2)
  have HX := Lib.hid hX
  have q0 : w2.cell? ⟨w.heap.size, 8, none⟩ = some (.slice none 0 0) := hX.cell 8
  have q1 : w2.cell? ⟨w.heap.size, 9, none⟩ = some (.slice none 0 0) := hX.cell 9
  have q2 : w2.cell? ⟨w.heap.size, 10, none⟩ = some (.int .i64 0) := hX.cell 10
  clear hO2 hE2 hX
  have HQ := Lib.hid (fun (W : World) (h : Ext w2 W) => show W.cell? ⟨w.heap.size, 8, none⟩ = some (.slice none 0 0) ∧ W.cell? ⟨w.heap.size, 10, none⟩ = some (.int .i64 0) from ⟨(HX.out.ext h).cell 8, (HX.out.ext h).cell 10⟩)
  have HQ9 := Lib.hid (fun (W : World) (h : Ext w2 W) => show W.cell? ⟨w.heap.size, 8, none⟩ = some (.slice none 0 0) ∧ W.cell? ⟨w.heap.size, 9, none⟩ = some (.slice none 0 0) from ⟨(HX.out.ext h).cell 8, (HX.out.ext h).cell 9⟩)
  have HA := Lib.hid (fun (W : World) (h : Ext w2 W) => show Calls Try.prog 63 #[.slice A2 9 c2, .int .u64 0, .int .i64 2] W (fun e w' => ∃ A' c', e = .returned (.slice A' 11 c') ∧ OwnB w' W.heap.size 5 A' 11 c' ([4] ++ nmb 0 ++ beBytes 2 0) ∧ Ext W w') from appendUint_zero A2 9 c2 _ 2 (by omega) W (HO2.out.sl.ext h) (by omega))
  have hXd := (Ext.refl w2).drew'
  have hXa := ((Ext.refl w2).alloc' (.cells #[.int .u8 0] 5)).drew'
  have HNa := Lib.hid ((SlB.new1 w2 5 0 0 w2.heap.size rfl rfl).ext (Ext.refl _).drew')
  clear q0 q1 q2
  have uw : IntKind.u64.wrap 0 = 0 := by rw [IntKind.wrap_u64]; rfl
  have bw : IntKind.u8.wrap 0 = 0 := by rw [IntKind.wrap_u8]; rfl
  go_wp2_with fail
  go_region_held3 (fun w' => w'.cell? ⟨w.heap.size, 8, none⟩ = some (.slice none 0 0) ∧ w'.cell? ⟨w.heap.size, 10, none⟩ = some (.int .i64 0)) (first | (with_reducible exact HQ.out _ hXd) | (with_reducible exact HQ.out _ hXa) | (with_reducible exact HQ.out _ hX4) | (with_reducible exact HQ.out _ hX3) | (with_reducible exact HQ.out _ (hX3.alloc' _)) | fail "CELLS") (first | (go_at_call 63; (with_reducible refine (HA.out _ hXd).mono ?_); rintro e w3 ⟨A3, c3, rfl, hO3, he3⟩; have hX3 := hXd.trans he3; have HO3 := Lib.hid (show OwnB w3 w2.heap.size _ _ _ _ _ from hO3); clear hO3) | (go_at_call 63; (with_reducible refine (HA.out _ hXa).mono ?_); rintro e w3 ⟨A3, c3, rfl, hO3, he3⟩; have hX3 := hXa.trans he3; have HN3 := Lib.hid (HNa.out.ext he3); have HO3 := Lib.hid (show OwnB w3 w2.heap.size _ _ _ _ _ from own_mono hO3 (by simp)); clear hO3) | (refine step_appB bytesE rfl (.tmp 18) (.tmp 23) rfl w2.heap.size A3 11 c3 _ (by rfl) HO3.out (some ⟨w2.heap.size, 0, none⟩) 1 1 [0] (by rfl) HN3.out (by omega) hX3.size w2 hX3 ?_; intro A4 c4 w4 hO4 hX4 hs4; have HO4 := Lib.hid hO4; clear hO4) | (refine step_appB bytesE rfl (.tmp 18) (.tmp 23) rfl w2.heap.size A3 11 c3 _ (by rfl) (HO3.out.alloc _) (some ⟨w3.heap.size, 0, none⟩) 1 1 [0] (by rfl) (SlB.new1 _ _ _ _ _ rfl rfl) (by omega) (hX3.alloc' _).size w2 (hX3.alloc' _) ?_; intro A4 c4 w4 hO4 hX4 hs4; have HO4 := Lib.hid hO4; clear hO4) | fail "ARM")
  all_goals (
    obtain ⟨q0, q1⟩ := HQ9.out _ hX4
    have HXX := Lib.hid (Ext.trans HE1.out (Ext.trans HE2.out hX4))
    clear hX4 hX3 hXd hXa
    go_wp2_with fail
    go_loopw [28, 4] (fun i v wr => i = .int .i64 0 ∧ v = .slice A4 12 c4 ∧ w4 = wr) (fun i _ _ => 0)
    case atStart => exact ⟨rfl, rfl, rfl⟩
    case round =>
      obtain ⟨rfl, rfl, rfl⟩ := hrel
      go_wp2_with fail
      refine (appendNames_empty _ 12 _ _ _ HO4.out.sl (by omega)).mono ?_
      rintro e w5 ⟨A5, c5, rfl, hS5, he5⟩
      go_wp2_with fail
      go_ret2
      exact ⟨A5, c5, rfl, HXX.out.trans he5⟩)
end Go.Proofs.Ytfklmcfanhnfpaa
