/- signed.Encode (the program's). -/
import Derived.Test.YtbfepgjeecndiaaGreatJ18
namespace Go.Proofs.YtbfepgjeecndiaaGreat
set_option maxRecDepth 100000
set_option maxHeartbeats 4000000
open Go.RowKit
set_option linter.unusedVariables false
set_option linter.unusedSimpArgs false
attribute [local go_sem ↓] Go.wp_at_zero Go.wp_at_succ
theorem size2_any (w : World) : Calls Tryz.prog 72 #[.int .i64 2] w fun e w' => e = .returned (.int .i64 370) ∧ w = w' := by
 go_enter Tryz.func72, Tryz.ntmps72
 go_wp2_with fail
 go_ret
 exact ⟨rfl, rfl⟩
def vldSg (S : SgR) : Bool := vldVt S.v && decide (S.n = 370)
def encSg (S : SgR) : List UInt8 := encVt S.v ++ S.sig
theorem sgEnc_no1 (S : SgR) (w : World) (hS : S.ok w) (h : vldVt S.v = false) : Calls Tryz.prog 38 #[.agg (sgA S)] w fun e w' => e = .returned (.tuple #[.slice none 0 0, .bool false]) ∧ Ext w w' := by
 have HE := Lib.hid ((Ext.refl w).alloc' (.cells (sgA S) 48))
 have HB := Lib.hid (Blk.new w 48 (sgA S))
 obtain ⟨W0, hW0⟩ : ∃ W0, w.alloc (.cells (sgA S) 48) = W0 := ⟨_, rfl⟩
 rw [hW0] at HE HB
 have HS := Lib.hid (hS.ext HE.out)
 have hr := sg_vote HB.out
 clear hS
 go_enter Tryz.func38, Tryz.ntmps38
 go_wp2_with (first | (with_reducible refine wpList_loadVt rfl (.tmp 7) rfl w.heap.size 0 rfl S.v hr ?_))
 refine (voteEnc_no S.v h W0).mono ?_
 rintro e w1 ⟨rfl, he1⟩
 have HX := Lib.hid (HE.out.trans he1)
 clear he1 hr h
 go_wp2_with fail
 refine wp_region_plan (S := fun W => Ext w1 W) (by kernel_rfl) (by kernel_rfl) ((Ext.refl w1).drew') ?_
 (refine pr 0 (oi := ⟨some 12, .move (.tmp 5), 4, "signed.go:44", #[], none⟩) (v := ?_) rfl (by kernel_rfl) (by rfl) ?h ?_; case h => (intro W hSW; go_simp <;> with_reducible rfl))
 try simp only [lays]
 (refine pr 1 (oi := ⟨some 13, .unOp .not 4 (.tmp 12), 4, "signed.go:44", #[⟨0, .data⟩], none⟩) (v := ?_) rfl (by kernel_rfl) (by rfl) ?h ?_; case h => (intro W hSW; go_simp <;> with_reducible rfl))
 try simp only [lays]
 (refine pr 2 (oi := ⟨some 14, .move (.tmp 13), 4, "signed.go:44", #[⟨1, .data⟩], none⟩) (v := ?_) rfl (by kernel_rfl) (by rfl) ?h ?_; case h => (intro W hSW; go_simp <;> with_reducible rfl))
 try simp only [lays]
 refine plan_oi (i := 3) (oi := ⟨some 15, .fieldAddr 48 (.tmp 1) 1, 0, "signed.go:44", #[⟨2, .guard⟩], some (2, false)⟩) rfl (by kernel_rfl) (by kernel_rfl) ?_
 first | (refine ⟨?_, (fx_read (Or.inl ⟨by rfl, ?hy3⟩)), ?_⟩; case hy3 => (intro W hSW; go_simp <;> with_reducible rfl)) | (refine ⟨undef, fx_skip (by rfl), ?_⟩)
 try simp only [lays]
 refine plan_oi (i := 4) (oi := ⟨some 16, .load 28 (.tmp 15), 28, "signed.go:44", #[⟨3, .data⟩, ⟨2, .guard⟩], some (2, false)⟩) rfl (by kernel_rfl) (by kernel_rfl) ?_
 first | (refine ⟨?_, (fx_read (Or.inl ⟨by rfl, ?hy4⟩)), ?_⟩; case hy4 => (intro W hSW; go_simp <;> with_reducible rfl)) | (refine ⟨undef, fx_skip (by rfl), ?_⟩)
 try simp only [lays]
 refine plan_oi (i := 5) (oi := ⟨some 17, .call { callee := .builtin .len, args := #[.tmp 16], argTypes := #[28] }, 3, "signed.go:44", #[⟨4, .data⟩, ⟨2, .guard⟩], some (2, false)⟩) rfl (by kernel_rfl) (by kernel_rfl) ?_
 first | (refine ⟨?_, (fx_read (Or.inl ⟨by rfl, ?hy5⟩)), ?_⟩; case hy5 => (intro W hSW; go_simp <;> with_reducible rfl)) | (refine ⟨undef, fx_skip (by rfl), ?_⟩)
 try simp only [lays]
 refine plan_oi (i := 6) (oi := ⟨some 18, .call { callee := .value (.func 72), args := #[.const (.int .i64 2)], argTypes := #[3] }, 3, "signed.go:44", #[⟨2, .chain⟩, ⟨2, .guard⟩], some (2, false)⟩) rfl (by kernel_rfl) (by kernel_rfl) ?_
 first | (refine ⟨?_, (fx_call (by rfl) (fun W hSW K hK => ?hy6)), ?_⟩; case hy6 => (go_simp; go_at_call 72; (with_reducible refine (size2_any W).mono ?_); rintro e w1 ⟨rfl, he1⟩; exact hK.out _ (hSW))) | (refine ⟨undef, fx_skip (by rfl), ?_⟩)
 try simp only [lays]
 refine plan_oi (i := 7) (oi := ⟨some 19, .binOp .neq 3 (.tmp 17) (.tmp 18) 3, 4, "signed.go:44", #[⟨5, .data⟩, ⟨6, .data⟩, ⟨2, .guard⟩], some (2, false)⟩) rfl (by kernel_rfl) (by kernel_rfl) ?_
 first | (refine ⟨?_, (fx_read (Or.inl ⟨by rfl, ?hy7⟩)), ?_⟩; case hy7 => (intro W hSW; go_simp <;> with_reducible rfl)) | (refine ⟨undef, fx_skip (by rfl), ?_⟩)
 try simp only [lays]
 (refine pr 8 (oi := ⟨some 20, .pick (.tmp 14) (.const (.bool true)) (.tmp 19), 4, "signed.go:44", #[⟨2, .data⟩, ⟨7, .data⟩], none⟩) (v := ?_) rfl (by kernel_rfl) (by rfl) ?h ?_; case h => (intro W hSW; go_simp <;> with_reducible rfl))
 try simp only [lays]
 refine Plan.done (by kernel_rfl) (fun W hSW => ?_)
 have HX2 := Lib.hid (HX.out.trans hSW)
 clear hSW
 go_wp2_with fail
 go_ret2
 exact ⟨rfl, HX2.out⟩
theorem sgEnc_no2 (S : SgR) (w : World) (hS : S.ok w) (h : vldVt S.v = true) (hn : ¬ S.n = 370) : Calls Tryz.prog 38 #[.agg (sgA S)] w fun e w' => e = .returned (.tuple #[.slice none 0 0, .bool false]) ∧ Ext w w' := by
 have HE := Lib.hid ((Ext.refl w).alloc' (.cells (sgA S) 48))
 have HB := Lib.hid (Blk.new w 48 (sgA S))
 obtain ⟨W0, hW0⟩ : ∃ W0, w.alloc (.cells (sgA S) 48) = W0 := ⟨_, rfl⟩
 rw [hW0] at HE HB
 have HS := Lib.hid (hS.ext HE.out)
 have hr := sg_vote HB.out
 clear hS
 have hl : (S.n : Int) ≤ 9223372036854775807 := by have := HS.out.sig.le; have := HS.out.sig.cap; omega
 have hn1 : ((S.n : Int) != 370) = true := by simp; omega
 clear hn
 go_enter Tryz.func38, Tryz.ntmps38
 go_wp2_with (first | (with_reducible refine wpList_loadVt rfl (.tmp 7) rfl w.heap.size 0 rfl S.v hr ?_))
 refine (voteEnc_yes S.v h W0).mono ?_
 rintro e w1 ⟨A1, c1, rfl, hO1, he1⟩
 have HX := Lib.hid (HE.out.trans he1)
 have HB1 := Lib.hid (HB.out.ext he1)
 have HS1 := Lib.hid (HS.out.ext he1)
 have HO1 := Lib.hid hO1
 have HL1 := Lib.hid he1.size
 have HC := Lib.hid (fun (W : World) (hx : Ext w1 W) => show W.cell? ⟨w.heap.size, 22, none⟩ = some (.slice S.A S.n S.c) from (HB1.out.ext hx).cell 22)
 clear he1 hr h hO1
 go_wp2_with fail
 refine wp_region_plan (S := fun W => Ext w1 W) (by kernel_rfl) (by kernel_rfl) ((Ext.refl w1).drew') ?_
 (refine pr 0 (oi := ⟨some 12, .move (.tmp 5), 4, "signed.go:44", #[], none⟩) (v := ?_) rfl (by kernel_rfl) (by rfl) ?h ?_; case h => (intro W hSW; go_simp <;> with_reducible rfl))
 try simp only [lays]
 (refine pr 1 (oi := ⟨some 13, .unOp .not 4 (.tmp 12), 4, "signed.go:44", #[⟨0, .data⟩], none⟩) (v := ?_) rfl (by kernel_rfl) (by rfl) ?h ?_; case h => (intro W hSW; go_simp <;> with_reducible rfl))
 try simp only [lays]
 (refine pr 2 (oi := ⟨some 14, .move (.tmp 13), 4, "signed.go:44", #[⟨1, .data⟩], none⟩) (v := ?_) rfl (by kernel_rfl) (by rfl) ?h ?_; case h => (intro W hSW; go_simp <;> with_reducible rfl))
 try simp only [lays]
 refine plan_oi (i := 3) (oi := ⟨some 15, .fieldAddr 48 (.tmp 1) 1, 0, "signed.go:44", #[⟨2, .guard⟩], some (2, false)⟩) rfl (by kernel_rfl) (by kernel_rfl) ?_
 first | (refine ⟨?_, (fx_read (Or.inl ⟨by rfl, ?hy3⟩)), ?_⟩; case hy3 => (intro W hSW; go_simp <;> with_reducible rfl)) | (refine ⟨undef, fx_skip (by rfl), ?_⟩)
 try simp only [lays]
 refine plan_oi (i := 4) (oi := ⟨some 16, .load 28 (.tmp 15), 28, "signed.go:44", #[⟨3, .data⟩, ⟨2, .guard⟩], some (2, false)⟩) rfl (by kernel_rfl) (by kernel_rfl) ?_
 first | (refine ⟨?_, (fx_read (Or.inl ⟨by rfl, ?hy4⟩)), ?_⟩; case hy4 => (intro W hSW; have c1 := HC.out W hSW; go_simp <;> with_reducible rfl)) | (refine ⟨undef, fx_skip (by rfl), ?_⟩)
 try simp only [lays]
 refine plan_oi (i := 5) (oi := ⟨some 17, .call { callee := .builtin .len, args := #[.tmp 16], argTypes := #[28] }, 3, "signed.go:44", #[⟨4, .data⟩, ⟨2, .guard⟩], some (2, false)⟩) rfl (by kernel_rfl) (by kernel_rfl) ?_
 first | (refine ⟨?_, (fx_read (Or.inl ⟨by rfl, ?hy5⟩)), ?_⟩; case hy5 => (intro W hSW; have c1 := HC.out W hSW; go_simp <;> with_reducible rfl)) | (refine ⟨undef, fx_skip (by rfl), ?_⟩)
 try simp only [lays]
 refine plan_oi (i := 6) (oi := ⟨some 18, .call { callee := .value (.func 72), args := #[.const (.int .i64 2)], argTypes := #[3] }, 3, "signed.go:44", #[⟨2, .chain⟩, ⟨2, .guard⟩], some (2, false)⟩) rfl (by kernel_rfl) (by kernel_rfl) ?_
 first | (refine ⟨?_, (fx_call (by rfl) (fun W hSW K hK => ?hy6)), ?_⟩; case hy6 => (go_simp; go_at_call 72; (with_reducible refine (size2_any W).mono ?_); rintro e wz ⟨rfl, rfl⟩; exact hK.out _ (hSW))) | (refine ⟨undef, fx_skip (by rfl), ?_⟩)
 try simp only [lays]
 refine plan_oi (i := 7) (oi := ⟨some 19, .binOp .neq 3 (.tmp 17) (.tmp 18) 3, 4, "signed.go:44", #[⟨5, .data⟩, ⟨6, .data⟩, ⟨2, .guard⟩], some (2, false)⟩) rfl (by kernel_rfl) (by kernel_rfl) ?_
 first | (refine ⟨?_, (fx_read (Or.inl ⟨by rfl, ?hy7⟩)), ?_⟩; case hy7 => (intro W hSW; go_simp <;> with_reducible rfl)) | (refine ⟨undef, fx_skip (by rfl), ?_⟩)
 try simp only [lays]
 (refine pr 8 (oi := ⟨some 20, .pick (.tmp 14) (.const (.bool true)) (.tmp 19), 4, "signed.go:44", #[⟨2, .data⟩, ⟨7, .data⟩], none⟩) (v := ?_) rfl (by kernel_rfl) (by rfl) ?h ?_; case h => (intro W hSW; go_simp <;> with_reducible rfl))
 try simp only [lays]
 refine Plan.done (by kernel_rfl) (fun W hSW => ?_)
 have HX2 := Lib.hid (HX.out.trans hSW)
 clear hSW
 go_wp2_with fail
 go_ret2
 exact ⟨rfl, HX2.out⟩
theorem sgEnc_yes (S : SgR) (w : World) (hS : S.ok w) (h : vldVt S.v = true) (hn : S.n = 370) : Calls Tryz.prog 38 #[.agg (sgA S)] w fun e w' => ∃ A' c', e = .returned (.tuple #[.slice A' 393 c', .bool true]) ∧ OwnB w' w.heap.size 5 A' 393 c' (encSg S) ∧ Ext w w' := by
 have HE := Lib.hid ((Ext.refl w).alloc' (.cells (sgA S) 48))
 have HB := Lib.hid (Blk.new w 48 (sgA S))
 obtain ⟨W0, hW0⟩ : ∃ W0, w.alloc (.cells (sgA S) 48) = W0 := ⟨_, rfl⟩
 rw [hW0] at HE HB
 have HS := Lib.hid (hS.ext HE.out)
 have hr := sg_vote HB.out
 clear hS
 have hl : (S.n : Int) ≤ 9223372036854775807 := by have := HS.out.sig.le; have := HS.out.sig.cap; omega
 have hn1 : ((S.n : Int) != 370) = false := by simp; omega
 go_enter Tryz.func38, Tryz.ntmps38
 go_wp2_with (first | (with_reducible refine wpList_loadVt rfl (.tmp 7) rfl w.heap.size 0 rfl S.v hr ?_))
 refine (voteEnc_yes S.v h W0).mono ?_
 rintro e w1 ⟨A1, c1, rfl, hO1, he1⟩
 have HX := Lib.hid (HE.out.trans he1)
 have HB1 := Lib.hid (HB.out.ext he1)
 have HS1 := Lib.hid (HS.out.ext he1)
 have HO1 := Lib.hid hO1
 have HL1 := Lib.hid he1.size
 have HC := Lib.hid (fun (W : World) (hx : Ext w1 W) => show W.cell? ⟨w.heap.size, 22, none⟩ = some (.slice S.A S.n S.c) from (HB1.out.ext hx).cell 22)
 clear he1 hr h hO1
 go_wp2_with fail
 refine wp_region_plan (S := fun W => Ext w1 W) (by kernel_rfl) (by kernel_rfl) ((Ext.refl w1).drew') ?_
 (refine pr 0 (oi := ⟨some 12, .move (.tmp 5), 4, "signed.go:44", #[], none⟩) (v := ?_) rfl (by kernel_rfl) (by rfl) ?h ?_; case h => (intro W hSW; go_simp <;> with_reducible rfl))
 try simp only [lays]
 (refine pr 1 (oi := ⟨some 13, .unOp .not 4 (.tmp 12), 4, "signed.go:44", #[⟨0, .data⟩], none⟩) (v := ?_) rfl (by kernel_rfl) (by rfl) ?h ?_; case h => (intro W hSW; go_simp <;> with_reducible rfl))
 try simp only [lays]
 (refine pr 2 (oi := ⟨some 14, .move (.tmp 13), 4, "signed.go:44", #[⟨1, .data⟩], none⟩) (v := ?_) rfl (by kernel_rfl) (by rfl) ?h ?_; case h => (intro W hSW; go_simp <;> with_reducible rfl))
 try simp only [lays]
 refine plan_oi (i := 3) (oi := ⟨some 15, .fieldAddr 48 (.tmp 1) 1, 0, "signed.go:44", #[⟨2, .guard⟩], some (2, false)⟩) rfl (by kernel_rfl) (by kernel_rfl) ?_
 first | (refine ⟨?_, (fx_read (Or.inl ⟨by rfl, ?hy3⟩)), ?_⟩; case hy3 => (intro W hSW; go_simp <;> with_reducible rfl)) | (refine ⟨undef, fx_skip (by rfl), ?_⟩)
 try simp only [lays]
 refine plan_oi (i := 4) (oi := ⟨some 16, .load 28 (.tmp 15), 28, "signed.go:44", #[⟨3, .data⟩, ⟨2, .guard⟩], some (2, false)⟩) rfl (by kernel_rfl) (by kernel_rfl) ?_
 first | (refine ⟨?_, (fx_read (Or.inl ⟨by rfl, ?hy4⟩)), ?_⟩; case hy4 => (intro W hSW; have c1 := HC.out W hSW; go_simp <;> with_reducible rfl)) | (refine ⟨undef, fx_skip (by rfl), ?_⟩)
 try simp only [lays]
 refine plan_oi (i := 5) (oi := ⟨some 17, .call { callee := .builtin .len, args := #[.tmp 16], argTypes := #[28] }, 3, "signed.go:44", #[⟨4, .data⟩, ⟨2, .guard⟩], some (2, false)⟩) rfl (by kernel_rfl) (by kernel_rfl) ?_
 first | (refine ⟨?_, (fx_read (Or.inl ⟨by rfl, ?hy5⟩)), ?_⟩; case hy5 => (intro W hSW; have c1 := HC.out W hSW; go_simp <;> with_reducible rfl)) | (refine ⟨undef, fx_skip (by rfl), ?_⟩)
 try simp only [lays]
 refine plan_oi (i := 6) (oi := ⟨some 18, .call { callee := .value (.func 72), args := #[.const (.int .i64 2)], argTypes := #[3] }, 3, "signed.go:44", #[⟨2, .chain⟩, ⟨2, .guard⟩], some (2, false)⟩) rfl (by kernel_rfl) (by kernel_rfl) ?_
 first | (refine ⟨?_, (fx_call (by rfl) (fun W hSW K hK => ?hy6)), ?_⟩; case hy6 => (go_simp; go_at_call 72; (with_reducible refine (size2_any W).mono ?_); rintro e wz ⟨rfl, rfl⟩; exact hK.out _ (hSW))) | (refine ⟨undef, fx_skip (by rfl), ?_⟩)
 try simp only [lays]
 refine plan_oi (i := 7) (oi := ⟨some 19, .binOp .neq 3 (.tmp 17) (.tmp 18) 3, 4, "signed.go:44", #[⟨5, .data⟩, ⟨6, .data⟩, ⟨2, .guard⟩], some (2, false)⟩) rfl (by kernel_rfl) (by kernel_rfl) ?_
 first | (refine ⟨?_, (fx_read (Or.inl ⟨by rfl, ?hy7⟩)), ?_⟩; case hy7 => (intro W hSW; go_simp <;> with_reducible rfl)) | (refine ⟨undef, fx_skip (by rfl), ?_⟩)
 try simp only [lays]
 (refine pr 8 (oi := ⟨some 20, .pick (.tmp 14) (.const (.bool true)) (.tmp 19), 4, "signed.go:44", #[⟨2, .data⟩, ⟨7, .data⟩], none⟩) (v := ?_) rfl (by kernel_rfl) (by rfl) ?h ?_; case h => (intro W hSW; go_simp <;> with_reducible rfl))
 try simp only [lays]
 refine Plan.done (by kernel_rfl) (fun W hSW => ?_)
 have HX2 := Lib.hid (HX.out.trans hSW)
 have HO2 := Lib.hid (HO1.out.ext hSW)
 have HS2 := Lib.hid (HS1.out.ext hSW)
 have c2 := HC.out W hSW
 have HL2 := Lib.hid (Nat.le_trans HL1.out hSW.size)
 have HN := Lib.hid hn
 have HE2 := Lib.hid (HE.out)
 rw [hn] at c2
 clear hSW hn
 go_wp2_with (at_builtin; go_must (refine wpList_appB bytesE rfl (.tmp 21) (.tmp 23) rfl W0.heap.size _ _ _ _ rfl HO2.out _ 370 S.c S.sig rfl ?r1 (by omega) HL2.out W (Below.refl _ _) ?_))
 case r1 => have := HS2.out.sig; rwa [HN.out] at this
 intro A3 c3 w3 ho3 hw3 hs3
 have HF := Lib.hid (show OwnB w3 w.heap.size 5 A3 393 c3 (encSg S) from own_mono ho3 HE.out.size)
 have HG := Lib.hid (Below.trans HX2.out (Below.mono hw3 HE.out.size) : Ext w w3)
 clear ho3 hw3 hs3
 go_wp2_with fail
 go_ret2
 exact ⟨A3, c3, rfl, HF.out, HG.out⟩
end Go.Proofs.YtbfepgjeecndiaaGreat
