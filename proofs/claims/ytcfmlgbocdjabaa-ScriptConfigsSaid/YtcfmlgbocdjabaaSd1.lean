/- The law ScriptConfigs: the walk. -/
import Derived.Test.YtcfmlgbocdjabaaSc9
namespace Go.Proofs.Ytcfmlgbocdjabaa
open Go.RowKit
set_option linter.unusedVariables false
set_option linter.unusedSimpArgs false
attribute [local go_sem ↓] Go.wp_at_zero Go.wp_at_succ

theorem cf_cells {w : World} {g : Nat} {t : TypeId} {c : Cf} (h : Blk w g t (cfA c)) : (w.cell? ⟨g, 0, none⟩ = some (.int .i64 c.m) ∧ w.cell? ⟨g, 1, none⟩ = some (.int .i64 c.v) ∧ w.cell? ⟨g, 2, none⟩ = some (.int .i64 c.a) ∧ w.cell? ⟨g, 3, none⟩ = some (.int .i64 c.st) ∧ w.cell? ⟨g, 4, none⟩ = some (.int .i64 c.ba) ∧ w.cell? ⟨g, 5, none⟩ = some (.int .i64 c.tw) ∧ w.cell? ⟨g, 6, none⟩ = some (.int .i64 c.li)) ∧ (w.cell? ⟨g, 7, none⟩ = some (.int .u8 (nb8 c.sd 0)) ∧ w.cell? ⟨g, 8, none⟩ = some (.int .u8 (nb8 c.sd 1)) ∧ w.cell? ⟨g, 9, none⟩ = some (.int .u8 (nb8 c.sd 2)) ∧ w.cell? ⟨g, 10, none⟩ = some (.int .u8 (nb8 c.sd 3)) ∧ w.cell? ⟨g, 11, none⟩ = some (.int .u8 (nb8 c.sd 4)) ∧ w.cell? ⟨g, 12, none⟩ = some (.int .u8 (nb8 c.sd 5)) ∧ w.cell? ⟨g, 13, none⟩ = some (.int .u8 (nb8 c.sd 6)) ∧ w.cell? ⟨g, 14, none⟩ = some (.int .u8 (nb8 c.sd 7))) :=
  ⟨⟨h.cell 0, h.cell 1, h.cell 2, h.cell 3, h.cell 4, h.cell 5, h.cell 6⟩, ⟨h.cell 7, h.cell 8, h.cell 9, h.cell 10, h.cell 11, h.cell 12, h.cell 13, h.cell 14⟩⟩
set_option maxRecDepth 100000 in
set_option maxHeartbeats 4000000 in
theorem scriptConfigs_any (c : Cf) (hw : wfCf c) (A : Option Addr) (n k : Nat) (l : List UInt8) (w : World) (hS : SlB w A n k l) (hn : n ≤ 140737488355328) : Calls Try.prog 10 #[.agg (cfA c), .slice A n k] w fun e w' => e = .returned (.bool true) ∧ Ext w w' := by
  have HE := Lib.hid ((Ext.refl w).alloc' (.cells (cfA c) 67))
  have HB := Lib.hid (Blk.new w 67 (cfA c))
  obtain ⟨W0, hW0⟩ : ∃ W0, w.alloc (.cells (cfA c) 67) = W0 := ⟨_, rfl⟩
  rw [hW0] at HE HB
  have HS := Lib.hid (fun (W : World) (h : Ext w W) => hS.ext h)
  have hr := range_cf HB.out
  have HW := Lib.hid hw
  clear hS hw
  cases hv : eCf c with
  | false =>
    go_enter Try.func10, Try.ntmps10
    go_wp2_with (first | (with_reducible refine wpList_loadCf_script rfl (.tmp 2) rfl w.heap.size rfl c hr ?_))
    refine (scriptEncCfg_no c hv W0).mono ?_
    rintro e w1 ⟨rfl, he1⟩
    have HX1 := Lib.hid he1
    clear he1 hr hW0
    have hr := range_cf (HB.out.ext HX1.out)
    go_wp2_with (first | (with_reducible refine wpList_loadCf_script rfl (.tmp 2) rfl w.heap.size rfl c hr ?_))
    refine (keepCfg_any c w1).mono ?_
    rintro e w2 ⟨rfl, he2⟩
    go_wp2_with fail
    refine (refEncCfg_no c hv w2).mono ?_
    rintro e w3 ⟨rfl, he3⟩
    have HX3 := Lib.hid (HX1.out.trans (he2.trans he3))
    clear he2 he3 hr
    go_wp2_with fail
    refine (scriptDecCfg_any A n k l w3 (HS.out _ (HE.out.trans HX3.out))).mono ?_
    intro e w4 h4
    obtain ⟨rfl, he4⟩ := h4.all
    have HX4 := Lib.hid (HX3.out.trans (he4.trans ((Ext.refl w4).alloc' (.cells (cfA (dCf l)) 67))))
    have HC4 := Lib.hid (Blk.new w4 67 (cfA (dCf l)))
    clear h4 he4
    go_wp2_with (first | (with_reducible refine wpList_newCf rfl (.tmp 9) (.tmp 29) rfl _ rfl (cfA (dCf l)) rfl (cfA_all _) rfl rfl ?_))
    refine (refDecCfg_any A n k l _ (HS.out _ (HE.out.trans HX4.out)) hn).mono ?_
    intro e w5 h5
    obtain ⟨rfl, he5⟩ := h5.all
    have hE6 := he5.trans ((Ext.refl w5).alloc' (.cells (cfA (dCf l)) 70))
    have HX6 := Lib.hid (HX4.out.trans hE6)
    have HC6 := Lib.hid (HC4.out.ext hE6)
    have HD6 := Lib.hid (Blk.new w5 70 (cfA (dCf l)))
    clear h5 he5 hE6
    go_wp2_with (first | (with_reducible refine wpList_newCr rfl (.tmp 11) (.tmp 34) rfl _ rfl (cfA (dCf l)) rfl (cfA_all _) rfl rfl ?_))
    obtain ⟨cd, hcd⟩ : ∃ cd, dCf l = cd := ⟨_, rfl⟩
    have hwf := dCf_wf l
    rw [hcd] at HC6 HD6 HX6 hwf ⊢
    have hqr := fun (W : World) => run_eqCfR cd hwf W
    have HKP := Lib.hid (fun (W : World) => keepCfg_any cd W)
    generalize w5.alloc (.cells (cfA cd) 70) = W6 at *
    have HSS := Lib.hid (fun (W : World) (h : Ext W6 W) => (⟨cf_cells (HC6.out.ext h), cf_cells (HD6.out.ext h), run_strV (SlB.nil W)⟩ : ((W.cell? ⟨w4.heap.size, 0, none⟩ = some (.int .i64 cd.m) ∧ W.cell? ⟨w4.heap.size, 1, none⟩ = some (.int .i64 cd.v) ∧ W.cell? ⟨w4.heap.size, 2, none⟩ = some (.int .i64 cd.a) ∧ W.cell? ⟨w4.heap.size, 3, none⟩ = some (.int .i64 cd.st) ∧ W.cell? ⟨w4.heap.size, 4, none⟩ = some (.int .i64 cd.ba) ∧ W.cell? ⟨w4.heap.size, 5, none⟩ = some (.int .i64 cd.tw) ∧ W.cell? ⟨w4.heap.size, 6, none⟩ = some (.int .i64 cd.li)) ∧ (W.cell? ⟨w4.heap.size, 7, none⟩ = some (.int .u8 (nb8 cd.sd 0)) ∧ W.cell? ⟨w4.heap.size, 8, none⟩ = some (.int .u8 (nb8 cd.sd 1)) ∧ W.cell? ⟨w4.heap.size, 9, none⟩ = some (.int .u8 (nb8 cd.sd 2)) ∧ W.cell? ⟨w4.heap.size, 10, none⟩ = some (.int .u8 (nb8 cd.sd 3)) ∧ W.cell? ⟨w4.heap.size, 11, none⟩ = some (.int .u8 (nb8 cd.sd 4)) ∧ W.cell? ⟨w4.heap.size, 12, none⟩ = some (.int .u8 (nb8 cd.sd 5)) ∧ W.cell? ⟨w4.heap.size, 13, none⟩ = some (.int .u8 (nb8 cd.sd 6)) ∧ W.cell? ⟨w4.heap.size, 14, none⟩ = some (.int .u8 (nb8 cd.sd 7)))) ∧ ((W.cell? ⟨w5.heap.size, 0, none⟩ = some (.int .i64 cd.m) ∧ W.cell? ⟨w5.heap.size, 1, none⟩ = some (.int .i64 cd.v) ∧ W.cell? ⟨w5.heap.size, 2, none⟩ = some (.int .i64 cd.a) ∧ W.cell? ⟨w5.heap.size, 3, none⟩ = some (.int .i64 cd.st) ∧ W.cell? ⟨w5.heap.size, 4, none⟩ = some (.int .i64 cd.ba) ∧ W.cell? ⟨w5.heap.size, 5, none⟩ = some (.int .i64 cd.tw) ∧ W.cell? ⟨w5.heap.size, 6, none⟩ = some (.int .i64 cd.li)) ∧ (W.cell? ⟨w5.heap.size, 7, none⟩ = some (.int .u8 (nb8 cd.sd 0)) ∧ W.cell? ⟨w5.heap.size, 8, none⟩ = some (.int .u8 (nb8 cd.sd 1)) ∧ W.cell? ⟨w5.heap.size, 9, none⟩ = some (.int .u8 (nb8 cd.sd 2)) ∧ W.cell? ⟨w5.heap.size, 10, none⟩ = some (.int .u8 (nb8 cd.sd 3)) ∧ W.cell? ⟨w5.heap.size, 11, none⟩ = some (.int .u8 (nb8 cd.sd 4)) ∧ W.cell? ⟨w5.heap.size, 12, none⟩ = some (.int .u8 (nb8 cd.sd 5)) ∧ W.cell? ⟨w5.heap.size, 13, none⟩ = some (.int .u8 (nb8 cd.sd 6)) ∧ W.cell? ⟨w5.heap.size, 14, none⟩ = some (.int .u8 (nb8 cd.sd 7)))) ∧ (convert 28 9 (.slice none 0 0)).run Try.prog W = .ok (.string (strV [])) W))
    have hX := (Ext.refl W6).drew'
    clear hcd hwf
    go_region_held3 (fun w' => ((w'.cell? ⟨w4.heap.size, 0, none⟩ = some (.int .i64 cd.m) ∧ w'.cell? ⟨w4.heap.size, 1, none⟩ = some (.int .i64 cd.v) ∧ w'.cell? ⟨w4.heap.size, 2, none⟩ = some (.int .i64 cd.a) ∧ w'.cell? ⟨w4.heap.size, 3, none⟩ = some (.int .i64 cd.st) ∧ w'.cell? ⟨w4.heap.size, 4, none⟩ = some (.int .i64 cd.ba) ∧ w'.cell? ⟨w4.heap.size, 5, none⟩ = some (.int .i64 cd.tw) ∧ w'.cell? ⟨w4.heap.size, 6, none⟩ = some (.int .i64 cd.li)) ∧ (w'.cell? ⟨w4.heap.size, 7, none⟩ = some (.int .u8 (nb8 cd.sd 0)) ∧ w'.cell? ⟨w4.heap.size, 8, none⟩ = some (.int .u8 (nb8 cd.sd 1)) ∧ w'.cell? ⟨w4.heap.size, 9, none⟩ = some (.int .u8 (nb8 cd.sd 2)) ∧ w'.cell? ⟨w4.heap.size, 10, none⟩ = some (.int .u8 (nb8 cd.sd 3)) ∧ w'.cell? ⟨w4.heap.size, 11, none⟩ = some (.int .u8 (nb8 cd.sd 4)) ∧ w'.cell? ⟨w4.heap.size, 12, none⟩ = some (.int .u8 (nb8 cd.sd 5)) ∧ w'.cell? ⟨w4.heap.size, 13, none⟩ = some (.int .u8 (nb8 cd.sd 6)) ∧ w'.cell? ⟨w4.heap.size, 14, none⟩ = some (.int .u8 (nb8 cd.sd 7)))) ∧ ((w'.cell? ⟨w5.heap.size, 0, none⟩ = some (.int .i64 cd.m) ∧ w'.cell? ⟨w5.heap.size, 1, none⟩ = some (.int .i64 cd.v) ∧ w'.cell? ⟨w5.heap.size, 2, none⟩ = some (.int .i64 cd.a) ∧ w'.cell? ⟨w5.heap.size, 3, none⟩ = some (.int .i64 cd.st) ∧ w'.cell? ⟨w5.heap.size, 4, none⟩ = some (.int .i64 cd.ba) ∧ w'.cell? ⟨w5.heap.size, 5, none⟩ = some (.int .i64 cd.tw) ∧ w'.cell? ⟨w5.heap.size, 6, none⟩ = some (.int .i64 cd.li)) ∧ (w'.cell? ⟨w5.heap.size, 7, none⟩ = some (.int .u8 (nb8 cd.sd 0)) ∧ w'.cell? ⟨w5.heap.size, 8, none⟩ = some (.int .u8 (nb8 cd.sd 1)) ∧ w'.cell? ⟨w5.heap.size, 9, none⟩ = some (.int .u8 (nb8 cd.sd 2)) ∧ w'.cell? ⟨w5.heap.size, 10, none⟩ = some (.int .u8 (nb8 cd.sd 3)) ∧ w'.cell? ⟨w5.heap.size, 11, none⟩ = some (.int .u8 (nb8 cd.sd 4)) ∧ w'.cell? ⟨w5.heap.size, 12, none⟩ = some (.int .u8 (nb8 cd.sd 5)) ∧ w'.cell? ⟨w5.heap.size, 13, none⟩ = some (.int .u8 (nb8 cd.sd 6)) ∧ w'.cell? ⟨w5.heap.size, 14, none⟩ = some (.int .u8 (nb8 cd.sd 7)))) ∧ (convert 28 9 (.slice none 0 0)).run Try.prog w' = .ok (.string (strV [])) w') (first | (with_reducible exact HSS.out _ hX) | fail "KEEP") (first | (go_at_call 40; (with_reducible refine (HKP.out _).mono ?_); rintro e wa ⟨rfl, he⟩; have hX := hX.trans he; clear he) | fail "ARM")
    have HXF := Lib.hid (HX6.out.trans hX)
    clear hX
    go_wp2_with fail
    refine (awake41_any _).mono ?_
    rintro e w9 ⟨rfl, he9⟩
    have HX9 := Lib.hid (HE.out.trans (HXF.out.trans he9))
    clear he9
    go_wp2_with fail
    go_ret
    exact ⟨rfl, HX9.out⟩
  | true =>
    go_enter Try.func10, Try.ntmps10
    go_wp2_with (first | (with_reducible refine wpList_loadCf_script rfl (.tmp 2) rfl w.heap.size rfl c hr ?_))
    refine (scriptEncCfg_yes c hv W0).mono ?_
    rintro e w1 ⟨A1, c1, rfl, hO1, he1⟩
    have HO1 := Lib.hid hO1.sl
    clear hO1
    have HX1 := Lib.hid he1
    clear he1 hr hW0
    have hr := range_cf (HB.out.ext HX1.out)
    go_wp2_with (first | (with_reducible refine wpList_loadCf_script rfl (.tmp 2) rfl w.heap.size rfl c hr ?_))
    refine (keepCfg_any c w1).mono ?_
    rintro e w2 ⟨rfl, he2⟩
    go_wp2_with fail
    refine (refEncCfg_yes c hv w2).mono ?_
    rintro e w3 ⟨A3, c3, rfl, hO3, he3⟩
    have HO3 := Lib.hid hO3.sl
    have HO13 := Lib.hid (HO1.out.ext (he2.trans he3))
    clear hO3
    have HX3 := Lib.hid (HX1.out.trans (he2.trans he3))
    clear he2 he3 hr
    go_wp2_with fail
    refine (scriptDecCfg_any A n k l w3 (HS.out _ (HE.out.trans HX3.out))).mono ?_
    intro e w4 h4
    obtain ⟨rfl, he4⟩ := h4.all
    have HE34 := Lib.hid (he4.trans ((Ext.refl w4).alloc' (.cells (cfA (dCf l)) 67)))
    have HX4 := Lib.hid (HX3.out.trans (he4.trans ((Ext.refl w4).alloc' (.cells (cfA (dCf l)) 67))))
    have HC4 := Lib.hid (Blk.new w4 67 (cfA (dCf l)))
    clear h4 he4
    go_wp2_with (first | (with_reducible refine wpList_newCf rfl (.tmp 9) (.tmp 29) rfl _ rfl (cfA (dCf l)) rfl (cfA_all _) rfl rfl ?_))
    refine (refDecCfg_any A n k l _ (HS.out _ (HE.out.trans HX4.out)) hn).mono ?_
    intro e w5 h5
    obtain ⟨rfl, he5⟩ := h5.all
    have hE6 := he5.trans ((Ext.refl w5).alloc' (.cells (cfA (dCf l)) 70))
    have HX6 := Lib.hid (HX4.out.trans hE6)
    have HP6 := Lib.hid (HO13.out.ext (HE34.out.trans hE6))
    have HQ6 := Lib.hid (HO3.out.ext (HE34.out.trans hE6))
    have HC6 := Lib.hid (HC4.out.ext hE6)
    have HD6 := Lib.hid (Blk.new w5 70 (cfA (dCf l)))
    clear h5 he5 hE6
    go_wp2_with (first | (with_reducible refine wpList_newCr rfl (.tmp 11) (.tmp 34) rfl _ rfl (cfA (dCf l)) rfl (cfA_all _) rfl rfl ?_))
    obtain ⟨cd, hcd⟩ : ∃ cd, dCf l = cd := ⟨_, rfl⟩
    have hwf := dCf_wf l
    rw [hcd] at HC6 HD6 HX6 HP6 HQ6 hwf ⊢
    have hqr := fun (W : World) => run_eqCfR cd hwf W
    have HKP := Lib.hid (fun (W : World) => keepCfg_any cd W)
    generalize w5.alloc (.cells (cfA cd) 70) = W6 at *
    have HSS := Lib.hid (fun (W : World) (h : Ext W6 W) => (⟨cf_cells (HC6.out.ext h), cf_cells (HD6.out.ext h), run_strV (HP6.out.ext h), run_strV (HQ6.out.ext h)⟩ : ((W.cell? ⟨w4.heap.size, 0, none⟩ = some (.int .i64 cd.m) ∧ W.cell? ⟨w4.heap.size, 1, none⟩ = some (.int .i64 cd.v) ∧ W.cell? ⟨w4.heap.size, 2, none⟩ = some (.int .i64 cd.a) ∧ W.cell? ⟨w4.heap.size, 3, none⟩ = some (.int .i64 cd.st) ∧ W.cell? ⟨w4.heap.size, 4, none⟩ = some (.int .i64 cd.ba) ∧ W.cell? ⟨w4.heap.size, 5, none⟩ = some (.int .i64 cd.tw) ∧ W.cell? ⟨w4.heap.size, 6, none⟩ = some (.int .i64 cd.li)) ∧ (W.cell? ⟨w4.heap.size, 7, none⟩ = some (.int .u8 (nb8 cd.sd 0)) ∧ W.cell? ⟨w4.heap.size, 8, none⟩ = some (.int .u8 (nb8 cd.sd 1)) ∧ W.cell? ⟨w4.heap.size, 9, none⟩ = some (.int .u8 (nb8 cd.sd 2)) ∧ W.cell? ⟨w4.heap.size, 10, none⟩ = some (.int .u8 (nb8 cd.sd 3)) ∧ W.cell? ⟨w4.heap.size, 11, none⟩ = some (.int .u8 (nb8 cd.sd 4)) ∧ W.cell? ⟨w4.heap.size, 12, none⟩ = some (.int .u8 (nb8 cd.sd 5)) ∧ W.cell? ⟨w4.heap.size, 13, none⟩ = some (.int .u8 (nb8 cd.sd 6)) ∧ W.cell? ⟨w4.heap.size, 14, none⟩ = some (.int .u8 (nb8 cd.sd 7)))) ∧ ((W.cell? ⟨w5.heap.size, 0, none⟩ = some (.int .i64 cd.m) ∧ W.cell? ⟨w5.heap.size, 1, none⟩ = some (.int .i64 cd.v) ∧ W.cell? ⟨w5.heap.size, 2, none⟩ = some (.int .i64 cd.a) ∧ W.cell? ⟨w5.heap.size, 3, none⟩ = some (.int .i64 cd.st) ∧ W.cell? ⟨w5.heap.size, 4, none⟩ = some (.int .i64 cd.ba) ∧ W.cell? ⟨w5.heap.size, 5, none⟩ = some (.int .i64 cd.tw) ∧ W.cell? ⟨w5.heap.size, 6, none⟩ = some (.int .i64 cd.li)) ∧ (W.cell? ⟨w5.heap.size, 7, none⟩ = some (.int .u8 (nb8 cd.sd 0)) ∧ W.cell? ⟨w5.heap.size, 8, none⟩ = some (.int .u8 (nb8 cd.sd 1)) ∧ W.cell? ⟨w5.heap.size, 9, none⟩ = some (.int .u8 (nb8 cd.sd 2)) ∧ W.cell? ⟨w5.heap.size, 10, none⟩ = some (.int .u8 (nb8 cd.sd 3)) ∧ W.cell? ⟨w5.heap.size, 11, none⟩ = some (.int .u8 (nb8 cd.sd 4)) ∧ W.cell? ⟨w5.heap.size, 12, none⟩ = some (.int .u8 (nb8 cd.sd 5)) ∧ W.cell? ⟨w5.heap.size, 13, none⟩ = some (.int .u8 (nb8 cd.sd 6)) ∧ W.cell? ⟨w5.heap.size, 14, none⟩ = some (.int .u8 (nb8 cd.sd 7)))) ∧ (convert 28 9 (.slice A1 31 c1)).run Try.prog W = .ok (.string (strV (encCf c))) W ∧ (convert 28 9 (.slice A3 31 c3)).run Try.prog W = .ok (.string (strV (encCf c))) W))
    have hX := (Ext.refl W6).drew'
    clear hcd hwf
    go_region_held3 (fun w' => ((w'.cell? ⟨w4.heap.size, 0, none⟩ = some (.int .i64 cd.m) ∧ w'.cell? ⟨w4.heap.size, 1, none⟩ = some (.int .i64 cd.v) ∧ w'.cell? ⟨w4.heap.size, 2, none⟩ = some (.int .i64 cd.a) ∧ w'.cell? ⟨w4.heap.size, 3, none⟩ = some (.int .i64 cd.st) ∧ w'.cell? ⟨w4.heap.size, 4, none⟩ = some (.int .i64 cd.ba) ∧ w'.cell? ⟨w4.heap.size, 5, none⟩ = some (.int .i64 cd.tw) ∧ w'.cell? ⟨w4.heap.size, 6, none⟩ = some (.int .i64 cd.li)) ∧ (w'.cell? ⟨w4.heap.size, 7, none⟩ = some (.int .u8 (nb8 cd.sd 0)) ∧ w'.cell? ⟨w4.heap.size, 8, none⟩ = some (.int .u8 (nb8 cd.sd 1)) ∧ w'.cell? ⟨w4.heap.size, 9, none⟩ = some (.int .u8 (nb8 cd.sd 2)) ∧ w'.cell? ⟨w4.heap.size, 10, none⟩ = some (.int .u8 (nb8 cd.sd 3)) ∧ w'.cell? ⟨w4.heap.size, 11, none⟩ = some (.int .u8 (nb8 cd.sd 4)) ∧ w'.cell? ⟨w4.heap.size, 12, none⟩ = some (.int .u8 (nb8 cd.sd 5)) ∧ w'.cell? ⟨w4.heap.size, 13, none⟩ = some (.int .u8 (nb8 cd.sd 6)) ∧ w'.cell? ⟨w4.heap.size, 14, none⟩ = some (.int .u8 (nb8 cd.sd 7)))) ∧ ((w'.cell? ⟨w5.heap.size, 0, none⟩ = some (.int .i64 cd.m) ∧ w'.cell? ⟨w5.heap.size, 1, none⟩ = some (.int .i64 cd.v) ∧ w'.cell? ⟨w5.heap.size, 2, none⟩ = some (.int .i64 cd.a) ∧ w'.cell? ⟨w5.heap.size, 3, none⟩ = some (.int .i64 cd.st) ∧ w'.cell? ⟨w5.heap.size, 4, none⟩ = some (.int .i64 cd.ba) ∧ w'.cell? ⟨w5.heap.size, 5, none⟩ = some (.int .i64 cd.tw) ∧ w'.cell? ⟨w5.heap.size, 6, none⟩ = some (.int .i64 cd.li)) ∧ (w'.cell? ⟨w5.heap.size, 7, none⟩ = some (.int .u8 (nb8 cd.sd 0)) ∧ w'.cell? ⟨w5.heap.size, 8, none⟩ = some (.int .u8 (nb8 cd.sd 1)) ∧ w'.cell? ⟨w5.heap.size, 9, none⟩ = some (.int .u8 (nb8 cd.sd 2)) ∧ w'.cell? ⟨w5.heap.size, 10, none⟩ = some (.int .u8 (nb8 cd.sd 3)) ∧ w'.cell? ⟨w5.heap.size, 11, none⟩ = some (.int .u8 (nb8 cd.sd 4)) ∧ w'.cell? ⟨w5.heap.size, 12, none⟩ = some (.int .u8 (nb8 cd.sd 5)) ∧ w'.cell? ⟨w5.heap.size, 13, none⟩ = some (.int .u8 (nb8 cd.sd 6)) ∧ w'.cell? ⟨w5.heap.size, 14, none⟩ = some (.int .u8 (nb8 cd.sd 7)))) ∧ (convert 28 9 (.slice A1 31 c1)).run Try.prog w' = .ok (.string (strV (encCf c))) w' ∧ (convert 28 9 (.slice A3 31 c3)).run Try.prog w' = .ok (.string (strV (encCf c))) w') (first | (with_reducible exact HSS.out _ hX) | fail "KEEP") (first | (go_at_call 40; (with_reducible refine (HKP.out _).mono ?_); rintro e wa ⟨rfl, he⟩; have hX := hX.trans he; clear he) | fail "ARM")
    have HXF := Lib.hid (HX6.out.trans hX)
    have HP7 := Lib.hid (HP6.out.ext hX)
    clear hX
    go_wp2_with fail
    refine (scriptDecCfg_any A1 31 c1 _ _ HP7.out).mono ?_
    rintro e w8 ⟨he8, h8⟩
    rw [decCf_enc c hv] at h8
    rcases h8 with ⟨h8, _⟩ | ⟨c', h8, rfl⟩
    · cases h8
    obtain rfl : c = c' := by injection h8
    have hE9 := he8.trans ((Ext.refl w8).alloc' (.cells (cfA c) 67))
    have HX9 := Lib.hid (HXF.out.trans hE9)
    obtain ⟨⟨a0, a1, a2, a3, a4, a5, a6⟩, a7, a8, a9, a10, a11, a12, a13, a14⟩ := cf_cells (Blk.new w8 67 (cfA c))
    obtain ⟨⟨b0, b1, b2, b3, b4, b5, b6⟩, b7, b8, b9, b10, b11, b12, b13, b14⟩ := cf_cells (HB.out.ext HX9.out)
    have hqw := fun (W : World) => run_eqCfW c HW.out W
    clear he8 h8 hE9
    go_wp2_with (first | (with_reducible refine wpList_newCf rfl (.tmp 13) (.tmp 62) rfl _ rfl (cfA c) rfl (cfA_all _) rfl rfl ?_))
    refine (awake41_any _).mono ?_
    rintro e w10 ⟨rfl, he10⟩
    have HX10 := Lib.hid (HE.out.trans (HX9.out.trans he10))
    clear he10
    go_wp2_with fail
    go_ret
    exact ⟨rfl, HX10.out⟩
end Go.Proofs.Ytcfmlgbocdjabaa
