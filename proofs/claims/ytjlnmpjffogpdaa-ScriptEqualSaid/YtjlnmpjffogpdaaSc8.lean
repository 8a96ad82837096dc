/- The law's own check: a script of nothing. -/
import Derived.Test.YtjlnmpjffogpdaaSc4
namespace Go.Proofs.Ytjlnmpjffogpdaa
open Go.RowKit
set_option linter.unusedVariables false
set_option linter.unusedSimpArgs false
attribute [local go_sem ↓] Go.wp_at_zero Go.wp_at_succ

set_option maxRecDepth 100000 in
set_option maxHeartbeats 2000000 in
theorem scriptEnc0_any (c : Cf) (h : eCf c = true) (w : World) : Calls Try.prog 24 #[.agg (cfA c), .slice none 0 0] w fun e w' => ∃ A' c', e = .returned (.tuple #[.slice A' 33 c', .int .i64 0]) ∧ Ext w w' := by
  have HE := Lib.hid ((Ext.refl w).alloc' (.cells (cfA c) 64))
  have hr := range_cf (Blk.new w 64 (cfA c))
  have HEC := Lib.hid (scriptEncCfg_yes c h (w.alloc (.cells (cfA c) 64)))
  have hu := uI_un 0
  clear h
  go_enter Try.func24, Try.ntmps24
  go_wp2_with (first | (with_reducible refine wpList_loadCf_script rfl (.tmp 2) rfl w.heap.size rfl c hr ?_))
  refine HEC.out.mono ?_
  rintro e w1 ⟨A1, c1, rfl, hO1, he1⟩
  have HX1 := Lib.hid (HE.out.trans he1)
  have HO1 := Lib.hid hO1
  clear hO1 he1 hr HEC
  go_wp2_with fail
  refine (appU2 A1 31 c1 _ 0 w1 HO1.out.sl (by omega)).mono ?_
  rintro e w2 ⟨A2, c2, rfl, hO2, he2⟩
  have HX2 := Lib.hid (HX1.out.trans he2)
  clear hO2 he2 hu
  go_wp2_with fail
  go_loopw [30, 6] (fun i v wr => i = .int .i64 0 ∧ v = .slice A2 33 c2 ∧ wr = w2) (fun _ _ _ => 0)
  case atStart => exact ⟨rfl, rfl, rfl⟩
  case round =>
    obtain ⟨rfl, rfl, rfl⟩ := hrel
    go_wp2_with fail
    go_ret2
    exact ⟨A2, c2, rfl, HX2.out⟩
/-- three results: a struct in a variable, and two slots -/
theorem retCVV {fn : Func} {p q r : Tmp} {ty : TypeId} (hres : fn.results = #[.cell p ty, .tmp q, .tmp r]) (tmps : Array Value) (w1 : World) (g : Nat) (cs : Array Value) (v u : Value) (hp : tmps.getD p undef = .pointer (some ⟨g, 0, none⟩)) (hq : tmps.getD q undef = v) (hr : tmps.getD r undef = u) (hl : (loadVar ty ⟨g, 0, none⟩).run Try.prog w1 = .ok (.agg cs) w1) :
    (results fn tmps).run Try.prog w1 = .ok (.tuple #[.agg cs, v, u]) w1 := by
  have hp' : tmps[p]?.getD undef = .pointer (some ⟨g, 0, none⟩) := by simpa using hp
  have hq' : tmps[q]?.getD undef = v := by simpa using hq
  have hr' : tmps[r]?.getD undef = u := by simpa using hr
  simp [results, hres, hp', hq', hr', asAddr, hl]
theorem tk31 {D : Nat} (B : Nat) (s : Option (List UInt8)) (w : World) (h : CurAt 91 D w B s) : Calls Try.prog 54 #[.pointer (some ⟨B, 0, none⟩), .int .i64 31] w (TkOut 91 D B 31 s w) := take_any 31 (by omega) (by omega) B s w h
theorem decCf_nil : decCf [] = none := by unfold decCf; rw [if_neg (fun hh => by have := hh.1; simp at this)]
set_option maxRecDepth 100000 in
set_option maxHeartbeats 2000000 in
theorem scriptDec0_any (w : World) : Calls Try.prog 25 #[.slice none 0 0] w fun e w' => e = .returned (.tuple #[.agg zero15, .slice none 0 0, .int .i64 4]) ∧ Ext w w' := by
  have HS0 := Lib.hid (CdS.start 64 91 none 0 0 [] w (SlB.nil w) (by omega))
  go_enter Try.func25, Try.ntmps25
  go_wp2_with fail
  refine (tk31 (w.heap.size + 1) (some []) _ HS0.out.cur).mono ?_
  rintro e w1 ⟨A1, m1, c1, rfl, hs1, hc1, hg1⟩
  have HS1 := Lib.hid (HS0.out.read hc1 hg1)
  obtain rfl : m1 = 0 := by have := hs1.len; simpa [rTk] using this.symm
  have HSL := Lib.hid (show SlB w1 A1 0 c1 [] from hs1)
  clear hc1 hg1 hs1 HS0
  go_wp2_with fail
  refine (scriptDecCfg_any A1 0 c1 [] w1 HSL.out).mono ?_
  rintro e w2 ⟨he2, h2⟩
  obtain rfl : e = .returned (.tuple #[.agg zero15, .int .i64 4]) := by
    rcases h2 with ⟨_, h⟩ | ⟨c, h, _⟩
    · exact h
    · rw [decCf_nil] at h; cases h
  have HS2 := Lib.hid (HS1.out.ext (he2.trans ((Ext.refl w2).alloc' (.cells zero15 64))))
  clear h2 he2 HS1 HSL
  go_wp2_with (first | (with_reducible refine wpList_newCf rfl (.tmp 6) (.tmp 23) rfl _ rfl zero15 rfl (cfZ_all _ _ _ _ _ _ _) rfl rfl ?_))
  refine (rd2 (w.heap.size + 1) _ _ HS2.out.cur).mono ?_
  rintro e w3 ⟨rfl, hc3, hg3⟩
  have HS3 := Lib.hid (HS2.out.read hc3 hg3)
  rw [show rI 2 (rRest 31 (some [])) = 0 from by decide]
  have htz : w3.there w.heap.size 0 15 := there_of_blk HS3.out.res
  have hst := blk_whole (ds := zero15) HS3.out.res rfl
  clear hc3 hg3 HS2
  go_wp2_with fail
  go_loopw [10, 7] (fun i v wr => i = .int .i64 0 ∧ v = .int .i64 4 ∧ wr = w3) (fun _ _ _ => 0)
  case atStart => exact ⟨rfl, rfl, rfl⟩
  case round =>
    obtain ⟨rfl, rfl, rfl⟩ := hrel
    go_wp2_with (first | (with_reducible refine wpList_storeCf rfl (.tmp 2) (.tmp 78) rfl w.heap.size zero15 rfl rfl htz rfl (cfZ_all _ _ _ _ _ _ _) ?_))
    exact bodyPost_ret (v := .tuple #[.agg zero15, .slice none 0 0, .int .i64 4]) (retCVV rfl _ _ w.heap.size _ _ _ rfl rfl rfl (run_loadVar_row _ _ _ _ _ (0, 0) _ hst Try.underlying64 rfl (by kernel_rfl))) rfl ⟨rfl, Below.setCells' HS3.out.low (Nat.le_refl _) _ _⟩
def cfOne : Cf := ⟨1, 1, 1, 0, 0, 0, 0, 0⟩
theorem cfOne_cells : cfA cfOne = #[.int .i64 1, .int .i64 1, .int .i64 1, .int .i64 0, .int .i64 0, .int .i64 0, .int .i64 0, .int .u8 0, .int .u8 0, .int .u8 0, .int .u8 0, .int .u8 0, .int .u8 0, .int .u8 0, .int .u8 0] := (cfZ_eq 1 1 1 0 0 0 0).symm
theorem cfOne_ok : eCf cfOne = true := by decide
set_option maxRecDepth 100000 in
set_option maxHeartbeats 2000000 in
theorem awake41_any (w : World) : Calls Try.prog 8 #[] w fun e w' => e = .returned (.bool true) ∧ Ext w w' := by
  have HEN := Lib.hid (show Calls Try.prog 24 #[.agg #[.int .i64 1, .int .i64 1, .int .i64 1, .int .i64 0, .int .i64 0, .int .i64 0, .int .i64 0, .int .u8 0, .int .u8 0, .int .u8 0, .int .u8 0, .int .u8 0, .int .u8 0, .int .u8 0, .int .u8 0], .slice none 0 0] w (fun e w' => ∃ A' c', e = .returned (.tuple #[.slice A' 33 c', .int .i64 0]) ∧ Ext w w') from by rw [← cfOne_cells]; exact scriptEnc0_any cfOne cfOne_ok w)
  go_enter Try.func8, Try.ntmps8
  go_wp2_with fail
  refine HEN.out.mono ?_
  rintro e w1 ⟨A1, c1, rfl, he1⟩
  have HX1 := Lib.hid he1
  clear he1
  go_wp2_with fail
  refine (scriptDec0_any w1).mono ?_
  rintro e w2 ⟨rfl, he2⟩
  have HX2 := Lib.hid (HX1.out.trans (he2.trans ((Ext.refl w2).alloc' (.cells zero15 64))))
  clear he2
  go_wp2_with (first | (with_reducible refine wpList_newCf rfl (.tmp 3) (.tmp 13) rfl _ rfl zero15 rfl (cfZ_all _ _ _ _ _ _ _) rfl rfl ?_))
  go_ret
  exact ⟨rfl, HX2.out⟩
end Go.Proofs.Ytjlnmpjffogpdaa
