/- keep.Config; a configuration is equal to itself. -/
import Derived.Test.YtcfmlgbocdjabaaSc6
import Derived.DeepKeys
namespace Go.Proofs.Ytcfmlgbocdjabaa
open Go.RowKit
set_option linter.unusedVariables false
set_option linter.unusedSimpArgs false
attribute [local go_sem ↓] Go.wp_at_zero Go.wp_at_succ

/-- the numbers are ints -/
def wfCf (c : Cf) : Prop := (Lit.int .i64 c.m).wf = true ∧ (Lit.int .i64 c.v).wf = true ∧ (Lit.int .i64 c.a).wf = true ∧ (Lit.int .i64 c.st).wf = true ∧ (Lit.int .i64 c.ba).wf = true ∧ (Lit.int .i64 c.tw).wf = true ∧ (Lit.int .i64 c.li).wf = true
def cfK (c : Cf) : List Value := [.int .i64 c.m, .int .i64 c.v, .int .i64 c.a, .int .i64 c.st, .int .i64 c.ba, .int .i64 c.tw, .int .i64 c.li] ++ bcs (nmb c.sd)
theorem cfA_cfK (c : Cf) : (cfA c).toList = cfK c := by unfold cfK; rw [bcs_nb8]; rfl
theorem keyInt' (x : Int) (hx : (Lit.int .i64 x).wf = true) : Try.prog.keyLits 2 3 [.int .i64 x] = some [.int .i64 x] := by
  unfold Program.keyLits
  rw [Try.underlying3]
  simp only
  rw [if_pos ⟨trivial, hx⟩]
theorem keyMask (x : Int) (hx : (Lit.int .i64 x).wf = true) : Try.prog.keyLits 2 65 [.int .i64 x] = some [.int .i64 x] := by
  unfold Program.keyLits
  rw [Try.underlying65]
  simp only
  rw [if_pos ⟨trivial, hx⟩]
theorem keyCfW (c : Cf) (h : wfCf c) : Try.prog.keyLits 3 67 (cfK c) = some ([.int .i64 c.m, .int .i64 c.v, .int .i64 c.a, .int .i64 c.st, .int .i64 c.ba, .int .i64 c.tw, .int .i64 c.li] ++ (nmb c.sd).map litB) := by
  obtain ⟨h1, h2, h3, h4, h5, h6, h7⟩ := h
  have c1 : Try.prog.cellsOf 3 = 1 := by kernel_rfl
  have cm : Try.prog.cellsOf 65 = 1 := by kernel_rfl
  have c15 : Try.prog.cellsOf 67 = 15 := by kernel_rfl
  have t8 : (bcs (nmb c.sd)).take 8 = bcs (nmb c.sd) := List.take_of_length_le (by rw [bcs_length, nmb_length]; exact Nat.le_refl _)
  have hl : (cfK c).length = 15 := by unfold cfK; rw [List.length_append, bcs_length, nmb_length]; rfl
  unfold Program.keyLits
  rw [Try.underlying67]
  simp only
  rw [if_pos ⟨by rw [hl, c15], by kernel_rfl⟩]
  simp only [List.mapM_cons, List.mapM_nil, c1, cm, cellsN, cfK, List.cons_append, List.nil_append, List.drop_zero, List.drop_succ_cons, List.take_succ_cons, List.take_zero, keyInt' _ h1, keyInt' _ h2, keyInt' _ h3, keyInt' _ h4, keyInt' _ h5, keyMask _ h6, keyMask _ h7, t8, keyName]
  simp
theorem run_eqCfW (c : Cf) (h : wfCf c) (w : World) : (Op.equalIn 10000 67 (.agg (cfA c)) (.agg (cfA c))).run Try.prog w = .ok true w := by
  have hE := run_equalIn_deep (P := Try.prog) 9997 3 67 (by kernel_rfl)
  have hfm : (Value.agg (cfA c)).formed Try.prog 67 = true := by
    have c15 : Try.prog.cellsOf 67 = 15 := by kernel_rfl
    simp [Value.formed, Try.underlying67, c15]
  have hk : Try.prog.keyLits 3 67 (Value.agg (cfA c)).cells.toList = some ([.int .i64 c.m, .int .i64 c.v, .int .i64 c.a, .int .i64 c.st, .int .i64 c.ba, .int .i64 c.tw, .int .i64 c.li] ++ (nmb c.sd).map litB) := by
    show Try.prog.keyLits 3 _ (cfA c).toList = _
    rw [cfA_cfK]; exact keyCfW c h
  obtain ⟨r, hr, hiff⟩ := hE w 3 3 _ _ _ _ hfm hfm hk hk
  have hr' : (Op.equalIn 10000 67 (.agg (cfA c)) (.agg (cfA c))).run Try.prog w = .ok r w := hr
  rw [hr', hiff.2 rfl]
theorem keyCfR (c : Cf) (h : wfCf c) : Try.prog.keyLits 3 70 (cfK c) = some ([.int .i64 c.m, .int .i64 c.v, .int .i64 c.a, .int .i64 c.st, .int .i64 c.ba, .int .i64 c.tw, .int .i64 c.li] ++ (nmb c.sd).map litB) := by
  obtain ⟨h1, h2, h3, h4, h5, h6, h7⟩ := h
  have c1 : Try.prog.cellsOf 3 = 1 := by kernel_rfl
  have cm : Try.prog.cellsOf 65 = 1 := by kernel_rfl
  have c15 : Try.prog.cellsOf 70 = 15 := by kernel_rfl
  have t8 : (bcs (nmb c.sd)).take 8 = bcs (nmb c.sd) := List.take_of_length_le (by rw [bcs_length, nmb_length]; exact Nat.le_refl _)
  have hl : (cfK c).length = 15 := by unfold cfK; rw [List.length_append, bcs_length, nmb_length]; rfl
  unfold Program.keyLits
  rw [Try.underlying70]
  simp only
  rw [if_pos ⟨by rw [hl, c15], by kernel_rfl⟩]
  simp only [List.mapM_cons, List.mapM_nil, c1, cm, cellsN, cfK, List.cons_append, List.nil_append, List.drop_zero, List.drop_succ_cons, List.take_succ_cons, List.take_zero, keyInt' _ h1, keyInt' _ h2, keyInt' _ h3, keyInt' _ h4, keyInt' _ h5, keyMask _ h6, keyMask _ h7, t8, keyName]
  simp
theorem run_eqCfR (c : Cf) (h : wfCf c) (w : World) : (Op.equalIn 10000 70 (.agg (cfA c)) (.agg (cfA c))).run Try.prog w = .ok true w := by
  have hE := run_equalIn_deep (P := Try.prog) 9997 3 70 (by kernel_rfl)
  have hfm : (Value.agg (cfA c)).formed Try.prog 70 = true := by
    have c15 : Try.prog.cellsOf 70 = 15 := by kernel_rfl
    simp [Value.formed, Try.underlying70, c15]
  have hk : Try.prog.keyLits 3 70 (Value.agg (cfA c)).cells.toList = some ([.int .i64 c.m, .int .i64 c.v, .int .i64 c.a, .int .i64 c.st, .int .i64 c.ba, .int .i64 c.tw, .int .i64 c.li] ++ (nmb c.sd).map litB) := by
    show Try.prog.keyLits 3 _ (cfA c).toList = _
    rw [cfA_cfK]; exact keyCfR c h
  obtain ⟨r, hr, hiff⟩ := hE w 3 3 _ _ _ _ hfm hfm hk hk
  have hr' : (Op.equalIn 10000 70 (.agg (cfA c)) (.agg (cfA c))).run Try.prog w = .ok r w := hr
  rw [hr', hiff.2 rfl]
@[go_sem] theorem fold_cf (m v a st ba tw li : Int) (n : UInt64) : Array.foldl (fun (cs : Array Value) (x : Value × Nat) => cs.setIfInBounds (7 + x.snd) x.fst) #[.int .i64 m, .int .i64 v, .int .i64 a, .int .i64 st, .int .i64 ba, .int .i64 tw, .int .i64 li, .int .u8 0, .int .u8 0, .int .u8 0, .int .u8 0, .int .u8 0, .int .u8 0, .int .u8 0, .int .u8 0] (nmc n).zipIdx 0 8 = #[.int .i64 m, .int .i64 v, .int .i64 a, .int .i64 st, .int .i64 ba, .int .i64 tw, .int .i64 li, .int .u8 (nb8 n 0), .int .u8 (nb8 n 1), .int .u8 (nb8 n 2), .int .u8 (nb8 n 3), .int .u8 (nb8 n 4), .int .u8 (nb8 n 5), .int .u8 (nb8 n 6), .int .u8 (nb8 n 7)] := by
  rw [← nmc_nb8 n]
  kernel_rfl
set_option maxRecDepth 100000 in
set_option maxHeartbeats 400000 in
theorem keepCfg_any (c : Cf) (w : World) : Calls Try.prog 40 #[.agg (cfA c)] w fun e w' => e = .returned (.agg (cfA c)) ∧ Ext w w' := by
  have hE := ((Ext.refl w).alloc' (.cells (cfA c) 67)).alloc' (.cells zero15 70)
  have HE := Lib.hid hE
  have HB := (Blk.new w 67 (cfA c)).alloc (.cells zero15 70)
  have HC := Lib.hid (show Blk ((w.alloc (.cells (cfA c) 67)).alloc (.cells zero15 70)) (w.heap.size + 1) 70 zero15 from Blk.newAt _ _ _ _ (by simp))
  obtain ⟨q0, q1, q2, q3, q4, q5, q6⟩ := cf_facts HB
  have hr : ((w.alloc (.cells (cfA c) 67)).alloc (.cells zero15 70)).rangeAt w.heap.size 7 (bcs (nmb c.sd)) := by have := rangeAt_take (k := 8) (rangeAt_drop (k := 7) (rangeAt_of_blk HB)); rw [bcs_nb8]; simpa using this
  have htz : ((w.alloc (.cells (cfA c) 67)).alloc (.cells zero15 70)).there (w.heap.size + 1) 0 15 := there_of_blk HC.out
  have hst := blk_whole (ds := cfA c) HC.out rfl
  clear hE HB
  go_enter Try.func40, Try.ntmps40
  go_wp2_with (first | (with_reducible refine wpList_loadN rfl (.tmp 17) rfl w.heap.size 7 rfl c.sd hr ?_) | (with_reducible refine wpList_storeCr rfl (.tmp 2) (.tmp 19) rfl (w.heap.size + 1) (cfA c) rfl rfl htz rfl (cfA_all _) ?_))
  exact bodyPost_ret (v := .agg (cfA c)) (retC rfl _ _ (w.heap.size + 1) _ rfl (run_loadVar_row _ _ _ _ _ (0, 0) _ hst Try.underlying70 rfl (by kernel_rfl))) rfl ⟨rfl, Below.setCells' HE.out (by omega) _ _⟩
end Go.Proofs.Ytcfmlgbocdjabaa
