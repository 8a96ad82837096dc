import Derived.Test.YtfklmcfanhnfpaaHash
namespace Go.Proofs.Ytfklmcfanhnfpaa
open Go.RowKit
set_option linter.unusedVariables false
set_option linter.unusedSimpArgs false
attribute [local go_sem ↓] Go.wp_at_zero Go.wp_at_succ

theorem size61 (n : UInt64) : (Try.prog.info? 25).map (·.size) = some (nmc n).size := by rw [nmc_size]; kernel_rfl
theorem size61b (n : UInt64) : (Try.prog.info? 25).map (·.size) = some (bcs (nmb n)).length := by rw [bcs_length, nmb_length]; kernel_rfl
section
variable {ops : Array Oper} {rest : List Oper} {o : Oper} {a : Act} {w : World} {Q : Exit → Act → World → Prop}
/-- a name is loaded -/
theorem wpList_loadN (hgd : o.guard = none) (x : Operand) (ho : o.op = .load 25 x) (b of : Nat) (hx : a.eval x = .pointer (some ⟨b, of, none⟩)) (n : UInt64) (hc : w.rangeAt b of (bcs (nmb n)))
    (h : wpList Try.prog ops Q rest (a.put o.dst (.agg (nmc n))) w) : wpList Try.prog ops Q (o :: rest) a w :=
  wpList_load_mid hgd 25 x ho b of hx (bcs (nmb n)) _ hc Try.underlying25 rfl (size61b n) h
/-- a name is stored -/
theorem wpList_storeN (hgd : o.guard = none) (x y : Operand) (ho : o.op = .store 25 x y) (b of : Nat) (n : UInt64) (hx : a.eval x = .pointer (some ⟨b, of, none⟩)) (hy : a.eval y = .agg (nmc n)) (ht : w.there b of 8)
    (h : wpList Try.prog ops Q rest (a.put o.dst undef) (w.setCells b of (nmc n).toList)) : wpList Try.prog ops Q (o :: rest) a w :=
  wpList_store_mid hgd 25 x y ho b of (nmc n) hx hy (by rw [nmc_size]; exact ht) (size61 n) (nmc_one n) h
/-- a name is stored into a variable that has just been made -/
theorem wpList_storeNew (hgd : o.guard = none) (x y : Operand) (ho : o.op = .store 25 x y) (g : Nat) (n : UInt64) (hx : a.eval x = .pointer (some ⟨g, 0, none⟩)) (hy : a.eval y = .agg (nmc n)) (hg : w.heap.size = g)
    (h : wpList Try.prog ops Q rest (a.put o.dst undef) (w.alloc (.cells (nmc n) 25))) : wpList Try.prog ops Q (o :: rest) a (w.alloc (.cells zcs.toArray 25)) := by
  subst hg
  refine wpList_storeN hgd x y ho w.heap.size 0 n hx hy (there_of_blk (Blk.new w _ zcs.toArray)) ?_
  rw [setCells_whole _ _ _ _ (by rw [nmc_size]; rfl)]
  exact h
end
/-- a function's result of a name's type -/
theorem retN {fn : Func} {p : Tmp} (hres : fn.results = #[.cell p 25]) (tmps : Array Value) (w1 : World) (g : Nat) (r : UInt64) (hp : tmps.getD p undef = .pointer (some ⟨g, 0, none⟩)) (hb : Blk w1 g 25 (nmc r)) :
    (results fn tmps).run Try.prog w1 = .ok (.agg (nmc r)) w1 :=
  results_cell_row hres tmps w1 g 25 (nmc r) (0, 0) _ hp hb Try.underlying25 rfl (size61 r)
theorem thereN {w : World} {g : Nat} {t : TypeId} (h : Blk w g t zcs.toArray) (r : UInt64) : w.there g 0 (nmc r).size := by rw [nmc_size]; exact there_of_blk h
theorem blkN {w : World} {g : Nat} {t : TypeId} (h : Blk w g t zcs.toArray) (r : UInt64) : Blk (w.setCells g 0 (nmc r).toList) g t (nmc r) := blk_whole h (by rw [nmc_size]; rfl)
theorem run_storeN {w : World} {g : Nat} {t : TypeId} (h : Blk w g t zcs.toArray) (r : UInt64) : (storeCells ⟨g, 0, none⟩ (nmc r).toList).run Try.prog w = .ok () (w.setCells g 0 (nmc r).toList) := by
  have ht := thereN h r
  have := run_storeCells_cells (P := Try.prog) g 0 (nmc r).toList 0 w (fun j hj => by simpa using (ht j (by simpa using hj)).1) (fun j hj => by simpa using (ht j (by simpa using hj)).2) (by rw [nmc_toList]; exact bcs_one _)
  simpa using this
set_option maxHeartbeats 400000 in
theorem of_any (x : UInt64) (w : World) :
    Calls Try.prog 89 #[.int .u64 (un x)] w fun e w' => e = .returned (.agg (nmc x)) ∧ Ext w w' := by
  have h0 := un_nonneg x
  go_enter Try.func89, Try.ntmps89
  go_wp2
  refine bodyPost_ret (v := .agg (nmc x)) ?_ rfl ⟨rfl, (Ext.refl w).alloc' _⟩
  rw [nmc_eq]; exact results_cell_row rfl _ _ w.heap.size 25 _ (0, 0) _ rfl (heap_alloc_new w _) Try.underlying25 rfl (by kernel_rfl)
set_option maxHeartbeats 400000 in
theorem refOf_any (x : UInt64) (w : World) :
    Calls Try.prog 92 #[.int .u64 (un x)] w fun e w' => e = .returned (.agg (nmc x)) ∧ Ext w w' := by
  have h0 := un_nonneg x
  go_enter Try.func92, Try.ntmps92
  go_wp2
  refine bodyPost_ret (v := .agg (nmc x)) ?_ rfl ⟨rfl, (Ext.refl w).alloc' _⟩
  rw [nmc_eq]; exact results_cell_row rfl _ _ w.heap.size 25 _ (0, 0) _ rfl (heap_alloc_new w _) Try.underlying25 rfl (by kernel_rfl)

theorem run_index_name (n : UInt64) (k : Nat) (hk : k < 8) (w : World) :
    (Instr.index 25 (.agg (nmc n)) (.int .i64 (k : Int))).run Try.prog w = .ok (.int .u8 (((nmb n).getD k 0).toNat : Int)) w := by
  have h : (nmc n)[k]? = some (.int .u8 (((nmb n).getD k 0).toNat : Int)) := by
    have hl := nmb_length n
    simp [nmc, bcs, bv, hl, hk]
  have h2 : k < (nmc n).size := by rw [nmc_size]; exact hk
  have hi : (sizeOf 5).run Try.prog w = .ok 1 w := by kernel_rfl
  have ha : (isAgg 5).run Try.prog w = .ok false w := by kernel_rfl
  simp [Instr.index, asIntOf, run_underlying Try.underlying25, part, hi, ha, hk, h]
theorem or_byte (a : Nat) (c : UInt8) (ha : a < 72057594037927936) : bits .or .u64 (IntKind.u64.wrap ((a : Int) * 256)) (c.toNat : Int) = ((a * 256 + c.toNat : Nat) : Int) := by
  have hc : c.toNat < 256 := c.toNat_lt
  have e : IntKind.u64.wrap ((a : Int) * 256) = ((a * 256 : Nat) : Int) := by rw [IntKind.wrap_u64]; omega
  rw [e, u64_or_nat _ _ (by omega) (by omega), show a * 256 = a * 2 ^ 8 from rfl, or_apart _ _ 8 (by omega)]
theorem take_get (l : List UInt8) (k : Nat) (h : k < l.length) : l.take (k + 1) = l.take k ++ [l.getD k 0] := by
  rw [List.take_succ_eq_append_getElem h]; simp [h]
set_option maxHeartbeats 400000 in
theorem number_any (x : UInt64) (w : World) :
    Calls Try.prog 112 #[.agg (nmc x)] w fun e w' => e = .returned (.int .u64 (un x)) ∧ Ext w w' := by
  have hs := nmc_size x
  have hl := nmb_length x
  go_enter Try.func112, Try.ntmps112
  go_wp2_with (refine wpList_load_row rfl 25 _ rfl _ rfl 25 _ (0, 0) _ (heap_alloc_new w _) Try.underlying25 rfl (size61 x) ?_)
  go_loop [3, 7] (fun v i => ∃ k : Nat, k ≤ 8 ∧ i = .int .i64 k ∧ v = .int .u64 (beNat ((nmb x).take k))) (fun _ i => 8 - (intOf i).toNat)
  case atStart => exact ⟨0, by omega, rfl, rfl⟩
  case round =>
    obtain ⟨k, hk, rfl, rfl⟩ := hrel
    by_cases hlt : k < 8
    · have hix := run_index_name x k hlt
      have hb := beNat_lt ((nmb x).take k)
      rw [List.length_take, hl, Nat.min_eq_left (by omega)] at hb
      have hb7 : beNat ((nmb x).take k) < 72057594037927936 := Nat.lt_of_lt_of_le hb (Nat.pow_le_pow_right (n := 256) (j := 7) (by omega) (by omega))
      have hor := or_byte _ ((nmb x).getD k 0) hb7
      have HS := Lib.hid (show beNat ((nmb x).take (k + 1)) = beNat ((nmb x).take k) * 256 + ((nmb x).getD k 0).toNat by rw [take_get _ _ (by omega), beNat_snoc])
      clear hb hb7 hl hs
      generalize beNat ((nmb x).take k) = a at *
      generalize (nmb x).getD k 0 = c at *
      go_wp2
      go_round
      case rel => exact ⟨k + 1, by omega, by go_num, by rw [HS.out]; go_num⟩
      case measure => simp [intOf]; omega
    · have HS := Lib.hid (show (beNat ((nmb x).take k) : Int) = un x by rw [List.take_of_length_le (by omega), beNat_nmb]; rfl)
      clear hl hs
      generalize beNat ((nmb x).take k) = a at *
      go_wp2
      go_ret
      exact ⟨by rw [← HS.out]; rfl, (Ext.refl w).alloc' _⟩
end Go.Proofs.Ytfklmcfanhnfpaa
