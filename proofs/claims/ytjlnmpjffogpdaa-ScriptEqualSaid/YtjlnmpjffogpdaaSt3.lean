/- script.Equal. -/
import Derived.Test.YtjlnmpjffogpdaaSt2
namespace Go.Proofs.Ytjlnmpjffogpdaa
open Go.RowKit
set_option linter.unusedVariables false
set_option linter.unusedSimpArgs false
attribute [local go_sem ↓] Go.wp_at_zero Go.wp_at_succ

theorem index_ints1 (W : World) : Sem.run Try.prog (Instr.index 50 (.agg intsA) (.int .i64 0)) W = .ok (.agg #[.func (.func 38) #[] #[]]) W := by kernel_rfl
theorem index_ints2 (W : World) : Sem.run Try.prog (Instr.index 50 (.agg intsA) (.int .i64 1)) W = .ok (.agg #[.func (.func 39) #[] #[]]) W := by kernel_rfl
theorem index_ints3 (W : World) : Sem.run Try.prog (Instr.index 50 (.agg intsA) (.int .i64 2)) W = .ok (.agg #[.func (.func 40) #[] #[]]) W := by kernel_rfl
theorem index_ints4 (W : World) : Sem.run Try.prog (Instr.index 50 (.agg intsA) (.int .i64 3)) W = .ok (.agg #[.func (.func 41) #[] #[]]) W := by kernel_rfl
theorem index_ints5 (W : World) : Sem.run Try.prog (Instr.index 50 (.agg intsA) (.int .i64 4)) W = .ok (.agg #[.func (.func 42) #[] #[]]) W := by kernel_rfl
theorem index_ints6 (W : World) : Sem.run Try.prog (Instr.index 50 (.agg intsA) (.int .i64 5)) W = .ok (.agg #[.func (.func 43) #[] #[]]) W := by kernel_rfl
theorem index_ints7 (W : World) : Sem.run Try.prog (Instr.index 50 (.agg intsA) (.int .i64 6)) W = .ok (.agg #[.func (.func 44) #[] #[]]) W := by kernel_rfl
theorem index_ints8 (W : World) : Sem.run Try.prog (Instr.index 50 (.agg intsA) (.int .i64 7)) W = .ok (.agg #[.func (.func 45) #[] #[]]) W := by kernel_rfl
theorem index_ints9 (W : World) : Sem.run Try.prog (Instr.index 50 (.agg intsA) (.int .i64 8)) W = .ok (.agg #[.func (.func 46) #[] #[]]) W := by kernel_rfl
theorem wpList_newF {o : Oper} {a : Act} {w : World} {ops : Array Oper} {rest : List Oper} {Q : Exit → Act → World → Prop} (hgd : o.guard = none) (x y : Operand) (ho : o.op = .store 49 x y) (cs : Array Value) (hcs : cs.size = 1) (v : Value) (h1 : v.oneCell' = true) (hx : a.eval x = .pointer (some ⟨w.heap.size, 0, none⟩)) (hy : a.eval y = .agg #[v])
    (h : wpList Try.prog ops Q rest (a.put o.dst undef) (w.alloc (.cells #[v] 49))) : wpList Try.prog ops Q (o :: rest) a (w.alloc (.cells cs 49)) := by
  have ht := there_of_blk (Blk.new w 49 cs)
  rw [hcs] at ht
  refine wpList_store_mid hgd 49 x y ho w.heap.size 0 #[v] hx hy ht (by kernel_rfl) (by simp [h1]) ?_
  rw [setCells_whole w 49 cs #[v] (by rw [hcs]; rfl)]
  exact h
theorem upto_snoc {S T : StR} {k : Nat} (h : ∀ j, j < k → intAt S j = intAt T j) (hk : intAt S k = intAt T k) : ∀ j, j < k + 1 → intAt S j = intAt T j := fun j hj => by
  rcases Nat.lt_or_ge j k with h' | h'
  · exact h j h'
  · obtain rfl : j = k := by omega
    exact hk
set_option maxRecDepth 100000 in
set_option maxHeartbeats 8000000 in
theorem scrEqual_any (S T : StR) (w : World) (hS : S.ok w) (hT : T.ok w) :
    Calls Try.prog 5 #[.agg (spA S), .agg (spA T)] w fun e w' => e = .returned (.bool (eqSt S T)) ∧ Ext w w' := by
  have hE := ((Ext.refl w).alloc' (.cells (spA S) 35)).alloc' (.cells (spA T) 35)
  have HB1 := Lib.hid ((Blk.new w 35 (spA S)).alloc (.cells (spA T) 35))
  have HB2 := Lib.hid (show Blk ((w.alloc (.cells (spA S) 35)).alloc (.cells (spA T) 35)) (w.heap.size + 1) 35 (spA T) from Blk.newAt _ _ _ _ (by simp))
  have HE := Lib.hid hE
  have HS := Lib.hid (hS.ext hE)
  have HT := Lib.hid (hT.ext hE)
  obtain ⟨W0, hW0⟩ : ∃ W0, (w.alloc (.cells (spA S) 35)).alloc (.cells (spA T) 35) = W0 := ⟨_, rfl⟩
  rw [hW0] at HB1 HB2 HE HS HT
  clear hS hT hE
  have HF := Lib.hid (fun (W : World) (h : Ext W0 W) => (⟨sp_facts (HB1.out.ext h), sp_facts (HB2.out.ext h)⟩ : spF W w.heap.size S ∧ spF W (w.heap.size + 1) T))
  go_enter Try.func5, Try.ntmps5
  go_wp2_with fail
  refine (ints_any W0).mono ?_
  rintro e w1 ⟨rfl, he1⟩
  have HX1 := Lib.hid he1
  clear he1
  go_wp2_with fail
  go_loopw [8] (fun i wr => ∃ k : Nat, k ≤ 9 ∧ i = .int .i64 (k : Int) ∧ Hid (∀ j, j < k → intAt S j = intAt T j) ∧ Hid (Ext W0 wr)) (fun i _ => 9 - (intOf i).toNat)
  case atStart => exact ⟨0, by omega, rfl, Lib.hid (fun j hj => by omega), HX1⟩
  case round =>
    obtain ⟨k, hk, rfl, HP, HX⟩ := hrel
    by_cases hlt : k < 9
    · have hc : k = 0 ∨ k = 1 ∨ k = 2 ∨ k = 3 ∨ k = 4 ∨ k = 5 ∨ k = 6 ∨ k = 7 ∨ k = 8 := by omega
      rcases hc with rfl | rfl | rfl | rfl | rfl | rfl | rfl | rfl | rfl
      · have HC := Lib.hid (Blk.new wr 49 #[.func (.func 38) #[] #[]])
        have hidx := index_ints1 wr
        go_wp2_with (first | (with_reducible refine wpList_newF rfl (.tmp 6) (.tmp 10) rfl _ rfl _ rfl rfl rfl ?_))
        clear hidx
        refine wp_region_plan (S := fun W => Ext (wr.alloc (.cells #[.func (.func 38) #[] #[]] 49)) W) (by kernel_rfl) (by kernel_rfl) ((Ext.refl _).drew') ?_
        (refine plan_take (i := 0) (oi := { dst := some 11, op := Op.fieldAddr 49 (Operand.tmp 6) 0, type := 0, pos := "script.go:214", after := #[], guard := none }) (v := ?_) rfl (by kernel_rfl) (by kernel_rfl) (fx_read (Or.inl ⟨by rfl, ?hy0⟩)) ?_; case hy0 => (intro W hSW; obtain ⟨⟨a0, a1, a2, a3, a4, a5, a6, a7, a8, a31, a32, a33, a34, a35⟩, b0, b1, b2, b3, b4, b5, b6, b7, b8, b31, b32, b33, b34, b35⟩ := HF.out W (HX.out.trans (((Ext.refl wr).alloc' _).trans hSW)); have f0 := (HC.out.ext hSW).cell 0; go_simp <;> with_reducible rfl))
        try simp only [Act.put, List.setIfInBounds_toArray, List.set_cons_zero, List.set_cons_succ]
        (refine plan_take (i := 1) (oi := { dst := some 12, op := Op.load 47 (Operand.tmp 11), type := 47, pos := "script.go:214", after := #[{ on := 0, ground := Ground.data }], guard := none }) (v := ?_) rfl (by kernel_rfl) (by kernel_rfl) (fx_read (Or.inl ⟨by rfl, ?hy1⟩)) ?_; case hy1 => (intro W hSW; obtain ⟨⟨a0, a1, a2, a3, a4, a5, a6, a7, a8, a31, a32, a33, a34, a35⟩, b0, b1, b2, b3, b4, b5, b6, b7, b8, b31, b32, b33, b34, b35⟩ := HF.out W (HX.out.trans (((Ext.refl wr).alloc' _).trans hSW)); have f0 := (HC.out.ext hSW).cell 0; go_simp <;> with_reducible rfl))
        try simp only [Act.put, List.setIfInBounds_toArray, List.set_cons_zero, List.set_cons_succ]
        (refine plan_take (i := 2) (oi := { dst := some 13, op := Op.call { callee := Callee.value (Operand.tmp 12), args := #[Operand.tmp 2], argTypes := #[53] }, type := 52, pos := "script.go:214", after := #[{ on := 1, ground := Ground.data }], guard := none }) (v := ?_) rfl (by kernel_rfl) (by kernel_rfl) (fx_call (by rfl) (fun W hSW K hK => ?hy2)) ?_; case hy2 => (go_simp; go_at_call 38; (with_reducible refine (ints1_any w.heap.size W).mono ?_); rintro e w1 ⟨rfl, rfl⟩; exact hK.out _ (hSW)))
        try simp only [Act.put, List.setIfInBounds_toArray, List.set_cons_zero, List.set_cons_succ]
        (refine plan_take (i := 3) (oi := { dst := some 14, op := Op.nilCheck (Operand.tmp 13), type := 0, pos := "script.go:214", after := #[{ on := 2, ground := Ground.data }], guard := none }) (v := ?_) rfl (by kernel_rfl) (by kernel_rfl) (fx_read (Or.inl ⟨by rfl, ?hy3⟩)) ?_; case hy3 => (intro W hSW; obtain ⟨⟨a0, a1, a2, a3, a4, a5, a6, a7, a8, a31, a32, a33, a34, a35⟩, b0, b1, b2, b3, b4, b5, b6, b7, b8, b31, b32, b33, b34, b35⟩ := HF.out W (HX.out.trans (((Ext.refl wr).alloc' _).trans hSW)); have f0 := (HC.out.ext hSW).cell 0; go_simp <;> with_reducible rfl))
        try simp only [Act.put, List.setIfInBounds_toArray, List.set_cons_zero, List.set_cons_succ]
        (refine plan_take (i := 4) (oi := { dst := some 15, op := Op.load 3 (Operand.tmp 14), type := 3, pos := "script.go:214", after := #[{ on := 3, ground := Ground.data }], guard := none }) (v := ?_) rfl (by kernel_rfl) (by kernel_rfl) (fx_read (Or.inl ⟨by rfl, ?hy4⟩)) ?_; case hy4 => (intro W hSW; obtain ⟨⟨a0, a1, a2, a3, a4, a5, a6, a7, a8, a31, a32, a33, a34, a35⟩, b0, b1, b2, b3, b4, b5, b6, b7, b8, b31, b32, b33, b34, b35⟩ := HF.out W (HX.out.trans (((Ext.refl wr).alloc' _).trans hSW)); have f0 := (HC.out.ext hSW).cell 0; go_simp <;> with_reducible rfl))
        try simp only [Act.put, List.setIfInBounds_toArray, List.set_cons_zero, List.set_cons_succ]
        (refine plan_take (i := 5) (oi := { dst := some 16, op := Op.fieldAddr 49 (Operand.tmp 6) 0, type := 0, pos := "script.go:214", after := #[], guard := none }) (v := ?_) rfl (by kernel_rfl) (by kernel_rfl) (fx_read (Or.inl ⟨by rfl, ?hy5⟩)) ?_; case hy5 => (intro W hSW; obtain ⟨⟨a0, a1, a2, a3, a4, a5, a6, a7, a8, a31, a32, a33, a34, a35⟩, b0, b1, b2, b3, b4, b5, b6, b7, b8, b31, b32, b33, b34, b35⟩ := HF.out W (HX.out.trans (((Ext.refl wr).alloc' _).trans hSW)); have f0 := (HC.out.ext hSW).cell 0; go_simp <;> with_reducible rfl))
        try simp only [Act.put, List.setIfInBounds_toArray, List.set_cons_zero, List.set_cons_succ]
        (refine plan_take (i := 6) (oi := { dst := some 17, op := Op.load 47 (Operand.tmp 16), type := 47, pos := "script.go:214", after := #[{ on := 5, ground := Ground.data }], guard := none }) (v := ?_) rfl (by kernel_rfl) (by kernel_rfl) (fx_read (Or.inl ⟨by rfl, ?hy6⟩)) ?_; case hy6 => (intro W hSW; obtain ⟨⟨a0, a1, a2, a3, a4, a5, a6, a7, a8, a31, a32, a33, a34, a35⟩, b0, b1, b2, b3, b4, b5, b6, b7, b8, b31, b32, b33, b34, b35⟩ := HF.out W (HX.out.trans (((Ext.refl wr).alloc' _).trans hSW)); have f0 := (HC.out.ext hSW).cell 0; go_simp <;> with_reducible rfl))
        try simp only [Act.put, List.setIfInBounds_toArray, List.set_cons_zero, List.set_cons_succ]
        (refine plan_take (i := 7) (oi := { dst := some 18, op := Op.call { callee := Callee.value (Operand.tmp 17), args := #[Operand.tmp 3], argTypes := #[53] }, type := 52, pos := "script.go:214", after := #[{ on := 6, ground := Ground.data }, { on := 2, ground := Ground.chain }], guard := none }) (v := ?_) rfl (by kernel_rfl) (by kernel_rfl) (fx_call (by rfl) (fun W hSW K hK => ?hy7)) ?_; case hy7 => (go_simp; go_at_call 38; (with_reducible refine (ints1_any (w.heap.size + 1) W).mono ?_); rintro e w1 ⟨rfl, rfl⟩; exact hK.out _ (hSW)))
        try simp only [Act.put, List.setIfInBounds_toArray, List.set_cons_zero, List.set_cons_succ]
        (refine plan_take (i := 8) (oi := { dst := some 19, op := Op.nilCheck (Operand.tmp 18), type := 0, pos := "script.go:214", after := #[{ on := 7, ground := Ground.data }], guard := none }) (v := ?_) rfl (by kernel_rfl) (by kernel_rfl) (fx_read (Or.inl ⟨by rfl, ?hy8⟩)) ?_; case hy8 => (intro W hSW; obtain ⟨⟨a0, a1, a2, a3, a4, a5, a6, a7, a8, a31, a32, a33, a34, a35⟩, b0, b1, b2, b3, b4, b5, b6, b7, b8, b31, b32, b33, b34, b35⟩ := HF.out W (HX.out.trans (((Ext.refl wr).alloc' _).trans hSW)); have f0 := (HC.out.ext hSW).cell 0; go_simp <;> with_reducible rfl))
        try simp only [Act.put, List.setIfInBounds_toArray, List.set_cons_zero, List.set_cons_succ]
        (refine plan_take (i := 9) (oi := { dst := some 20, op := Op.load 3 (Operand.tmp 19), type := 3, pos := "script.go:214", after := #[{ on := 8, ground := Ground.data }], guard := none }) (v := ?_) rfl (by kernel_rfl) (by kernel_rfl) (fx_read (Or.inl ⟨by rfl, ?hy9⟩)) ?_; case hy9 => (intro W hSW; obtain ⟨⟨a0, a1, a2, a3, a4, a5, a6, a7, a8, a31, a32, a33, a34, a35⟩, b0, b1, b2, b3, b4, b5, b6, b7, b8, b31, b32, b33, b34, b35⟩ := HF.out W (HX.out.trans (((Ext.refl wr).alloc' _).trans hSW)); have f0 := (HC.out.ext hSW).cell 0; go_simp <;> with_reducible rfl))
        try simp only [Act.put, List.setIfInBounds_toArray, List.set_cons_zero, List.set_cons_succ]
        (refine plan_take (i := 10) (oi := { dst := some 21, op := Op.binOp BinOp.neq 3 (Operand.tmp 15) (Operand.tmp 20) 3, type := 4, pos := "script.go:214", after := #[{ on := 4, ground := Ground.data }, { on := 9, ground := Ground.data }], guard := none }) (v := ?_) rfl (by kernel_rfl) (by kernel_rfl) (fx_read (Or.inl ⟨by rfl, ?hy10⟩)) ?_; case hy10 => (intro W hSW; obtain ⟨⟨a0, a1, a2, a3, a4, a5, a6, a7, a8, a31, a32, a33, a34, a35⟩, b0, b1, b2, b3, b4, b5, b6, b7, b8, b31, b32, b33, b34, b35⟩ := HF.out W (HX.out.trans (((Ext.refl wr).alloc' _).trans hSW)); have f0 := (HC.out.ext hSW).cell 0; go_simp <;> with_reducible rfl))
        try simp only [Act.put, List.setIfInBounds_toArray, List.set_cons_zero, List.set_cons_succ]
        refine Plan.done (by kernel_rfl) (fun W hSW => ?_)
        have HX2 := Lib.hid (HX.out.trans (((Ext.refl wr).alloc' (.cells #[.func (.func 38) #[] #[]] 49)).trans hSW))
        clear hSW HC
        by_cases hv : S.k = T.k
        · have HP' := Lib.hid (upto_snoc (k := 0) HP.out hv)
          have x1 : (S.k != T.k) = false := by simpa using hv
          have x2 : (S.k == T.k) = true := by simpa using hv
          have x3 : decide (S.k = T.k) = true := decide_eq_true hv
          clear hv
          go_wp2_with fail
          go_roundw
          case rel => exact ⟨1, by omega, by go_num, HP', HX2⟩
          case measure => simp [intOf]
        · have HN := Lib.hid (show eqSt S T = false by unfold eqSt; rw [eqI_no (i := 0) (by omega) hv]; rfl)
          have x1 : (S.k != T.k) = true := by simpa using hv
          have x2 : (S.k == T.k) = false := by simpa using hv
          have x3 : decide (S.k = T.k) = false := decide_eq_false hv
          clear hv
          go_wp2_with fail
          go_ret
          exact ⟨by rw [HN.out]; rfl, HE.out.trans HX2.out⟩
      · have HC := Lib.hid (Blk.new wr 49 #[.func (.func 39) #[] #[]])
        have hidx := index_ints2 wr
        go_wp2_with (first | (with_reducible refine wpList_newF rfl (.tmp 6) (.tmp 10) rfl _ rfl _ rfl rfl rfl ?_))
        clear hidx
        refine wp_region_plan (S := fun W => Ext (wr.alloc (.cells #[.func (.func 39) #[] #[]] 49)) W) (by kernel_rfl) (by kernel_rfl) ((Ext.refl _).drew') ?_
        (refine plan_take (i := 0) (oi := { dst := some 11, op := Op.fieldAddr 49 (Operand.tmp 6) 0, type := 0, pos := "script.go:214", after := #[], guard := none }) (v := ?_) rfl (by kernel_rfl) (by kernel_rfl) (fx_read (Or.inl ⟨by rfl, ?hy0⟩)) ?_; case hy0 => (intro W hSW; obtain ⟨⟨a0, a1, a2, a3, a4, a5, a6, a7, a8, a31, a32, a33, a34, a35⟩, b0, b1, b2, b3, b4, b5, b6, b7, b8, b31, b32, b33, b34, b35⟩ := HF.out W (HX.out.trans (((Ext.refl wr).alloc' _).trans hSW)); have f0 := (HC.out.ext hSW).cell 0; go_simp <;> with_reducible rfl))
        try simp only [Act.put, List.setIfInBounds_toArray, List.set_cons_zero, List.set_cons_succ]
        (refine plan_take (i := 1) (oi := { dst := some 12, op := Op.load 47 (Operand.tmp 11), type := 47, pos := "script.go:214", after := #[{ on := 0, ground := Ground.data }], guard := none }) (v := ?_) rfl (by kernel_rfl) (by kernel_rfl) (fx_read (Or.inl ⟨by rfl, ?hy1⟩)) ?_; case hy1 => (intro W hSW; obtain ⟨⟨a0, a1, a2, a3, a4, a5, a6, a7, a8, a31, a32, a33, a34, a35⟩, b0, b1, b2, b3, b4, b5, b6, b7, b8, b31, b32, b33, b34, b35⟩ := HF.out W (HX.out.trans (((Ext.refl wr).alloc' _).trans hSW)); have f0 := (HC.out.ext hSW).cell 0; go_simp <;> with_reducible rfl))
        try simp only [Act.put, List.setIfInBounds_toArray, List.set_cons_zero, List.set_cons_succ]
        (refine plan_take (i := 2) (oi := { dst := some 13, op := Op.call { callee := Callee.value (Operand.tmp 12), args := #[Operand.tmp 2], argTypes := #[53] }, type := 52, pos := "script.go:214", after := #[{ on := 1, ground := Ground.data }], guard := none }) (v := ?_) rfl (by kernel_rfl) (by kernel_rfl) (fx_call (by rfl) (fun W hSW K hK => ?hy2)) ?_; case hy2 => (go_simp; go_at_call 39; (with_reducible refine (ints2_any w.heap.size W).mono ?_); rintro e w1 ⟨rfl, rfl⟩; exact hK.out _ (hSW)))
        try simp only [Act.put, List.setIfInBounds_toArray, List.set_cons_zero, List.set_cons_succ]
        (refine plan_take (i := 3) (oi := { dst := some 14, op := Op.nilCheck (Operand.tmp 13), type := 0, pos := "script.go:214", after := #[{ on := 2, ground := Ground.data }], guard := none }) (v := ?_) rfl (by kernel_rfl) (by kernel_rfl) (fx_read (Or.inl ⟨by rfl, ?hy3⟩)) ?_; case hy3 => (intro W hSW; obtain ⟨⟨a0, a1, a2, a3, a4, a5, a6, a7, a8, a31, a32, a33, a34, a35⟩, b0, b1, b2, b3, b4, b5, b6, b7, b8, b31, b32, b33, b34, b35⟩ := HF.out W (HX.out.trans (((Ext.refl wr).alloc' _).trans hSW)); have f0 := (HC.out.ext hSW).cell 0; go_simp <;> with_reducible rfl))
        try simp only [Act.put, List.setIfInBounds_toArray, List.set_cons_zero, List.set_cons_succ]
        (refine plan_take (i := 4) (oi := { dst := some 15, op := Op.load 3 (Operand.tmp 14), type := 3, pos := "script.go:214", after := #[{ on := 3, ground := Ground.data }], guard := none }) (v := ?_) rfl (by kernel_rfl) (by kernel_rfl) (fx_read (Or.inl ⟨by rfl, ?hy4⟩)) ?_; case hy4 => (intro W hSW; obtain ⟨⟨a0, a1, a2, a3, a4, a5, a6, a7, a8, a31, a32, a33, a34, a35⟩, b0, b1, b2, b3, b4, b5, b6, b7, b8, b31, b32, b33, b34, b35⟩ := HF.out W (HX.out.trans (((Ext.refl wr).alloc' _).trans hSW)); have f0 := (HC.out.ext hSW).cell 0; go_simp <;> with_reducible rfl))
        try simp only [Act.put, List.setIfInBounds_toArray, List.set_cons_zero, List.set_cons_succ]
        (refine plan_take (i := 5) (oi := { dst := some 16, op := Op.fieldAddr 49 (Operand.tmp 6) 0, type := 0, pos := "script.go:214", after := #[], guard := none }) (v := ?_) rfl (by kernel_rfl) (by kernel_rfl) (fx_read (Or.inl ⟨by rfl, ?hy5⟩)) ?_; case hy5 => (intro W hSW; obtain ⟨⟨a0, a1, a2, a3, a4, a5, a6, a7, a8, a31, a32, a33, a34, a35⟩, b0, b1, b2, b3, b4, b5, b6, b7, b8, b31, b32, b33, b34, b35⟩ := HF.out W (HX.out.trans (((Ext.refl wr).alloc' _).trans hSW)); have f0 := (HC.out.ext hSW).cell 0; go_simp <;> with_reducible rfl))
        try simp only [Act.put, List.setIfInBounds_toArray, List.set_cons_zero, List.set_cons_succ]
        (refine plan_take (i := 6) (oi := { dst := some 17, op := Op.load 47 (Operand.tmp 16), type := 47, pos := "script.go:214", after := #[{ on := 5, ground := Ground.data }], guard := none }) (v := ?_) rfl (by kernel_rfl) (by kernel_rfl) (fx_read (Or.inl ⟨by rfl, ?hy6⟩)) ?_; case hy6 => (intro W hSW; obtain ⟨⟨a0, a1, a2, a3, a4, a5, a6, a7, a8, a31, a32, a33, a34, a35⟩, b0, b1, b2, b3, b4, b5, b6, b7, b8, b31, b32, b33, b34, b35⟩ := HF.out W (HX.out.trans (((Ext.refl wr).alloc' _).trans hSW)); have f0 := (HC.out.ext hSW).cell 0; go_simp <;> with_reducible rfl))
        try simp only [Act.put, List.setIfInBounds_toArray, List.set_cons_zero, List.set_cons_succ]
        (refine plan_take (i := 7) (oi := { dst := some 18, op := Op.call { callee := Callee.value (Operand.tmp 17), args := #[Operand.tmp 3], argTypes := #[53] }, type := 52, pos := "script.go:214", after := #[{ on := 6, ground := Ground.data }, { on := 2, ground := Ground.chain }], guard := none }) (v := ?_) rfl (by kernel_rfl) (by kernel_rfl) (fx_call (by rfl) (fun W hSW K hK => ?hy7)) ?_; case hy7 => (go_simp; go_at_call 39; (with_reducible refine (ints2_any (w.heap.size + 1) W).mono ?_); rintro e w1 ⟨rfl, rfl⟩; exact hK.out _ (hSW)))
        try simp only [Act.put, List.setIfInBounds_toArray, List.set_cons_zero, List.set_cons_succ]
        (refine plan_take (i := 8) (oi := { dst := some 19, op := Op.nilCheck (Operand.tmp 18), type := 0, pos := "script.go:214", after := #[{ on := 7, ground := Ground.data }], guard := none }) (v := ?_) rfl (by kernel_rfl) (by kernel_rfl) (fx_read (Or.inl ⟨by rfl, ?hy8⟩)) ?_; case hy8 => (intro W hSW; obtain ⟨⟨a0, a1, a2, a3, a4, a5, a6, a7, a8, a31, a32, a33, a34, a35⟩, b0, b1, b2, b3, b4, b5, b6, b7, b8, b31, b32, b33, b34, b35⟩ := HF.out W (HX.out.trans (((Ext.refl wr).alloc' _).trans hSW)); have f0 := (HC.out.ext hSW).cell 0; go_simp <;> with_reducible rfl))
        try simp only [Act.put, List.setIfInBounds_toArray, List.set_cons_zero, List.set_cons_succ]
        (refine plan_take (i := 9) (oi := { dst := some 20, op := Op.load 3 (Operand.tmp 19), type := 3, pos := "script.go:214", after := #[{ on := 8, ground := Ground.data }], guard := none }) (v := ?_) rfl (by kernel_rfl) (by kernel_rfl) (fx_read (Or.inl ⟨by rfl, ?hy9⟩)) ?_; case hy9 => (intro W hSW; obtain ⟨⟨a0, a1, a2, a3, a4, a5, a6, a7, a8, a31, a32, a33, a34, a35⟩, b0, b1, b2, b3, b4, b5, b6, b7, b8, b31, b32, b33, b34, b35⟩ := HF.out W (HX.out.trans (((Ext.refl wr).alloc' _).trans hSW)); have f0 := (HC.out.ext hSW).cell 0; go_simp <;> with_reducible rfl))
        try simp only [Act.put, List.setIfInBounds_toArray, List.set_cons_zero, List.set_cons_succ]
        (refine plan_take (i := 10) (oi := { dst := some 21, op := Op.binOp BinOp.neq 3 (Operand.tmp 15) (Operand.tmp 20) 3, type := 4, pos := "script.go:214", after := #[{ on := 4, ground := Ground.data }, { on := 9, ground := Ground.data }], guard := none }) (v := ?_) rfl (by kernel_rfl) (by kernel_rfl) (fx_read (Or.inl ⟨by rfl, ?hy10⟩)) ?_; case hy10 => (intro W hSW; obtain ⟨⟨a0, a1, a2, a3, a4, a5, a6, a7, a8, a31, a32, a33, a34, a35⟩, b0, b1, b2, b3, b4, b5, b6, b7, b8, b31, b32, b33, b34, b35⟩ := HF.out W (HX.out.trans (((Ext.refl wr).alloc' _).trans hSW)); have f0 := (HC.out.ext hSW).cell 0; go_simp <;> with_reducible rfl))
        try simp only [Act.put, List.setIfInBounds_toArray, List.set_cons_zero, List.set_cons_succ]
        refine Plan.done (by kernel_rfl) (fun W hSW => ?_)
        have HX2 := Lib.hid (HX.out.trans (((Ext.refl wr).alloc' (.cells #[.func (.func 39) #[] #[]] 49)).trans hSW))
        clear hSW HC
        by_cases hv : S.pr = T.pr
        · have HP' := Lib.hid (upto_snoc (k := 1) HP.out hv)
          have x1 : (S.pr != T.pr) = false := by simpa using hv
          have x2 : (S.pr == T.pr) = true := by simpa using hv
          have x3 : decide (S.pr = T.pr) = true := decide_eq_true hv
          clear hv
          go_wp2_with fail
          go_roundw
          case rel => exact ⟨2, by omega, by go_num, HP', HX2⟩
          case measure => simp [intOf]
        · have HN := Lib.hid (show eqSt S T = false by unfold eqSt; rw [eqI_no (i := 1) (by omega) hv]; rfl)
          have x1 : (S.pr != T.pr) = true := by simpa using hv
          have x2 : (S.pr == T.pr) = false := by simpa using hv
          have x3 : decide (S.pr = T.pr) = false := decide_eq_false hv
          clear hv
          go_wp2_with fail
          go_ret
          exact ⟨by rw [HN.out]; rfl, HE.out.trans HX2.out⟩
      · have HC := Lib.hid (Blk.new wr 49 #[.func (.func 40) #[] #[]])
        have hidx := index_ints3 wr
        go_wp2_with (first | (with_reducible refine wpList_newF rfl (.tmp 6) (.tmp 10) rfl _ rfl _ rfl rfl rfl ?_))
        clear hidx
        refine wp_region_plan (S := fun W => Ext (wr.alloc (.cells #[.func (.func 40) #[] #[]] 49)) W) (by kernel_rfl) (by kernel_rfl) ((Ext.refl _).drew') ?_
        (refine plan_take (i := 0) (oi := { dst := some 11, op := Op.fieldAddr 49 (Operand.tmp 6) 0, type := 0, pos := "script.go:214", after := #[], guard := none }) (v := ?_) rfl (by kernel_rfl) (by kernel_rfl) (fx_read (Or.inl ⟨by rfl, ?hy0⟩)) ?_; case hy0 => (intro W hSW; obtain ⟨⟨a0, a1, a2, a3, a4, a5, a6, a7, a8, a31, a32, a33, a34, a35⟩, b0, b1, b2, b3, b4, b5, b6, b7, b8, b31, b32, b33, b34, b35⟩ := HF.out W (HX.out.trans (((Ext.refl wr).alloc' _).trans hSW)); have f0 := (HC.out.ext hSW).cell 0; go_simp <;> with_reducible rfl))
        try simp only [Act.put, List.setIfInBounds_toArray, List.set_cons_zero, List.set_cons_succ]
        (refine plan_take (i := 1) (oi := { dst := some 12, op := Op.load 47 (Operand.tmp 11), type := 47, pos := "script.go:214", after := #[{ on := 0, ground := Ground.data }], guard := none }) (v := ?_) rfl (by kernel_rfl) (by kernel_rfl) (fx_read (Or.inl ⟨by rfl, ?hy1⟩)) ?_; case hy1 => (intro W hSW; obtain ⟨⟨a0, a1, a2, a3, a4, a5, a6, a7, a8, a31, a32, a33, a34, a35⟩, b0, b1, b2, b3, b4, b5, b6, b7, b8, b31, b32, b33, b34, b35⟩ := HF.out W (HX.out.trans (((Ext.refl wr).alloc' _).trans hSW)); have f0 := (HC.out.ext hSW).cell 0; go_simp <;> with_reducible rfl))
        try simp only [Act.put, List.setIfInBounds_toArray, List.set_cons_zero, List.set_cons_succ]
        (refine plan_take (i := 2) (oi := { dst := some 13, op := Op.call { callee := Callee.value (Operand.tmp 12), args := #[Operand.tmp 2], argTypes := #[53] }, type := 52, pos := "script.go:214", after := #[{ on := 1, ground := Ground.data }], guard := none }) (v := ?_) rfl (by kernel_rfl) (by kernel_rfl) (fx_call (by rfl) (fun W hSW K hK => ?hy2)) ?_; case hy2 => (go_simp; go_at_call 40; (with_reducible refine (ints3_any w.heap.size W).mono ?_); rintro e w1 ⟨rfl, rfl⟩; exact hK.out _ (hSW)))
        try simp only [Act.put, List.setIfInBounds_toArray, List.set_cons_zero, List.set_cons_succ]
        (refine plan_take (i := 3) (oi := { dst := some 14, op := Op.nilCheck (Operand.tmp 13), type := 0, pos := "script.go:214", after := #[{ on := 2, ground := Ground.data }], guard := none }) (v := ?_) rfl (by kernel_rfl) (by kernel_rfl) (fx_read (Or.inl ⟨by rfl, ?hy3⟩)) ?_; case hy3 => (intro W hSW; obtain ⟨⟨a0, a1, a2, a3, a4, a5, a6, a7, a8, a31, a32, a33, a34, a35⟩, b0, b1, b2, b3, b4, b5, b6, b7, b8, b31, b32, b33, b34, b35⟩ := HF.out W (HX.out.trans (((Ext.refl wr).alloc' _).trans hSW)); have f0 := (HC.out.ext hSW).cell 0; go_simp <;> with_reducible rfl))
        try simp only [Act.put, List.setIfInBounds_toArray, List.set_cons_zero, List.set_cons_succ]
        (refine plan_take (i := 4) (oi := { dst := some 15, op := Op.load 3 (Operand.tmp 14), type := 3, pos := "script.go:214", after := #[{ on := 3, ground := Ground.data }], guard := none }) (v := ?_) rfl (by kernel_rfl) (by kernel_rfl) (fx_read (Or.inl ⟨by rfl, ?hy4⟩)) ?_; case hy4 => (intro W hSW; obtain ⟨⟨a0, a1, a2, a3, a4, a5, a6, a7, a8, a31, a32, a33, a34, a35⟩, b0, b1, b2, b3, b4, b5, b6, b7, b8, b31, b32, b33, b34, b35⟩ := HF.out W (HX.out.trans (((Ext.refl wr).alloc' _).trans hSW)); have f0 := (HC.out.ext hSW).cell 0; go_simp <;> with_reducible rfl))
        try simp only [Act.put, List.setIfInBounds_toArray, List.set_cons_zero, List.set_cons_succ]
        (refine plan_take (i := 5) (oi := { dst := some 16, op := Op.fieldAddr 49 (Operand.tmp 6) 0, type := 0, pos := "script.go:214", after := #[], guard := none }) (v := ?_) rfl (by kernel_rfl) (by kernel_rfl) (fx_read (Or.inl ⟨by rfl, ?hy5⟩)) ?_; case hy5 => (intro W hSW; obtain ⟨⟨a0, a1, a2, a3, a4, a5, a6, a7, a8, a31, a32, a33, a34, a35⟩, b0, b1, b2, b3, b4, b5, b6, b7, b8, b31, b32, b33, b34, b35⟩ := HF.out W (HX.out.trans (((Ext.refl wr).alloc' _).trans hSW)); have f0 := (HC.out.ext hSW).cell 0; go_simp <;> with_reducible rfl))
        try simp only [Act.put, List.setIfInBounds_toArray, List.set_cons_zero, List.set_cons_succ]
        (refine plan_take (i := 6) (oi := { dst := some 17, op := Op.load 47 (Operand.tmp 16), type := 47, pos := "script.go:214", after := #[{ on := 5, ground := Ground.data }], guard := none }) (v := ?_) rfl (by kernel_rfl) (by kernel_rfl) (fx_read (Or.inl ⟨by rfl, ?hy6⟩)) ?_; case hy6 => (intro W hSW; obtain ⟨⟨a0, a1, a2, a3, a4, a5, a6, a7, a8, a31, a32, a33, a34, a35⟩, b0, b1, b2, b3, b4, b5, b6, b7, b8, b31, b32, b33, b34, b35⟩ := HF.out W (HX.out.trans (((Ext.refl wr).alloc' _).trans hSW)); have f0 := (HC.out.ext hSW).cell 0; go_simp <;> with_reducible rfl))
        try simp only [Act.put, List.setIfInBounds_toArray, List.set_cons_zero, List.set_cons_succ]
        (refine plan_take (i := 7) (oi := { dst := some 18, op := Op.call { callee := Callee.value (Operand.tmp 17), args := #[Operand.tmp 3], argTypes := #[53] }, type := 52, pos := "script.go:214", after := #[{ on := 6, ground := Ground.data }, { on := 2, ground := Ground.chain }], guard := none }) (v := ?_) rfl (by kernel_rfl) (by kernel_rfl) (fx_call (by rfl) (fun W hSW K hK => ?hy7)) ?_; case hy7 => (go_simp; go_at_call 40; (with_reducible refine (ints3_any (w.heap.size + 1) W).mono ?_); rintro e w1 ⟨rfl, rfl⟩; exact hK.out _ (hSW)))
        try simp only [Act.put, List.setIfInBounds_toArray, List.set_cons_zero, List.set_cons_succ]
        (refine plan_take (i := 8) (oi := { dst := some 19, op := Op.nilCheck (Operand.tmp 18), type := 0, pos := "script.go:214", after := #[{ on := 7, ground := Ground.data }], guard := none }) (v := ?_) rfl (by kernel_rfl) (by kernel_rfl) (fx_read (Or.inl ⟨by rfl, ?hy8⟩)) ?_; case hy8 => (intro W hSW; obtain ⟨⟨a0, a1, a2, a3, a4, a5, a6, a7, a8, a31, a32, a33, a34, a35⟩, b0, b1, b2, b3, b4, b5, b6, b7, b8, b31, b32, b33, b34, b35⟩ := HF.out W (HX.out.trans (((Ext.refl wr).alloc' _).trans hSW)); have f0 := (HC.out.ext hSW).cell 0; go_simp <;> with_reducible rfl))
        try simp only [Act.put, List.setIfInBounds_toArray, List.set_cons_zero, List.set_cons_succ]
        (refine plan_take (i := 9) (oi := { dst := some 20, op := Op.load 3 (Operand.tmp 19), type := 3, pos := "script.go:214", after := #[{ on := 8, ground := Ground.data }], guard := none }) (v := ?_) rfl (by kernel_rfl) (by kernel_rfl) (fx_read (Or.inl ⟨by rfl, ?hy9⟩)) ?_; case hy9 => (intro W hSW; obtain ⟨⟨a0, a1, a2, a3, a4, a5, a6, a7, a8, a31, a32, a33, a34, a35⟩, b0, b1, b2, b3, b4, b5, b6, b7, b8, b31, b32, b33, b34, b35⟩ := HF.out W (HX.out.trans (((Ext.refl wr).alloc' _).trans hSW)); have f0 := (HC.out.ext hSW).cell 0; go_simp <;> with_reducible rfl))
        try simp only [Act.put, List.setIfInBounds_toArray, List.set_cons_zero, List.set_cons_succ]
        (refine plan_take (i := 10) (oi := { dst := some 21, op := Op.binOp BinOp.neq 3 (Operand.tmp 15) (Operand.tmp 20) 3, type := 4, pos := "script.go:214", after := #[{ on := 4, ground := Ground.data }, { on := 9, ground := Ground.data }], guard := none }) (v := ?_) rfl (by kernel_rfl) (by kernel_rfl) (fx_read (Or.inl ⟨by rfl, ?hy10⟩)) ?_; case hy10 => (intro W hSW; obtain ⟨⟨a0, a1, a2, a3, a4, a5, a6, a7, a8, a31, a32, a33, a34, a35⟩, b0, b1, b2, b3, b4, b5, b6, b7, b8, b31, b32, b33, b34, b35⟩ := HF.out W (HX.out.trans (((Ext.refl wr).alloc' _).trans hSW)); have f0 := (HC.out.ext hSW).cell 0; go_simp <;> with_reducible rfl))
        try simp only [Act.put, List.setIfInBounds_toArray, List.set_cons_zero, List.set_cons_succ]
        refine Plan.done (by kernel_rfl) (fun W hSW => ?_)
        have HX2 := Lib.hid (HX.out.trans (((Ext.refl wr).alloc' (.cells #[.func (.func 40) #[] #[]] 49)).trans hSW))
        clear hSW HC
        by_cases hv : S.to = T.to
        · have HP' := Lib.hid (upto_snoc (k := 2) HP.out hv)
          have x1 : (S.to != T.to) = false := by simpa using hv
          have x2 : (S.to == T.to) = true := by simpa using hv
          have x3 : decide (S.to = T.to) = true := decide_eq_true hv
          clear hv
          go_wp2_with fail
          go_roundw
          case rel => exact ⟨3, by omega, by go_num, HP', HX2⟩
          case measure => simp [intOf]
        · have HN := Lib.hid (show eqSt S T = false by unfold eqSt; rw [eqI_no (i := 2) (by omega) hv]; rfl)
          have x1 : (S.to != T.to) = true := by simpa using hv
          have x2 : (S.to == T.to) = false := by simpa using hv
          have x3 : decide (S.to = T.to) = false := decide_eq_false hv
          clear hv
          go_wp2_with fail
          go_ret
          exact ⟨by rw [HN.out]; rfl, HE.out.trans HX2.out⟩
      · have HC := Lib.hid (Blk.new wr 49 #[.func (.func 41) #[] #[]])
        have hidx := index_ints4 wr
        go_wp2_with (first | (with_reducible refine wpList_newF rfl (.tmp 6) (.tmp 10) rfl _ rfl _ rfl rfl rfl ?_))
        clear hidx
        refine wp_region_plan (S := fun W => Ext (wr.alloc (.cells #[.func (.func 41) #[] #[]] 49)) W) (by kernel_rfl) (by kernel_rfl) ((Ext.refl _).drew') ?_
        (refine plan_take (i := 0) (oi := { dst := some 11, op := Op.fieldAddr 49 (Operand.tmp 6) 0, type := 0, pos := "script.go:214", after := #[], guard := none }) (v := ?_) rfl (by kernel_rfl) (by kernel_rfl) (fx_read (Or.inl ⟨by rfl, ?hy0⟩)) ?_; case hy0 => (intro W hSW; obtain ⟨⟨a0, a1, a2, a3, a4, a5, a6, a7, a8, a31, a32, a33, a34, a35⟩, b0, b1, b2, b3, b4, b5, b6, b7, b8, b31, b32, b33, b34, b35⟩ := HF.out W (HX.out.trans (((Ext.refl wr).alloc' _).trans hSW)); have f0 := (HC.out.ext hSW).cell 0; go_simp <;> with_reducible rfl))
        try simp only [Act.put, List.setIfInBounds_toArray, List.set_cons_zero, List.set_cons_succ]
        (refine plan_take (i := 1) (oi := { dst := some 12, op := Op.load 47 (Operand.tmp 11), type := 47, pos := "script.go:214", after := #[{ on := 0, ground := Ground.data }], guard := none }) (v := ?_) rfl (by kernel_rfl) (by kernel_rfl) (fx_read (Or.inl ⟨by rfl, ?hy1⟩)) ?_; case hy1 => (intro W hSW; obtain ⟨⟨a0, a1, a2, a3, a4, a5, a6, a7, a8, a31, a32, a33, a34, a35⟩, b0, b1, b2, b3, b4, b5, b6, b7, b8, b31, b32, b33, b34, b35⟩ := HF.out W (HX.out.trans (((Ext.refl wr).alloc' _).trans hSW)); have f0 := (HC.out.ext hSW).cell 0; go_simp <;> with_reducible rfl))
        try simp only [Act.put, List.setIfInBounds_toArray, List.set_cons_zero, List.set_cons_succ]
        (refine plan_take (i := 2) (oi := { dst := some 13, op := Op.call { callee := Callee.value (Operand.tmp 12), args := #[Operand.tmp 2], argTypes := #[53] }, type := 52, pos := "script.go:214", after := #[{ on := 1, ground := Ground.data }], guard := none }) (v := ?_) rfl (by kernel_rfl) (by kernel_rfl) (fx_call (by rfl) (fun W hSW K hK => ?hy2)) ?_; case hy2 => (go_simp; go_at_call 41; (with_reducible refine (ints4_any w.heap.size W).mono ?_); rintro e w1 ⟨rfl, rfl⟩; exact hK.out _ (hSW)))
        try simp only [Act.put, List.setIfInBounds_toArray, List.set_cons_zero, List.set_cons_succ]
        (refine plan_take (i := 3) (oi := { dst := some 14, op := Op.nilCheck (Operand.tmp 13), type := 0, pos := "script.go:214", after := #[{ on := 2, ground := Ground.data }], guard := none }) (v := ?_) rfl (by kernel_rfl) (by kernel_rfl) (fx_read (Or.inl ⟨by rfl, ?hy3⟩)) ?_; case hy3 => (intro W hSW; obtain ⟨⟨a0, a1, a2, a3, a4, a5, a6, a7, a8, a31, a32, a33, a34, a35⟩, b0, b1, b2, b3, b4, b5, b6, b7, b8, b31, b32, b33, b34, b35⟩ := HF.out W (HX.out.trans (((Ext.refl wr).alloc' _).trans hSW)); have f0 := (HC.out.ext hSW).cell 0; go_simp <;> with_reducible rfl))
        try simp only [Act.put, List.setIfInBounds_toArray, List.set_cons_zero, List.set_cons_succ]
        (refine plan_take (i := 4) (oi := { dst := some 15, op := Op.load 3 (Operand.tmp 14), type := 3, pos := "script.go:214", after := #[{ on := 3, ground := Ground.data }], guard := none }) (v := ?_) rfl (by kernel_rfl) (by kernel_rfl) (fx_read (Or.inl ⟨by rfl, ?hy4⟩)) ?_; case hy4 => (intro W hSW; obtain ⟨⟨a0, a1, a2, a3, a4, a5, a6, a7, a8, a31, a32, a33, a34, a35⟩, b0, b1, b2, b3, b4, b5, b6, b7, b8, b31, b32, b33, b34, b35⟩ := HF.out W (HX.out.trans (((Ext.refl wr).alloc' _).trans hSW)); have f0 := (HC.out.ext hSW).cell 0; go_simp <;> with_reducible rfl))
        try simp only [Act.put, List.setIfInBounds_toArray, List.set_cons_zero, List.set_cons_succ]
        (refine plan_take (i := 5) (oi := { dst := some 16, op := Op.fieldAddr 49 (Operand.tmp 6) 0, type := 0, pos := "script.go:214", after := #[], guard := none }) (v := ?_) rfl (by kernel_rfl) (by kernel_rfl) (fx_read (Or.inl ⟨by rfl, ?hy5⟩)) ?_; case hy5 => (intro W hSW; obtain ⟨⟨a0, a1, a2, a3, a4, a5, a6, a7, a8, a31, a32, a33, a34, a35⟩, b0, b1, b2, b3, b4, b5, b6, b7, b8, b31, b32, b33, b34, b35⟩ := HF.out W (HX.out.trans (((Ext.refl wr).alloc' _).trans hSW)); have f0 := (HC.out.ext hSW).cell 0; go_simp <;> with_reducible rfl))
        try simp only [Act.put, List.setIfInBounds_toArray, List.set_cons_zero, List.set_cons_succ]
        (refine plan_take (i := 6) (oi := { dst := some 17, op := Op.load 47 (Operand.tmp 16), type := 47, pos := "script.go:214", after := #[{ on := 5, ground := Ground.data }], guard := none }) (v := ?_) rfl (by kernel_rfl) (by kernel_rfl) (fx_read (Or.inl ⟨by rfl, ?hy6⟩)) ?_; case hy6 => (intro W hSW; obtain ⟨⟨a0, a1, a2, a3, a4, a5, a6, a7, a8, a31, a32, a33, a34, a35⟩, b0, b1, b2, b3, b4, b5, b6, b7, b8, b31, b32, b33, b34, b35⟩ := HF.out W (HX.out.trans (((Ext.refl wr).alloc' _).trans hSW)); have f0 := (HC.out.ext hSW).cell 0; go_simp <;> with_reducible rfl))
        try simp only [Act.put, List.setIfInBounds_toArray, List.set_cons_zero, List.set_cons_succ]
        (refine plan_take (i := 7) (oi := { dst := some 18, op := Op.call { callee := Callee.value (Operand.tmp 17), args := #[Operand.tmp 3], argTypes := #[53] }, type := 52, pos := "script.go:214", after := #[{ on := 6, ground := Ground.data }, { on := 2, ground := Ground.chain }], guard := none }) (v := ?_) rfl (by kernel_rfl) (by kernel_rfl) (fx_call (by rfl) (fun W hSW K hK => ?hy7)) ?_; case hy7 => (go_simp; go_at_call 41; (with_reducible refine (ints4_any (w.heap.size + 1) W).mono ?_); rintro e w1 ⟨rfl, rfl⟩; exact hK.out _ (hSW)))
        try simp only [Act.put, List.setIfInBounds_toArray, List.set_cons_zero, List.set_cons_succ]
        (refine plan_take (i := 8) (oi := { dst := some 19, op := Op.nilCheck (Operand.tmp 18), type := 0, pos := "script.go:214", after := #[{ on := 7, ground := Ground.data }], guard := none }) (v := ?_) rfl (by kernel_rfl) (by kernel_rfl) (fx_read (Or.inl ⟨by rfl, ?hy8⟩)) ?_; case hy8 => (intro W hSW; obtain ⟨⟨a0, a1, a2, a3, a4, a5, a6, a7, a8, a31, a32, a33, a34, a35⟩, b0, b1, b2, b3, b4, b5, b6, b7, b8, b31, b32, b33, b34, b35⟩ := HF.out W (HX.out.trans (((Ext.refl wr).alloc' _).trans hSW)); have f0 := (HC.out.ext hSW).cell 0; go_simp <;> with_reducible rfl))
        try simp only [Act.put, List.setIfInBounds_toArray, List.set_cons_zero, List.set_cons_succ]
        (refine plan_take (i := 9) (oi := { dst := some 20, op := Op.load 3 (Operand.tmp 19), type := 3, pos := "script.go:214", after := #[{ on := 8, ground := Ground.data }], guard := none }) (v := ?_) rfl (by kernel_rfl) (by kernel_rfl) (fx_read (Or.inl ⟨by rfl, ?hy9⟩)) ?_; case hy9 => (intro W hSW; obtain ⟨⟨a0, a1, a2, a3, a4, a5, a6, a7, a8, a31, a32, a33, a34, a35⟩, b0, b1, b2, b3, b4, b5, b6, b7, b8, b31, b32, b33, b34, b35⟩ := HF.out W (HX.out.trans (((Ext.refl wr).alloc' _).trans hSW)); have f0 := (HC.out.ext hSW).cell 0; go_simp <;> with_reducible rfl))
        try simp only [Act.put, List.setIfInBounds_toArray, List.set_cons_zero, List.set_cons_succ]
        (refine plan_take (i := 10) (oi := { dst := some 21, op := Op.binOp BinOp.neq 3 (Operand.tmp 15) (Operand.tmp 20) 3, type := 4, pos := "script.go:214", after := #[{ on := 4, ground := Ground.data }, { on := 9, ground := Ground.data }], guard := none }) (v := ?_) rfl (by kernel_rfl) (by kernel_rfl) (fx_read (Or.inl ⟨by rfl, ?hy10⟩)) ?_; case hy10 => (intro W hSW; obtain ⟨⟨a0, a1, a2, a3, a4, a5, a6, a7, a8, a31, a32, a33, a34, a35⟩, b0, b1, b2, b3, b4, b5, b6, b7, b8, b31, b32, b33, b34, b35⟩ := HF.out W (HX.out.trans (((Ext.refl wr).alloc' _).trans hSW)); have f0 := (HC.out.ext hSW).cell 0; go_simp <;> with_reducible rfl))
        try simp only [Act.put, List.setIfInBounds_toArray, List.set_cons_zero, List.set_cons_succ]
        refine Plan.done (by kernel_rfl) (fun W hSW => ?_)
        have HX2 := Lib.hid (HX.out.trans (((Ext.refl wr).alloc' (.cells #[.func (.func 41) #[] #[]] 49)).trans hSW))
        clear hSW HC
        by_cases hv : S.at_ = T.at_
        · have HP' := Lib.hid (upto_snoc (k := 3) HP.out hv)
          have x1 : (S.at_ != T.at_) = false := by simpa using hv
          have x2 : (S.at_ == T.at_) = true := by simpa using hv
          have x3 : decide (S.at_ = T.at_) = true := decide_eq_true hv
          clear hv
          go_wp2_with fail
          go_roundw
          case rel => exact ⟨4, by omega, by go_num, HP', HX2⟩
          case measure => simp [intOf]
        · have HN := Lib.hid (show eqSt S T = false by unfold eqSt; rw [eqI_no (i := 3) (by omega) hv]; rfl)
          have x1 : (S.at_ != T.at_) = true := by simpa using hv
          have x2 : (S.at_ == T.at_) = false := by simpa using hv
          have x3 : decide (S.at_ = T.at_) = false := decide_eq_false hv
          clear hv
          go_wp2_with fail
          go_ret
          exact ⟨by rw [HN.out]; rfl, HE.out.trans HX2.out⟩
      · have HC := Lib.hid (Blk.new wr 49 #[.func (.func 42) #[] #[]])
        have hidx := index_ints5 wr
        go_wp2_with (first | (with_reducible refine wpList_newF rfl (.tmp 6) (.tmp 10) rfl _ rfl _ rfl rfl rfl ?_))
        clear hidx
        refine wp_region_plan (S := fun W => Ext (wr.alloc (.cells #[.func (.func 42) #[] #[]] 49)) W) (by kernel_rfl) (by kernel_rfl) ((Ext.refl _).drew') ?_
        (refine plan_take (i := 0) (oi := { dst := some 11, op := Op.fieldAddr 49 (Operand.tmp 6) 0, type := 0, pos := "script.go:214", after := #[], guard := none }) (v := ?_) rfl (by kernel_rfl) (by kernel_rfl) (fx_read (Or.inl ⟨by rfl, ?hy0⟩)) ?_; case hy0 => (intro W hSW; obtain ⟨⟨a0, a1, a2, a3, a4, a5, a6, a7, a8, a31, a32, a33, a34, a35⟩, b0, b1, b2, b3, b4, b5, b6, b7, b8, b31, b32, b33, b34, b35⟩ := HF.out W (HX.out.trans (((Ext.refl wr).alloc' _).trans hSW)); have f0 := (HC.out.ext hSW).cell 0; go_simp <;> with_reducible rfl))
        try simp only [Act.put, List.setIfInBounds_toArray, List.set_cons_zero, List.set_cons_succ]
        (refine plan_take (i := 1) (oi := { dst := some 12, op := Op.load 47 (Operand.tmp 11), type := 47, pos := "script.go:214", after := #[{ on := 0, ground := Ground.data }], guard := none }) (v := ?_) rfl (by kernel_rfl) (by kernel_rfl) (fx_read (Or.inl ⟨by rfl, ?hy1⟩)) ?_; case hy1 => (intro W hSW; obtain ⟨⟨a0, a1, a2, a3, a4, a5, a6, a7, a8, a31, a32, a33, a34, a35⟩, b0, b1, b2, b3, b4, b5, b6, b7, b8, b31, b32, b33, b34, b35⟩ := HF.out W (HX.out.trans (((Ext.refl wr).alloc' _).trans hSW)); have f0 := (HC.out.ext hSW).cell 0; go_simp <;> with_reducible rfl))
        try simp only [Act.put, List.setIfInBounds_toArray, List.set_cons_zero, List.set_cons_succ]
        (refine plan_take (i := 2) (oi := { dst := some 13, op := Op.call { callee := Callee.value (Operand.tmp 12), args := #[Operand.tmp 2], argTypes := #[53] }, type := 52, pos := "script.go:214", after := #[{ on := 1, ground := Ground.data }], guard := none }) (v := ?_) rfl (by kernel_rfl) (by kernel_rfl) (fx_call (by rfl) (fun W hSW K hK => ?hy2)) ?_; case hy2 => (go_simp; go_at_call 42; (with_reducible refine (ints5_any w.heap.size W).mono ?_); rintro e w1 ⟨rfl, rfl⟩; exact hK.out _ (hSW)))
        try simp only [Act.put, List.setIfInBounds_toArray, List.set_cons_zero, List.set_cons_succ]
        (refine plan_take (i := 3) (oi := { dst := some 14, op := Op.nilCheck (Operand.tmp 13), type := 0, pos := "script.go:214", after := #[{ on := 2, ground := Ground.data }], guard := none }) (v := ?_) rfl (by kernel_rfl) (by kernel_rfl) (fx_read (Or.inl ⟨by rfl, ?hy3⟩)) ?_; case hy3 => (intro W hSW; obtain ⟨⟨a0, a1, a2, a3, a4, a5, a6, a7, a8, a31, a32, a33, a34, a35⟩, b0, b1, b2, b3, b4, b5, b6, b7, b8, b31, b32, b33, b34, b35⟩ := HF.out W (HX.out.trans (((Ext.refl wr).alloc' _).trans hSW)); have f0 := (HC.out.ext hSW).cell 0; go_simp <;> with_reducible rfl))
        try simp only [Act.put, List.setIfInBounds_toArray, List.set_cons_zero, List.set_cons_succ]
        (refine plan_take (i := 4) (oi := { dst := some 15, op := Op.load 3 (Operand.tmp 14), type := 3, pos := "script.go:214", after := #[{ on := 3, ground := Ground.data }], guard := none }) (v := ?_) rfl (by kernel_rfl) (by kernel_rfl) (fx_read (Or.inl ⟨by rfl, ?hy4⟩)) ?_; case hy4 => (intro W hSW; obtain ⟨⟨a0, a1, a2, a3, a4, a5, a6, a7, a8, a31, a32, a33, a34, a35⟩, b0, b1, b2, b3, b4, b5, b6, b7, b8, b31, b32, b33, b34, b35⟩ := HF.out W (HX.out.trans (((Ext.refl wr).alloc' _).trans hSW)); have f0 := (HC.out.ext hSW).cell 0; go_simp <;> with_reducible rfl))
        try simp only [Act.put, List.setIfInBounds_toArray, List.set_cons_zero, List.set_cons_succ]
        (refine plan_take (i := 5) (oi := { dst := some 16, op := Op.fieldAddr 49 (Operand.tmp 6) 0, type := 0, pos := "script.go:214", after := #[], guard := none }) (v := ?_) rfl (by kernel_rfl) (by kernel_rfl) (fx_read (Or.inl ⟨by rfl, ?hy5⟩)) ?_; case hy5 => (intro W hSW; obtain ⟨⟨a0, a1, a2, a3, a4, a5, a6, a7, a8, a31, a32, a33, a34, a35⟩, b0, b1, b2, b3, b4, b5, b6, b7, b8, b31, b32, b33, b34, b35⟩ := HF.out W (HX.out.trans (((Ext.refl wr).alloc' _).trans hSW)); have f0 := (HC.out.ext hSW).cell 0; go_simp <;> with_reducible rfl))
        try simp only [Act.put, List.setIfInBounds_toArray, List.set_cons_zero, List.set_cons_succ]
        (refine plan_take (i := 6) (oi := { dst := some 17, op := Op.load 47 (Operand.tmp 16), type := 47, pos := "script.go:214", after := #[{ on := 5, ground := Ground.data }], guard := none }) (v := ?_) rfl (by kernel_rfl) (by kernel_rfl) (fx_read (Or.inl ⟨by rfl, ?hy6⟩)) ?_; case hy6 => (intro W hSW; obtain ⟨⟨a0, a1, a2, a3, a4, a5, a6, a7, a8, a31, a32, a33, a34, a35⟩, b0, b1, b2, b3, b4, b5, b6, b7, b8, b31, b32, b33, b34, b35⟩ := HF.out W (HX.out.trans (((Ext.refl wr).alloc' _).trans hSW)); have f0 := (HC.out.ext hSW).cell 0; go_simp <;> with_reducible rfl))
        try simp only [Act.put, List.setIfInBounds_toArray, List.set_cons_zero, List.set_cons_succ]
        (refine plan_take (i := 7) (oi := { dst := some 18, op := Op.call { callee := Callee.value (Operand.tmp 17), args := #[Operand.tmp 3], argTypes := #[53] }, type := 52, pos := "script.go:214", after := #[{ on := 6, ground := Ground.data }, { on := 2, ground := Ground.chain }], guard := none }) (v := ?_) rfl (by kernel_rfl) (by kernel_rfl) (fx_call (by rfl) (fun W hSW K hK => ?hy7)) ?_; case hy7 => (go_simp; go_at_call 42; (with_reducible refine (ints5_any (w.heap.size + 1) W).mono ?_); rintro e w1 ⟨rfl, rfl⟩; exact hK.out _ (hSW)))
        try simp only [Act.put, List.setIfInBounds_toArray, List.set_cons_zero, List.set_cons_succ]
        (refine plan_take (i := 8) (oi := { dst := some 19, op := Op.nilCheck (Operand.tmp 18), type := 0, pos := "script.go:214", after := #[{ on := 7, ground := Ground.data }], guard := none }) (v := ?_) rfl (by kernel_rfl) (by kernel_rfl) (fx_read (Or.inl ⟨by rfl, ?hy8⟩)) ?_; case hy8 => (intro W hSW; obtain ⟨⟨a0, a1, a2, a3, a4, a5, a6, a7, a8, a31, a32, a33, a34, a35⟩, b0, b1, b2, b3, b4, b5, b6, b7, b8, b31, b32, b33, b34, b35⟩ := HF.out W (HX.out.trans (((Ext.refl wr).alloc' _).trans hSW)); have f0 := (HC.out.ext hSW).cell 0; go_simp <;> with_reducible rfl))
        try simp only [Act.put, List.setIfInBounds_toArray, List.set_cons_zero, List.set_cons_succ]
        (refine plan_take (i := 9) (oi := { dst := some 20, op := Op.load 3 (Operand.tmp 19), type := 3, pos := "script.go:214", after := #[{ on := 8, ground := Ground.data }], guard := none }) (v := ?_) rfl (by kernel_rfl) (by kernel_rfl) (fx_read (Or.inl ⟨by rfl, ?hy9⟩)) ?_; case hy9 => (intro W hSW; obtain ⟨⟨a0, a1, a2, a3, a4, a5, a6, a7, a8, a31, a32, a33, a34, a35⟩, b0, b1, b2, b3, b4, b5, b6, b7, b8, b31, b32, b33, b34, b35⟩ := HF.out W (HX.out.trans (((Ext.refl wr).alloc' _).trans hSW)); have f0 := (HC.out.ext hSW).cell 0; go_simp <;> with_reducible rfl))
        try simp only [Act.put, List.setIfInBounds_toArray, List.set_cons_zero, List.set_cons_succ]
        (refine plan_take (i := 10) (oi := { dst := some 21, op := Op.binOp BinOp.neq 3 (Operand.tmp 15) (Operand.tmp 20) 3, type := 4, pos := "script.go:214", after := #[{ on := 4, ground := Ground.data }, { on := 9, ground := Ground.data }], guard := none }) (v := ?_) rfl (by kernel_rfl) (by kernel_rfl) (fx_read (Or.inl ⟨by rfl, ?hy10⟩)) ?_; case hy10 => (intro W hSW; obtain ⟨⟨a0, a1, a2, a3, a4, a5, a6, a7, a8, a31, a32, a33, a34, a35⟩, b0, b1, b2, b3, b4, b5, b6, b7, b8, b31, b32, b33, b34, b35⟩ := HF.out W (HX.out.trans (((Ext.refl wr).alloc' _).trans hSW)); have f0 := (HC.out.ext hSW).cell 0; go_simp <;> with_reducible rfl))
        try simp only [Act.put, List.setIfInBounds_toArray, List.set_cons_zero, List.set_cons_succ]
        refine Plan.done (by kernel_rfl) (fun W hSW => ?_)
        have HX2 := Lib.hid (HX.out.trans (((Ext.refl wr).alloc' (.cells #[.func (.func 42) #[] #[]] 49)).trans hSW))
        clear hSW HC
        by_cases hv : S.gr = T.gr
        · have HP' := Lib.hid (upto_snoc (k := 4) HP.out hv)
          have x1 : (S.gr != T.gr) = false := by simpa using hv
          have x2 : (S.gr == T.gr) = true := by simpa using hv
          have x3 : decide (S.gr = T.gr) = true := decide_eq_true hv
          clear hv
          go_wp2_with fail
          go_roundw
          case rel => exact ⟨5, by omega, by go_num, HP', HX2⟩
          case measure => simp [intOf]
        · have HN := Lib.hid (show eqSt S T = false by unfold eqSt; rw [eqI_no (i := 4) (by omega) hv]; rfl)
          have x1 : (S.gr != T.gr) = true := by simpa using hv
          have x2 : (S.gr == T.gr) = false := by simpa using hv
          have x3 : decide (S.gr = T.gr) = false := decide_eq_false hv
          clear hv
          go_wp2_with fail
          go_ret
          exact ⟨by rw [HN.out]; rfl, HE.out.trans HX2.out⟩
      · have HC := Lib.hid (Blk.new wr 49 #[.func (.func 43) #[] #[]])
        have hidx := index_ints6 wr
        go_wp2_with (first | (with_reducible refine wpList_newF rfl (.tmp 6) (.tmp 10) rfl _ rfl _ rfl rfl rfl ?_))
        clear hidx
        refine wp_region_plan (S := fun W => Ext (wr.alloc (.cells #[.func (.func 43) #[] #[]] 49)) W) (by kernel_rfl) (by kernel_rfl) ((Ext.refl _).drew') ?_
        (refine plan_take (i := 0) (oi := { dst := some 11, op := Op.fieldAddr 49 (Operand.tmp 6) 0, type := 0, pos := "script.go:214", after := #[], guard := none }) (v := ?_) rfl (by kernel_rfl) (by kernel_rfl) (fx_read (Or.inl ⟨by rfl, ?hy0⟩)) ?_; case hy0 => (intro W hSW; obtain ⟨⟨a0, a1, a2, a3, a4, a5, a6, a7, a8, a31, a32, a33, a34, a35⟩, b0, b1, b2, b3, b4, b5, b6, b7, b8, b31, b32, b33, b34, b35⟩ := HF.out W (HX.out.trans (((Ext.refl wr).alloc' _).trans hSW)); have f0 := (HC.out.ext hSW).cell 0; go_simp <;> with_reducible rfl))
        try simp only [Act.put, List.setIfInBounds_toArray, List.set_cons_zero, List.set_cons_succ]
        (refine plan_take (i := 1) (oi := { dst := some 12, op := Op.load 47 (Operand.tmp 11), type := 47, pos := "script.go:214", after := #[{ on := 0, ground := Ground.data }], guard := none }) (v := ?_) rfl (by kernel_rfl) (by kernel_rfl) (fx_read (Or.inl ⟨by rfl, ?hy1⟩)) ?_; case hy1 => (intro W hSW; obtain ⟨⟨a0, a1, a2, a3, a4, a5, a6, a7, a8, a31, a32, a33, a34, a35⟩, b0, b1, b2, b3, b4, b5, b6, b7, b8, b31, b32, b33, b34, b35⟩ := HF.out W (HX.out.trans (((Ext.refl wr).alloc' _).trans hSW)); have f0 := (HC.out.ext hSW).cell 0; go_simp <;> with_reducible rfl))
        try simp only [Act.put, List.setIfInBounds_toArray, List.set_cons_zero, List.set_cons_succ]
        (refine plan_take (i := 2) (oi := { dst := some 13, op := Op.call { callee := Callee.value (Operand.tmp 12), args := #[Operand.tmp 2], argTypes := #[53] }, type := 52, pos := "script.go:214", after := #[{ on := 1, ground := Ground.data }], guard := none }) (v := ?_) rfl (by kernel_rfl) (by kernel_rfl) (fx_call (by rfl) (fun W hSW K hK => ?hy2)) ?_; case hy2 => (go_simp; go_at_call 43; (with_reducible refine (ints6_any w.heap.size W).mono ?_); rintro e w1 ⟨rfl, rfl⟩; exact hK.out _ (hSW)))
        try simp only [Act.put, List.setIfInBounds_toArray, List.set_cons_zero, List.set_cons_succ]
        (refine plan_take (i := 3) (oi := { dst := some 14, op := Op.nilCheck (Operand.tmp 13), type := 0, pos := "script.go:214", after := #[{ on := 2, ground := Ground.data }], guard := none }) (v := ?_) rfl (by kernel_rfl) (by kernel_rfl) (fx_read (Or.inl ⟨by rfl, ?hy3⟩)) ?_; case hy3 => (intro W hSW; obtain ⟨⟨a0, a1, a2, a3, a4, a5, a6, a7, a8, a31, a32, a33, a34, a35⟩, b0, b1, b2, b3, b4, b5, b6, b7, b8, b31, b32, b33, b34, b35⟩ := HF.out W (HX.out.trans (((Ext.refl wr).alloc' _).trans hSW)); have f0 := (HC.out.ext hSW).cell 0; go_simp <;> with_reducible rfl))
        try simp only [Act.put, List.setIfInBounds_toArray, List.set_cons_zero, List.set_cons_succ]
        (refine plan_take (i := 4) (oi := { dst := some 15, op := Op.load 3 (Operand.tmp 14), type := 3, pos := "script.go:214", after := #[{ on := 3, ground := Ground.data }], guard := none }) (v := ?_) rfl (by kernel_rfl) (by kernel_rfl) (fx_read (Or.inl ⟨by rfl, ?hy4⟩)) ?_; case hy4 => (intro W hSW; obtain ⟨⟨a0, a1, a2, a3, a4, a5, a6, a7, a8, a31, a32, a33, a34, a35⟩, b0, b1, b2, b3, b4, b5, b6, b7, b8, b31, b32, b33, b34, b35⟩ := HF.out W (HX.out.trans (((Ext.refl wr).alloc' _).trans hSW)); have f0 := (HC.out.ext hSW).cell 0; go_simp <;> with_reducible rfl))
        try simp only [Act.put, List.setIfInBounds_toArray, List.set_cons_zero, List.set_cons_succ]
        (refine plan_take (i := 5) (oi := { dst := some 16, op := Op.fieldAddr 49 (Operand.tmp 6) 0, type := 0, pos := "script.go:214", after := #[], guard := none }) (v := ?_) rfl (by kernel_rfl) (by kernel_rfl) (fx_read (Or.inl ⟨by rfl, ?hy5⟩)) ?_; case hy5 => (intro W hSW; obtain ⟨⟨a0, a1, a2, a3, a4, a5, a6, a7, a8, a31, a32, a33, a34, a35⟩, b0, b1, b2, b3, b4, b5, b6, b7, b8, b31, b32, b33, b34, b35⟩ := HF.out W (HX.out.trans (((Ext.refl wr).alloc' _).trans hSW)); have f0 := (HC.out.ext hSW).cell 0; go_simp <;> with_reducible rfl))
        try simp only [Act.put, List.setIfInBounds_toArray, List.set_cons_zero, List.set_cons_succ]
        (refine plan_take (i := 6) (oi := { dst := some 17, op := Op.load 47 (Operand.tmp 16), type := 47, pos := "script.go:214", after := #[{ on := 5, ground := Ground.data }], guard := none }) (v := ?_) rfl (by kernel_rfl) (by kernel_rfl) (fx_read (Or.inl ⟨by rfl, ?hy6⟩)) ?_; case hy6 => (intro W hSW; obtain ⟨⟨a0, a1, a2, a3, a4, a5, a6, a7, a8, a31, a32, a33, a34, a35⟩, b0, b1, b2, b3, b4, b5, b6, b7, b8, b31, b32, b33, b34, b35⟩ := HF.out W (HX.out.trans (((Ext.refl wr).alloc' _).trans hSW)); have f0 := (HC.out.ext hSW).cell 0; go_simp <;> with_reducible rfl))
        try simp only [Act.put, List.setIfInBounds_toArray, List.set_cons_zero, List.set_cons_succ]
        (refine plan_take (i := 7) (oi := { dst := some 18, op := Op.call { callee := Callee.value (Operand.tmp 17), args := #[Operand.tmp 3], argTypes := #[53] }, type := 52, pos := "script.go:214", after := #[{ on := 6, ground := Ground.data }, { on := 2, ground := Ground.chain }], guard := none }) (v := ?_) rfl (by kernel_rfl) (by kernel_rfl) (fx_call (by rfl) (fun W hSW K hK => ?hy7)) ?_; case hy7 => (go_simp; go_at_call 43; (with_reducible refine (ints6_any (w.heap.size + 1) W).mono ?_); rintro e w1 ⟨rfl, rfl⟩; exact hK.out _ (hSW)))
        try simp only [Act.put, List.setIfInBounds_toArray, List.set_cons_zero, List.set_cons_succ]
        (refine plan_take (i := 8) (oi := { dst := some 19, op := Op.nilCheck (Operand.tmp 18), type := 0, pos := "script.go:214", after := #[{ on := 7, ground := Ground.data }], guard := none }) (v := ?_) rfl (by kernel_rfl) (by kernel_rfl) (fx_read (Or.inl ⟨by rfl, ?hy8⟩)) ?_; case hy8 => (intro W hSW; obtain ⟨⟨a0, a1, a2, a3, a4, a5, a6, a7, a8, a31, a32, a33, a34, a35⟩, b0, b1, b2, b3, b4, b5, b6, b7, b8, b31, b32, b33, b34, b35⟩ := HF.out W (HX.out.trans (((Ext.refl wr).alloc' _).trans hSW)); have f0 := (HC.out.ext hSW).cell 0; go_simp <;> with_reducible rfl))
        try simp only [Act.put, List.setIfInBounds_toArray, List.set_cons_zero, List.set_cons_succ]
        (refine plan_take (i := 9) (oi := { dst := some 20, op := Op.load 3 (Operand.tmp 19), type := 3, pos := "script.go:214", after := #[{ on := 8, ground := Ground.data }], guard := none }) (v := ?_) rfl (by kernel_rfl) (by kernel_rfl) (fx_read (Or.inl ⟨by rfl, ?hy9⟩)) ?_; case hy9 => (intro W hSW; obtain ⟨⟨a0, a1, a2, a3, a4, a5, a6, a7, a8, a31, a32, a33, a34, a35⟩, b0, b1, b2, b3, b4, b5, b6, b7, b8, b31, b32, b33, b34, b35⟩ := HF.out W (HX.out.trans (((Ext.refl wr).alloc' _).trans hSW)); have f0 := (HC.out.ext hSW).cell 0; go_simp <;> with_reducible rfl))
        try simp only [Act.put, List.setIfInBounds_toArray, List.set_cons_zero, List.set_cons_succ]
        (refine plan_take (i := 10) (oi := { dst := some 21, op := Op.binOp BinOp.neq 3 (Operand.tmp 15) (Operand.tmp 20) 3, type := 4, pos := "script.go:214", after := #[{ on := 4, ground := Ground.data }, { on := 9, ground := Ground.data }], guard := none }) (v := ?_) rfl (by kernel_rfl) (by kernel_rfl) (fx_read (Or.inl ⟨by rfl, ?hy10⟩)) ?_; case hy10 => (intro W hSW; obtain ⟨⟨a0, a1, a2, a3, a4, a5, a6, a7, a8, a31, a32, a33, a34, a35⟩, b0, b1, b2, b3, b4, b5, b6, b7, b8, b31, b32, b33, b34, b35⟩ := HF.out W (HX.out.trans (((Ext.refl wr).alloc' _).trans hSW)); have f0 := (HC.out.ext hSW).cell 0; go_simp <;> with_reducible rfl))
        try simp only [Act.put, List.setIfInBounds_toArray, List.set_cons_zero, List.set_cons_succ]
        refine Plan.done (by kernel_rfl) (fun W hSW => ?_)
        have HX2 := Lib.hid (HX.out.trans (((Ext.refl wr).alloc' (.cells #[.func (.func 43) #[] #[]] 49)).trans hSW))
        clear hSW HC
        by_cases hv : S.ac = T.ac
        · have HP' := Lib.hid (upto_snoc (k := 5) HP.out hv)
          have x1 : (S.ac != T.ac) = false := by simpa using hv
          have x2 : (S.ac == T.ac) = true := by simpa using hv
          have x3 : decide (S.ac = T.ac) = true := decide_eq_true hv
          clear hv
          go_wp2_with fail
          go_roundw
          case rel => exact ⟨6, by omega, by go_num, HP', HX2⟩
          case measure => simp [intOf]
        · have HN := Lib.hid (show eqSt S T = false by unfold eqSt; rw [eqI_no (i := 5) (by omega) hv]; rfl)
          have x1 : (S.ac != T.ac) = true := by simpa using hv
          have x2 : (S.ac == T.ac) = false := by simpa using hv
          have x3 : decide (S.ac = T.ac) = false := decide_eq_false hv
          clear hv
          go_wp2_with fail
          go_ret
          exact ⟨by rw [HN.out]; rfl, HE.out.trans HX2.out⟩
      · have HC := Lib.hid (Blk.new wr 49 #[.func (.func 44) #[] #[]])
        have hidx := index_ints7 wr
        go_wp2_with (first | (with_reducible refine wpList_newF rfl (.tmp 6) (.tmp 10) rfl _ rfl _ rfl rfl rfl ?_))
        clear hidx
        refine wp_region_plan (S := fun W => Ext (wr.alloc (.cells #[.func (.func 44) #[] #[]] 49)) W) (by kernel_rfl) (by kernel_rfl) ((Ext.refl _).drew') ?_
        (refine plan_take (i := 0) (oi := { dst := some 11, op := Op.fieldAddr 49 (Operand.tmp 6) 0, type := 0, pos := "script.go:214", after := #[], guard := none }) (v := ?_) rfl (by kernel_rfl) (by kernel_rfl) (fx_read (Or.inl ⟨by rfl, ?hy0⟩)) ?_; case hy0 => (intro W hSW; obtain ⟨⟨a0, a1, a2, a3, a4, a5, a6, a7, a8, a31, a32, a33, a34, a35⟩, b0, b1, b2, b3, b4, b5, b6, b7, b8, b31, b32, b33, b34, b35⟩ := HF.out W (HX.out.trans (((Ext.refl wr).alloc' _).trans hSW)); have f0 := (HC.out.ext hSW).cell 0; go_simp <;> with_reducible rfl))
        try simp only [Act.put, List.setIfInBounds_toArray, List.set_cons_zero, List.set_cons_succ]
        (refine plan_take (i := 1) (oi := { dst := some 12, op := Op.load 47 (Operand.tmp 11), type := 47, pos := "script.go:214", after := #[{ on := 0, ground := Ground.data }], guard := none }) (v := ?_) rfl (by kernel_rfl) (by kernel_rfl) (fx_read (Or.inl ⟨by rfl, ?hy1⟩)) ?_; case hy1 => (intro W hSW; obtain ⟨⟨a0, a1, a2, a3, a4, a5, a6, a7, a8, a31, a32, a33, a34, a35⟩, b0, b1, b2, b3, b4, b5, b6, b7, b8, b31, b32, b33, b34, b35⟩ := HF.out W (HX.out.trans (((Ext.refl wr).alloc' _).trans hSW)); have f0 := (HC.out.ext hSW).cell 0; go_simp <;> with_reducible rfl))
        try simp only [Act.put, List.setIfInBounds_toArray, List.set_cons_zero, List.set_cons_succ]
        (refine plan_take (i := 2) (oi := { dst := some 13, op := Op.call { callee := Callee.value (Operand.tmp 12), args := #[Operand.tmp 2], argTypes := #[53] }, type := 52, pos := "script.go:214", after := #[{ on := 1, ground := Ground.data }], guard := none }) (v := ?_) rfl (by kernel_rfl) (by kernel_rfl) (fx_call (by rfl) (fun W hSW K hK => ?hy2)) ?_; case hy2 => (go_simp; go_at_call 44; (with_reducible refine (ints7_any w.heap.size W).mono ?_); rintro e w1 ⟨rfl, rfl⟩; exact hK.out _ (hSW)))
        try simp only [Act.put, List.setIfInBounds_toArray, List.set_cons_zero, List.set_cons_succ]
        (refine plan_take (i := 3) (oi := { dst := some 14, op := Op.nilCheck (Operand.tmp 13), type := 0, pos := "script.go:214", after := #[{ on := 2, ground := Ground.data }], guard := none }) (v := ?_) rfl (by kernel_rfl) (by kernel_rfl) (fx_read (Or.inl ⟨by rfl, ?hy3⟩)) ?_; case hy3 => (intro W hSW; obtain ⟨⟨a0, a1, a2, a3, a4, a5, a6, a7, a8, a31, a32, a33, a34, a35⟩, b0, b1, b2, b3, b4, b5, b6, b7, b8, b31, b32, b33, b34, b35⟩ := HF.out W (HX.out.trans (((Ext.refl wr).alloc' _).trans hSW)); have f0 := (HC.out.ext hSW).cell 0; go_simp <;> with_reducible rfl))
        try simp only [Act.put, List.setIfInBounds_toArray, List.set_cons_zero, List.set_cons_succ]
        (refine plan_take (i := 4) (oi := { dst := some 15, op := Op.load 3 (Operand.tmp 14), type := 3, pos := "script.go:214", after := #[{ on := 3, ground := Ground.data }], guard := none }) (v := ?_) rfl (by kernel_rfl) (by kernel_rfl) (fx_read (Or.inl ⟨by rfl, ?hy4⟩)) ?_; case hy4 => (intro W hSW; obtain ⟨⟨a0, a1, a2, a3, a4, a5, a6, a7, a8, a31, a32, a33, a34, a35⟩, b0, b1, b2, b3, b4, b5, b6, b7, b8, b31, b32, b33, b34, b35⟩ := HF.out W (HX.out.trans (((Ext.refl wr).alloc' _).trans hSW)); have f0 := (HC.out.ext hSW).cell 0; go_simp <;> with_reducible rfl))
        try simp only [Act.put, List.setIfInBounds_toArray, List.set_cons_zero, List.set_cons_succ]
        (refine plan_take (i := 5) (oi := { dst := some 16, op := Op.fieldAddr 49 (Operand.tmp 6) 0, type := 0, pos := "script.go:214", after := #[], guard := none }) (v := ?_) rfl (by kernel_rfl) (by kernel_rfl) (fx_read (Or.inl ⟨by rfl, ?hy5⟩)) ?_; case hy5 => (intro W hSW; obtain ⟨⟨a0, a1, a2, a3, a4, a5, a6, a7, a8, a31, a32, a33, a34, a35⟩, b0, b1, b2, b3, b4, b5, b6, b7, b8, b31, b32, b33, b34, b35⟩ := HF.out W (HX.out.trans (((Ext.refl wr).alloc' _).trans hSW)); have f0 := (HC.out.ext hSW).cell 0; go_simp <;> with_reducible rfl))
        try simp only [Act.put, List.setIfInBounds_toArray, List.set_cons_zero, List.set_cons_succ]
        (refine plan_take (i := 6) (oi := { dst := some 17, op := Op.load 47 (Operand.tmp 16), type := 47, pos := "script.go:214", after := #[{ on := 5, ground := Ground.data }], guard := none }) (v := ?_) rfl (by kernel_rfl) (by kernel_rfl) (fx_read (Or.inl ⟨by rfl, ?hy6⟩)) ?_; case hy6 => (intro W hSW; obtain ⟨⟨a0, a1, a2, a3, a4, a5, a6, a7, a8, a31, a32, a33, a34, a35⟩, b0, b1, b2, b3, b4, b5, b6, b7, b8, b31, b32, b33, b34, b35⟩ := HF.out W (HX.out.trans (((Ext.refl wr).alloc' _).trans hSW)); have f0 := (HC.out.ext hSW).cell 0; go_simp <;> with_reducible rfl))
        try simp only [Act.put, List.setIfInBounds_toArray, List.set_cons_zero, List.set_cons_succ]
        (refine plan_take (i := 7) (oi := { dst := some 18, op := Op.call { callee := Callee.value (Operand.tmp 17), args := #[Operand.tmp 3], argTypes := #[53] }, type := 52, pos := "script.go:214", after := #[{ on := 6, ground := Ground.data }, { on := 2, ground := Ground.chain }], guard := none }) (v := ?_) rfl (by kernel_rfl) (by kernel_rfl) (fx_call (by rfl) (fun W hSW K hK => ?hy7)) ?_; case hy7 => (go_simp; go_at_call 44; (with_reducible refine (ints7_any (w.heap.size + 1) W).mono ?_); rintro e w1 ⟨rfl, rfl⟩; exact hK.out _ (hSW)))
        try simp only [Act.put, List.setIfInBounds_toArray, List.set_cons_zero, List.set_cons_succ]
        (refine plan_take (i := 8) (oi := { dst := some 19, op := Op.nilCheck (Operand.tmp 18), type := 0, pos := "script.go:214", after := #[{ on := 7, ground := Ground.data }], guard := none }) (v := ?_) rfl (by kernel_rfl) (by kernel_rfl) (fx_read (Or.inl ⟨by rfl, ?hy8⟩)) ?_; case hy8 => (intro W hSW; obtain ⟨⟨a0, a1, a2, a3, a4, a5, a6, a7, a8, a31, a32, a33, a34, a35⟩, b0, b1, b2, b3, b4, b5, b6, b7, b8, b31, b32, b33, b34, b35⟩ := HF.out W (HX.out.trans (((Ext.refl wr).alloc' _).trans hSW)); have f0 := (HC.out.ext hSW).cell 0; go_simp <;> with_reducible rfl))
        try simp only [Act.put, List.setIfInBounds_toArray, List.set_cons_zero, List.set_cons_succ]
        (refine plan_take (i := 9) (oi := { dst := some 20, op := Op.load 3 (Operand.tmp 19), type := 3, pos := "script.go:214", after := #[{ on := 8, ground := Ground.data }], guard := none }) (v := ?_) rfl (by kernel_rfl) (by kernel_rfl) (fx_read (Or.inl ⟨by rfl, ?hy9⟩)) ?_; case hy9 => (intro W hSW; obtain ⟨⟨a0, a1, a2, a3, a4, a5, a6, a7, a8, a31, a32, a33, a34, a35⟩, b0, b1, b2, b3, b4, b5, b6, b7, b8, b31, b32, b33, b34, b35⟩ := HF.out W (HX.out.trans (((Ext.refl wr).alloc' _).trans hSW)); have f0 := (HC.out.ext hSW).cell 0; go_simp <;> with_reducible rfl))
        try simp only [Act.put, List.setIfInBounds_toArray, List.set_cons_zero, List.set_cons_succ]
        (refine plan_take (i := 10) (oi := { dst := some 21, op := Op.binOp BinOp.neq 3 (Operand.tmp 15) (Operand.tmp 20) 3, type := 4, pos := "script.go:214", after := #[{ on := 4, ground := Ground.data }, { on := 9, ground := Ground.data }], guard := none }) (v := ?_) rfl (by kernel_rfl) (by kernel_rfl) (fx_read (Or.inl ⟨by rfl, ?hy10⟩)) ?_; case hy10 => (intro W hSW; obtain ⟨⟨a0, a1, a2, a3, a4, a5, a6, a7, a8, a31, a32, a33, a34, a35⟩, b0, b1, b2, b3, b4, b5, b6, b7, b8, b31, b32, b33, b34, b35⟩ := HF.out W (HX.out.trans (((Ext.refl wr).alloc' _).trans hSW)); have f0 := (HC.out.ext hSW).cell 0; go_simp <;> with_reducible rfl))
        try simp only [Act.put, List.setIfInBounds_toArray, List.set_cons_zero, List.set_cons_succ]
        refine Plan.done (by kernel_rfl) (fun W hSW => ?_)
        have HX2 := Lib.hid (HX.out.trans (((Ext.refl wr).alloc' (.cells #[.func (.func 44) #[] #[]] 49)).trans hSW))
        clear hSW HC
        by_cases hv : S.sq = T.sq
        · have HP' := Lib.hid (upto_snoc (k := 6) HP.out hv)
          have x1 : (S.sq != T.sq) = false := by simpa using hv
          have x2 : (S.sq == T.sq) = true := by simpa using hv
          have x3 : decide (S.sq = T.sq) = true := decide_eq_true hv
          clear hv
          go_wp2_with fail
          go_roundw
          case rel => exact ⟨7, by omega, by go_num, HP', HX2⟩
          case measure => simp [intOf]
        · have HN := Lib.hid (show eqSt S T = false by unfold eqSt; rw [eqI_no (i := 6) (by omega) hv]; rfl)
          have x1 : (S.sq != T.sq) = true := by simpa using hv
          have x2 : (S.sq == T.sq) = false := by simpa using hv
          have x3 : decide (S.sq = T.sq) = false := decide_eq_false hv
          clear hv
          go_wp2_with fail
          go_ret
          exact ⟨by rw [HN.out]; rfl, HE.out.trans HX2.out⟩
      · have HC := Lib.hid (Blk.new wr 49 #[.func (.func 45) #[] #[]])
        have hidx := index_ints8 wr
        go_wp2_with (first | (with_reducible refine wpList_newF rfl (.tmp 6) (.tmp 10) rfl _ rfl _ rfl rfl rfl ?_))
        clear hidx
        refine wp_region_plan (S := fun W => Ext (wr.alloc (.cells #[.func (.func 45) #[] #[]] 49)) W) (by kernel_rfl) (by kernel_rfl) ((Ext.refl _).drew') ?_
        (refine plan_take (i := 0) (oi := { dst := some 11, op := Op.fieldAddr 49 (Operand.tmp 6) 0, type := 0, pos := "script.go:214", after := #[], guard := none }) (v := ?_) rfl (by kernel_rfl) (by kernel_rfl) (fx_read (Or.inl ⟨by rfl, ?hy0⟩)) ?_; case hy0 => (intro W hSW; obtain ⟨⟨a0, a1, a2, a3, a4, a5, a6, a7, a8, a31, a32, a33, a34, a35⟩, b0, b1, b2, b3, b4, b5, b6, b7, b8, b31, b32, b33, b34, b35⟩ := HF.out W (HX.out.trans (((Ext.refl wr).alloc' _).trans hSW)); have f0 := (HC.out.ext hSW).cell 0; go_simp <;> with_reducible rfl))
        try simp only [Act.put, List.setIfInBounds_toArray, List.set_cons_zero, List.set_cons_succ]
        (refine plan_take (i := 1) (oi := { dst := some 12, op := Op.load 47 (Operand.tmp 11), type := 47, pos := "script.go:214", after := #[{ on := 0, ground := Ground.data }], guard := none }) (v := ?_) rfl (by kernel_rfl) (by kernel_rfl) (fx_read (Or.inl ⟨by rfl, ?hy1⟩)) ?_; case hy1 => (intro W hSW; obtain ⟨⟨a0, a1, a2, a3, a4, a5, a6, a7, a8, a31, a32, a33, a34, a35⟩, b0, b1, b2, b3, b4, b5, b6, b7, b8, b31, b32, b33, b34, b35⟩ := HF.out W (HX.out.trans (((Ext.refl wr).alloc' _).trans hSW)); have f0 := (HC.out.ext hSW).cell 0; go_simp <;> with_reducible rfl))
        try simp only [Act.put, List.setIfInBounds_toArray, List.set_cons_zero, List.set_cons_succ]
        (refine plan_take (i := 2) (oi := { dst := some 13, op := Op.call { callee := Callee.value (Operand.tmp 12), args := #[Operand.tmp 2], argTypes := #[53] }, type := 52, pos := "script.go:214", after := #[{ on := 1, ground := Ground.data }], guard := none }) (v := ?_) rfl (by kernel_rfl) (by kernel_rfl) (fx_call (by rfl) (fun W hSW K hK => ?hy2)) ?_; case hy2 => (go_simp; go_at_call 45; (with_reducible refine (ints8_any w.heap.size W).mono ?_); rintro e w1 ⟨rfl, rfl⟩; exact hK.out _ (hSW)))
        try simp only [Act.put, List.setIfInBounds_toArray, List.set_cons_zero, List.set_cons_succ]
        (refine plan_take (i := 3) (oi := { dst := some 14, op := Op.nilCheck (Operand.tmp 13), type := 0, pos := "script.go:214", after := #[{ on := 2, ground := Ground.data }], guard := none }) (v := ?_) rfl (by kernel_rfl) (by kernel_rfl) (fx_read (Or.inl ⟨by rfl, ?hy3⟩)) ?_; case hy3 => (intro W hSW; obtain ⟨⟨a0, a1, a2, a3, a4, a5, a6, a7, a8, a31, a32, a33, a34, a35⟩, b0, b1, b2, b3, b4, b5, b6, b7, b8, b31, b32, b33, b34, b35⟩ := HF.out W (HX.out.trans (((Ext.refl wr).alloc' _).trans hSW)); have f0 := (HC.out.ext hSW).cell 0; go_simp <;> with_reducible rfl))
        try simp only [Act.put, List.setIfInBounds_toArray, List.set_cons_zero, List.set_cons_succ]
        (refine plan_take (i := 4) (oi := { dst := some 15, op := Op.load 3 (Operand.tmp 14), type := 3, pos := "script.go:214", after := #[{ on := 3, ground := Ground.data }], guard := none }) (v := ?_) rfl (by kernel_rfl) (by kernel_rfl) (fx_read (Or.inl ⟨by rfl, ?hy4⟩)) ?_; case hy4 => (intro W hSW; obtain ⟨⟨a0, a1, a2, a3, a4, a5, a6, a7, a8, a31, a32, a33, a34, a35⟩, b0, b1, b2, b3, b4, b5, b6, b7, b8, b31, b32, b33, b34, b35⟩ := HF.out W (HX.out.trans (((Ext.refl wr).alloc' _).trans hSW)); have f0 := (HC.out.ext hSW).cell 0; go_simp <;> with_reducible rfl))
        try simp only [Act.put, List.setIfInBounds_toArray, List.set_cons_zero, List.set_cons_succ]
        (refine plan_take (i := 5) (oi := { dst := some 16, op := Op.fieldAddr 49 (Operand.tmp 6) 0, type := 0, pos := "script.go:214", after := #[], guard := none }) (v := ?_) rfl (by kernel_rfl) (by kernel_rfl) (fx_read (Or.inl ⟨by rfl, ?hy5⟩)) ?_; case hy5 => (intro W hSW; obtain ⟨⟨a0, a1, a2, a3, a4, a5, a6, a7, a8, a31, a32, a33, a34, a35⟩, b0, b1, b2, b3, b4, b5, b6, b7, b8, b31, b32, b33, b34, b35⟩ := HF.out W (HX.out.trans (((Ext.refl wr).alloc' _).trans hSW)); have f0 := (HC.out.ext hSW).cell 0; go_simp <;> with_reducible rfl))
        try simp only [Act.put, List.setIfInBounds_toArray, List.set_cons_zero, List.set_cons_succ]
        (refine plan_take (i := 6) (oi := { dst := some 17, op := Op.load 47 (Operand.tmp 16), type := 47, pos := "script.go:214", after := #[{ on := 5, ground := Ground.data }], guard := none }) (v := ?_) rfl (by kernel_rfl) (by kernel_rfl) (fx_read (Or.inl ⟨by rfl, ?hy6⟩)) ?_; case hy6 => (intro W hSW; obtain ⟨⟨a0, a1, a2, a3, a4, a5, a6, a7, a8, a31, a32, a33, a34, a35⟩, b0, b1, b2, b3, b4, b5, b6, b7, b8, b31, b32, b33, b34, b35⟩ := HF.out W (HX.out.trans (((Ext.refl wr).alloc' _).trans hSW)); have f0 := (HC.out.ext hSW).cell 0; go_simp <;> with_reducible rfl))
        try simp only [Act.put, List.setIfInBounds_toArray, List.set_cons_zero, List.set_cons_succ]
        (refine plan_take (i := 7) (oi := { dst := some 18, op := Op.call { callee := Callee.value (Operand.tmp 17), args := #[Operand.tmp 3], argTypes := #[53] }, type := 52, pos := "script.go:214", after := #[{ on := 6, ground := Ground.data }, { on := 2, ground := Ground.chain }], guard := none }) (v := ?_) rfl (by kernel_rfl) (by kernel_rfl) (fx_call (by rfl) (fun W hSW K hK => ?hy7)) ?_; case hy7 => (go_simp; go_at_call 45; (with_reducible refine (ints8_any (w.heap.size + 1) W).mono ?_); rintro e w1 ⟨rfl, rfl⟩; exact hK.out _ (hSW)))
        try simp only [Act.put, List.setIfInBounds_toArray, List.set_cons_zero, List.set_cons_succ]
        (refine plan_take (i := 8) (oi := { dst := some 19, op := Op.nilCheck (Operand.tmp 18), type := 0, pos := "script.go:214", after := #[{ on := 7, ground := Ground.data }], guard := none }) (v := ?_) rfl (by kernel_rfl) (by kernel_rfl) (fx_read (Or.inl ⟨by rfl, ?hy8⟩)) ?_; case hy8 => (intro W hSW; obtain ⟨⟨a0, a1, a2, a3, a4, a5, a6, a7, a8, a31, a32, a33, a34, a35⟩, b0, b1, b2, b3, b4, b5, b6, b7, b8, b31, b32, b33, b34, b35⟩ := HF.out W (HX.out.trans (((Ext.refl wr).alloc' _).trans hSW)); have f0 := (HC.out.ext hSW).cell 0; go_simp <;> with_reducible rfl))
        try simp only [Act.put, List.setIfInBounds_toArray, List.set_cons_zero, List.set_cons_succ]
        (refine plan_take (i := 9) (oi := { dst := some 20, op := Op.load 3 (Operand.tmp 19), type := 3, pos := "script.go:214", after := #[{ on := 8, ground := Ground.data }], guard := none }) (v := ?_) rfl (by kernel_rfl) (by kernel_rfl) (fx_read (Or.inl ⟨by rfl, ?hy9⟩)) ?_; case hy9 => (intro W hSW; obtain ⟨⟨a0, a1, a2, a3, a4, a5, a6, a7, a8, a31, a32, a33, a34, a35⟩, b0, b1, b2, b3, b4, b5, b6, b7, b8, b31, b32, b33, b34, b35⟩ := HF.out W (HX.out.trans (((Ext.refl wr).alloc' _).trans hSW)); have f0 := (HC.out.ext hSW).cell 0; go_simp <;> with_reducible rfl))
        try simp only [Act.put, List.setIfInBounds_toArray, List.set_cons_zero, List.set_cons_succ]
        (refine plan_take (i := 10) (oi := { dst := some 21, op := Op.binOp BinOp.neq 3 (Operand.tmp 15) (Operand.tmp 20) 3, type := 4, pos := "script.go:214", after := #[{ on := 4, ground := Ground.data }, { on := 9, ground := Ground.data }], guard := none }) (v := ?_) rfl (by kernel_rfl) (by kernel_rfl) (fx_read (Or.inl ⟨by rfl, ?hy10⟩)) ?_; case hy10 => (intro W hSW; obtain ⟨⟨a0, a1, a2, a3, a4, a5, a6, a7, a8, a31, a32, a33, a34, a35⟩, b0, b1, b2, b3, b4, b5, b6, b7, b8, b31, b32, b33, b34, b35⟩ := HF.out W (HX.out.trans (((Ext.refl wr).alloc' _).trans hSW)); have f0 := (HC.out.ext hSW).cell 0; go_simp <;> with_reducible rfl))
        try simp only [Act.put, List.setIfInBounds_toArray, List.set_cons_zero, List.set_cons_succ]
        refine Plan.done (by kernel_rfl) (fun W hSW => ?_)
        have HX2 := Lib.hid (HX.out.trans (((Ext.refl wr).alloc' (.cells #[.func (.func 45) #[] #[]] 49)).trans hSW))
        clear hSW HC
        by_cases hv : S.par = T.par
        · have HP' := Lib.hid (upto_snoc (k := 7) HP.out hv)
          have x1 : (S.par != T.par) = false := by simpa using hv
          have x2 : (S.par == T.par) = true := by simpa using hv
          have x3 : decide (S.par = T.par) = true := decide_eq_true hv
          clear hv
          go_wp2_with fail
          go_roundw
          case rel => exact ⟨8, by omega, by go_num, HP', HX2⟩
          case measure => simp [intOf]
        · have HN := Lib.hid (show eqSt S T = false by unfold eqSt; rw [eqI_no (i := 7) (by omega) hv]; rfl)
          have x1 : (S.par != T.par) = true := by simpa using hv
          have x2 : (S.par == T.par) = false := by simpa using hv
          have x3 : decide (S.par = T.par) = false := decide_eq_false hv
          clear hv
          go_wp2_with fail
          go_ret
          exact ⟨by rw [HN.out]; rfl, HE.out.trans HX2.out⟩
      · have HC := Lib.hid (Blk.new wr 49 #[.func (.func 46) #[] #[]])
        have hidx := index_ints9 wr
        go_wp2_with (first | (with_reducible refine wpList_newF rfl (.tmp 6) (.tmp 10) rfl _ rfl _ rfl rfl rfl ?_))
        clear hidx
        refine wp_region_plan (S := fun W => Ext (wr.alloc (.cells #[.func (.func 46) #[] #[]] 49)) W) (by kernel_rfl) (by kernel_rfl) ((Ext.refl _).drew') ?_
        (refine plan_take (i := 0) (oi := { dst := some 11, op := Op.fieldAddr 49 (Operand.tmp 6) 0, type := 0, pos := "script.go:214", after := #[], guard := none }) (v := ?_) rfl (by kernel_rfl) (by kernel_rfl) (fx_read (Or.inl ⟨by rfl, ?hy0⟩)) ?_; case hy0 => (intro W hSW; obtain ⟨⟨a0, a1, a2, a3, a4, a5, a6, a7, a8, a31, a32, a33, a34, a35⟩, b0, b1, b2, b3, b4, b5, b6, b7, b8, b31, b32, b33, b34, b35⟩ := HF.out W (HX.out.trans (((Ext.refl wr).alloc' _).trans hSW)); have f0 := (HC.out.ext hSW).cell 0; go_simp <;> with_reducible rfl))
        try simp only [Act.put, List.setIfInBounds_toArray, List.set_cons_zero, List.set_cons_succ]
        (refine plan_take (i := 1) (oi := { dst := some 12, op := Op.load 47 (Operand.tmp 11), type := 47, pos := "script.go:214", after := #[{ on := 0, ground := Ground.data }], guard := none }) (v := ?_) rfl (by kernel_rfl) (by kernel_rfl) (fx_read (Or.inl ⟨by rfl, ?hy1⟩)) ?_; case hy1 => (intro W hSW; obtain ⟨⟨a0, a1, a2, a3, a4, a5, a6, a7, a8, a31, a32, a33, a34, a35⟩, b0, b1, b2, b3, b4, b5, b6, b7, b8, b31, b32, b33, b34, b35⟩ := HF.out W (HX.out.trans (((Ext.refl wr).alloc' _).trans hSW)); have f0 := (HC.out.ext hSW).cell 0; go_simp <;> with_reducible rfl))
        try simp only [Act.put, List.setIfInBounds_toArray, List.set_cons_zero, List.set_cons_succ]
        (refine plan_take (i := 2) (oi := { dst := some 13, op := Op.call { callee := Callee.value (Operand.tmp 12), args := #[Operand.tmp 2], argTypes := #[53] }, type := 52, pos := "script.go:214", after := #[{ on := 1, ground := Ground.data }], guard := none }) (v := ?_) rfl (by kernel_rfl) (by kernel_rfl) (fx_call (by rfl) (fun W hSW K hK => ?hy2)) ?_; case hy2 => (go_simp; go_at_call 46; (with_reducible refine (ints9_any w.heap.size W).mono ?_); rintro e w1 ⟨rfl, rfl⟩; exact hK.out _ (hSW)))
        try simp only [Act.put, List.setIfInBounds_toArray, List.set_cons_zero, List.set_cons_succ]
        (refine plan_take (i := 3) (oi := { dst := some 14, op := Op.nilCheck (Operand.tmp 13), type := 0, pos := "script.go:214", after := #[{ on := 2, ground := Ground.data }], guard := none }) (v := ?_) rfl (by kernel_rfl) (by kernel_rfl) (fx_read (Or.inl ⟨by rfl, ?hy3⟩)) ?_; case hy3 => (intro W hSW; obtain ⟨⟨a0, a1, a2, a3, a4, a5, a6, a7, a8, a31, a32, a33, a34, a35⟩, b0, b1, b2, b3, b4, b5, b6, b7, b8, b31, b32, b33, b34, b35⟩ := HF.out W (HX.out.trans (((Ext.refl wr).alloc' _).trans hSW)); have f0 := (HC.out.ext hSW).cell 0; go_simp <;> with_reducible rfl))
        try simp only [Act.put, List.setIfInBounds_toArray, List.set_cons_zero, List.set_cons_succ]
        (refine plan_take (i := 4) (oi := { dst := some 15, op := Op.load 3 (Operand.tmp 14), type := 3, pos := "script.go:214", after := #[{ on := 3, ground := Ground.data }], guard := none }) (v := ?_) rfl (by kernel_rfl) (by kernel_rfl) (fx_read (Or.inl ⟨by rfl, ?hy4⟩)) ?_; case hy4 => (intro W hSW; obtain ⟨⟨a0, a1, a2, a3, a4, a5, a6, a7, a8, a31, a32, a33, a34, a35⟩, b0, b1, b2, b3, b4, b5, b6, b7, b8, b31, b32, b33, b34, b35⟩ := HF.out W (HX.out.trans (((Ext.refl wr).alloc' _).trans hSW)); have f0 := (HC.out.ext hSW).cell 0; go_simp <;> with_reducible rfl))
        try simp only [Act.put, List.setIfInBounds_toArray, List.set_cons_zero, List.set_cons_succ]
        (refine plan_take (i := 5) (oi := { dst := some 16, op := Op.fieldAddr 49 (Operand.tmp 6) 0, type := 0, pos := "script.go:214", after := #[], guard := none }) (v := ?_) rfl (by kernel_rfl) (by kernel_rfl) (fx_read (Or.inl ⟨by rfl, ?hy5⟩)) ?_; case hy5 => (intro W hSW; obtain ⟨⟨a0, a1, a2, a3, a4, a5, a6, a7, a8, a31, a32, a33, a34, a35⟩, b0, b1, b2, b3, b4, b5, b6, b7, b8, b31, b32, b33, b34, b35⟩ := HF.out W (HX.out.trans (((Ext.refl wr).alloc' _).trans hSW)); have f0 := (HC.out.ext hSW).cell 0; go_simp <;> with_reducible rfl))
        try simp only [Act.put, List.setIfInBounds_toArray, List.set_cons_zero, List.set_cons_succ]
        (refine plan_take (i := 6) (oi := { dst := some 17, op := Op.load 47 (Operand.tmp 16), type := 47, pos := "script.go:214", after := #[{ on := 5, ground := Ground.data }], guard := none }) (v := ?_) rfl (by kernel_rfl) (by kernel_rfl) (fx_read (Or.inl ⟨by rfl, ?hy6⟩)) ?_; case hy6 => (intro W hSW; obtain ⟨⟨a0, a1, a2, a3, a4, a5, a6, a7, a8, a31, a32, a33, a34, a35⟩, b0, b1, b2, b3, b4, b5, b6, b7, b8, b31, b32, b33, b34, b35⟩ := HF.out W (HX.out.trans (((Ext.refl wr).alloc' _).trans hSW)); have f0 := (HC.out.ext hSW).cell 0; go_simp <;> with_reducible rfl))
        try simp only [Act.put, List.setIfInBounds_toArray, List.set_cons_zero, List.set_cons_succ]
        (refine plan_take (i := 7) (oi := { dst := some 18, op := Op.call { callee := Callee.value (Operand.tmp 17), args := #[Operand.tmp 3], argTypes := #[53] }, type := 52, pos := "script.go:214", after := #[{ on := 6, ground := Ground.data }, { on := 2, ground := Ground.chain }], guard := none }) (v := ?_) rfl (by kernel_rfl) (by kernel_rfl) (fx_call (by rfl) (fun W hSW K hK => ?hy7)) ?_; case hy7 => (go_simp; go_at_call 46; (with_reducible refine (ints9_any (w.heap.size + 1) W).mono ?_); rintro e w1 ⟨rfl, rfl⟩; exact hK.out _ (hSW)))
        try simp only [Act.put, List.setIfInBounds_toArray, List.set_cons_zero, List.set_cons_succ]
        (refine plan_take (i := 8) (oi := { dst := some 19, op := Op.nilCheck (Operand.tmp 18), type := 0, pos := "script.go:214", after := #[{ on := 7, ground := Ground.data }], guard := none }) (v := ?_) rfl (by kernel_rfl) (by kernel_rfl) (fx_read (Or.inl ⟨by rfl, ?hy8⟩)) ?_; case hy8 => (intro W hSW; obtain ⟨⟨a0, a1, a2, a3, a4, a5, a6, a7, a8, a31, a32, a33, a34, a35⟩, b0, b1, b2, b3, b4, b5, b6, b7, b8, b31, b32, b33, b34, b35⟩ := HF.out W (HX.out.trans (((Ext.refl wr).alloc' _).trans hSW)); have f0 := (HC.out.ext hSW).cell 0; go_simp <;> with_reducible rfl))
        try simp only [Act.put, List.setIfInBounds_toArray, List.set_cons_zero, List.set_cons_succ]
        (refine plan_take (i := 9) (oi := { dst := some 20, op := Op.load 3 (Operand.tmp 19), type := 3, pos := "script.go:214", after := #[{ on := 8, ground := Ground.data }], guard := none }) (v := ?_) rfl (by kernel_rfl) (by kernel_rfl) (fx_read (Or.inl ⟨by rfl, ?hy9⟩)) ?_; case hy9 => (intro W hSW; obtain ⟨⟨a0, a1, a2, a3, a4, a5, a6, a7, a8, a31, a32, a33, a34, a35⟩, b0, b1, b2, b3, b4, b5, b6, b7, b8, b31, b32, b33, b34, b35⟩ := HF.out W (HX.out.trans (((Ext.refl wr).alloc' _).trans hSW)); have f0 := (HC.out.ext hSW).cell 0; go_simp <;> with_reducible rfl))
        try simp only [Act.put, List.setIfInBounds_toArray, List.set_cons_zero, List.set_cons_succ]
        (refine plan_take (i := 10) (oi := { dst := some 21, op := Op.binOp BinOp.neq 3 (Operand.tmp 15) (Operand.tmp 20) 3, type := 4, pos := "script.go:214", after := #[{ on := 4, ground := Ground.data }, { on := 9, ground := Ground.data }], guard := none }) (v := ?_) rfl (by kernel_rfl) (by kernel_rfl) (fx_read (Or.inl ⟨by rfl, ?hy10⟩)) ?_; case hy10 => (intro W hSW; obtain ⟨⟨a0, a1, a2, a3, a4, a5, a6, a7, a8, a31, a32, a33, a34, a35⟩, b0, b1, b2, b3, b4, b5, b6, b7, b8, b31, b32, b33, b34, b35⟩ := HF.out W (HX.out.trans (((Ext.refl wr).alloc' _).trans hSW)); have f0 := (HC.out.ext hSW).cell 0; go_simp <;> with_reducible rfl))
        try simp only [Act.put, List.setIfInBounds_toArray, List.set_cons_zero, List.set_cons_succ]
        refine Plan.done (by kernel_rfl) (fun W hSW => ?_)
        have HX2 := Lib.hid (HX.out.trans (((Ext.refl wr).alloc' (.cells #[.func (.func 46) #[] #[]] 49)).trans hSW))
        clear hSW HC
        by_cases hv : S.val = T.val
        · have HP' := Lib.hid (upto_snoc (k := 8) HP.out hv)
          have x1 : (S.val != T.val) = false := by simpa using hv
          have x2 : (S.val == T.val) = true := by simpa using hv
          have x3 : decide (S.val = T.val) = true := decide_eq_true hv
          clear hv
          go_wp2_with fail
          go_roundw
          case rel => exact ⟨9, by omega, by go_num, HP', HX2⟩
          case measure => simp [intOf]
        · have HN := Lib.hid (show eqSt S T = false by unfold eqSt; rw [eqI_no (i := 8) (by omega) hv]; rfl)
          have x1 : (S.val != T.val) = true := by simpa using hv
          have x2 : (S.val == T.val) = false := by simpa using hv
          have x3 : decide (S.val = T.val) = false := decide_eq_false hv
          clear hv
          go_wp2_with fail
          go_ret
          exact ⟨by rw [HN.out]; rfl, HE.out.trans HX2.out⟩
    · obtain rfl : k = 9 := by omega
      have HI := Lib.hid (show eqI S T = true from eqI_yes HP.out)
      have HV := Lib.hid (show eqSt S T = (eqG eqInt S.pk T.pk && (decide (S.v = T.v) && (decide (S.da = T.da) && (eqVw S.vs S.xs T.vs T.xs && eqG eqOp S.ops T.ops)))) by unfold eqSt; rw [HI.out, Bool.true_and])
      clear HI HP
      obtain ⟨⟨a0, a1, a2, a3, a4, a5, a6, a7, a8, a31, a32, a33, a34, a35⟩, b0, b1, b2, b3, b4, b5, b6, b7, b8, b31, b32, b33, b34, b35⟩ := HF.out wr HX.out
      go_wp2_with fail
      refine (slEqInt_any S.A1 S.n1 S.c1 S.pk T.A1 T.n1 T.c1 T.pk wr (HS.out.pk.ext HX.out) (HT.out.pk.ext HX.out)).mono ?_
      rintro e w2 ⟨rfl, he2⟩
      have HX2 := Lib.hid (HX.out.trans he2)
      clear he2 a0 a1 a2 a3 a4 a5 a6 a7 a8 a31 a32 a33 a34 a35 b0 b1 b2 b3 b4 b5 b6 b7 b8 b31 b32 b33 b34 b35
      obtain ⟨⟨a0, a1, a2, a3, a4, a5, a6, a7, a8, a31, a32, a33, a34, a35⟩, b0, b1, b2, b3, b4, b5, b6, b7, b8, b31, b32, b33, b34, b35⟩ := HF.out w2 HX2.out
      have r1 := sp_vote (HB1.out.ext HX2.out)
      have r2 := sp_vote (HB2.out.ext HX2.out)
      have hq := fun W => run_eqVt S.v T.v HS.out.v HT.out.v W
      have hqi := fun W => eqIn_Vt S.v T.v HS.out.v HT.out.v W
      have HBE := Lib.hid (bEqual_any S.A5 S.n5 S.c5 S.da T.A5 T.n5 T.c5 T.da w2 (HS.out.da.ext HX2.out) (HT.out.da.ext HX2.out))
      have HSE := Lib.hid (snapEqual_any S.A3 S.n3 S.c3 S.vs S.A4 S.n4 S.c4 S.xs T.A3 T.n3 T.c3 T.vs T.A4 T.n4 T.c4 T.xs w2 (HS.out.vs.ext HX2.out) (HS.out.xs.ext HX2.out) (HT.out.vs.ext HX2.out) (HT.out.xs.ext HX2.out))
      cases hp : eqG eqInt S.pk T.pk with
      | false =>
        rw [hp] at HV
        clear hp r1 r2
        go_wp2_with fail
        go_ret
        exact ⟨by rw [HV.out]; rfl, HE.out.trans HX2.out⟩
      | true =>
        rw [hp, Bool.true_and] at HV
        clear hp
        by_cases hv : S.v = T.v
        · rw [decide_eq_true hv] at hq hqi HV
          rw [Bool.true_and] at HV
          clear hv
          go_wp2_with (first | (refine wpList_loadVtW ?hw (.tmp 29) rfl w.heap.size 9 rfl S.v r1 ?_; case hw => rfl) | (refine wpList_loadVtW ?hw (.tmp 31) rfl (w.heap.size + 1) 9 rfl T.v r2 ?_; case hw => rfl))
          refine HBE.out.mono ?_
          rintro e w3 ⟨rfl, rfl⟩
          cases hd : decide (S.da = T.da) with
          | false =>
            rw [hd] at HV
            clear hd
            go_wp2_with fail
            go_ret
            exact ⟨by rw [HV.out]; rfl, HE.out.trans HX2.out⟩
          | true =>
            rw [hd, Bool.true_and] at HV
            clear hd
            go_wp2_with fail
            refine HSE.out.mono ?_
            rintro e w3 ⟨rfl, he3⟩
            have HX3 := Lib.hid (HX2.out.trans he3)
            clear he3 a0 a1 a2 a3 a4 a5 a6 a7 a8 a31 a32 a33 a34 a35 b0 b1 b2 b3 b4 b5 b6 b7 b8 b31 b32 b33 b34 b35 r1 r2
            obtain ⟨⟨a0, a1, a2, a3, a4, a5, a6, a7, a8, a31, a32, a33, a34, a35⟩, b0, b1, b2, b3, b4, b5, b6, b7, b8, b31, b32, b33, b34, b35⟩ := HF.out w3 HX3.out
            cases hw : eqVw S.vs S.xs T.vs T.xs with
            | false =>
              rw [hw] at HV
              clear hw
              go_wp2_with fail
              go_ret
              exact ⟨by rw [HV.out]; rfl, HE.out.trans HX3.out⟩
            | true =>
              rw [hw, Bool.true_and] at HV
              clear hw
              go_wp2_with fail
              refine (eqfOp_any S.A2 S.n2 S.c2 S.ops T.A2 T.n2 T.c2 T.ops w3 (HS.out.ops.ext HX3.out) (HT.out.ops.ext HX3.out)).mono ?_
              rintro e w4 ⟨rfl, he4⟩
              have HX4 := Lib.hid (HX3.out.trans he4)
              clear he4
              go_wp2_with fail
              go_ret
              exact ⟨by rw [HV.out]; rfl, HE.out.trans HX4.out⟩
        · rw [decide_eq_false hv] at hq hqi HV
          clear hv
          go_wp2_with (first | (refine wpList_loadVtW ?hw (.tmp 29) rfl w.heap.size 9 rfl S.v r1 ?_; case hw => rfl) | (refine wpList_loadVtW ?hw (.tmp 31) rfl (w.heap.size + 1) 9 rfl T.v r2 ?_; case hw => rfl))
          go_ret
          exact ⟨by rw [HV.out]; rfl, HE.out.trans HX2.out⟩
end Go.Proofs.Ytjlnmpjffogpdaa
