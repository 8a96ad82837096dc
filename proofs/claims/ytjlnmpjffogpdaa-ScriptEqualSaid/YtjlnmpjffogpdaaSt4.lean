/- SameStep (the reference's). -/
import Derived.Test.YtjlnmpjffogpdaaSt2
namespace Go.Proofs.Ytjlnmpjffogpdaa
open Go.RowKit
set_option linter.unusedVariables false
set_option linter.unusedSimpArgs false
attribute [local go_sem ↓] Go.wp_at_zero Go.wp_at_succ

theorem run_neqVt (a b : VtR) (ha : a.wf) (hb : b.wf) (w : World) : (binOp .neq 28 (.agg (vtA a)) (.agg (vtA b))).run Try.prog w = .ok (.bool (!decide (a = b))) w := by
  rw [run_neq_struct, eqIn_Vt a b ha hb w]
  rfl
theorem yields_loadOW {ops : Array Oper} {S : World → Prop} {o : Oper} {a : Act} (hw : Region.wanted o (yielded ops a.tmps) = true) (x : Operand) (ho : o.op = .load 58 x) (b of : Nat) (hx : a.eval x = .pointer (some ⟨b, of, none⟩)) (R : OpR) (hS : ∀ w, S w → w.rangeAt b of (opL R)) : YieldsIf Try.prog ops S o (.agg (opA R)) a := by
  have := yieldsIf_load_mid (P := Try.prog) (S := S) hw 58 x ho b of hx (opL R) _ hS Try.underlying58 rfl (by rw [opL_length]; kernel_rfl)
  rw [opL_arr] at this
  exact this
/-- the tests ahead of the operations -/
def headSt (S T : StR) : Bool := eqI S T && (decide (S.v = T.v) && (decide (S.da = T.da) && (eqVw S.vs S.xs T.vs T.xs && decide (S.n2 = T.n2))))
theorem eqSt_head {S T : StR} {w w' : World} (hS : S.ok w) (hT : T.ok w') (h : headSt S T = false) : eqSt S T = false := by
  unfold eqSt
  unfold headSt at h
  cases h1 : eqI S T with
  | false => rfl
  | true =>
    rw [h1, Bool.true_and] at h
    cases h2 : decide (S.v = T.v) with
    | false => simp
    | true =>
      rw [h2, Bool.true_and] at h
      cases h3 : decide (S.da = T.da) with
      | false => simp
      | true =>
        rw [h3, Bool.true_and] at h
        cases h4 : eqVw S.vs S.xs T.vs T.xs with
        | false => simp
        | true =>
          rw [h4, Bool.true_and] at h
          rw [eqG_len (f := eqOp) (L := S.ops) (M := T.ops) (by rw [hS.ops.len, hT.ops.len]; exact of_decide_eq_false h)]
          simp
theorem eqSt_of {S T : StR} (h : headSt S T = true) : eqSt S T = (eqG eqInt S.pk T.pk && eqG eqOp S.ops T.ops) := by
  unfold eqSt
  unfold headSt at h
  simp only [Bool.and_eq_true] at h
  obtain ⟨h1, h2, h3, h4, h5⟩ := h
  rw [h1, h2, h3, h4]
  simp
set_option maxRecDepth 100000 in
set_option maxHeartbeats 8000000 in
theorem sameStep_no0 (S T : StR) (w : World) (hS : S.ok w) (hT : T.ok w)  (hc : ¬ S.k = T.k) :
    Calls Try.prog 6 #[.agg (spA S), .agg (spA T)] w fun e w' => e = .returned (.bool (eqSt S T)) ∧ Ext w w' := by
  have HN := Lib.hid (show eqSt S T = false from eqSt_head hS hT (by unfold headSt; rw [eqI_no (i := 0) (by omega) hc]; rfl))
  have hE := ((Ext.refl w).alloc' (.cells (spA S) 38)).alloc' (.cells (spA T) 38)
  have HB1 := Lib.hid ((Blk.new w 38 (spA S)).alloc (.cells (spA T) 38))
  have HB2 := Lib.hid (show Blk ((w.alloc (.cells (spA S) 38)).alloc (.cells (spA T) 38)) (w.heap.size + 1) 38 (spA T) from Blk.newAt _ _ _ _ (by simp))
  have HE := Lib.hid hE
  have HS := Lib.hid (hS.ext hE)
  have HT := Lib.hid (hT.ext hE)
  obtain ⟨W0, hW0⟩ : ∃ W0, (w.alloc (.cells (spA S) 38)).alloc (.cells (spA T) 38) = W0 := ⟨_, rfl⟩
  rw [hW0] at HB1 HB2 HE HS HT
  clear hS hT hE
  have HF := Lib.hid (fun (W : World) (h : Ext W0 W) => (⟨sp_facts (HB1.out.ext h), sp_facts (HB2.out.ext h)⟩ : spF W w.heap.size S ∧ spF W (w.heap.size + 1) T))
  have r1 := sp_vote HB1.out
  have r2 := sp_vote HB2.out
  have rs1 := run_strV HS.out.da
  have rs2 := run_strV HT.out.da
  have hq := fun W => run_neqVt S.v T.v HS.out.v HT.out.v W
  have hqi := fun W => eqIn_Vt S.v T.v HS.out.v HT.out.v W
  have y8 := strV_eq' S.da T.da
  have HSV := Lib.hid (sameView_any S.A3 S.n3 S.c3 S.vs S.A4 S.n4 S.c4 S.xs T.A3 T.n3 T.c3 T.vs T.A4 T.n4 T.c4 T.xs W0 HS.out.vs HS.out.xs HT.out.vs HT.out.xs)
  obtain ⟨⟨a0, a1, a2, a3, a4, a5, a6, a7, a8, a31, a32, a33, a34, a35⟩, b0, b1, b2, b3, b4, b5, b6, b7, b8, b31, b32, b33, b34, b35⟩ := HF.out W0 (Ext.refl _)
  have x0 : (S.k != T.k) = true := by simpa using hc
  have z0 : (S.k == T.k) = false := by simpa using hc
  have d0 : decide (S.k = T.k) = false := decide_eq_false hc
  clear r1 r2 hq hqi rs1 rs2 y8
  clear hc

  go_enter Try.func6, Try.ntmps6
  simp only [lapp_cons, lapp_nil]
  go_wp2_with fail
  go_ret
  exact ⟨by rw [HN.out]; rfl, HE.out⟩
set_option maxRecDepth 100000 in
set_option maxHeartbeats 8000000 in
theorem sameStep_no1 (S T : StR) (w : World) (hS : S.ok w) (hT : T.ok w) (c0 : S.k = T.k) (hc : ¬ S.pr = T.pr) :
    Calls Try.prog 6 #[.agg (spA S), .agg (spA T)] w fun e w' => e = .returned (.bool (eqSt S T)) ∧ Ext w w' := by
  have HN := Lib.hid (show eqSt S T = false from eqSt_head hS hT (by unfold headSt; rw [eqI_no (i := 1) (by omega) hc]; rfl))
  have hE := ((Ext.refl w).alloc' (.cells (spA S) 38)).alloc' (.cells (spA T) 38)
  have HB1 := Lib.hid ((Blk.new w 38 (spA S)).alloc (.cells (spA T) 38))
  have HB2 := Lib.hid (show Blk ((w.alloc (.cells (spA S) 38)).alloc (.cells (spA T) 38)) (w.heap.size + 1) 38 (spA T) from Blk.newAt _ _ _ _ (by simp))
  have HE := Lib.hid hE
  have HS := Lib.hid (hS.ext hE)
  have HT := Lib.hid (hT.ext hE)
  obtain ⟨W0, hW0⟩ : ∃ W0, (w.alloc (.cells (spA S) 38)).alloc (.cells (spA T) 38) = W0 := ⟨_, rfl⟩
  rw [hW0] at HB1 HB2 HE HS HT
  clear hS hT hE
  have HF := Lib.hid (fun (W : World) (h : Ext W0 W) => (⟨sp_facts (HB1.out.ext h), sp_facts (HB2.out.ext h)⟩ : spF W w.heap.size S ∧ spF W (w.heap.size + 1) T))
  have r1 := sp_vote HB1.out
  have r2 := sp_vote HB2.out
  have rs1 := run_strV HS.out.da
  have rs2 := run_strV HT.out.da
  have hq := fun W => run_neqVt S.v T.v HS.out.v HT.out.v W
  have hqi := fun W => eqIn_Vt S.v T.v HS.out.v HT.out.v W
  have y8 := strV_eq' S.da T.da
  have HSV := Lib.hid (sameView_any S.A3 S.n3 S.c3 S.vs S.A4 S.n4 S.c4 S.xs T.A3 T.n3 T.c3 T.vs T.A4 T.n4 T.c4 T.xs W0 HS.out.vs HS.out.xs HT.out.vs HT.out.xs)
  obtain ⟨⟨a0, a1, a2, a3, a4, a5, a6, a7, a8, a31, a32, a33, a34, a35⟩, b0, b1, b2, b3, b4, b5, b6, b7, b8, b31, b32, b33, b34, b35⟩ := HF.out W0 (Ext.refl _)
  have x0 : (S.k != T.k) = false := by simpa using c0
  have z0 : (S.k == T.k) = true := by simpa using c0
  have d0 : decide (S.k = T.k) = true := decide_eq_true c0
  have x1 : (S.pr != T.pr) = true := by simpa using hc
  have z1 : (S.pr == T.pr) = false := by simpa using hc
  have d1 : decide (S.pr = T.pr) = false := decide_eq_false hc
  clear r1 r2 hq hqi rs1 rs2 y8
  clear c0 hc

  go_enter Try.func6, Try.ntmps6
  simp only [lapp_cons, lapp_nil]
  go_wp2_with fail
  go_ret
  exact ⟨by rw [HN.out]; rfl, HE.out⟩
set_option maxRecDepth 100000 in
set_option maxHeartbeats 8000000 in
theorem sameStep_no2 (S T : StR) (w : World) (hS : S.ok w) (hT : T.ok w) (c0 : S.k = T.k) (c1 : S.pr = T.pr) (hc : ¬ S.to = T.to) :
    Calls Try.prog 6 #[.agg (spA S), .agg (spA T)] w fun e w' => e = .returned (.bool (eqSt S T)) ∧ Ext w w' := by
  have HN := Lib.hid (show eqSt S T = false from eqSt_head hS hT (by unfold headSt; rw [eqI_no (i := 2) (by omega) hc]; rfl))
  have hE := ((Ext.refl w).alloc' (.cells (spA S) 38)).alloc' (.cells (spA T) 38)
  have HB1 := Lib.hid ((Blk.new w 38 (spA S)).alloc (.cells (spA T) 38))
  have HB2 := Lib.hid (show Blk ((w.alloc (.cells (spA S) 38)).alloc (.cells (spA T) 38)) (w.heap.size + 1) 38 (spA T) from Blk.newAt _ _ _ _ (by simp))
  have HE := Lib.hid hE
  have HS := Lib.hid (hS.ext hE)
  have HT := Lib.hid (hT.ext hE)
  obtain ⟨W0, hW0⟩ : ∃ W0, (w.alloc (.cells (spA S) 38)).alloc (.cells (spA T) 38) = W0 := ⟨_, rfl⟩
  rw [hW0] at HB1 HB2 HE HS HT
  clear hS hT hE
  have HF := Lib.hid (fun (W : World) (h : Ext W0 W) => (⟨sp_facts (HB1.out.ext h), sp_facts (HB2.out.ext h)⟩ : spF W w.heap.size S ∧ spF W (w.heap.size + 1) T))
  have r1 := sp_vote HB1.out
  have r2 := sp_vote HB2.out
  have rs1 := run_strV HS.out.da
  have rs2 := run_strV HT.out.da
  have hq := fun W => run_neqVt S.v T.v HS.out.v HT.out.v W
  have hqi := fun W => eqIn_Vt S.v T.v HS.out.v HT.out.v W
  have y8 := strV_eq' S.da T.da
  have HSV := Lib.hid (sameView_any S.A3 S.n3 S.c3 S.vs S.A4 S.n4 S.c4 S.xs T.A3 T.n3 T.c3 T.vs T.A4 T.n4 T.c4 T.xs W0 HS.out.vs HS.out.xs HT.out.vs HT.out.xs)
  obtain ⟨⟨a0, a1, a2, a3, a4, a5, a6, a7, a8, a31, a32, a33, a34, a35⟩, b0, b1, b2, b3, b4, b5, b6, b7, b8, b31, b32, b33, b34, b35⟩ := HF.out W0 (Ext.refl _)
  have x0 : (S.k != T.k) = false := by simpa using c0
  have z0 : (S.k == T.k) = true := by simpa using c0
  have d0 : decide (S.k = T.k) = true := decide_eq_true c0
  have x1 : (S.pr != T.pr) = false := by simpa using c1
  have z1 : (S.pr == T.pr) = true := by simpa using c1
  have d1 : decide (S.pr = T.pr) = true := decide_eq_true c1
  have x2 : (S.to != T.to) = true := by simpa using hc
  have z2 : (S.to == T.to) = false := by simpa using hc
  have d2 : decide (S.to = T.to) = false := decide_eq_false hc
  clear r1 r2 hq hqi rs1 rs2 y8
  clear c0 c1 hc

  go_enter Try.func6, Try.ntmps6
  simp only [lapp_cons, lapp_nil]
  go_wp2_with fail
  go_ret
  exact ⟨by rw [HN.out]; rfl, HE.out⟩
set_option maxRecDepth 100000 in
set_option maxHeartbeats 8000000 in
theorem sameStep_no3 (S T : StR) (w : World) (hS : S.ok w) (hT : T.ok w) (c0 : S.k = T.k) (c1 : S.pr = T.pr) (c2 : S.to = T.to) (hc : ¬ S.at_ = T.at_) :
    Calls Try.prog 6 #[.agg (spA S), .agg (spA T)] w fun e w' => e = .returned (.bool (eqSt S T)) ∧ Ext w w' := by
  have HN := Lib.hid (show eqSt S T = false from eqSt_head hS hT (by unfold headSt; rw [eqI_no (i := 3) (by omega) hc]; rfl))
  have hE := ((Ext.refl w).alloc' (.cells (spA S) 38)).alloc' (.cells (spA T) 38)
  have HB1 := Lib.hid ((Blk.new w 38 (spA S)).alloc (.cells (spA T) 38))
  have HB2 := Lib.hid (show Blk ((w.alloc (.cells (spA S) 38)).alloc (.cells (spA T) 38)) (w.heap.size + 1) 38 (spA T) from Blk.newAt _ _ _ _ (by simp))
  have HE := Lib.hid hE
  have HS := Lib.hid (hS.ext hE)
  have HT := Lib.hid (hT.ext hE)
  obtain ⟨W0, hW0⟩ : ∃ W0, (w.alloc (.cells (spA S) 38)).alloc (.cells (spA T) 38) = W0 := ⟨_, rfl⟩
  rw [hW0] at HB1 HB2 HE HS HT
  clear hS hT hE
  have HF := Lib.hid (fun (W : World) (h : Ext W0 W) => (⟨sp_facts (HB1.out.ext h), sp_facts (HB2.out.ext h)⟩ : spF W w.heap.size S ∧ spF W (w.heap.size + 1) T))
  have r1 := sp_vote HB1.out
  have r2 := sp_vote HB2.out
  have rs1 := run_strV HS.out.da
  have rs2 := run_strV HT.out.da
  have hq := fun W => run_neqVt S.v T.v HS.out.v HT.out.v W
  have hqi := fun W => eqIn_Vt S.v T.v HS.out.v HT.out.v W
  have y8 := strV_eq' S.da T.da
  have HSV := Lib.hid (sameView_any S.A3 S.n3 S.c3 S.vs S.A4 S.n4 S.c4 S.xs T.A3 T.n3 T.c3 T.vs T.A4 T.n4 T.c4 T.xs W0 HS.out.vs HS.out.xs HT.out.vs HT.out.xs)
  obtain ⟨⟨a0, a1, a2, a3, a4, a5, a6, a7, a8, a31, a32, a33, a34, a35⟩, b0, b1, b2, b3, b4, b5, b6, b7, b8, b31, b32, b33, b34, b35⟩ := HF.out W0 (Ext.refl _)
  have x0 : (S.k != T.k) = false := by simpa using c0
  have z0 : (S.k == T.k) = true := by simpa using c0
  have d0 : decide (S.k = T.k) = true := decide_eq_true c0
  have x1 : (S.pr != T.pr) = false := by simpa using c1
  have z1 : (S.pr == T.pr) = true := by simpa using c1
  have d1 : decide (S.pr = T.pr) = true := decide_eq_true c1
  have x2 : (S.to != T.to) = false := by simpa using c2
  have z2 : (S.to == T.to) = true := by simpa using c2
  have d2 : decide (S.to = T.to) = true := decide_eq_true c2
  have x3 : (S.at_ != T.at_) = true := by simpa using hc
  have z3 : (S.at_ == T.at_) = false := by simpa using hc
  have d3 : decide (S.at_ = T.at_) = false := decide_eq_false hc
  clear r1 r2 hq hqi rs1 rs2 y8
  clear c0 c1 c2 hc

  go_enter Try.func6, Try.ntmps6
  simp only [lapp_cons, lapp_nil]
  go_wp2_with fail
  go_ret
  exact ⟨by rw [HN.out]; rfl, HE.out⟩
set_option maxRecDepth 100000 in
set_option maxHeartbeats 8000000 in
theorem sameStep_no4 (S T : StR) (w : World) (hS : S.ok w) (hT : T.ok w) (c0 : S.k = T.k) (c1 : S.pr = T.pr) (c2 : S.to = T.to) (c3 : S.at_ = T.at_) (hc : ¬ S.gr = T.gr) :
    Calls Try.prog 6 #[.agg (spA S), .agg (spA T)] w fun e w' => e = .returned (.bool (eqSt S T)) ∧ Ext w w' := by
  have HN := Lib.hid (show eqSt S T = false from eqSt_head hS hT (by unfold headSt; rw [eqI_no (i := 4) (by omega) hc]; rfl))
  have hE := ((Ext.refl w).alloc' (.cells (spA S) 38)).alloc' (.cells (spA T) 38)
  have HB1 := Lib.hid ((Blk.new w 38 (spA S)).alloc (.cells (spA T) 38))
  have HB2 := Lib.hid (show Blk ((w.alloc (.cells (spA S) 38)).alloc (.cells (spA T) 38)) (w.heap.size + 1) 38 (spA T) from Blk.newAt _ _ _ _ (by simp))
  have HE := Lib.hid hE
  have HS := Lib.hid (hS.ext hE)
  have HT := Lib.hid (hT.ext hE)
  obtain ⟨W0, hW0⟩ : ∃ W0, (w.alloc (.cells (spA S) 38)).alloc (.cells (spA T) 38) = W0 := ⟨_, rfl⟩
  rw [hW0] at HB1 HB2 HE HS HT
  clear hS hT hE
  have HF := Lib.hid (fun (W : World) (h : Ext W0 W) => (⟨sp_facts (HB1.out.ext h), sp_facts (HB2.out.ext h)⟩ : spF W w.heap.size S ∧ spF W (w.heap.size + 1) T))
  have r1 := sp_vote HB1.out
  have r2 := sp_vote HB2.out
  have rs1 := run_strV HS.out.da
  have rs2 := run_strV HT.out.da
  have hq := fun W => run_neqVt S.v T.v HS.out.v HT.out.v W
  have hqi := fun W => eqIn_Vt S.v T.v HS.out.v HT.out.v W
  have y8 := strV_eq' S.da T.da
  have HSV := Lib.hid (sameView_any S.A3 S.n3 S.c3 S.vs S.A4 S.n4 S.c4 S.xs T.A3 T.n3 T.c3 T.vs T.A4 T.n4 T.c4 T.xs W0 HS.out.vs HS.out.xs HT.out.vs HT.out.xs)
  obtain ⟨⟨a0, a1, a2, a3, a4, a5, a6, a7, a8, a31, a32, a33, a34, a35⟩, b0, b1, b2, b3, b4, b5, b6, b7, b8, b31, b32, b33, b34, b35⟩ := HF.out W0 (Ext.refl _)
  have x0 : (S.k != T.k) = false := by simpa using c0
  have z0 : (S.k == T.k) = true := by simpa using c0
  have d0 : decide (S.k = T.k) = true := decide_eq_true c0
  have x1 : (S.pr != T.pr) = false := by simpa using c1
  have z1 : (S.pr == T.pr) = true := by simpa using c1
  have d1 : decide (S.pr = T.pr) = true := decide_eq_true c1
  have x2 : (S.to != T.to) = false := by simpa using c2
  have z2 : (S.to == T.to) = true := by simpa using c2
  have d2 : decide (S.to = T.to) = true := decide_eq_true c2
  have x3 : (S.at_ != T.at_) = false := by simpa using c3
  have z3 : (S.at_ == T.at_) = true := by simpa using c3
  have d3 : decide (S.at_ = T.at_) = true := decide_eq_true c3
  have x4 : (S.gr != T.gr) = true := by simpa using hc
  have z4 : (S.gr == T.gr) = false := by simpa using hc
  have d4 : decide (S.gr = T.gr) = false := decide_eq_false hc
  clear r1 r2 hq hqi rs1 rs2 y8
  clear c0 c1 c2 c3 hc

  go_enter Try.func6, Try.ntmps6
  simp only [lapp_cons, lapp_nil]
  go_wp2_with fail
  go_ret
  exact ⟨by rw [HN.out]; rfl, HE.out⟩
set_option maxRecDepth 100000 in
set_option maxHeartbeats 8000000 in
theorem sameStep_no5 (S T : StR) (w : World) (hS : S.ok w) (hT : T.ok w) (c0 : S.k = T.k) (c1 : S.pr = T.pr) (c2 : S.to = T.to) (c3 : S.at_ = T.at_) (c4 : S.gr = T.gr) (hc : ¬ S.ac = T.ac) :
    Calls Try.prog 6 #[.agg (spA S), .agg (spA T)] w fun e w' => e = .returned (.bool (eqSt S T)) ∧ Ext w w' := by
  have HN := Lib.hid (show eqSt S T = false from eqSt_head hS hT (by unfold headSt; rw [eqI_no (i := 5) (by omega) hc]; rfl))
  have hE := ((Ext.refl w).alloc' (.cells (spA S) 38)).alloc' (.cells (spA T) 38)
  have HB1 := Lib.hid ((Blk.new w 38 (spA S)).alloc (.cells (spA T) 38))
  have HB2 := Lib.hid (show Blk ((w.alloc (.cells (spA S) 38)).alloc (.cells (spA T) 38)) (w.heap.size + 1) 38 (spA T) from Blk.newAt _ _ _ _ (by simp))
  have HE := Lib.hid hE
  have HS := Lib.hid (hS.ext hE)
  have HT := Lib.hid (hT.ext hE)
  obtain ⟨W0, hW0⟩ : ∃ W0, (w.alloc (.cells (spA S) 38)).alloc (.cells (spA T) 38) = W0 := ⟨_, rfl⟩
  rw [hW0] at HB1 HB2 HE HS HT
  clear hS hT hE
  have HF := Lib.hid (fun (W : World) (h : Ext W0 W) => (⟨sp_facts (HB1.out.ext h), sp_facts (HB2.out.ext h)⟩ : spF W w.heap.size S ∧ spF W (w.heap.size + 1) T))
  have r1 := sp_vote HB1.out
  have r2 := sp_vote HB2.out
  have rs1 := run_strV HS.out.da
  have rs2 := run_strV HT.out.da
  have hq := fun W => run_neqVt S.v T.v HS.out.v HT.out.v W
  have hqi := fun W => eqIn_Vt S.v T.v HS.out.v HT.out.v W
  have y8 := strV_eq' S.da T.da
  have HSV := Lib.hid (sameView_any S.A3 S.n3 S.c3 S.vs S.A4 S.n4 S.c4 S.xs T.A3 T.n3 T.c3 T.vs T.A4 T.n4 T.c4 T.xs W0 HS.out.vs HS.out.xs HT.out.vs HT.out.xs)
  obtain ⟨⟨a0, a1, a2, a3, a4, a5, a6, a7, a8, a31, a32, a33, a34, a35⟩, b0, b1, b2, b3, b4, b5, b6, b7, b8, b31, b32, b33, b34, b35⟩ := HF.out W0 (Ext.refl _)
  have x0 : (S.k != T.k) = false := by simpa using c0
  have z0 : (S.k == T.k) = true := by simpa using c0
  have d0 : decide (S.k = T.k) = true := decide_eq_true c0
  have x1 : (S.pr != T.pr) = false := by simpa using c1
  have z1 : (S.pr == T.pr) = true := by simpa using c1
  have d1 : decide (S.pr = T.pr) = true := decide_eq_true c1
  have x2 : (S.to != T.to) = false := by simpa using c2
  have z2 : (S.to == T.to) = true := by simpa using c2
  have d2 : decide (S.to = T.to) = true := decide_eq_true c2
  have x3 : (S.at_ != T.at_) = false := by simpa using c3
  have z3 : (S.at_ == T.at_) = true := by simpa using c3
  have d3 : decide (S.at_ = T.at_) = true := decide_eq_true c3
  have x4 : (S.gr != T.gr) = false := by simpa using c4
  have z4 : (S.gr == T.gr) = true := by simpa using c4
  have d4 : decide (S.gr = T.gr) = true := decide_eq_true c4
  have x5 : (S.ac != T.ac) = true := by simpa using hc
  have z5 : (S.ac == T.ac) = false := by simpa using hc
  have d5 : decide (S.ac = T.ac) = false := decide_eq_false hc
  clear r1 r2 hq hqi rs1 rs2 y8
  clear c0 c1 c2 c3 c4 hc

  go_enter Try.func6, Try.ntmps6
  simp only [lapp_cons, lapp_nil]
  go_wp2_with fail
  go_ret
  exact ⟨by rw [HN.out]; rfl, HE.out⟩
set_option maxRecDepth 100000 in
set_option maxHeartbeats 8000000 in
theorem sameStep_no6 (S T : StR) (w : World) (hS : S.ok w) (hT : T.ok w) (c0 : S.k = T.k) (c1 : S.pr = T.pr) (c2 : S.to = T.to) (c3 : S.at_ = T.at_) (c4 : S.gr = T.gr) (c5 : S.ac = T.ac) (hc : ¬ S.sq = T.sq) :
    Calls Try.prog 6 #[.agg (spA S), .agg (spA T)] w fun e w' => e = .returned (.bool (eqSt S T)) ∧ Ext w w' := by
  have HN := Lib.hid (show eqSt S T = false from eqSt_head hS hT (by unfold headSt; rw [eqI_no (i := 6) (by omega) hc]; rfl))
  have hE := ((Ext.refl w).alloc' (.cells (spA S) 38)).alloc' (.cells (spA T) 38)
  have HB1 := Lib.hid ((Blk.new w 38 (spA S)).alloc (.cells (spA T) 38))
  have HB2 := Lib.hid (show Blk ((w.alloc (.cells (spA S) 38)).alloc (.cells (spA T) 38)) (w.heap.size + 1) 38 (spA T) from Blk.newAt _ _ _ _ (by simp))
  have HE := Lib.hid hE
  have HS := Lib.hid (hS.ext hE)
  have HT := Lib.hid (hT.ext hE)
  obtain ⟨W0, hW0⟩ : ∃ W0, (w.alloc (.cells (spA S) 38)).alloc (.cells (spA T) 38) = W0 := ⟨_, rfl⟩
  rw [hW0] at HB1 HB2 HE HS HT
  clear hS hT hE
  have HF := Lib.hid (fun (W : World) (h : Ext W0 W) => (⟨sp_facts (HB1.out.ext h), sp_facts (HB2.out.ext h)⟩ : spF W w.heap.size S ∧ spF W (w.heap.size + 1) T))
  have r1 := sp_vote HB1.out
  have r2 := sp_vote HB2.out
  have rs1 := run_strV HS.out.da
  have rs2 := run_strV HT.out.da
  have hq := fun W => run_neqVt S.v T.v HS.out.v HT.out.v W
  have hqi := fun W => eqIn_Vt S.v T.v HS.out.v HT.out.v W
  have y8 := strV_eq' S.da T.da
  have HSV := Lib.hid (sameView_any S.A3 S.n3 S.c3 S.vs S.A4 S.n4 S.c4 S.xs T.A3 T.n3 T.c3 T.vs T.A4 T.n4 T.c4 T.xs W0 HS.out.vs HS.out.xs HT.out.vs HT.out.xs)
  obtain ⟨⟨a0, a1, a2, a3, a4, a5, a6, a7, a8, a31, a32, a33, a34, a35⟩, b0, b1, b2, b3, b4, b5, b6, b7, b8, b31, b32, b33, b34, b35⟩ := HF.out W0 (Ext.refl _)
  have x0 : (S.k != T.k) = false := by simpa using c0
  have z0 : (S.k == T.k) = true := by simpa using c0
  have d0 : decide (S.k = T.k) = true := decide_eq_true c0
  have x1 : (S.pr != T.pr) = false := by simpa using c1
  have z1 : (S.pr == T.pr) = true := by simpa using c1
  have d1 : decide (S.pr = T.pr) = true := decide_eq_true c1
  have x2 : (S.to != T.to) = false := by simpa using c2
  have z2 : (S.to == T.to) = true := by simpa using c2
  have d2 : decide (S.to = T.to) = true := decide_eq_true c2
  have x3 : (S.at_ != T.at_) = false := by simpa using c3
  have z3 : (S.at_ == T.at_) = true := by simpa using c3
  have d3 : decide (S.at_ = T.at_) = true := decide_eq_true c3
  have x4 : (S.gr != T.gr) = false := by simpa using c4
  have z4 : (S.gr == T.gr) = true := by simpa using c4
  have d4 : decide (S.gr = T.gr) = true := decide_eq_true c4
  have x5 : (S.ac != T.ac) = false := by simpa using c5
  have z5 : (S.ac == T.ac) = true := by simpa using c5
  have d5 : decide (S.ac = T.ac) = true := decide_eq_true c5
  have x6 : (S.sq != T.sq) = true := by simpa using hc
  have z6 : (S.sq == T.sq) = false := by simpa using hc
  have d6 : decide (S.sq = T.sq) = false := decide_eq_false hc
  clear r1 r2 hq hqi rs1 rs2 y8
  clear c0 c1 c2 c3 c4 c5 hc

  go_enter Try.func6, Try.ntmps6
  simp only [lapp_cons, lapp_nil]
  go_wp2_with fail
  go_ret
  exact ⟨by rw [HN.out]; rfl, HE.out⟩
set_option maxRecDepth 100000 in
set_option maxHeartbeats 8000000 in
theorem sameStep_no7 (S T : StR) (w : World) (hS : S.ok w) (hT : T.ok w) (c0 : S.k = T.k) (c1 : S.pr = T.pr) (c2 : S.to = T.to) (c3 : S.at_ = T.at_) (c4 : S.gr = T.gr) (c5 : S.ac = T.ac) (c6 : S.sq = T.sq) (hc : ¬ S.v = T.v) :
    Calls Try.prog 6 #[.agg (spA S), .agg (spA T)] w fun e w' => e = .returned (.bool (eqSt S T)) ∧ Ext w w' := by
  have HN := Lib.hid (show eqSt S T = false from eqSt_head hS hT (by unfold headSt; rw [decide_eq_false hc]; simp))
  have hE := ((Ext.refl w).alloc' (.cells (spA S) 38)).alloc' (.cells (spA T) 38)
  have HB1 := Lib.hid ((Blk.new w 38 (spA S)).alloc (.cells (spA T) 38))
  have HB2 := Lib.hid (show Blk ((w.alloc (.cells (spA S) 38)).alloc (.cells (spA T) 38)) (w.heap.size + 1) 38 (spA T) from Blk.newAt _ _ _ _ (by simp))
  have HE := Lib.hid hE
  have HS := Lib.hid (hS.ext hE)
  have HT := Lib.hid (hT.ext hE)
  obtain ⟨W0, hW0⟩ : ∃ W0, (w.alloc (.cells (spA S) 38)).alloc (.cells (spA T) 38) = W0 := ⟨_, rfl⟩
  rw [hW0] at HB1 HB2 HE HS HT
  clear hS hT hE
  have HF := Lib.hid (fun (W : World) (h : Ext W0 W) => (⟨sp_facts (HB1.out.ext h), sp_facts (HB2.out.ext h)⟩ : spF W w.heap.size S ∧ spF W (w.heap.size + 1) T))
  have r1 := sp_vote HB1.out
  have r2 := sp_vote HB2.out
  have rs1 := run_strV HS.out.da
  have rs2 := run_strV HT.out.da
  have hq := fun W => run_neqVt S.v T.v HS.out.v HT.out.v W
  have hqi := fun W => eqIn_Vt S.v T.v HS.out.v HT.out.v W
  have y8 := strV_eq' S.da T.da
  have HSV := Lib.hid (sameView_any S.A3 S.n3 S.c3 S.vs S.A4 S.n4 S.c4 S.xs T.A3 T.n3 T.c3 T.vs T.A4 T.n4 T.c4 T.xs W0 HS.out.vs HS.out.xs HT.out.vs HT.out.xs)
  obtain ⟨⟨a0, a1, a2, a3, a4, a5, a6, a7, a8, a31, a32, a33, a34, a35⟩, b0, b1, b2, b3, b4, b5, b6, b7, b8, b31, b32, b33, b34, b35⟩ := HF.out W0 (Ext.refl _)
  have x0 : (S.k != T.k) = false := by simpa using c0
  have z0 : (S.k == T.k) = true := by simpa using c0
  have d0 : decide (S.k = T.k) = true := decide_eq_true c0
  have x1 : (S.pr != T.pr) = false := by simpa using c1
  have z1 : (S.pr == T.pr) = true := by simpa using c1
  have d1 : decide (S.pr = T.pr) = true := decide_eq_true c1
  have x2 : (S.to != T.to) = false := by simpa using c2
  have z2 : (S.to == T.to) = true := by simpa using c2
  have d2 : decide (S.to = T.to) = true := decide_eq_true c2
  have x3 : (S.at_ != T.at_) = false := by simpa using c3
  have z3 : (S.at_ == T.at_) = true := by simpa using c3
  have d3 : decide (S.at_ = T.at_) = true := decide_eq_true c3
  have x4 : (S.gr != T.gr) = false := by simpa using c4
  have z4 : (S.gr == T.gr) = true := by simpa using c4
  have d4 : decide (S.gr = T.gr) = true := decide_eq_true c4
  have x5 : (S.ac != T.ac) = false := by simpa using c5
  have z5 : (S.ac == T.ac) = true := by simpa using c5
  have d5 : decide (S.ac = T.ac) = true := decide_eq_true c5
  have x6 : (S.sq != T.sq) = false := by simpa using c6
  have z6 : (S.sq == T.sq) = true := by simpa using c6
  have d6 : decide (S.sq = T.sq) = true := decide_eq_true c6
  rw [decide_eq_false hc] at hq hqi
  clear rs1 rs2 y8
  clear c0 c1 c2 c3 c4 c5 c6 hc

  go_enter Try.func6, Try.ntmps6
  simp only [lapp_cons, lapp_nil]
  go_wp2_with (first | ((with_reducible refine wpList_loadVtW ?hw (.tmp 54) rfl w.heap.size 9 rfl S.v r1 ?_); (case hw => rfl)) | ((with_reducible refine wpList_loadVtW ?hw (.tmp 56) rfl (w.heap.size + 1) 9 rfl T.v r2 ?_); (case hw => rfl)))
  go_ret
  exact ⟨by rw [HN.out]; rfl, HE.out⟩
set_option maxRecDepth 100000 in
set_option maxHeartbeats 8000000 in
theorem sameStep_no8 (S T : StR) (w : World) (hS : S.ok w) (hT : T.ok w) (c0 : S.k = T.k) (c1 : S.pr = T.pr) (c2 : S.to = T.to) (c3 : S.at_ = T.at_) (c4 : S.gr = T.gr) (c5 : S.ac = T.ac) (c6 : S.sq = T.sq) (c7 : S.v = T.v) (hc : ¬ S.par = T.par) :
    Calls Try.prog 6 #[.agg (spA S), .agg (spA T)] w fun e w' => e = .returned (.bool (eqSt S T)) ∧ Ext w w' := by
  have HN := Lib.hid (show eqSt S T = false from eqSt_head hS hT (by unfold headSt; rw [eqI_no (i := 7) (by omega) hc]; rfl))
  have hE := ((Ext.refl w).alloc' (.cells (spA S) 38)).alloc' (.cells (spA T) 38)
  have HB1 := Lib.hid ((Blk.new w 38 (spA S)).alloc (.cells (spA T) 38))
  have HB2 := Lib.hid (show Blk ((w.alloc (.cells (spA S) 38)).alloc (.cells (spA T) 38)) (w.heap.size + 1) 38 (spA T) from Blk.newAt _ _ _ _ (by simp))
  have HE := Lib.hid hE
  have HS := Lib.hid (hS.ext hE)
  have HT := Lib.hid (hT.ext hE)
  obtain ⟨W0, hW0⟩ : ∃ W0, (w.alloc (.cells (spA S) 38)).alloc (.cells (spA T) 38) = W0 := ⟨_, rfl⟩
  rw [hW0] at HB1 HB2 HE HS HT
  clear hS hT hE
  have HF := Lib.hid (fun (W : World) (h : Ext W0 W) => (⟨sp_facts (HB1.out.ext h), sp_facts (HB2.out.ext h)⟩ : spF W w.heap.size S ∧ spF W (w.heap.size + 1) T))
  have r1 := sp_vote HB1.out
  have r2 := sp_vote HB2.out
  have rs1 := run_strV HS.out.da
  have rs2 := run_strV HT.out.da
  have hq := fun W => run_neqVt S.v T.v HS.out.v HT.out.v W
  have hqi := fun W => eqIn_Vt S.v T.v HS.out.v HT.out.v W
  have y8 := strV_eq' S.da T.da
  have HSV := Lib.hid (sameView_any S.A3 S.n3 S.c3 S.vs S.A4 S.n4 S.c4 S.xs T.A3 T.n3 T.c3 T.vs T.A4 T.n4 T.c4 T.xs W0 HS.out.vs HS.out.xs HT.out.vs HT.out.xs)
  obtain ⟨⟨a0, a1, a2, a3, a4, a5, a6, a7, a8, a31, a32, a33, a34, a35⟩, b0, b1, b2, b3, b4, b5, b6, b7, b8, b31, b32, b33, b34, b35⟩ := HF.out W0 (Ext.refl _)
  have x0 : (S.k != T.k) = false := by simpa using c0
  have z0 : (S.k == T.k) = true := by simpa using c0
  have d0 : decide (S.k = T.k) = true := decide_eq_true c0
  have x1 : (S.pr != T.pr) = false := by simpa using c1
  have z1 : (S.pr == T.pr) = true := by simpa using c1
  have d1 : decide (S.pr = T.pr) = true := decide_eq_true c1
  have x2 : (S.to != T.to) = false := by simpa using c2
  have z2 : (S.to == T.to) = true := by simpa using c2
  have d2 : decide (S.to = T.to) = true := decide_eq_true c2
  have x3 : (S.at_ != T.at_) = false := by simpa using c3
  have z3 : (S.at_ == T.at_) = true := by simpa using c3
  have d3 : decide (S.at_ = T.at_) = true := decide_eq_true c3
  have x4 : (S.gr != T.gr) = false := by simpa using c4
  have z4 : (S.gr == T.gr) = true := by simpa using c4
  have d4 : decide (S.gr = T.gr) = true := decide_eq_true c4
  have x5 : (S.ac != T.ac) = false := by simpa using c5
  have z5 : (S.ac == T.ac) = true := by simpa using c5
  have d5 : decide (S.ac = T.ac) = true := decide_eq_true c5
  have x6 : (S.sq != T.sq) = false := by simpa using c6
  have z6 : (S.sq == T.sq) = true := by simpa using c6
  have d6 : decide (S.sq = T.sq) = true := decide_eq_true c6
  rw [decide_eq_true c7] at hq hqi
  have x7 : (S.par != T.par) = true := by simpa using hc
  have z7 : (S.par == T.par) = false := by simpa using hc
  have d7 : decide (S.par = T.par) = false := decide_eq_false hc
  clear rs1 rs2 y8
  clear c0 c1 c2 c3 c4 c5 c6 c7 hc

  go_enter Try.func6, Try.ntmps6
  simp only [lapp_cons, lapp_nil]
  go_wp2_with (first | ((with_reducible refine wpList_loadVtW ?hw (.tmp 54) rfl w.heap.size 9 rfl S.v r1 ?_); (case hw => rfl)) | ((with_reducible refine wpList_loadVtW ?hw (.tmp 56) rfl (w.heap.size + 1) 9 rfl T.v r2 ?_); (case hw => rfl)))
  go_ret
  exact ⟨by rw [HN.out]; rfl, HE.out⟩
set_option maxRecDepth 100000 in
set_option maxHeartbeats 8000000 in
theorem sameStep_no9 (S T : StR) (w : World) (hS : S.ok w) (hT : T.ok w) (c0 : S.k = T.k) (c1 : S.pr = T.pr) (c2 : S.to = T.to) (c3 : S.at_ = T.at_) (c4 : S.gr = T.gr) (c5 : S.ac = T.ac) (c6 : S.sq = T.sq) (c7 : S.v = T.v) (c8 : S.par = T.par) (hc : ¬ S.val = T.val) :
    Calls Try.prog 6 #[.agg (spA S), .agg (spA T)] w fun e w' => e = .returned (.bool (eqSt S T)) ∧ Ext w w' := by
  have HN := Lib.hid (show eqSt S T = false from eqSt_head hS hT (by unfold headSt; rw [eqI_no (i := 8) (by omega) hc]; rfl))
  have hE := ((Ext.refl w).alloc' (.cells (spA S) 38)).alloc' (.cells (spA T) 38)
  have HB1 := Lib.hid ((Blk.new w 38 (spA S)).alloc (.cells (spA T) 38))
  have HB2 := Lib.hid (show Blk ((w.alloc (.cells (spA S) 38)).alloc (.cells (spA T) 38)) (w.heap.size + 1) 38 (spA T) from Blk.newAt _ _ _ _ (by simp))
  have HE := Lib.hid hE
  have HS := Lib.hid (hS.ext hE)
  have HT := Lib.hid (hT.ext hE)
  obtain ⟨W0, hW0⟩ : ∃ W0, (w.alloc (.cells (spA S) 38)).alloc (.cells (spA T) 38) = W0 := ⟨_, rfl⟩
  rw [hW0] at HB1 HB2 HE HS HT
  clear hS hT hE
  have HF := Lib.hid (fun (W : World) (h : Ext W0 W) => (⟨sp_facts (HB1.out.ext h), sp_facts (HB2.out.ext h)⟩ : spF W w.heap.size S ∧ spF W (w.heap.size + 1) T))
  have r1 := sp_vote HB1.out
  have r2 := sp_vote HB2.out
  have rs1 := run_strV HS.out.da
  have rs2 := run_strV HT.out.da
  have hq := fun W => run_neqVt S.v T.v HS.out.v HT.out.v W
  have hqi := fun W => eqIn_Vt S.v T.v HS.out.v HT.out.v W
  have y8 := strV_eq' S.da T.da
  have HSV := Lib.hid (sameView_any S.A3 S.n3 S.c3 S.vs S.A4 S.n4 S.c4 S.xs T.A3 T.n3 T.c3 T.vs T.A4 T.n4 T.c4 T.xs W0 HS.out.vs HS.out.xs HT.out.vs HT.out.xs)
  obtain ⟨⟨a0, a1, a2, a3, a4, a5, a6, a7, a8, a31, a32, a33, a34, a35⟩, b0, b1, b2, b3, b4, b5, b6, b7, b8, b31, b32, b33, b34, b35⟩ := HF.out W0 (Ext.refl _)
  have x0 : (S.k != T.k) = false := by simpa using c0
  have z0 : (S.k == T.k) = true := by simpa using c0
  have d0 : decide (S.k = T.k) = true := decide_eq_true c0
  have x1 : (S.pr != T.pr) = false := by simpa using c1
  have z1 : (S.pr == T.pr) = true := by simpa using c1
  have d1 : decide (S.pr = T.pr) = true := decide_eq_true c1
  have x2 : (S.to != T.to) = false := by simpa using c2
  have z2 : (S.to == T.to) = true := by simpa using c2
  have d2 : decide (S.to = T.to) = true := decide_eq_true c2
  have x3 : (S.at_ != T.at_) = false := by simpa using c3
  have z3 : (S.at_ == T.at_) = true := by simpa using c3
  have d3 : decide (S.at_ = T.at_) = true := decide_eq_true c3
  have x4 : (S.gr != T.gr) = false := by simpa using c4
  have z4 : (S.gr == T.gr) = true := by simpa using c4
  have d4 : decide (S.gr = T.gr) = true := decide_eq_true c4
  have x5 : (S.ac != T.ac) = false := by simpa using c5
  have z5 : (S.ac == T.ac) = true := by simpa using c5
  have d5 : decide (S.ac = T.ac) = true := decide_eq_true c5
  have x6 : (S.sq != T.sq) = false := by simpa using c6
  have z6 : (S.sq == T.sq) = true := by simpa using c6
  have d6 : decide (S.sq = T.sq) = true := decide_eq_true c6
  rw [decide_eq_true c7] at hq hqi
  have x7 : (S.par != T.par) = false := by simpa using c8
  have z7 : (S.par == T.par) = true := by simpa using c8
  have d7 : decide (S.par = T.par) = true := decide_eq_true c8
  have x8 : (S.val != T.val) = true := by simpa using hc
  have z8 : (S.val == T.val) = false := by simpa using hc
  have d8 : decide (S.val = T.val) = false := decide_eq_false hc
  clear rs1 rs2 y8
  clear c0 c1 c2 c3 c4 c5 c6 c7 c8 hc

  go_enter Try.func6, Try.ntmps6
  simp only [lapp_cons, lapp_nil]
  go_wp2_with (first | ((with_reducible refine wpList_loadVtW ?hw (.tmp 54) rfl w.heap.size 9 rfl S.v r1 ?_); (case hw => rfl)) | ((with_reducible refine wpList_loadVtW ?hw (.tmp 56) rfl (w.heap.size + 1) 9 rfl T.v r2 ?_); (case hw => rfl)))
  go_ret
  exact ⟨by rw [HN.out]; rfl, HE.out⟩
set_option maxRecDepth 100000 in
set_option maxHeartbeats 8000000 in
theorem sameStep_no10 (S T : StR) (w : World) (hS : S.ok w) (hT : T.ok w) (c0 : S.k = T.k) (c1 : S.pr = T.pr) (c2 : S.to = T.to) (c3 : S.at_ = T.at_) (c4 : S.gr = T.gr) (c5 : S.ac = T.ac) (c6 : S.sq = T.sq) (c7 : S.v = T.v) (c8 : S.par = T.par) (c9 : S.val = T.val) (hc : ¬ S.da = T.da) :
    Calls Try.prog 6 #[.agg (spA S), .agg (spA T)] w fun e w' => e = .returned (.bool (eqSt S T)) ∧ Ext w w' := by
  have HN := Lib.hid (show eqSt S T = false from eqSt_head hS hT (by unfold headSt; rw [decide_eq_false hc]; simp))
  have hE := ((Ext.refl w).alloc' (.cells (spA S) 38)).alloc' (.cells (spA T) 38)
  have HB1 := Lib.hid ((Blk.new w 38 (spA S)).alloc (.cells (spA T) 38))
  have HB2 := Lib.hid (show Blk ((w.alloc (.cells (spA S) 38)).alloc (.cells (spA T) 38)) (w.heap.size + 1) 38 (spA T) from Blk.newAt _ _ _ _ (by simp))
  have HE := Lib.hid hE
  have HS := Lib.hid (hS.ext hE)
  have HT := Lib.hid (hT.ext hE)
  obtain ⟨W0, hW0⟩ : ∃ W0, (w.alloc (.cells (spA S) 38)).alloc (.cells (spA T) 38) = W0 := ⟨_, rfl⟩
  rw [hW0] at HB1 HB2 HE HS HT
  clear hS hT hE
  have HF := Lib.hid (fun (W : World) (h : Ext W0 W) => (⟨sp_facts (HB1.out.ext h), sp_facts (HB2.out.ext h)⟩ : spF W w.heap.size S ∧ spF W (w.heap.size + 1) T))
  have r1 := sp_vote HB1.out
  have r2 := sp_vote HB2.out
  have rs1 := run_strV HS.out.da
  have rs2 := run_strV HT.out.da
  have hq := fun W => run_neqVt S.v T.v HS.out.v HT.out.v W
  have hqi := fun W => eqIn_Vt S.v T.v HS.out.v HT.out.v W
  have y8 := strV_eq' S.da T.da
  have HSV := Lib.hid (sameView_any S.A3 S.n3 S.c3 S.vs S.A4 S.n4 S.c4 S.xs T.A3 T.n3 T.c3 T.vs T.A4 T.n4 T.c4 T.xs W0 HS.out.vs HS.out.xs HT.out.vs HT.out.xs)
  obtain ⟨⟨a0, a1, a2, a3, a4, a5, a6, a7, a8, a31, a32, a33, a34, a35⟩, b0, b1, b2, b3, b4, b5, b6, b7, b8, b31, b32, b33, b34, b35⟩ := HF.out W0 (Ext.refl _)
  have x0 : (S.k != T.k) = false := by simpa using c0
  have z0 : (S.k == T.k) = true := by simpa using c0
  have d0 : decide (S.k = T.k) = true := decide_eq_true c0
  have x1 : (S.pr != T.pr) = false := by simpa using c1
  have z1 : (S.pr == T.pr) = true := by simpa using c1
  have d1 : decide (S.pr = T.pr) = true := decide_eq_true c1
  have x2 : (S.to != T.to) = false := by simpa using c2
  have z2 : (S.to == T.to) = true := by simpa using c2
  have d2 : decide (S.to = T.to) = true := decide_eq_true c2
  have x3 : (S.at_ != T.at_) = false := by simpa using c3
  have z3 : (S.at_ == T.at_) = true := by simpa using c3
  have d3 : decide (S.at_ = T.at_) = true := decide_eq_true c3
  have x4 : (S.gr != T.gr) = false := by simpa using c4
  have z4 : (S.gr == T.gr) = true := by simpa using c4
  have d4 : decide (S.gr = T.gr) = true := decide_eq_true c4
  have x5 : (S.ac != T.ac) = false := by simpa using c5
  have z5 : (S.ac == T.ac) = true := by simpa using c5
  have d5 : decide (S.ac = T.ac) = true := decide_eq_true c5
  have x6 : (S.sq != T.sq) = false := by simpa using c6
  have z6 : (S.sq == T.sq) = true := by simpa using c6
  have d6 : decide (S.sq = T.sq) = true := decide_eq_true c6
  rw [decide_eq_true c7] at hq hqi
  have x7 : (S.par != T.par) = false := by simpa using c8
  have z7 : (S.par == T.par) = true := by simpa using c8
  have d7 : decide (S.par = T.par) = true := decide_eq_true c8
  have x8 : (S.val != T.val) = false := by simpa using c9
  have z8 : (S.val == T.val) = true := by simpa using c9
  have d8 : decide (S.val = T.val) = true := decide_eq_true c9
  rw [decide_eq_false hc] at y8
  clear c0 c1 c2 c3 c4 c5 c6 c7 c8 c9 hc

  go_enter Try.func6, Try.ntmps6
  simp only [lapp_cons, lapp_nil]
  go_wp2_with (first | ((with_reducible refine wpList_loadVtW ?hw (.tmp 54) rfl w.heap.size 9 rfl S.v r1 ?_); (case hw => rfl)) | ((with_reducible refine wpList_loadVtW ?hw (.tmp 56) rfl (w.heap.size + 1) 9 rfl T.v r2 ?_); (case hw => rfl)))
  go_ret
  exact ⟨by rw [HN.out]; rfl, HE.out⟩
set_option maxRecDepth 100000 in
set_option maxHeartbeats 8000000 in
theorem sameStep_no11 (S T : StR) (w : World) (hS : S.ok w) (hT : T.ok w) (c0 : S.k = T.k) (c1 : S.pr = T.pr) (c2 : S.to = T.to) (c3 : S.at_ = T.at_) (c4 : S.gr = T.gr) (c5 : S.ac = T.ac) (c6 : S.sq = T.sq) (c7 : S.v = T.v) (c8 : S.par = T.par) (c9 : S.val = T.val) (c10 : S.da = T.da) (hc : ¬ eqVw S.vs S.xs T.vs T.xs = true) :
    Calls Try.prog 6 #[.agg (spA S), .agg (spA T)] w fun e w' => e = .returned (.bool (eqSt S T)) ∧ Ext w w' := by
  have HN := Lib.hid (show eqSt S T = false from eqSt_head hS hT (by unfold headSt; rw [show eqVw S.vs S.xs T.vs T.xs = false from by simpa using hc]; simp))
  have hE := ((Ext.refl w).alloc' (.cells (spA S) 38)).alloc' (.cells (spA T) 38)
  have HB1 := Lib.hid ((Blk.new w 38 (spA S)).alloc (.cells (spA T) 38))
  have HB2 := Lib.hid (show Blk ((w.alloc (.cells (spA S) 38)).alloc (.cells (spA T) 38)) (w.heap.size + 1) 38 (spA T) from Blk.newAt _ _ _ _ (by simp))
  have HE := Lib.hid hE
  have HS := Lib.hid (hS.ext hE)
  have HT := Lib.hid (hT.ext hE)
  obtain ⟨W0, hW0⟩ : ∃ W0, (w.alloc (.cells (spA S) 38)).alloc (.cells (spA T) 38) = W0 := ⟨_, rfl⟩
  rw [hW0] at HB1 HB2 HE HS HT
  clear hS hT hE
  have HF := Lib.hid (fun (W : World) (h : Ext W0 W) => (⟨sp_facts (HB1.out.ext h), sp_facts (HB2.out.ext h)⟩ : spF W w.heap.size S ∧ spF W (w.heap.size + 1) T))
  have r1 := sp_vote HB1.out
  have r2 := sp_vote HB2.out
  have rs1 := run_strV HS.out.da
  have rs2 := run_strV HT.out.da
  have hq := fun W => run_neqVt S.v T.v HS.out.v HT.out.v W
  have hqi := fun W => eqIn_Vt S.v T.v HS.out.v HT.out.v W
  have y8 := strV_eq' S.da T.da
  have HSV := Lib.hid (sameView_any S.A3 S.n3 S.c3 S.vs S.A4 S.n4 S.c4 S.xs T.A3 T.n3 T.c3 T.vs T.A4 T.n4 T.c4 T.xs W0 HS.out.vs HS.out.xs HT.out.vs HT.out.xs)
  obtain ⟨⟨a0, a1, a2, a3, a4, a5, a6, a7, a8, a31, a32, a33, a34, a35⟩, b0, b1, b2, b3, b4, b5, b6, b7, b8, b31, b32, b33, b34, b35⟩ := HF.out W0 (Ext.refl _)
  have x0 : (S.k != T.k) = false := by simpa using c0
  have z0 : (S.k == T.k) = true := by simpa using c0
  have d0 : decide (S.k = T.k) = true := decide_eq_true c0
  have x1 : (S.pr != T.pr) = false := by simpa using c1
  have z1 : (S.pr == T.pr) = true := by simpa using c1
  have d1 : decide (S.pr = T.pr) = true := decide_eq_true c1
  have x2 : (S.to != T.to) = false := by simpa using c2
  have z2 : (S.to == T.to) = true := by simpa using c2
  have d2 : decide (S.to = T.to) = true := decide_eq_true c2
  have x3 : (S.at_ != T.at_) = false := by simpa using c3
  have z3 : (S.at_ == T.at_) = true := by simpa using c3
  have d3 : decide (S.at_ = T.at_) = true := decide_eq_true c3
  have x4 : (S.gr != T.gr) = false := by simpa using c4
  have z4 : (S.gr == T.gr) = true := by simpa using c4
  have d4 : decide (S.gr = T.gr) = true := decide_eq_true c4
  have x5 : (S.ac != T.ac) = false := by simpa using c5
  have z5 : (S.ac == T.ac) = true := by simpa using c5
  have d5 : decide (S.ac = T.ac) = true := decide_eq_true c5
  have x6 : (S.sq != T.sq) = false := by simpa using c6
  have z6 : (S.sq == T.sq) = true := by simpa using c6
  have d6 : decide (S.sq = T.sq) = true := decide_eq_true c6
  rw [decide_eq_true c7] at hq hqi
  have x7 : (S.par != T.par) = false := by simpa using c8
  have z7 : (S.par == T.par) = true := by simpa using c8
  have d7 : decide (S.par = T.par) = true := decide_eq_true c8
  have x8 : (S.val != T.val) = false := by simpa using c9
  have z8 : (S.val == T.val) = true := by simpa using c9
  have d8 : decide (S.val = T.val) = true := decide_eq_true c9
  rw [decide_eq_true c10] at y8
  have hv : eqVw S.vs S.xs T.vs T.xs = false := by simpa using hc
  rw [hv] at HSV
  clear hv hc
  clear c0 c1 c2 c3 c4 c5 c6 c7 c8 c9 c10

  go_enter Try.func6, Try.ntmps6
  simp only [lapp_cons, lapp_nil]
  go_wp2_with (first | ((with_reducible refine wpList_loadVtW ?hw (.tmp 54) rfl w.heap.size 9 rfl S.v r1 ?_); (case hw => rfl)) | ((with_reducible refine wpList_loadVtW ?hw (.tmp 56) rfl (w.heap.size + 1) 9 rfl T.v r2 ?_); (case hw => rfl)))
  refine HSV.out.mono ?_
  rintro e w1 ⟨rfl, he1⟩
  have HX1 := Lib.hid (HE.out.trans he1)
  have HE1 := Lib.hid he1
  clear he1 a0 a1 a2 a3 a4 a5 a6 a7 a8 a31 a32 a33 a34 a35 b0 b1 b2 b3 b4 b5 b6 b7 b8 b31 b32 b33 b34 b35 r1 r2
  obtain ⟨⟨a0, a1, a2, a3, a4, a5, a6, a7, a8, a31, a32, a33, a34, a35⟩, b0, b1, b2, b3, b4, b5, b6, b7, b8, b31, b32, b33, b34, b35⟩ := HF.out w1 HE1.out
  go_wp2_with fail
  go_ret
  exact ⟨by rw [HN.out]; rfl, HX1.out⟩
set_option maxRecDepth 100000 in
set_option maxHeartbeats 8000000 in
theorem sameStep_no12 (S T : StR) (w : World) (hS : S.ok w) (hT : T.ok w) (c0 : S.k = T.k) (c1 : S.pr = T.pr) (c2 : S.to = T.to) (c3 : S.at_ = T.at_) (c4 : S.gr = T.gr) (c5 : S.ac = T.ac) (c6 : S.sq = T.sq) (c7 : S.v = T.v) (c8 : S.par = T.par) (c9 : S.val = T.val) (c10 : S.da = T.da) (c11 : eqVw S.vs S.xs T.vs T.xs = true) (hc : ¬ S.n2 = T.n2) :
    Calls Try.prog 6 #[.agg (spA S), .agg (spA T)] w fun e w' => e = .returned (.bool (eqSt S T)) ∧ Ext w w' := by
  have HN := Lib.hid (show eqSt S T = false from eqSt_head hS hT (by unfold headSt; rw [decide_eq_false hc]; simp))
  have hE := ((Ext.refl w).alloc' (.cells (spA S) 38)).alloc' (.cells (spA T) 38)
  have HB1 := Lib.hid ((Blk.new w 38 (spA S)).alloc (.cells (spA T) 38))
  have HB2 := Lib.hid (show Blk ((w.alloc (.cells (spA S) 38)).alloc (.cells (spA T) 38)) (w.heap.size + 1) 38 (spA T) from Blk.newAt _ _ _ _ (by simp))
  have HE := Lib.hid hE
  have HS := Lib.hid (hS.ext hE)
  have HT := Lib.hid (hT.ext hE)
  obtain ⟨W0, hW0⟩ : ∃ W0, (w.alloc (.cells (spA S) 38)).alloc (.cells (spA T) 38) = W0 := ⟨_, rfl⟩
  rw [hW0] at HB1 HB2 HE HS HT
  clear hS hT hE
  have HF := Lib.hid (fun (W : World) (h : Ext W0 W) => (⟨sp_facts (HB1.out.ext h), sp_facts (HB2.out.ext h)⟩ : spF W w.heap.size S ∧ spF W (w.heap.size + 1) T))
  have r1 := sp_vote HB1.out
  have r2 := sp_vote HB2.out
  have rs1 := run_strV HS.out.da
  have rs2 := run_strV HT.out.da
  have hq := fun W => run_neqVt S.v T.v HS.out.v HT.out.v W
  have hqi := fun W => eqIn_Vt S.v T.v HS.out.v HT.out.v W
  have y8 := strV_eq' S.da T.da
  have HSV := Lib.hid (sameView_any S.A3 S.n3 S.c3 S.vs S.A4 S.n4 S.c4 S.xs T.A3 T.n3 T.c3 T.vs T.A4 T.n4 T.c4 T.xs W0 HS.out.vs HS.out.xs HT.out.vs HT.out.xs)
  obtain ⟨⟨a0, a1, a2, a3, a4, a5, a6, a7, a8, a31, a32, a33, a34, a35⟩, b0, b1, b2, b3, b4, b5, b6, b7, b8, b31, b32, b33, b34, b35⟩ := HF.out W0 (Ext.refl _)
  have x0 : (S.k != T.k) = false := by simpa using c0
  have z0 : (S.k == T.k) = true := by simpa using c0
  have d0 : decide (S.k = T.k) = true := decide_eq_true c0
  have x1 : (S.pr != T.pr) = false := by simpa using c1
  have z1 : (S.pr == T.pr) = true := by simpa using c1
  have d1 : decide (S.pr = T.pr) = true := decide_eq_true c1
  have x2 : (S.to != T.to) = false := by simpa using c2
  have z2 : (S.to == T.to) = true := by simpa using c2
  have d2 : decide (S.to = T.to) = true := decide_eq_true c2
  have x3 : (S.at_ != T.at_) = false := by simpa using c3
  have z3 : (S.at_ == T.at_) = true := by simpa using c3
  have d3 : decide (S.at_ = T.at_) = true := decide_eq_true c3
  have x4 : (S.gr != T.gr) = false := by simpa using c4
  have z4 : (S.gr == T.gr) = true := by simpa using c4
  have d4 : decide (S.gr = T.gr) = true := decide_eq_true c4
  have x5 : (S.ac != T.ac) = false := by simpa using c5
  have z5 : (S.ac == T.ac) = true := by simpa using c5
  have d5 : decide (S.ac = T.ac) = true := decide_eq_true c5
  have x6 : (S.sq != T.sq) = false := by simpa using c6
  have z6 : (S.sq == T.sq) = true := by simpa using c6
  have d6 : decide (S.sq = T.sq) = true := decide_eq_true c6
  rw [decide_eq_true c7] at hq hqi
  have x7 : (S.par != T.par) = false := by simpa using c8
  have z7 : (S.par == T.par) = true := by simpa using c8
  have d7 : decide (S.par = T.par) = true := decide_eq_true c8
  have x8 : (S.val != T.val) = false := by simpa using c9
  have z8 : (S.val == T.val) = true := by simpa using c9
  have d8 : decide (S.val = T.val) = true := decide_eq_true c9
  rw [decide_eq_true c10] at y8
  have xn : ((S.n2 : Int) != (T.n2 : Int)) = true := by simp; omega
  have zn : ((S.n2 : Int) == (T.n2 : Int)) = false := by simp; omega
  have dn : decide ((S.n2 : Int) = (T.n2 : Int)) = false := decide_eq_false (by omega)
  rw [c11] at HSV
  clear c0 c1 c2 c3 c4 c5 c6 c7 c8 c9 c10 c11 hc

  go_enter Try.func6, Try.ntmps6
  simp only [lapp_cons, lapp_nil]
  go_wp2_with (first | ((with_reducible refine wpList_loadVtW ?hw (.tmp 54) rfl w.heap.size 9 rfl S.v r1 ?_); (case hw => rfl)) | ((with_reducible refine wpList_loadVtW ?hw (.tmp 56) rfl (w.heap.size + 1) 9 rfl T.v r2 ?_); (case hw => rfl)))
  refine HSV.out.mono ?_
  rintro e w1 ⟨rfl, he1⟩
  have HX1 := Lib.hid (HE.out.trans he1)
  have HE1 := Lib.hid he1
  clear he1 a0 a1 a2 a3 a4 a5 a6 a7 a8 a31 a32 a33 a34 a35 b0 b1 b2 b3 b4 b5 b6 b7 b8 b31 b32 b33 b34 b35 r1 r2
  obtain ⟨⟨a0, a1, a2, a3, a4, a5, a6, a7, a8, a31, a32, a33, a34, a35⟩, b0, b1, b2, b3, b4, b5, b6, b7, b8, b31, b32, b33, b34, b35⟩ := HF.out w1 HE1.out
  go_wp2_with fail
  go_ret
  exact ⟨by rw [HN.out]; rfl, HX1.out⟩
set_option maxRecDepth 100000 in
set_option maxHeartbeats 8000000 in
theorem sameStep_yes (S T : StR) (w : World) (hS : S.ok w) (hT : T.ok w) (c0 : S.k = T.k) (c1 : S.pr = T.pr) (c2 : S.to = T.to) (c3 : S.at_ = T.at_) (c4 : S.gr = T.gr) (c5 : S.ac = T.ac) (c6 : S.sq = T.sq) (c7 : S.v = T.v) (c8 : S.par = T.par) (c9 : S.val = T.val) (c10 : S.da = T.da) (c11 : eqVw S.vs S.xs T.vs T.xs = true) (c12 : S.n2 = T.n2) :
    Calls Try.prog 6 #[.agg (spA S), .agg (spA T)] w fun e w' => e = .returned (.bool (eqSt S T)) ∧ Ext w w' := by
  have hhd : headSt S T = true := by
    unfold headSt
    rw [eqI_yes (fun i hi => by
      have hh : i = 0 ∨ i = 1 ∨ i = 2 ∨ i = 3 ∨ i = 4 ∨ i = 5 ∨ i = 6 ∨ i = 7 ∨ i = 8 := by omega
      rcases hh with rfl | rfl | rfl | rfl | rfl | rfl | rfl | rfl | rfl <;> assumption), decide_eq_true c7, decide_eq_true c10, c11, decide_eq_true c12]
    rfl
  have HV := Lib.hid (eqSt_of hhd)
  clear hhd
  have hle := hS.ops.le
  have hcap := hS.ops.cap
  have hle' := hT.ops.le
  have hcap' := hT.ops.cap
  have HL := Lib.hid hS.ops.len
  have HM := Lib.hid hT.ops.len
  have hE := ((Ext.refl w).alloc' (.cells (spA S) 38)).alloc' (.cells (spA T) 38)
  have HB1 := Lib.hid ((Blk.new w 38 (spA S)).alloc (.cells (spA T) 38))
  have HB2 := Lib.hid (show Blk ((w.alloc (.cells (spA S) 38)).alloc (.cells (spA T) 38)) (w.heap.size + 1) 38 (spA T) from Blk.newAt _ _ _ _ (by simp))
  have HE := Lib.hid hE
  have HS := Lib.hid (hS.ext hE)
  have HT := Lib.hid (hT.ext hE)
  obtain ⟨W0, hW0⟩ : ∃ W0, (w.alloc (.cells (spA S) 38)).alloc (.cells (spA T) 38) = W0 := ⟨_, rfl⟩
  rw [hW0] at HB1 HB2 HE HS HT
  clear hS hT hE
  have HF := Lib.hid (fun (W : World) (h : Ext W0 W) => (⟨sp_facts (HB1.out.ext h), sp_facts (HB2.out.ext h)⟩ : spF W w.heap.size S ∧ spF W (w.heap.size + 1) T))
  have r1 := sp_vote HB1.out
  have r2 := sp_vote HB2.out
  have rs1 := run_strV HS.out.da
  have rs2 := run_strV HT.out.da
  have hq := fun W => run_neqVt S.v T.v HS.out.v HT.out.v W
  have hqi := fun W => eqIn_Vt S.v T.v HS.out.v HT.out.v W
  have y8 := strV_eq' S.da T.da
  have HSV := Lib.hid (sameView_any S.A3 S.n3 S.c3 S.vs S.A4 S.n4 S.c4 S.xs T.A3 T.n3 T.c3 T.vs T.A4 T.n4 T.c4 T.xs W0 HS.out.vs HS.out.xs HT.out.vs HT.out.xs)
  obtain ⟨⟨a0, a1, a2, a3, a4, a5, a6, a7, a8, a31, a32, a33, a34, a35⟩, b0, b1, b2, b3, b4, b5, b6, b7, b8, b31, b32, b33, b34, b35⟩ := HF.out W0 (Ext.refl _)
  have x0 : (S.k != T.k) = false := by simpa using c0
  have z0 : (S.k == T.k) = true := by simpa using c0
  have d0 : decide (S.k = T.k) = true := decide_eq_true c0
  have x1 : (S.pr != T.pr) = false := by simpa using c1
  have z1 : (S.pr == T.pr) = true := by simpa using c1
  have d1 : decide (S.pr = T.pr) = true := decide_eq_true c1
  have x2 : (S.to != T.to) = false := by simpa using c2
  have z2 : (S.to == T.to) = true := by simpa using c2
  have d2 : decide (S.to = T.to) = true := decide_eq_true c2
  have x3 : (S.at_ != T.at_) = false := by simpa using c3
  have z3 : (S.at_ == T.at_) = true := by simpa using c3
  have d3 : decide (S.at_ = T.at_) = true := decide_eq_true c3
  have x4 : (S.gr != T.gr) = false := by simpa using c4
  have z4 : (S.gr == T.gr) = true := by simpa using c4
  have d4 : decide (S.gr = T.gr) = true := decide_eq_true c4
  have x5 : (S.ac != T.ac) = false := by simpa using c5
  have z5 : (S.ac == T.ac) = true := by simpa using c5
  have d5 : decide (S.ac = T.ac) = true := decide_eq_true c5
  have x6 : (S.sq != T.sq) = false := by simpa using c6
  have z6 : (S.sq == T.sq) = true := by simpa using c6
  have d6 : decide (S.sq = T.sq) = true := decide_eq_true c6
  rw [decide_eq_true c7] at hq hqi
  have x7 : (S.par != T.par) = false := by simpa using c8
  have z7 : (S.par == T.par) = true := by simpa using c8
  have d7 : decide (S.par = T.par) = true := decide_eq_true c8
  have x8 : (S.val != T.val) = false := by simpa using c9
  have z8 : (S.val == T.val) = true := by simpa using c9
  have d8 : decide (S.val = T.val) = true := decide_eq_true c9
  rw [decide_eq_true c10] at y8
  have xn : ((S.n2 : Int) != (T.n2 : Int)) = false := by simp; omega
  have zn : ((S.n2 : Int) == (T.n2 : Int)) = true := by simp; omega
  have dn : decide ((S.n2 : Int) = (T.n2 : Int)) = true := decide_eq_true (by omega)
  rw [c11] at HSV
  have C12 := Lib.hid c12
  clear c0 c1 c2 c3 c4 c5 c6 c7 c8 c9 c10 c11 c12
  go_enter Try.func6, Try.ntmps6
  simp only [lapp_cons, lapp_nil]
  go_wp2_with (first | ((with_reducible refine wpList_loadVtW ?hw (.tmp 54) rfl w.heap.size 9 rfl S.v r1 ?_); (case hw => rfl)) | ((with_reducible refine wpList_loadVtW ?hw (.tmp 56) rfl (w.heap.size + 1) 9 rfl T.v r2 ?_); (case hw => rfl)))
  refine HSV.out.mono ?_
  rintro e w1 ⟨rfl, he1⟩
  have HE1 := Lib.hid he1
  clear he1 a0 a1 a2 a3 a4 a5 a6 a7 a8 a31 a32 a33 a34 a35 b0 b1 b2 b3 b4 b5 b6 b7 b8 b31 b32 b33 b34 b35 r1 r2
  obtain ⟨⟨a0, a1, a2, a3, a4, a5, a6, a7, a8, a31, a32, a33, a34, a35⟩, b0, b1, b2, b3, b4, b5, b6, b7, b8, b31, b32, b33, b34, b35⟩ := HF.out w1 HE1.out
  go_wp2_with fail
  clear a0 a1 a2 a3 a4 a5 a6 a7 a8 a31 a32 a33 a34 a35 b0 b1 b2 b3 b4 b5 b6 b7 b8 b31 b32 b33 b34 b35 x0 x1 x2 x3 x4 x5 x6 x7 x8 z0 z1 z2 z3 z4 z5 z6 z7 z8 d0 d1 d2 d3 d4 d5 d6 d7 d8 xn zn dn rs1 rs2 y8 hq hqi
  have HCA := Lib.hid (show S.n2 = 0 ∨ ((∃ b o, S.A2 = some ⟨b, o, none⟩ ∧ W0.rangeAt b o (gcs S.ops) ∧ b < W0.heap.size) ∧ ∃ b o, T.A2 = some ⟨b, o, none⟩ ∧ W0.rangeAt b o (gcs T.ops) ∧ b < W0.heap.size) from by
    rcases Nat.eq_zero_or_pos S.n2 with h0 | h0
    · exact .inl h0
    · exact .inr ⟨HS.out.ops.at h0, HT.out.ops.at (by rw [← C12.out]; exact h0)⟩)
  go_loopw [5] (fun i wr => ∃ k : Nat, k ≤ S.n2 ∧ i = .int .i64 (k : Int) ∧ Hid (∀ j, j < k → eqOp (nthG S.ops j) (nthG T.ops j) = true) ∧ Hid (Ext W0 wr)) (fun i _ => S.n2 - (intOf i).toNat)
  case atStart => exact ⟨0, Nat.zero_le _, rfl, Lib.hid (fun j hj => by omega), HE1⟩
  case round =>
    obtain ⟨k, hk, rfl, HP, HX⟩ := hrel
    obtain ⟨⟨a0, a1, a2, a3, a4, a5, a6, a7, a8, a31, a32, a33, a34, a35⟩, b0, b1, b2, b3, b4, b5, b6, b7, b8, b31, b32, b33, b34, b35⟩ := HF.out wr HX.out
    by_cases hlt : k < S.n2
    · obtain ⟨b, of, hA2, hr, hb, b', of', hB2, hr', hb'⟩ : ∃ b of, S.A2 = some ⟨b, of, none⟩ ∧ W0.rangeAt b of (gcs S.ops) ∧ b < W0.heap.size ∧ ∃ b' of', T.A2 = some ⟨b', of', none⟩ ∧ W0.rangeAt b' of' (gcs T.ops) ∧ b' < W0.heap.size := by
        rcases HCA.out with h0 | ⟨⟨b, o, h1, h2, h3⟩, b', o', h1', h2', h3'⟩
        · omega
        · exact ⟨b, o, h1, h2, h3, b', o', h1', h2', h3'⟩
      have hr1 : wr.rangeAt b (of + k * 23) (opL (nthG S.ops k)) := el_at (rangeAt_keep hr (HX.out.block b hb)) (k := k) (by rw [HL.out]; exact hlt)
      have hr2 : wr.rangeAt b' (of' + k * 23) (opL (nthG T.ops k)) := el_at (rangeAt_keep hr' (HX.out.block b' hb')) (k := k) (by rw [HM.out, ← C12.out]; exact hlt)
      clear hr hr' hb hb' HCA
      have HOK := Lib.hid (show (nthG S.ops k).ok W0 from HS.out.ops.nth hlt)
      have HOK' := Lib.hid (show (nthG T.ops k).ok W0 from HT.out.ops.nth (by rw [← C12.out]; exact hlt))
      have HY := Lib.hid (fun (hx : eqOp (nthG S.ops k) (nthG T.ops k) = true) => show ∀ j, j < k + 1 → eqOp (nthG S.ops j) (nthG T.ops j) = true from fun j hj => by
        rcases Nat.lt_or_ge j k with h | h
        · exact HP.out j h
        · obtain rfl : j = k := by omega
          exact hx)
      have HN := Lib.hid (fun (hx : eqOp (nthG S.ops k) (nthG T.ops k) = false) => show eqSt S T = false by rw [HV.out, eqG_at (L := S.ops) (by rw [HL.out]; exact hlt) hx, Bool.and_false])
      have i0 : (0 : Int) ≤ (k : Int) := by omega
      have i1 : (k : Int) < (S.n2 : Int) := by omega
      have i2 : (k : Int) < (T.n2 : Int) := by rw [← C12.out]; exact i1
      obtain ⟨R, hR⟩ : ∃ R, nthG S.ops k = R := ⟨_, rfl⟩
      obtain ⟨Q, hQ⟩ : ∃ Q, nthG T.ops k = Q := ⟨_, rfl⟩
      rw [hR, hQ] at HY HN
      rw [hR] at hr1 HOK
      rw [hQ] at hr2 HOK'
      clear hR hQ
      have HR1 := Lib.hid (fun (W : World) (h : Ext wr W) => rangeAt_keep hr1 (h.block b (rangeAt_lt hr1 (by intro e; cases e))))
      have HR2 := Lib.hid (fun (W : World) (h : Ext wr W) => rangeAt_keep hr2 (h.block b' (rangeAt_lt hr2 (by intro e; cases e))))
      clear hr1 hr2
      have HA2 := Lib.hid (fun (W : World) (h : Ext wr W) => (⟨by rw [← hA2]; exact (HB1.out.ext (HX.out.trans h)).cell 8, by rw [← hB2]; exact (HB2.out.ext (HX.out.trans h)).cell 8⟩ : W.cell? ⟨w.heap.size, 8, none⟩ = some (.slice (some ⟨b, of, none⟩) S.n2 S.c2) ∧ W.cell? ⟨w.heap.size + 1, 8, none⟩ = some (.slice (some ⟨b', of', none⟩) T.n2 T.c2)))
      clear hA2 hB2
      go_wp2_with fail
      clear a0 a1 a2 a3 a4 a5 a6 a7 a8 a31 a32 a33 a34 a35 b0 b1 b2 b3 b4 b5 b6 b7 b8 b31 b32 b33 b34 b35
      refine wp_region_plan (S := fun W => Ext wr W) (by kernel_rfl) (by kernel_rfl) ((Ext.refl wr).drew') ?_
      (refine plan_take (i := 0) (oi := { dst := some 107, op := Op.fieldAddr 38 (Operand.tmp 2) 8, type := 0, pos := "script.go:192", after := #[], guard := none }) (v := ?_) rfl (by kernel_rfl) (by kernel_rfl) (fx_read (Or.inl ⟨by rfl, ?hy0⟩)) ?_; case hy0 => (intro W hSW; obtain ⟨s1, s2⟩ := HA2.out W hSW; go_simp <;> with_reducible rfl))
      try simp only [Act.put, List.setIfInBounds_toArray, List.set_cons_zero, List.set_cons_succ]
      (refine plan_take (i := 1) (oi := { dst := some 108, op := Op.load 23 (Operand.tmp 107), type := 23, pos := "script.go:192", after := #[{ on := 0, ground := Ground.data }], guard := none }) (v := ?_) rfl (by kernel_rfl) (by kernel_rfl) (fx_read (Or.inl ⟨by rfl, ?hy1⟩)) ?_; case hy1 => (intro W hSW; obtain ⟨s1, s2⟩ := HA2.out W hSW; go_simp <;> with_reducible rfl))
      try simp only [Act.put, List.setIfInBounds_toArray, List.set_cons_zero, List.set_cons_succ]
      (refine plan_take (i := 2) (oi := { dst := some 109, op := Op.move (Operand.tmp 5), type := 3, pos := "script.go:192", after := #[], guard := none }) (v := ?_) rfl (by kernel_rfl) (by kernel_rfl) (fx_read (Or.inl ⟨by rfl, ?hy2⟩)) ?_; case hy2 => (intro W hSW; obtain ⟨s1, s2⟩ := HA2.out W hSW; go_simp <;> with_reducible rfl))
      try simp only [Act.put, List.setIfInBounds_toArray, List.set_cons_zero, List.set_cons_succ]
      (refine plan_take (i := 3) (oi := { dst := some 110, op := Op.indexAddr 23 (Operand.tmp 108) (Operand.tmp 109), type := 0, pos := "script.go:192", after := #[{ on := 1, ground := Ground.data }, { on := 2, ground := Ground.data }], guard := none }) (v := ?_) rfl (by kernel_rfl) (by kernel_rfl) (fx_read (Or.inl ⟨by rfl, ?hy3⟩)) ?_; case hy3 => (intro W hSW; obtain ⟨s1, s2⟩ := HA2.out W hSW; go_simp <;> with_reducible rfl))
      try simp only [Act.put, List.setIfInBounds_toArray, List.set_cons_zero, List.set_cons_succ]
      (refine plan_take (i := 4) (oi := { dst := some 111, op := Op.load 58 (Operand.tmp 110), type := 58, pos := "script.go:192", after := #[{ on := 3, ground := Ground.data }], guard := none }) (v := .agg (opA R)) rfl (by kernel_rfl) (by kernel_rfl) (fx_read ?hy4) ?_; case hy4 => (refine yields_loadOW ?hw (.tmp 110) rfl b (of + k * 23) ?hx R HR1.out; (case hw => rfl); (case hx => rfl)))
      try simp only [Act.put, List.setIfInBounds_toArray, List.set_cons_zero, List.set_cons_succ]
      (refine plan_take (i := 5) (oi := { dst := some 112, op := Op.fieldAddr 38 (Operand.tmp 3) 8, type := 0, pos := "script.go:192", after := #[], guard := none }) (v := ?_) rfl (by kernel_rfl) (by kernel_rfl) (fx_read (Or.inl ⟨by rfl, ?hy5⟩)) ?_; case hy5 => (intro W hSW; obtain ⟨s1, s2⟩ := HA2.out W hSW; go_simp <;> with_reducible rfl))
      try simp only [Act.put, List.setIfInBounds_toArray, List.set_cons_zero, List.set_cons_succ]
      (refine plan_take (i := 6) (oi := { dst := some 113, op := Op.load 23 (Operand.tmp 112), type := 23, pos := "script.go:192", after := #[{ on := 5, ground := Ground.data }], guard := none }) (v := ?_) rfl (by kernel_rfl) (by kernel_rfl) (fx_read (Or.inl ⟨by rfl, ?hy6⟩)) ?_; case hy6 => (intro W hSW; obtain ⟨s1, s2⟩ := HA2.out W hSW; go_simp <;> with_reducible rfl))
      try simp only [Act.put, List.setIfInBounds_toArray, List.set_cons_zero, List.set_cons_succ]
      (refine plan_take (i := 7) (oi := { dst := some 114, op := Op.move (Operand.tmp 5), type := 3, pos := "script.go:192", after := #[], guard := none }) (v := ?_) rfl (by kernel_rfl) (by kernel_rfl) (fx_read (Or.inl ⟨by rfl, ?hy7⟩)) ?_; case hy7 => (intro W hSW; obtain ⟨s1, s2⟩ := HA2.out W hSW; go_simp <;> with_reducible rfl))
      try simp only [Act.put, List.setIfInBounds_toArray, List.set_cons_zero, List.set_cons_succ]
      (refine plan_take (i := 8) (oi := { dst := some 115, op := Op.indexAddr 23 (Operand.tmp 113) (Operand.tmp 114), type := 0, pos := "script.go:192", after := #[{ on := 6, ground := Ground.data }, { on := 7, ground := Ground.data }], guard := none }) (v := ?_) rfl (by kernel_rfl) (by kernel_rfl) (fx_read (Or.inl ⟨by rfl, ?hy8⟩)) ?_; case hy8 => (intro W hSW; obtain ⟨s1, s2⟩ := HA2.out W hSW; go_simp <;> with_reducible rfl))
      try simp only [Act.put, List.setIfInBounds_toArray, List.set_cons_zero, List.set_cons_succ]
      (refine plan_take (i := 9) (oi := { dst := some 116, op := Op.load 58 (Operand.tmp 115), type := 58, pos := "script.go:192", after := #[{ on := 8, ground := Ground.data }], guard := none }) (v := .agg (opA Q)) rfl (by kernel_rfl) (by kernel_rfl) (fx_read ?hy9) ?_; case hy9 => (refine yields_loadOW ?hw (.tmp 115) rfl b' (of' + k * 23) ?hx Q HR2.out; (case hw => rfl); (case hx => rfl)))
      try simp only [Act.put, List.setIfInBounds_toArray, List.set_cons_zero, List.set_cons_succ]
      (refine plan_take (i := 10) (oi := { dst := some 117, op := Op.call { callee := Callee.value (Operand.func 22), args := #[Operand.tmp 111, Operand.tmp 116], argTypes := #[58, 58] }, type := 4, pos := "script.go:192", after := #[{ on := 4, ground := Ground.data }, { on := 9, ground := Ground.data }], guard := none }) (v := ?_) rfl (by kernel_rfl) (by kernel_rfl) (fx_call (by rfl) (fun W hSW K hK => ?hy10)) ?_; case hy10 => (go_simp; go_at_call 22; (with_reducible refine (sameOp_any R Q W (HOK.out.ext (HX.out.trans hSW)) (HOK'.out.ext (HX.out.trans hSW))).mono ?_); rintro e w1 ⟨rfl, he1⟩; exact hK.out _ (hSW.trans he1)))
      try simp only [Act.put, List.setIfInBounds_toArray, List.set_cons_zero, List.set_cons_succ]
      (refine plan_take (i := 11) (oi := { dst := some 118, op := Op.unOp UnOp.not 4 (Operand.tmp 117), type := 4, pos := "script.go:192", after := #[{ on := 10, ground := Ground.data }], guard := none }) (v := ?_) rfl (by kernel_rfl) (by kernel_rfl) (fx_read (Or.inl ⟨by rfl, ?hy11⟩)) ?_; case hy11 => (intro W hSW; obtain ⟨s1, s2⟩ := HA2.out W hSW; go_simp <;> with_reducible rfl))
      try simp only [Act.put, List.setIfInBounds_toArray, List.set_cons_zero, List.set_cons_succ]
      refine Plan.done (by kernel_rfl) (fun W hSW => ?_)
      have HX1 := Lib.hid (HX.out.trans hSW)
      clear hSW
      cases hv : eqV R.v Q.v with
      | true =>
        have HY' := Lib.hid (HY.out hv)
        clear hv
        go_wp2_with fail
        go_roundw
        case rel => exact ⟨k + 1, by omega, by go_num, HY', HX1⟩
        case measure => simp [intOf]; omega
      | false =>
        have HN' := Lib.hid (HN.out hv)
        clear hv
        go_wp2_with fail
        go_ret
        exact ⟨by rw [HN'.out]; rfl, HE.out.trans HX1.out⟩
    · obtain rfl : k = S.n2 := by omega
      have HV' := Lib.hid (show eqSt S T = eqG eqInt S.pk T.pk by rw [HV.out, eqG_yes (f := eqOp) (L := S.ops) (M := T.ops) (by rw [HL.out, HM.out, C12.out]) (fun j hj => HP.out j (by rw [HL.out] at hj; exact hj)), Bool.and_true])
      go_wp2_with fail
      refine (sameIntsG_any S.A1 S.n1 S.c1 S.pk T.A1 T.n1 T.c1 T.pk wr (HS.out.pk.ext HX.out) (HT.out.pk.ext HX.out)).mono ?_
      rintro e w2 ⟨rfl, he2⟩
      have HX2 := Lib.hid (HE.out.trans (HX.out.trans he2))
      clear he2
      go_wp2_with fail
      go_ret
      exact ⟨by rw [HV'.out]; rfl, HX2.out⟩
theorem sameStep_any (S T : StR) (w : World) (hS : S.ok w) (hT : T.ok w) :
    Calls Try.prog 6 #[.agg (spA S), .agg (spA T)] w fun e w' => e = .returned (.bool (eqSt S T)) ∧ Ext w w' := by
  by_cases c0 : S.k = T.k
  case neg => exact sameStep_no0 S T w hS hT  c0
  by_cases c1 : S.pr = T.pr
  case neg => exact sameStep_no1 S T w hS hT c0 c1
  by_cases c2 : S.to = T.to
  case neg => exact sameStep_no2 S T w hS hT c0 c1 c2
  by_cases c3 : S.at_ = T.at_
  case neg => exact sameStep_no3 S T w hS hT c0 c1 c2 c3
  by_cases c4 : S.gr = T.gr
  case neg => exact sameStep_no4 S T w hS hT c0 c1 c2 c3 c4
  by_cases c5 : S.ac = T.ac
  case neg => exact sameStep_no5 S T w hS hT c0 c1 c2 c3 c4 c5
  by_cases c6 : S.sq = T.sq
  case neg => exact sameStep_no6 S T w hS hT c0 c1 c2 c3 c4 c5 c6
  by_cases c7 : S.v = T.v
  case neg => exact sameStep_no7 S T w hS hT c0 c1 c2 c3 c4 c5 c6 c7
  by_cases c8 : S.par = T.par
  case neg => exact sameStep_no8 S T w hS hT c0 c1 c2 c3 c4 c5 c6 c7 c8
  by_cases c9 : S.val = T.val
  case neg => exact sameStep_no9 S T w hS hT c0 c1 c2 c3 c4 c5 c6 c7 c8 c9
  by_cases c10 : S.da = T.da
  case neg => exact sameStep_no10 S T w hS hT c0 c1 c2 c3 c4 c5 c6 c7 c8 c9 c10
  by_cases c11 : eqVw S.vs S.xs T.vs T.xs = true
  case neg => exact sameStep_no11 S T w hS hT c0 c1 c2 c3 c4 c5 c6 c7 c8 c9 c10 c11
  by_cases c12 : S.n2 = T.n2
  case neg => exact sameStep_no12 S T w hS hT c0 c1 c2 c3 c4 c5 c6 c7 c8 c9 c10 c11 c12
  exact sameStep_yes S T w hS hT c0 c1 c2 c3 c4 c5 c6 c7 c8 c9 c10 c11 c12
end Go.Proofs.Ytjlnmpjffogpdaa
