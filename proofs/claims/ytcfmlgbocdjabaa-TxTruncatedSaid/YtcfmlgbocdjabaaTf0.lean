/- op (the reference's). -/
import Derived.Test.YtcfmlgbocdjabaaTe5
namespace Go.Proofs.Ytcfmlgbocdjabaa
open Go.RowKit
set_option linter.unusedVariables false
set_option linter.unusedSimpArgs false
attribute [local go_sem ↓] Go.wp_at_zero Go.wp_at_succ

set_option maxRecDepth 100000 in
set_option maxHeartbeats 4000000 in
theorem refOp_1 (D B : Nat) (s : Option (List UInt8)) (hk : rNum 1 s = 1) (w : World) (h : CurAt 126 D w B s) (hD : D ≤ w.heap.size) :
    Calls Try.prog 78 #[.pointer (some ⟨B, 0, none⟩)] w (RcOut D B w (rdOp s)) := by
  have hlt := h.lt
  have hA := (Ext.refl w).alloc' (.cells zeroO 114)
  have HC := Lib.hid (rcnum_any 1 (by omega) (by omega) B s _ (h.ext hA))
  have HRES := Lib.hid (show ∃ r, rdOp s = r ∧ r = rdK (rNum 1 s) (rRest 1 s) from ⟨_, rfl, rfl⟩)
  have HRD := Lib.hid (show rdOp s = rdK (rNum 1 s) (rRest 1 s) from rfl)
  have HKK := Lib.hid hk
  obtain ⟨K, hK⟩ : ∃ K, rNum 1 s = K := ⟨_, rfl⟩
  obtain ⟨s1, hs1⟩ : ∃ s1, rRest 1 s = s1 := ⟨_, rfl⟩
  rw [hK, hs1] at HC HRD
  rw [hK] at HKK
  have hKv := hK ▸ hk
  have y1 : (K == 1) = true := by simp; omega
  have z1 : decide (K = 1) = true := by simp; omega
  have y2 : (K == 2) = false := by simp; omega
  have z2 : decide (K = 2) = false := by simp; omega
  have y3 : (K == 3) = false := by simp; omega
  have z3 : decide (K = 3) = false := by simp; omega
  have y4 : (K == 4) = false := by simp; omega
  have z4 : decide (K = 4) = false := by simp; omega
  have y5 : (K == 5) = false := by simp; omega
  have z5 : decide (K = 5) = false := by simp; omega
  have y6 : (K == 6) = false := by simp; omega
  have z6 : decide (K = 6) = false := by simp; omega
  clear h hA hk hK hs1 HRES hKv
  go_enter Try.func78, Try.ntmps78
  go_wp2_with fail
  refine HC.out.mono ?_
  rintro e w1 ⟨rfl, hC, hG⟩
  have S0 := Lib.hid (RcS.start (k := K) hC hG hlt hD)
  have q0 : (w1.alloc (.cells (opA (opK K)) 114)).cell? ⟨w1.heap.size, 0, none⟩ = some (.int .i64 K) := S0.out.box.cell 0
  clear hC hG HC
  go_wp2_with (first | (with_reducible refine wpList_newK rfl (.tmp 3) (.tmp 6) rfl _ rfl K rfl rfl ?_))
  refine (rcnum_any 1 (by omega) (by omega) B _ _ S0.out.cur).mono ?_
  rintro e w2 ⟨rfl, hC, hG⟩
  have T0 := Lib.hid (S0.out.read hC hG)
  have q1 : w2.cell? ⟨w1.heap.size, 1, none⟩ = some (.int .i64 0) := T0.out.box.cell 1
  have f1 := T0.out.box.frozen 1
  have S1 := Lib.hid (T0.out.set (R' := ⟨K, (rNum 1 s1), 0, 0, 0, 0, 0, none, 0, 0, [], none, 0, 0, []⟩) 1 (.int .i64 (rNum 1 s1)) rfl T0.out.own1 T0.out.own2)
  clear hC hG S0
  go_wp2_with fail
  refine (rcnum_any 6 (by omega) (by omega) B _ _ S1.out.cur).mono ?_
  rintro e w3 ⟨rfl, hC, hG⟩
  have T1 := Lib.hid (S1.out.read hC hG)
  have q2 : w3.cell? ⟨w1.heap.size, 2, none⟩ = some (.int .i64 0) := T1.out.box.cell 2
  have f2 := T1.out.box.frozen 2
  have S2 := Lib.hid (T1.out.set (R' := ⟨K, (rNum 1 s1), (rNum 6 (rRest 1 s1)), 0, 0, 0, 0, none, 0, 0, [], none, 0, 0, []⟩) 2 (.int .i64 (rNum 6 (rRest 1 s1))) rfl T1.out.own1 T1.out.own2)
  clear hC hG S1
  have hr := op_range S2.out.box
  have ht := op_there S2.out.res
  go_wp2_with (first | ((with_reducible refine wpList_loadO rfl (.tmp 3) rfl w1.heap.size 0 ?hx ⟨K, (rNum 1 s1), (rNum 6 (rRest 1 s1)), 0, 0, 0, 0, none, 0, 0, [], none, 0, 0, []⟩ hr ?_); case hx => rfl) | ((with_reducible refine wpList_storeO rfl (.tmp 2) (.tmp 72) rfl w.heap.size ⟨K, (rNum 1 s1), (rNum 6 (rRest 1 s1)), 0, 0, 0, 0, none, 0, 0, [], none, 0, 0, []⟩ ?hx ?hy ht ?_); (case hx => rfl); (case hy => rfl)))
  have HFN := Lib.hid (show (⟨K, (rNum 1 s1), (rNum 6 (rRest 1 s1)), 0, 0, 0, 0, none, 0, 0, [], none, 0, 0, []⟩ : OpR).v = (rdOp s).1 ∧ (rRest 6 (rRest 1 s1)) = (rdOp s).2 from by rw [HRD.out, HKK.out]; exact ⟨by rw [← HKK.out]; simp [OpR.v, rdK, HKK.out], rfl⟩)
  exact bodyPost_ret (retC rfl _ _ w.heap.size _ rfl S2.out.ret) rfl (S2.out.fin _ HFN.out.1 HFN.out.2)
set_option maxRecDepth 100000 in
set_option maxHeartbeats 4000000 in
theorem refOp_2 (D B : Nat) (s : Option (List UInt8)) (hk : rNum 1 s = 2) (w : World) (h : CurAt 126 D w B s) (hD : D ≤ w.heap.size) :
    Calls Try.prog 78 #[.pointer (some ⟨B, 0, none⟩)] w (RcOut D B w (rdOp s)) := by
  have hlt := h.lt
  have hA := (Ext.refl w).alloc' (.cells zeroO 114)
  have HC := Lib.hid (rcnum_any 1 (by omega) (by omega) B s _ (h.ext hA))
  have HRES := Lib.hid (show ∃ r, rdOp s = r ∧ r = rdK (rNum 1 s) (rRest 1 s) from ⟨_, rfl, rfl⟩)
  have HRD := Lib.hid (show rdOp s = rdK (rNum 1 s) (rRest 1 s) from rfl)
  have HKK := Lib.hid hk
  obtain ⟨K, hK⟩ : ∃ K, rNum 1 s = K := ⟨_, rfl⟩
  obtain ⟨s1, hs1⟩ : ∃ s1, rRest 1 s = s1 := ⟨_, rfl⟩
  rw [hK, hs1] at HC HRD
  rw [hK] at HKK
  have hKv := hK ▸ hk
  have y1 : (K == 1) = false := by simp; omega
  have z1 : decide (K = 1) = false := by simp; omega
  have y2 : (K == 2) = true := by simp; omega
  have z2 : decide (K = 2) = true := by simp; omega
  have y3 : (K == 3) = false := by simp; omega
  have z3 : decide (K = 3) = false := by simp; omega
  have y4 : (K == 4) = false := by simp; omega
  have z4 : decide (K = 4) = false := by simp; omega
  have y5 : (K == 5) = false := by simp; omega
  have z5 : decide (K = 5) = false := by simp; omega
  have y6 : (K == 6) = false := by simp; omega
  have z6 : decide (K = 6) = false := by simp; omega
  clear h hA hk hK hs1 HRES hKv
  go_enter Try.func78, Try.ntmps78
  go_wp2_with fail
  refine HC.out.mono ?_
  rintro e w1 ⟨rfl, hC, hG⟩
  have S0 := Lib.hid (RcS.start (k := K) hC hG hlt hD)
  have q0 : (w1.alloc (.cells (opA (opK K)) 114)).cell? ⟨w1.heap.size, 0, none⟩ = some (.int .i64 K) := S0.out.box.cell 0
  clear hC hG HC
  go_wp2_with (first | (with_reducible refine wpList_newK rfl (.tmp 3) (.tmp 6) rfl _ rfl K rfl rfl ?_))
  refine (rcnum_any 1 (by omega) (by omega) B _ _ S0.out.cur).mono ?_
  rintro e w2 ⟨rfl, hC, hG⟩
  have T0 := Lib.hid (S0.out.read hC hG)
  have q1 : w2.cell? ⟨w1.heap.size, 1, none⟩ = some (.int .i64 0) := T0.out.box.cell 1
  have f1 := T0.out.box.frozen 1
  have S1 := Lib.hid (T0.out.set (R' := ⟨K, (rNum 1 s1), 0, 0, 0, 0, 0, none, 0, 0, [], none, 0, 0, []⟩) 1 (.int .i64 (rNum 1 s1)) rfl T0.out.own1 T0.out.own2)
  clear hC hG S0
  go_wp2_with fail
  refine (rcnum_any 6 (by omega) (by omega) B _ _ S1.out.cur).mono ?_
  rintro e w3 ⟨rfl, hC, hG⟩
  have T1 := Lib.hid (S1.out.read hC hG)
  have q2 : w3.cell? ⟨w1.heap.size, 2, none⟩ = some (.int .i64 0) := T1.out.box.cell 2
  have f2 := T1.out.box.frozen 2
  have S2 := Lib.hid (T1.out.set (R' := ⟨K, (rNum 1 s1), (rNum 6 (rRest 1 s1)), 0, 0, 0, 0, none, 0, 0, [], none, 0, 0, []⟩) 2 (.int .i64 (rNum 6 (rRest 1 s1))) rfl T1.out.own1 T1.out.own2)
  clear hC hG S1
  go_wp2_with fail
  refine (rcnum_any 2 (by omega) (by omega) B _ _ S2.out.cur).mono ?_
  rintro e w4 ⟨rfl, hC, hG⟩
  have T2 := Lib.hid (S2.out.read hC hG)
  have q3 : w4.cell? ⟨w1.heap.size, 3, none⟩ = some (.int .i64 0) := T2.out.box.cell 3
  have f3 := T2.out.box.frozen 3
  have S3 := Lib.hid (T2.out.set (R' := ⟨K, (rNum 1 s1), (rNum 6 (rRest 1 s1)), (rNum 2 (rRest 6 (rRest 1 s1))), 0, 0, 0, none, 0, 0, [], none, 0, 0, []⟩) 3 (.int .i64 (rNum 2 (rRest 6 (rRest 1 s1)))) rfl T2.out.own1 T2.out.own2)
  clear hC hG S2
  go_wp2_with fail
  refine (rcname_any B _ _ S3.out.cur).mono ?_
  rintro e w5 ⟨rfl, hC, hG⟩
  have T3 := Lib.hid (S3.out.read hC hG)
  have f4 := T3.out.thereAt 13 (by omega)
  have S4 := Lib.hid (T3.out.hs (rName (rRest 2 (rRest 6 (rRest 1 s1)))))
  clear hC hG S3
  have hr := op_range S4.out.box
  have ht := op_there S4.out.res
  go_wp2_with (first | ((with_reducible refine wpList_storeN rfl (.tmp 30) (.tmp 29) rfl w1.heap.size 13 (rName (rRest 2 (rRest 6 (rRest 1 s1)))) ?hx ?hy f4 ?_); (case hx => rfl); (case hy => rfl)) | ((with_reducible refine wpList_loadO rfl (.tmp 3) rfl w1.heap.size 0 ?hx ⟨K, (rNum 1 s1), (rNum 6 (rRest 1 s1)), (rNum 2 (rRest 6 (rRest 1 s1))), 0, 0, (rName (rRest 2 (rRest 6 (rRest 1 s1)))), none, 0, 0, [], none, 0, 0, []⟩ hr ?_); case hx => rfl) | ((with_reducible refine wpList_storeO rfl (.tmp 2) (.tmp 72) rfl w.heap.size ⟨K, (rNum 1 s1), (rNum 6 (rRest 1 s1)), (rNum 2 (rRest 6 (rRest 1 s1))), 0, 0, (rName (rRest 2 (rRest 6 (rRest 1 s1)))), none, 0, 0, [], none, 0, 0, []⟩ ?hx ?hy ht ?_); (case hx => rfl); (case hy => rfl)))
  have HFN := Lib.hid (show (⟨K, (rNum 1 s1), (rNum 6 (rRest 1 s1)), (rNum 2 (rRest 6 (rRest 1 s1))), 0, 0, (rName (rRest 2 (rRest 6 (rRest 1 s1)))), none, 0, 0, [], none, 0, 0, []⟩ : OpR).v = (rdOp s).1 ∧ (rRest 8 (rRest 2 (rRest 6 (rRest 1 s1)))) = (rdOp s).2 from by rw [HRD.out, HKK.out]; exact ⟨by rw [← HKK.out]; simp [OpR.v, rdK, HKK.out], rfl⟩)
  exact bodyPost_ret (retC rfl _ _ w.heap.size _ rfl S4.out.ret) rfl (S4.out.fin _ HFN.out.1 HFN.out.2)
set_option maxRecDepth 100000 in
set_option maxHeartbeats 4000000 in
theorem refOp_3 (D B : Nat) (s : Option (List UInt8)) (hk : rNum 1 s = 3) (w : World) (h : CurAt 126 D w B s) (hD : D ≤ w.heap.size) :
    Calls Try.prog 78 #[.pointer (some ⟨B, 0, none⟩)] w (RcOut D B w (rdOp s)) := by
  have hlt := h.lt
  have hA := (Ext.refl w).alloc' (.cells zeroO 114)
  have HC := Lib.hid (rcnum_any 1 (by omega) (by omega) B s _ (h.ext hA))
  have HRES := Lib.hid (show ∃ r, rdOp s = r ∧ r = rdK (rNum 1 s) (rRest 1 s) from ⟨_, rfl, rfl⟩)
  have HRD := Lib.hid (show rdOp s = rdK (rNum 1 s) (rRest 1 s) from rfl)
  have HKK := Lib.hid hk
  obtain ⟨K, hK⟩ : ∃ K, rNum 1 s = K := ⟨_, rfl⟩
  obtain ⟨s1, hs1⟩ : ∃ s1, rRest 1 s = s1 := ⟨_, rfl⟩
  rw [hK, hs1] at HC HRD
  rw [hK] at HKK
  have hKv := hK ▸ hk
  have y1 : (K == 1) = false := by simp; omega
  have z1 : decide (K = 1) = false := by simp; omega
  have y2 : (K == 2) = false := by simp; omega
  have z2 : decide (K = 2) = false := by simp; omega
  have y3 : (K == 3) = true := by simp; omega
  have z3 : decide (K = 3) = true := by simp; omega
  have y4 : (K == 4) = false := by simp; omega
  have z4 : decide (K = 4) = false := by simp; omega
  have y5 : (K == 5) = false := by simp; omega
  have z5 : decide (K = 5) = false := by simp; omega
  have y6 : (K == 6) = false := by simp; omega
  have z6 : decide (K = 6) = false := by simp; omega
  clear h hA hk hK hs1 HRES hKv
  go_enter Try.func78, Try.ntmps78
  go_wp2_with fail
  refine HC.out.mono ?_
  rintro e w1 ⟨rfl, hC, hG⟩
  have S0 := Lib.hid (RcS.start (k := K) hC hG hlt hD)
  have q0 : (w1.alloc (.cells (opA (opK K)) 114)).cell? ⟨w1.heap.size, 0, none⟩ = some (.int .i64 K) := S0.out.box.cell 0
  clear hC hG HC
  go_wp2_with (first | (with_reducible refine wpList_newK rfl (.tmp 3) (.tmp 6) rfl _ rfl K rfl rfl ?_))
  refine (rcnum_any 1 (by omega) (by omega) B _ _ S0.out.cur).mono ?_
  rintro e w2 ⟨rfl, hC, hG⟩
  have T0 := Lib.hid (S0.out.read hC hG)
  have q1 : w2.cell? ⟨w1.heap.size, 1, none⟩ = some (.int .i64 0) := T0.out.box.cell 1
  have f1 := T0.out.box.frozen 1
  have S1 := Lib.hid (T0.out.set (R' := ⟨K, (rNum 1 s1), 0, 0, 0, 0, 0, none, 0, 0, [], none, 0, 0, []⟩) 1 (.int .i64 (rNum 1 s1)) rfl T0.out.own1 T0.out.own2)
  clear hC hG S0
  go_wp2_with fail
  refine (rcnum_any 6 (by omega) (by omega) B _ _ S1.out.cur).mono ?_
  rintro e w3 ⟨rfl, hC, hG⟩
  have T1 := Lib.hid (S1.out.read hC hG)
  have q2 : w3.cell? ⟨w1.heap.size, 2, none⟩ = some (.int .i64 0) := T1.out.box.cell 2
  have f2 := T1.out.box.frozen 2
  have S2 := Lib.hid (T1.out.set (R' := ⟨K, (rNum 1 s1), (rNum 6 (rRest 1 s1)), 0, 0, 0, 0, none, 0, 0, [], none, 0, 0, []⟩) 2 (.int .i64 (rNum 6 (rRest 1 s1))) rfl T1.out.own1 T1.out.own2)
  clear hC hG S1
  go_wp2_with fail
  refine (rcname_any B _ _ S2.out.cur).mono ?_
  rintro e w4 ⟨rfl, hC, hG⟩
  have T2 := Lib.hid (S2.out.read hC hG)
  have f3 := T2.out.thereAt 5 (by omega)
  have S3 := Lib.hid (T2.out.lk (rName (rRest 6 (rRest 1 s1))))
  clear hC hG S2
  go_wp2_with (first | ((with_reducible refine wpList_storeN rfl (.tmp 41) (.tmp 40) rfl w1.heap.size 5 (rName (rRest 6 (rRest 1 s1))) ?hx ?hy f3 ?_); (case hx => rfl); (case hy => rfl)))
  clear f3 T2
  refine (rcstr_any D B _ _ S3.out.cur).mono ?_
  rintro e w5 ⟨A5, n5, c5, rfl, hO, hC, hG⟩
  have T3 := Lib.hid (S3.out.read hC hG)
  have q4 : w5.cell? ⟨w1.heap.size, 21, none⟩ = some (.slice none 0 0) := T3.out.box.cell 21
  have f4 := T3.out.box.frozen 21
  have S4 := Lib.hid (T3.out.set (R' := ⟨K, (rNum 1 s1), (rNum 6 (rRest 1 s1)), 0, 0, (rName (rRest 6 (rRest 1 s1))), 0, A5, n5, c5, (rBlob (rRest 8 (rRest 6 (rRest 1 s1)))), none, 0, 0, []⟩) 21 (.slice A5 n5 c5) rfl (own_mono hO S3.out.gr.size) T3.out.own2)
  clear hC hG hO S3
  have hr := op_range S4.out.box
  have ht := op_there S4.out.res
  go_wp2_with (first | ((with_reducible refine wpList_loadO rfl (.tmp 3) rfl w1.heap.size 0 ?hx ⟨K, (rNum 1 s1), (rNum 6 (rRest 1 s1)), 0, 0, (rName (rRest 6 (rRest 1 s1))), 0, A5, n5, c5, (rBlob (rRest 8 (rRest 6 (rRest 1 s1)))), none, 0, 0, []⟩ hr ?_); case hx => rfl) | ((with_reducible refine wpList_storeO rfl (.tmp 2) (.tmp 72) rfl w.heap.size ⟨K, (rNum 1 s1), (rNum 6 (rRest 1 s1)), 0, 0, (rName (rRest 6 (rRest 1 s1))), 0, A5, n5, c5, (rBlob (rRest 8 (rRest 6 (rRest 1 s1)))), none, 0, 0, []⟩ ?hx ?hy ht ?_); (case hx => rfl); (case hy => rfl)))
  have HFN := Lib.hid (show (⟨K, (rNum 1 s1), (rNum 6 (rRest 1 s1)), 0, 0, (rName (rRest 6 (rRest 1 s1))), 0, A5, n5, c5, (rBlob (rRest 8 (rRest 6 (rRest 1 s1)))), none, 0, 0, []⟩ : OpR).v = (rdOp s).1 ∧ (rAft (rRest 8 (rRest 6 (rRest 1 s1)))) = (rdOp s).2 from by rw [HRD.out, HKK.out]; exact ⟨by rw [← HKK.out]; simp [OpR.v, rdK, HKK.out], rfl⟩)
  exact bodyPost_ret (retC rfl _ _ w.heap.size _ rfl S4.out.ret) rfl (S4.out.fin _ HFN.out.1 HFN.out.2)
set_option maxRecDepth 100000 in
set_option maxHeartbeats 4000000 in
theorem refOp_4 (D B : Nat) (s : Option (List UInt8)) (hk : rNum 1 s = 4) (w : World) (h : CurAt 126 D w B s) (hD : D ≤ w.heap.size) :
    Calls Try.prog 78 #[.pointer (some ⟨B, 0, none⟩)] w (RcOut D B w (rdOp s)) := by
  have hlt := h.lt
  have hA := (Ext.refl w).alloc' (.cells zeroO 114)
  have HC := Lib.hid (rcnum_any 1 (by omega) (by omega) B s _ (h.ext hA))
  have HRES := Lib.hid (show ∃ r, rdOp s = r ∧ r = rdK (rNum 1 s) (rRest 1 s) from ⟨_, rfl, rfl⟩)
  have HRD := Lib.hid (show rdOp s = rdK (rNum 1 s) (rRest 1 s) from rfl)
  have HKK := Lib.hid hk
  obtain ⟨K, hK⟩ : ∃ K, rNum 1 s = K := ⟨_, rfl⟩
  obtain ⟨s1, hs1⟩ : ∃ s1, rRest 1 s = s1 := ⟨_, rfl⟩
  rw [hK, hs1] at HC HRD
  rw [hK] at HKK
  have hKv := hK ▸ hk
  have y1 : (K == 1) = false := by simp; omega
  have z1 : decide (K = 1) = false := by simp; omega
  have y2 : (K == 2) = false := by simp; omega
  have z2 : decide (K = 2) = false := by simp; omega
  have y3 : (K == 3) = false := by simp; omega
  have z3 : decide (K = 3) = false := by simp; omega
  have y4 : (K == 4) = true := by simp; omega
  have z4 : decide (K = 4) = true := by simp; omega
  have y5 : (K == 5) = false := by simp; omega
  have z5 : decide (K = 5) = false := by simp; omega
  have y6 : (K == 6) = false := by simp; omega
  have z6 : decide (K = 6) = false := by simp; omega
  clear h hA hk hK hs1 HRES hKv
  go_enter Try.func78, Try.ntmps78
  go_wp2_with fail
  refine HC.out.mono ?_
  rintro e w1 ⟨rfl, hC, hG⟩
  have S0 := Lib.hid (RcS.start (k := K) hC hG hlt hD)
  have q0 : (w1.alloc (.cells (opA (opK K)) 114)).cell? ⟨w1.heap.size, 0, none⟩ = some (.int .i64 K) := S0.out.box.cell 0
  clear hC hG HC
  go_wp2_with (first | (with_reducible refine wpList_newK rfl (.tmp 3) (.tmp 6) rfl _ rfl K rfl rfl ?_))
  refine (rcnum_any 1 (by omega) (by omega) B _ _ S0.out.cur).mono ?_
  rintro e w2 ⟨rfl, hC, hG⟩
  have T0 := Lib.hid (S0.out.read hC hG)
  have q1 : w2.cell? ⟨w1.heap.size, 1, none⟩ = some (.int .i64 0) := T0.out.box.cell 1
  have f1 := T0.out.box.frozen 1
  have S1 := Lib.hid (T0.out.set (R' := ⟨K, (rNum 1 s1), 0, 0, 0, 0, 0, none, 0, 0, [], none, 0, 0, []⟩) 1 (.int .i64 (rNum 1 s1)) rfl T0.out.own1 T0.out.own2)
  clear hC hG S0
  go_wp2_with fail
  refine (rcnum_any 6 (by omega) (by omega) B _ _ S1.out.cur).mono ?_
  rintro e w3 ⟨rfl, hC, hG⟩
  have T1 := Lib.hid (S1.out.read hC hG)
  have q2 : w3.cell? ⟨w1.heap.size, 2, none⟩ = some (.int .i64 0) := T1.out.box.cell 2
  have f2 := T1.out.box.frozen 2
  have S2 := Lib.hid (T1.out.set (R' := ⟨K, (rNum 1 s1), (rNum 6 (rRest 1 s1)), 0, 0, 0, 0, none, 0, 0, [], none, 0, 0, []⟩) 2 (.int .i64 (rNum 6 (rRest 1 s1))) rfl T1.out.own1 T1.out.own2)
  clear hC hG S1
  go_wp2_with fail
  refine (rcname_any B _ _ S2.out.cur).mono ?_
  rintro e w4 ⟨rfl, hC, hG⟩
  have T2 := Lib.hid (S2.out.read hC hG)
  have f3 := T2.out.thereAt 5 (by omega)
  have S3 := Lib.hid (T2.out.lk (rName (rRest 6 (rRest 1 s1))))
  clear hC hG S2
  have hr := op_range S3.out.box
  have ht := op_there S3.out.res
  go_wp2_with (first | ((with_reducible refine wpList_storeN rfl (.tmp 55) (.tmp 54) rfl w1.heap.size 5 (rName (rRest 6 (rRest 1 s1))) ?hx ?hy f3 ?_); (case hx => rfl); (case hy => rfl)) | ((with_reducible refine wpList_loadO rfl (.tmp 3) rfl w1.heap.size 0 ?hx ⟨K, (rNum 1 s1), (rNum 6 (rRest 1 s1)), 0, 0, (rName (rRest 6 (rRest 1 s1))), 0, none, 0, 0, [], none, 0, 0, []⟩ hr ?_); case hx => rfl) | ((with_reducible refine wpList_storeO rfl (.tmp 2) (.tmp 72) rfl w.heap.size ⟨K, (rNum 1 s1), (rNum 6 (rRest 1 s1)), 0, 0, (rName (rRest 6 (rRest 1 s1))), 0, none, 0, 0, [], none, 0, 0, []⟩ ?hx ?hy ht ?_); (case hx => rfl); (case hy => rfl)))
  have HFN := Lib.hid (show (⟨K, (rNum 1 s1), (rNum 6 (rRest 1 s1)), 0, 0, (rName (rRest 6 (rRest 1 s1))), 0, none, 0, 0, [], none, 0, 0, []⟩ : OpR).v = (rdOp s).1 ∧ (rRest 8 (rRest 6 (rRest 1 s1))) = (rdOp s).2 from by rw [HRD.out, HKK.out]; exact ⟨by rw [← HKK.out]; simp [OpR.v, rdK, HKK.out], rfl⟩)
  exact bodyPost_ret (retC rfl _ _ w.heap.size _ rfl S3.out.ret) rfl (S3.out.fin _ HFN.out.1 HFN.out.2)
set_option maxRecDepth 100000 in
set_option maxHeartbeats 4000000 in
theorem refOp_5 (D B : Nat) (s : Option (List UInt8)) (hk : rNum 1 s = 5) (w : World) (h : CurAt 126 D w B s) (hD : D ≤ w.heap.size) :
    Calls Try.prog 78 #[.pointer (some ⟨B, 0, none⟩)] w (RcOut D B w (rdOp s)) := by
  have hlt := h.lt
  have hA := (Ext.refl w).alloc' (.cells zeroO 114)
  have HC := Lib.hid (rcnum_any 1 (by omega) (by omega) B s _ (h.ext hA))
  have HRES := Lib.hid (show ∃ r, rdOp s = r ∧ r = rdK (rNum 1 s) (rRest 1 s) from ⟨_, rfl, rfl⟩)
  have HRD := Lib.hid (show rdOp s = rdK (rNum 1 s) (rRest 1 s) from rfl)
  have HKK := Lib.hid hk
  obtain ⟨K, hK⟩ : ∃ K, rNum 1 s = K := ⟨_, rfl⟩
  obtain ⟨s1, hs1⟩ : ∃ s1, rRest 1 s = s1 := ⟨_, rfl⟩
  rw [hK, hs1] at HC HRD
  rw [hK] at HKK
  have hKv := hK ▸ hk
  have y1 : (K == 1) = false := by simp; omega
  have z1 : decide (K = 1) = false := by simp; omega
  have y2 : (K == 2) = false := by simp; omega
  have z2 : decide (K = 2) = false := by simp; omega
  have y3 : (K == 3) = false := by simp; omega
  have z3 : decide (K = 3) = false := by simp; omega
  have y4 : (K == 4) = false := by simp; omega
  have z4 : decide (K = 4) = false := by simp; omega
  have y5 : (K == 5) = true := by simp; omega
  have z5 : decide (K = 5) = true := by simp; omega
  have y6 : (K == 6) = false := by simp; omega
  have z6 : decide (K = 6) = false := by simp; omega
  clear h hA hk hK hs1 HRES hKv
  go_enter Try.func78, Try.ntmps78
  go_wp2_with fail
  refine HC.out.mono ?_
  rintro e w1 ⟨rfl, hC, hG⟩
  have S0 := Lib.hid (RcS.start (k := K) hC hG hlt hD)
  have q0 : (w1.alloc (.cells (opA (opK K)) 114)).cell? ⟨w1.heap.size, 0, none⟩ = some (.int .i64 K) := S0.out.box.cell 0
  clear hC hG HC
  go_wp2_with (first | (with_reducible refine wpList_newK rfl (.tmp 3) (.tmp 6) rfl _ rfl K rfl rfl ?_))
  refine (rcnum_any 1 (by omega) (by omega) B _ _ S0.out.cur).mono ?_
  rintro e w2 ⟨rfl, hC, hG⟩
  have T0 := Lib.hid (S0.out.read hC hG)
  have q1 : w2.cell? ⟨w1.heap.size, 4, none⟩ = some (.int .i64 0) := T0.out.box.cell 4
  have f1 := T0.out.box.frozen 4
  have S1 := Lib.hid (T0.out.set (R' := ⟨K, 0, 0, 0, (rNum 1 s1), 0, 0, none, 0, 0, [], none, 0, 0, []⟩) 4 (.int .i64 (rNum 1 s1)) rfl T0.out.own1 T0.out.own2)
  clear hC hG S0
  go_wp2_with fail
  refine (rcnum_any 6 (by omega) (by omega) B _ _ S1.out.cur).mono ?_
  rintro e w3 ⟨rfl, hC, hG⟩
  have T1 := Lib.hid (S1.out.read hC hG)
  have q2 : w3.cell? ⟨w1.heap.size, 2, none⟩ = some (.int .i64 0) := T1.out.box.cell 2
  have f2 := T1.out.box.frozen 2
  have S2 := Lib.hid (T1.out.set (R' := ⟨K, 0, (rNum 6 (rRest 1 s1)), 0, (rNum 1 s1), 0, 0, none, 0, 0, [], none, 0, 0, []⟩) 2 (.int .i64 (rNum 6 (rRest 1 s1))) rfl T1.out.own1 T1.out.own2)
  clear hC hG S1
  have hr := op_range S2.out.box
  have ht := op_there S2.out.res
  go_wp2_with (first | ((with_reducible refine wpList_loadO rfl (.tmp 3) rfl w1.heap.size 0 ?hx ⟨K, 0, (rNum 6 (rRest 1 s1)), 0, (rNum 1 s1), 0, 0, none, 0, 0, [], none, 0, 0, []⟩ hr ?_); case hx => rfl) | ((with_reducible refine wpList_storeO rfl (.tmp 2) (.tmp 72) rfl w.heap.size ⟨K, 0, (rNum 6 (rRest 1 s1)), 0, (rNum 1 s1), 0, 0, none, 0, 0, [], none, 0, 0, []⟩ ?hx ?hy ht ?_); (case hx => rfl); (case hy => rfl)))
  have HFN := Lib.hid (show (⟨K, 0, (rNum 6 (rRest 1 s1)), 0, (rNum 1 s1), 0, 0, none, 0, 0, [], none, 0, 0, []⟩ : OpR).v = (rdOp s).1 ∧ (rRest 6 (rRest 1 s1)) = (rdOp s).2 from by rw [HRD.out, HKK.out]; exact ⟨by rw [← HKK.out]; simp [OpR.v, rdK, HKK.out], rfl⟩)
  exact bodyPost_ret (retC rfl _ _ w.heap.size _ rfl S2.out.ret) rfl (S2.out.fin _ HFN.out.1 HFN.out.2)
set_option maxRecDepth 100000 in
set_option maxHeartbeats 4000000 in
theorem refOp_6 (D B : Nat) (s : Option (List UInt8)) (hk : rNum 1 s = 6) (w : World) (h : CurAt 126 D w B s) (hD : D ≤ w.heap.size) :
    Calls Try.prog 78 #[.pointer (some ⟨B, 0, none⟩)] w (RcOut D B w (rdOp s)) := by
  have hlt := h.lt
  have hA := (Ext.refl w).alloc' (.cells zeroO 114)
  have HC := Lib.hid (rcnum_any 1 (by omega) (by omega) B s _ (h.ext hA))
  have HRES := Lib.hid (show ∃ r, rdOp s = r ∧ r = rdK (rNum 1 s) (rRest 1 s) from ⟨_, rfl, rfl⟩)
  have HRD := Lib.hid (show rdOp s = rdK (rNum 1 s) (rRest 1 s) from rfl)
  have HKK := Lib.hid hk
  obtain ⟨K, hK⟩ : ∃ K, rNum 1 s = K := ⟨_, rfl⟩
  obtain ⟨s1, hs1⟩ : ∃ s1, rRest 1 s = s1 := ⟨_, rfl⟩
  rw [hK, hs1] at HC HRD
  rw [hK] at HKK
  have hKv := hK ▸ hk
  have y1 : (K == 1) = false := by simp; omega
  have z1 : decide (K = 1) = false := by simp; omega
  have y2 : (K == 2) = false := by simp; omega
  have z2 : decide (K = 2) = false := by simp; omega
  have y3 : (K == 3) = false := by simp; omega
  have z3 : decide (K = 3) = false := by simp; omega
  have y4 : (K == 4) = false := by simp; omega
  have z4 : decide (K = 4) = false := by simp; omega
  have y5 : (K == 5) = false := by simp; omega
  have z5 : decide (K = 5) = false := by simp; omega
  have y6 : (K == 6) = true := by simp; omega
  have z6 : decide (K = 6) = true := by simp; omega
  clear h hA hk hK hs1 HRES hKv
  go_enter Try.func78, Try.ntmps78
  go_wp2_with fail
  refine HC.out.mono ?_
  rintro e w1 ⟨rfl, hC, hG⟩
  have S0 := Lib.hid (RcS.start (k := K) hC hG hlt hD)
  have q0 : (w1.alloc (.cells (opA (opK K)) 114)).cell? ⟨w1.heap.size, 0, none⟩ = some (.int .i64 K) := S0.out.box.cell 0
  clear hC hG HC
  go_wp2_with (first | (with_reducible refine wpList_newK rfl (.tmp 3) (.tmp 6) rfl _ rfl K rfl rfl ?_))
  refine (rcnum_any 1 (by omega) (by omega) B _ _ S0.out.cur).mono ?_
  rintro e w2 ⟨rfl, hC, hG⟩
  have T0 := Lib.hid (S0.out.read hC hG)
  have q1 : w2.cell? ⟨w1.heap.size, 4, none⟩ = some (.int .i64 0) := T0.out.box.cell 4
  have f1 := T0.out.box.frozen 4
  have S1 := Lib.hid (T0.out.set (R' := ⟨K, 0, 0, 0, (rNum 1 s1), 0, 0, none, 0, 0, [], none, 0, 0, []⟩) 4 (.int .i64 (rNum 1 s1)) rfl T0.out.own1 T0.out.own2)
  clear hC hG S0
  go_wp2_with fail
  refine (rcstr_any D B _ _ S1.out.cur).mono ?_
  rintro e w3 ⟨A3, n3, c3, rfl, hO, hC, hG⟩
  have T1 := Lib.hid (S1.out.read hC hG)
  have q2 : w3.cell? ⟨w1.heap.size, 22, none⟩ = some (.slice none 0 0) := T1.out.box.cell 22
  have f2 := T1.out.box.frozen 22
  have S2 := Lib.hid (T1.out.set (R' := ⟨K, 0, 0, 0, (rNum 1 s1), 0, 0, none, 0, 0, [], A3, n3, c3, (rBlob (rRest 1 s1))⟩) 22 (.slice A3 n3 c3) rfl T1.out.own1 (own_mono hO S1.out.gr.size))
  clear hC hG hO S1
  have hr := op_range S2.out.box
  have ht := op_there S2.out.res
  go_wp2_with (first | ((with_reducible refine wpList_loadO rfl (.tmp 3) rfl w1.heap.size 0 ?hx ⟨K, 0, 0, 0, (rNum 1 s1), 0, 0, none, 0, 0, [], A3, n3, c3, (rBlob (rRest 1 s1))⟩ hr ?_); case hx => rfl) | ((with_reducible refine wpList_storeO rfl (.tmp 2) (.tmp 72) rfl w.heap.size ⟨K, 0, 0, 0, (rNum 1 s1), 0, 0, none, 0, 0, [], A3, n3, c3, (rBlob (rRest 1 s1))⟩ ?hx ?hy ht ?_); (case hx => rfl); (case hy => rfl)))
  have HFN := Lib.hid (show (⟨K, 0, 0, 0, (rNum 1 s1), 0, 0, none, 0, 0, [], A3, n3, c3, (rBlob (rRest 1 s1))⟩ : OpR).v = (rdOp s).1 ∧ (rAft (rRest 1 s1)) = (rdOp s).2 from by rw [HRD.out, HKK.out]; exact ⟨by rw [← HKK.out]; simp [OpR.v, rdK, HKK.out], rfl⟩)
  exact bodyPost_ret (retC rfl _ _ w.heap.size _ rfl S2.out.ret) rfl (S2.out.fin _ HFN.out.1 HFN.out.2)
set_option maxRecDepth 100000 in
set_option maxHeartbeats 4000000 in
theorem refOp_0 (D B : Nat) (s : Option (List UInt8)) (hk : ¬ (1 ≤ rNum 1 s ∧ rNum 1 s ≤ 6)) (w : World) (h : CurAt 126 D w B s) (hD : D ≤ w.heap.size) :
    Calls Try.prog 78 #[.pointer (some ⟨B, 0, none⟩)] w (RcOut D B w (rdOp s)) := by
  have hlt := h.lt
  have hA := (Ext.refl w).alloc' (.cells zeroO 114)
  have HC := Lib.hid (rcnum_any 1 (by omega) (by omega) B s _ (h.ext hA))
  have HRES := Lib.hid (show ∃ r, rdOp s = r ∧ r = rdK (rNum 1 s) (rRest 1 s) from ⟨_, rfl, rfl⟩)
  have HRD := Lib.hid (show rdOp s = (⟨rNum 1 s, 0, 0, 0, 0, 0, 0, [], []⟩, rRest 1 s) from by unfold rdOp rdK; rw [if_neg (by omega), if_neg (by omega), if_neg (by omega), if_neg (by omega), if_neg (by omega), if_neg (by omega)])
  obtain ⟨K, hK⟩ : ∃ K, rNum 1 s = K := ⟨_, rfl⟩
  obtain ⟨s1, hs1⟩ : ∃ s1, rRest 1 s = s1 := ⟨_, rfl⟩
  rw [hK, hs1] at HC HRD
  have hKv := hK ▸ hk
  have y1 : (K == 1) = false := by simp; omega
  have z1 : decide (K = 1) = false := by simp; omega
  have y2 : (K == 2) = false := by simp; omega
  have z2 : decide (K = 2) = false := by simp; omega
  have y3 : (K == 3) = false := by simp; omega
  have z3 : decide (K = 3) = false := by simp; omega
  have y4 : (K == 4) = false := by simp; omega
  have z4 : decide (K = 4) = false := by simp; omega
  have y5 : (K == 5) = false := by simp; omega
  have z5 : decide (K = 5) = false := by simp; omega
  have y6 : (K == 6) = false := by simp; omega
  have z6 : decide (K = 6) = false := by simp; omega
  clear h hA hk hK hs1 HRES hKv
  go_enter Try.func78, Try.ntmps78
  go_wp2_with fail
  refine HC.out.mono ?_
  rintro e w1 ⟨rfl, hC, hG⟩
  have S0 := Lib.hid (RcS.start (k := K) hC hG hlt hD)
  have q0 : (w1.alloc (.cells (opA (opK K)) 114)).cell? ⟨w1.heap.size, 0, none⟩ = some (.int .i64 K) := S0.out.box.cell 0
  clear hC hG HC
  have hr := op_range S0.out.box
  have ht := op_there S0.out.res
  go_wp2_with (first | (with_reducible refine wpList_newK rfl (.tmp 3) (.tmp 6) rfl _ rfl K rfl rfl ?_) | ((with_reducible refine wpList_loadO rfl (.tmp 3) rfl w1.heap.size 0 ?hx (opK K) hr ?_); case hx => rfl) | ((with_reducible refine wpList_storeO rfl (.tmp 2) (.tmp 72) rfl w.heap.size (opK K) ?hx ?hy ht ?_); (case hx => rfl); (case hy => rfl)))
  have HFN := Lib.hid (show (opK K).v = (rdOp s).1 ∧ s1 = (rdOp s).2 from by rw [HRD.out]; exact ⟨rfl, rfl⟩)
  exact bodyPost_ret (retC rfl _ _ w.heap.size _ rfl S0.out.ret) rfl (S0.out.fin _ HFN.out.1 HFN.out.2)
theorem refOp_any (D B : Nat) (s : Option (List UInt8)) (w : World) (h : CurAt 126 D w B s) (hD : D ≤ w.heap.size) :
    Calls Try.prog 78 #[.pointer (some ⟨B, 0, none⟩)] w (RcOut D B w (rdOp s)) := by
  rcases kind_cases (rNum 1 s) with hk | hk | hk | hk | hk | hk | hk
  · exact refOp_1 D B s hk w h hD
  · exact refOp_2 D B s hk w h hD
  · exact refOp_3 D B s hk w h hD
  · exact refOp_4 D B s hk w h hD
  · exact refOp_5 D B s hk w h hD
  · exact refOp_6 D B s hk w h hD
  · exact refOp_0 D B s hk w h hD
end Go.Proofs.Ytcfmlgbocdjabaa
