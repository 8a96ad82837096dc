/- The reference's Union of two views: votes and texts in ascending order, each once. -/
import Derived.Test.YtbfepgjeecndiaaGreatJ35
import Derived.Test.YtbfepgjeecndiaaGreatJ37
import Derived.Test.YtbfepgjeecndiaaGreatJ38
import Derived.Test.YtbfepgjeecndiaaGreatJ39
namespace Go.Proofs.YtbfepgjeecndiaaGreat
set_option maxRecDepth 100000
set_option maxHeartbeats 32000000
open Go.RowKit
set_option linter.unusedVariables false
set_option linter.unusedSimpArgs false
attribute [local go_sem ↓] Go.wp_at_zero Go.wp_at_succ
theorem run_buildS0 (w : World) : (Instr.buildSlice 22 0 #[]).run Tryz.prog w = .ok (.slice (some ⟨w.heap.size, 0, none⟩) 0 0) (w.alloc (.cells #[] 48)) := by kernel_rfl
def RuOut (w : World) (L : List SgR) (X : List TeR) (n m : Nat) (e : Ending) (w' : World) : Prop := ∃ (A' : Option Addr) (n' c' : Nat) (L' : List SgR) (B' : Option Addr) (m' d' : Nat) (X' : List TeR), e = .returned (.agg (vwA A' n' c' B' m' d')) ∧ VwO w' w.heap.size A' n' c' L' B' m' d' X' ∧ L'.map SgR.V = canonO ltSv (L.map SgR.V) ∧ X'.map TeR.l = canonO lexB (X.map TeR.l) ∧ n' ≤ n ∧ m' ≤ m ∧ Ext w w'
theorem refUnion_any (A1 : Option Addr) (n1 c1 : Nat) (L1 : List SgR) (B1 : Option Addr) (m1 d1 : Nat) (X1 : List TeR) (A2 : Option Addr) (n2 c2 : Nat) (L2 : List SgR) (B2 : Option Addr) (m2 d2 : Nat) (X2 : List TeR) (w : World) (hS : SlG w A1 n1 c1 L1) (hX : SlG w B1 m1 d1 X1) (hS2 : SlG w A2 n2 c2 L2) (hX2 : SlG w B2 m2 d2 X2) (hn1 : n1 ≤ 1000000) (hm1 : m1 ≤ 1000000) (hn2 : n2 ≤ 1000000) (hm2 : m2 ≤ 1000000)
  (hSn : ∀ S, S ∈ L1 ++ L2 → S.n ≤ 140737488355328) (hXn : ∀ T, T ∈ X1 ++ X2 → T.n ≤ 140737488355328) :
  Calls Tryz.prog 32 #[.agg (vwA A1 n1 c1 B1 m1 d1), .agg (vwA A2 n2 c2 B2 m2 d2)] w (RuOut w (L1 ++ L2) (X1 ++ X2) (n1 + n2) (m1 + m2)) := by
 have hb0 := run_buildS0
 obtain ⟨W2, hW2⟩ : ∃ W2, (((w.alloc (.cells (vwA A1 n1 c1 B1 m1 d1) 25)).alloc (.cells (vwA A2 n2 c2 B2 m2 d2) 25)).alloc (.cells (vwA none 0 0 none 0 0) 25)).alloc (.cells (vwA none 0 0 none 0 0) 25) = W2 := ⟨_, rfl⟩
 have HEW := Lib.hid (show Ext w W2 from by rw [← hW2]; exact ((((Ext.refl w).alloc' _).alloc' _).alloc' _).alloc' _)
 have HPA := Lib.hid (show Blk W2 w.heap.size 25 (vwA A1 n1 c1 B1 m1 d1) from by rw [← hW2]; exact (((Blk.new w 25 (vwA A1 n1 c1 B1 m1 d1)).alloc _).alloc _).alloc _)
 have HPB := Lib.hid (show Blk W2 (w.heap.size + 1) 25 (vwA A2 n2 c2 B2 m2 d2) from by rw [← hW2]; exact ((Blk.newAt (w.alloc _) _ _ (w.heap.size + 1) (by simp)).alloc _).alloc _)
 have HPR := Lib.hid (show Blk W2 (w.heap.size + 2) 25 (vwA none 0 0 none 0 0) from by rw [← hW2]; exact (Blk.newAt ((w.alloc _).alloc _) _ _ (w.heap.size + 2) (by simp)).alloc _)
 have HPO := Lib.hid (show Blk W2 (w.heap.size + 3) 25 (vwA none 0 0 none 0 0) from by rw [← hW2]; exact Blk.newAt _ _ _ _ (by simp))
 have HSZ2 := Lib.hid (show W2.heap.size = w.heap.size + 4 from by rw [← hW2]; simp)
 have HS := Lib.hid (hS.ext HEW.out)
 have HX := Lib.hid (hX.ext HEW.out)
 have HS2 := Lib.hid (hS2.ext HEW.out)
 have HX2 := Lib.hid (hX2.ext HEW.out)
 have HSN := Lib.hid hSn
 have HXN := Lib.hid hXn
 have HOKA := Lib.hid (show ∀ S, S ∈ L1 ++ L2 → S.ok w from fun S hS' => by
  rcases List.mem_append.1 hS' with h | h
  ·exact hS.ok S h
  ·exact hS2.ok S h)
 have HXW := Lib.hid hX
 have HX2W := Lib.hid hX2
 clear hS hX hS2 hX2 hSn hXn
 go_enter Tryz.func32, Tryz.ntmps32
 go_upto_region 2 with (fail)
 clear hW2
 have HE := Lib.hid ((Ext.refl W2).drew')
 refine wp_region_held_drew (S := fun W => Ext W2 W) (by kernel_rfl) ((Ext.refl W2).drew') (fun hHeld => ?_)
 (refine Go.Proofs.YtbfepgjeecndiaaGreat.wr 1 (oi := ⟨some 11, .fieldAddr 25 (.tmp 2) 0, 0, "snapshot.go:49", #[], none⟩) (v := ?_) rfl (by kernel_rfl) (by rfl) (fun _ _ _ h => h) ?h hHeld ?_; case h => (intro W hSW; go_simp <;> with_reducible rfl))
 try simp only [lays]
 (refine Go.Proofs.YtbfepgjeecndiaaGreat.wr 2 (oi := ⟨some 12, .load 22 (.tmp 11), 22, "snapshot.go:49", #[⟨1, .data⟩], none⟩) (v := ?_) rfl (by kernel_rfl) (by rfl) (fun _ _ _ h => h) ?h hHeld ?_; case h => (intro W hSW; obtain ⟨c0, c1⟩ := vw_facts (HPA.out.ext hSW); obtain ⟨e0, e1⟩ := vw_facts (HPB.out.ext hSW); go_simp <;> with_reducible rfl))
 try simp only [lays]
 (refine Go.Proofs.YtbfepgjeecndiaaGreat.wr 4 (oi := ⟨some 14, .fieldAddr 25 (.tmp 3) 0, 0, "snapshot.go:49", #[], none⟩) (v := ?_) rfl (by kernel_rfl) (by rfl) (fun _ _ _ h => h) ?h hHeld ?_; case h => (intro W hSW; go_simp <;> with_reducible rfl))
 try simp only [lays]
 (refine Go.Proofs.YtbfepgjeecndiaaGreat.wr 5 (oi := ⟨some 15, .load 22 (.tmp 14), 22, "snapshot.go:49", #[⟨4, .data⟩], none⟩) (v := ?_) rfl (by kernel_rfl) (by rfl) (fun _ _ _ h => h) ?h hHeld ?_; case h => (intro W hSW; obtain ⟨c0, c1⟩ := vw_facts (HPA.out.ext hSW); obtain ⟨e0, e1⟩ := vw_facts (HPB.out.ext hSW); go_simp <;> with_reducible rfl))
 try simp only [lays]
 refine wpAnyH_ready (rs := [0]) (by kernel_rfl) (by simp) ?_
 refine (AllReadyH.cons (o := ⟨some 10, .buildSlice 22 0 #[], 22, "snapshot.go:49", #[], none⟩) rfl (fun K hK => ?_) AllReadyH.nil)
 (refine step_build0 23 run_buildS0 rfl (by rfl) ?_; intro g0 W4 h4; have HG0 := Lib.hid (Nat.le_trans HE.out.size h4.out.2.2.1); have HE := Lib.hid (HE.out.trans h4.out.2.1); have HO := Lib.hid h4.out.1; have HGL := Lib.hid h4.out.2.2.2; clear h4)
 refine hK.out _ _ (HE.out) (fun hHeld => ?_)
 clear hK K
 try simp only [lays]
 refine wpAnyH_ready (rs := [3]) (by kernel_rfl) (by simp) ?_
 refine (AllReadyH.cons (o := ⟨some 13, .call { callee := .builtin .append, args := #[.tmp 10, .tmp 12], argTypes := #[22, 22] }, 22, "snapshot.go:49", #[⟨0, .data⟩, ⟨2, .data⟩], none⟩) rfl (fun K hK => ?_) AllReadyH.nil)
 (refine step_appG' sgE rfl (.tmp 10) (.tmp 12) rfl g0 (some ⟨g0, 0, none⟩) 0 0 [] (by rfl) HO.out A1 n1 c1 (gcs L1) (by rfl) ((HS.out.ext HE.out)).rd (by rw [gcs_length, HS.out.len]; rfl) (gcs_cell _) (by omega) (by omega) (Nat.le_of_lt HGL.out) ?_; intro A5 c5 w5 ho hg; simp only [Nat.zero_add, List.nil_append] at ho ⊢; have HE := Lib.hid (show Ext _ _ from Below.grown HE.out hg HE.out.size (fun q hq => Nat.le_trans HG0.out (World.ownsRow.lt HO.out q hq).1)); have HGL := Lib.hid (Nat.lt_of_lt_of_le HGL.out hg.size); have HO := Lib.hid ho; clear ho hg)
 refine hK.out _ _ (HE.out) (fun hHeld => ?_)
 clear hK K
 try simp only [lays]
 refine wpAnyH_ready (rs := [6]) (by kernel_rfl) (by simp) ?_
 refine (AllReadyH.cons (o := ⟨some 16, .call { callee := .builtin .append, args := #[.tmp 13, .tmp 15], argTypes := #[22, 22] }, 22, "snapshot.go:49", #[⟨3, .data⟩, ⟨5, .data⟩, ⟨3, .chain⟩], none⟩) rfl (fun K hK => ?_) AllReadyH.nil)
 (refine step_appG' sgE rfl (.tmp 13) (.tmp 15) rfl g0 A5 n1 c5 (gcs L1) (by rfl) HO.out A2 n2 c2 (gcs L2) (by rfl) ((HS2.out.ext HE.out)).rd (by rw [gcs_length, HS2.out.len]; rfl) (gcs_cell _) (by omega) (by omega) (Nat.le_of_lt HGL.out) ?_; intro A6 c6 w6 ho hg; have HE := Lib.hid (show Ext _ _ from Below.grown HE.out hg HE.out.size (fun q hq => Nat.le_trans HG0.out (World.ownsRow.lt HO.out q hq).1)); have HGL := Lib.hid (Nat.lt_of_lt_of_le HGL.out hg.size); have HO := Lib.hid ho; clear ho hg)
 refine hK.out _ _ (HE.out) (fun hHeld => ?_)
 clear hK K
 try simp only [lays]
 (refine Go.Proofs.YtbfepgjeecndiaaGreat.wr 7 (oi := ⟨some 6, .assign (.tmp 16), 22, "snapshot.go:49", #[⟨6, .data⟩, ⟨6, .chain⟩, ⟨0, .phase⟩, ⟨1, .phase⟩, ⟨2, .phase⟩, ⟨3, .phase⟩, ⟨4, .phase⟩, ⟨5, .phase⟩, ⟨6, .phase⟩], none⟩) (v := ?_) rfl (by kernel_rfl) (by rfl) (fun _ _ _ h => h) ?h hHeld ?_; case h => (intro W hSW; go_simp <;> with_reducible rfl))
 try simp only [lays]
 refine wpAnyH_done (by kernel_rfl) ?_ _
 have HST := Lib.hid (show RuS w w6 (vwA A1 n1 c1 B1 m1 d1) (vwA A2 n2 c2 B2 m2 d2) A6 (n1 + n2) c6 (L1 ++ L2) none 0 0 [] from ⟨HPA.out.ext HE.out, HPB.out.ext HE.out, HPR.out.ext HE.out, HPO.out.ext HE.out, by rw [gcs_append]; exact own_mono HO.out (by have := HG0.out; have := HSZ2.out; omega), RwS.nil _ _, HEW.out.trans HE.out⟩)
 obtain ⟨AL, hAL⟩ : ∃ l, L1 ++ L2 = l := ⟨_, rfl⟩
 obtain ⟨N, hN⟩ : ∃ l, n1 + n2 = l := ⟨_, rfl⟩
 have hN2 : N ≤ 2000000 := by omega
 rw [hAL] at HST HSN HOKA
 rw [hAL]
 rw [hN] at HST ⊢
 have HALN := Lib.hid (show AL.length = N from by rw [← hAL, ← hN, List.length_append, HS.out.len, HS2.out.len])
 have HAL := Lib.hid hAL
 have HNN := Lib.hid hN
 clear hHeld HO HGL HG0 HE HPA HPB HPR HPO HS HX HS2 HX2 HSZ2 HEW hAL hN
 go_wp2_with fail
 go_loopw [7] (fun vi wr => ∃ (i : Nat) (A : Option Addr) (nn c : Nat) (D : List SgR), vi = .int .i64 (i : Int) ∧ i ≤ N ∧ nn ≤ i ∧ Hid (RuS w wr (vwA A1 n1 c1 B1 m1 d1) (vwA A2 n2 c2 B2 m2 d2) A6 N c6 AL A nn c D) ∧ Hid (D.map SgR.V = canonO ltSv ((AL.take i).map SgR.V))) (fun i _ => N - (intOf i).toNat)
 case atStart => exact ⟨0, none, 0, 0, [], rfl, Nat.zero_le _, Nat.le_refl _, HST, Lib.hid rfl⟩
 case round =>
  clear HST
  obtain ⟨i, A, n, c, D, rfl, hi, hn, HST, HCA⟩ := hrel
  by_cases hlt : i < N
  ·obtain ⟨b, o, rfl, hr0, hb⟩ := HST.out.sla HOKA.out |>.at (by omega)
   have i1 : (i : Int) < (N : Int) := by omega
   obtain ⟨T, hT⟩ : ∃ T, nthG AL i = T := ⟨_, rfl⟩
   have HRT := Lib.hid (fun (W : World) (he : Ext wr W) => (show W.rangeAt b (o + i * 23) (sgL (nthG AL i)) from el_at (rangeAt_keep hr0 (he.block b hb)) (k := i) (by rw [HALN.out]; exact hlt)))
   have HMT := Lib.hid (nthG_mem (L := AL) (k := i) (by rw [HALN.out]; exact hlt))
   have HTK := Lib.hid (show (AL.take (i + 1)).map SgR.V = (AL.take i).map SgR.V ++ [T.V] from by rw [take_nthG (L := AL) (k := i) (by rw [HALN.out]; exact hlt), List.map_append, hT]; rfl)
   rw [hT] at HRT HMT
   clear hT hr0
   have hTn := HSN.out _ HMT.out
   have HOS := Lib.hid (fun (W : World) (he : Ext wr W) => (HOKA.out _ HMT.out).ext (HST.out.low.trans he))
   obtain ⟨vt, hvt⟩ : ∃ v, Value.agg (sgA T) = v := ⟨_, rfl⟩
   have Hvt := Lib.hid hvt
   clear hvt
   have q0 := fun W (he : Ext wr W) => (HST.out.bo.ext he).cell 0
   obtain ⟨W0, rfl⟩ : ∃ W0, W0 = wr := ⟨_, rfl⟩
   have HCO := Lib.hid (fun (W : World) (he : Ext W0 W) => (show W.cell? ⟨w.heap.size + 3, 0, none⟩ = some (.slice A n c) from (HST.out.bo.ext he).cell 0))
   have q1 := HCO.out W0 (Ext.refl _)
   clear q0
   go_wp2_with fail
   clear q1
   go_loopw [8] (fun vk wr => ∃ k : Nat, vk = .int .i64 (k : Int) ∧ k ≤ n ∧ Hid (∀ j, j < k → ltSv (nthG D j).V T.V = true) ∧ Hid (Ext W0 wr)) (fun k _ => n - (intOf k).toNat)
   case atStart => exact ⟨0, rfl, Nat.zero_le _, Lib.hid (fun j hj => by omega), Lib.hid (Ext.refl _)⟩
   case round =>
    obtain ⟨k, rfl, hkn, HBEF, HZ⟩ := hrel
    by_cases hk2 : k < n
    ·have i2 : (k : Int) < (n : Int) := by omega
     obtain ⟨g, rfl, -, hrg⟩ := own_at HST.out.row.own (by omega)
     obtain ⟨Y, hY⟩ : ∃ Y, nthG D k = Y := ⟨_, rfl⟩
     have HRY := Lib.hid (fun (W : World) (he : Ext W0 W) => (show W.rangeAt g (k * 23) (sgL (nthG D k)) from by have := el_at (rangeAt_keep hrg (he.block g (World.ownsRow.lt HST.out.row.own g rfl).2)) (k := k) (by rw [HST.out.row.len]; exact hk2); rwa [Nat.zero_add] at this))
     have HOY := Lib.hid (fun (W : World) (he : Ext W0 W) => (HST.out.row.sl.ext he).nth (k := k) hk2)
     rw [hY] at HRY HOY
     have HYE := Lib.hid hY
     clear hY hrg
     obtain ⟨vy, hvy⟩ : ∃ v, Value.agg (sgA Y) = v := ⟨_, rfl⟩
     have Hvy := Lib.hid hvy
     have HLS := Lib.hid (fun (W : World) (he : Ext W0 W) => show Calls Tryz.prog 45 #[vy, vt] W fun e w' => e = .returned (.bool (ltSg Y T)) ∧ Ext W w' from by rw [← Hvy.out, ← Hvt.out]; exact rSgLess_any Y T W (HOY.out W he) (HOS.out W he))
     have HSM := Lib.hid (fun (W : World) (he : Ext W0 W) => show Calls Tryz.prog 27 #[vy, vt] W fun e w' => e = .returned (.bool (eqSg Y T)) ∧ Ext W w' from by rw [← Hvy.out, ← Hvt.out]; exact sameSigned_any Y T W (HOY.out W he) (HOS.out W he))
     clear hvy HOY
     cases hbl : ltSg Y T with
     | true =>
      rw [hbl] at HLS
      have HB := Lib.hid hbl
      clear hbl
      go_wp2_with fail
      refine wp_region_plan (S := fun W => Ext W0 W) (by kernel_rfl) (by kernel_rfl) ((HZ.out.drew')) ?_
      (refine pr 0 (oi := ⟨some 23, .move (.tmp 8), 3, "snapshot.go:52", #[], none⟩) (v := ?_) rfl (by kernel_rfl) (by rfl) ?h ?_; case h => (intro W hSW; go_simp <;> with_reducible rfl))
      try simp only [lays]
      (refine pr 1 (oi := ⟨some 24, .fieldAddr 25 (.tmp 5) 0, 0, "snapshot.go:52", #[], none⟩) (v := ?_) rfl (by kernel_rfl) (by rfl) ?h ?_; case h => (intro W hSW; go_simp <;> with_reducible rfl))
      try simp only [lays]
      (refine pr 2 (oi := ⟨some 25, .load 22 (.tmp 24), 22, "snapshot.go:52", #[⟨1, .data⟩], none⟩) (v := ?_) rfl (by kernel_rfl) (by rfl) ?h ?_; case h => (intro W hSW; have f1 := HCO.out W hSW; go_simp <;> with_reducible rfl))
      try simp only [lays]
      (refine pr 3 (oi := ⟨some 26, .call { callee := .builtin .len, args := #[.tmp 25], argTypes := #[22] }, 3, "snapshot.go:52", #[⟨2, .data⟩], none⟩) (v := ?_) rfl (by kernel_rfl) (by rfl) ?h ?_; case h => (intro W hSW; have f1 := HCO.out W hSW; go_simp <;> with_reducible rfl))
      try simp only [lays]
      (refine pr 4 (oi := ⟨some 27, .binOp .lss 3 (.tmp 23) (.tmp 26) 3, 4, "snapshot.go:52", #[⟨0, .data⟩, ⟨3, .data⟩], none⟩) (v := ?_) rfl (by kernel_rfl) (by rfl) ?h ?_; case h => (intro W hSW; go_simp <;> with_reducible rfl))
      try simp only [lays]
      (refine pr 5 (oi := ⟨some 28, .move (.tmp 27), 4, "snapshot.go:52", #[⟨4, .data⟩], none⟩) (v := ?_) rfl (by kernel_rfl) (by rfl) ?h ?_; case h => (intro W hSW; go_simp <;> with_reducible rfl))
      try simp only [lays]
      refine plan_oi (i := 6) (oi := ⟨some 29, .fieldAddr 25 (.tmp 5) 0, 0, "snapshot.go:52", #[⟨5, .guard⟩], some (5, true)⟩) rfl (by kernel_rfl) (by kernel_rfl) ?_
      first | (refine ⟨?_, (fx_read (Or.inl ⟨by rfl, ?hy4_6⟩)), ?_⟩; case hy4_6 => (intro W hSW; go_simp <;> with_reducible rfl)) | (refine ⟨undef, fx_skip (by rfl), ?_⟩)
      try simp only [lays]
      refine plan_oi (i := 7) (oi := ⟨some 30, .load 22 (.tmp 29), 22, "snapshot.go:52", #[⟨6, .data⟩, ⟨5, .guard⟩], some (5, true)⟩) rfl (by kernel_rfl) (by kernel_rfl) ?_
      first | (refine ⟨?_, (fx_read (Or.inl ⟨by rfl, ?hy4_7⟩)), ?_⟩; case hy4_7 => (intro W hSW; have f1 := HCO.out W hSW; go_simp <;> with_reducible rfl)) | (refine ⟨undef, fx_skip (by rfl), ?_⟩)
      try simp only [lays]
      refine plan_oi (i := 8) (oi := ⟨some 31, .move (.tmp 8), 3, "snapshot.go:52", #[⟨5, .guard⟩], some (5, true)⟩) rfl (by kernel_rfl) (by kernel_rfl) ?_
      first | (refine ⟨?_, (fx_read (Or.inl ⟨by rfl, ?hy4_8⟩)), ?_⟩; case hy4_8 => (intro W hSW; go_simp <;> with_reducible rfl)) | (refine ⟨undef, fx_skip (by rfl), ?_⟩)
      try simp only [lays]
      refine plan_oi (i := 9) (oi := ⟨some 32, .indexAddr 22 (.tmp 30) (.tmp 31), 0, "snapshot.go:52", #[⟨7, .data⟩, ⟨8, .data⟩, ⟨5, .guard⟩], some (5, true)⟩) rfl (by kernel_rfl) (by kernel_rfl) ?_
      first | (refine ⟨?_, (fx_read (Or.inl ⟨by rfl, ?hy4_9⟩)), ?_⟩; case hy4_9 => (intro W hSW; go_simp <;> with_reducible rfl)) | (refine ⟨undef, fx_skip (by rfl), ?_⟩)
      try simp only [lays]
      first | (refine plan_take (i := 10) (oi := ⟨some 33, .load 48 (.tmp 32), 48, "snapshot.go:52", #[⟨9, .data⟩, ⟨5, .guard⟩], some (5, true)⟩) (v := vy) rfl (by kernel_rfl) (by kernel_rfl) (fx_read ?hy4_10) ?_; case hy4_10 => (refine yields_loadSgV ?hw (.tmp 32) rfl g (k * 23) ?hx Y vy Hvy.out (fun W hSW => HRY.out W hSW); (case hw => rfl); (case hx => rfl))) | (refine plan_take (i := 10) (oi := ⟨some 33, .load 48 (.tmp 32), 48, "snapshot.go:52", #[⟨9, .data⟩, ⟨5, .guard⟩], some (5, true)⟩) (v := undef) rfl (by kernel_rfl) (by kernel_rfl) (fx_skip (by rfl)) ?_) | fail "OP10"
      try simp only [lays]
      refine plan_oi (i := 11) (oi := ⟨some 34, .move (.tmp 6), 22, "snapshot.go:52", #[⟨5, .guard⟩], some (5, true)⟩) rfl (by kernel_rfl) (by kernel_rfl) ?_
      first | (refine ⟨?_, (fx_read (Or.inl ⟨by rfl, ?hy4_11⟩)), ?_⟩; case hy4_11 => (intro W hSW; go_simp <;> with_reducible rfl)) | (refine ⟨undef, fx_skip (by rfl), ?_⟩)
      try simp only [lays]
      refine plan_oi (i := 12) (oi := ⟨some 35, .move (.tmp 7), 3, "snapshot.go:52", #[⟨5, .guard⟩], some (5, true)⟩) rfl (by kernel_rfl) (by kernel_rfl) ?_
      first | (refine ⟨?_, (fx_read (Or.inl ⟨by rfl, ?hy4_12⟩)), ?_⟩; case hy4_12 => (intro W hSW; go_simp <;> with_reducible rfl)) | (refine ⟨undef, fx_skip (by rfl), ?_⟩)
      try simp only [lays]
      refine plan_oi (i := 13) (oi := ⟨some 36, .indexAddr 22 (.tmp 34) (.tmp 35), 0, "snapshot.go:52", #[⟨11, .data⟩, ⟨12, .data⟩, ⟨5, .guard⟩], some (5, true)⟩) rfl (by kernel_rfl) (by kernel_rfl) ?_
      first | (refine ⟨?_, (fx_read (Or.inl ⟨by rfl, ?hy4_13⟩)), ?_⟩; case hy4_13 => (intro W hSW; go_simp <;> with_reducible rfl)) | (refine ⟨undef, fx_skip (by rfl), ?_⟩)
      try simp only [lays]
      first | (refine plan_take (i := 14) (oi := ⟨some 37, .load 48 (.tmp 36), 48, "snapshot.go:52", #[⟨13, .data⟩, ⟨5, .guard⟩], some (5, true)⟩) (v := vt) rfl (by kernel_rfl) (by kernel_rfl) (fx_read ?hy4_14) ?_; case hy4_14 => (refine yields_loadSgV ?hw (.tmp 36) rfl b (o + i * 23) ?hx T vt Hvt.out (fun W hSW => HRT.out W hSW); (case hw => rfl); (case hx => rfl))) | (refine plan_take (i := 14) (oi := ⟨some 37, .load 48 (.tmp 36), 48, "snapshot.go:52", #[⟨13, .data⟩, ⟨5, .guard⟩], some (5, true)⟩) (v := undef) rfl (by kernel_rfl) (by kernel_rfl) (fx_skip (by rfl)) ?_) | fail "OP14"
      try simp only [lays]
      refine plan_oi (i := 15) (oi := ⟨some 38, .call { callee := .value (.func 45), args := #[.tmp 33, .tmp 37], argTypes := #[48, 48] }, 4, "snapshot.go:52", #[⟨10, .data⟩, ⟨14, .data⟩, ⟨5, .chain⟩, ⟨5, .guard⟩], some (5, true)⟩) rfl (by kernel_rfl) (by kernel_rfl) ?_
      first | (refine ⟨?_, (fx_call (by rfl) (fun W hSW K hK => ?hy4_15)), ?_⟩; case hy4_15 => (go_simp; go_at_call 45; (with_reducible refine (HLS.out W hSW).mono ?_); rintro e w1 ⟨rfl, he1⟩; exact hK.out _ (hSW.trans he1))) | (refine ⟨undef, fx_skip (by rfl), ?_⟩)
      try simp only [lays]
      (refine pr 16 (oi := ⟨some 39, .pick (.tmp 28) (.tmp 38) (.const (.bool false)), 4, "snapshot.go:52", #[⟨5, .data⟩, ⟨15, .data⟩], none⟩) (v := ?_) rfl (by kernel_rfl) (by rfl) ?h ?_; case h => (intro W hSW; go_simp <;> with_reducible rfl))
      try simp only [lays]
      refine Plan.done (by kernel_rfl) (fun W hSW => ?_)
      have HZ2 := Lib.hid hSW
      have HBEF2 := Lib.hid (show ∀ j, j < k + 1 → ltSv (nthG D j).V T.V = true from fun j hj => by
       rcases Nat.lt_or_ge j k with h | h
       ·exact HBEF.out j h
       ·obtain rfl : j = k := by omega
        rw [HYE.out]; exact HB.out)
      clear HZ hSW HRY HLS HSM
      go_wp2_with fail
      go_roundw
      case rel => exact ⟨k + 1, by go_num, hk2, HBEF2, HZ2⟩
      case measure => simp [intOf]; omega
     | false =>
      rw [hbl] at HLS
      have HB := Lib.hid hbl
      clear hbl
      go_wp2_with fail
      refine wp_region_plan (S := fun W => Ext W0 W) (by kernel_rfl) (by kernel_rfl) ((HZ.out.drew')) ?_
      (refine pr 0 (oi := ⟨some 23, .move (.tmp 8), 3, "snapshot.go:52", #[], none⟩) (v := ?_) rfl (by kernel_rfl) (by rfl) ?h ?_; case h => (intro W hSW; go_simp <;> with_reducible rfl))
      try simp only [lays]
      (refine pr 1 (oi := ⟨some 24, .fieldAddr 25 (.tmp 5) 0, 0, "snapshot.go:52", #[], none⟩) (v := ?_) rfl (by kernel_rfl) (by rfl) ?h ?_; case h => (intro W hSW; go_simp <;> with_reducible rfl))
      try simp only [lays]
      (refine pr 2 (oi := ⟨some 25, .load 22 (.tmp 24), 22, "snapshot.go:52", #[⟨1, .data⟩], none⟩) (v := ?_) rfl (by kernel_rfl) (by rfl) ?h ?_; case h => (intro W hSW; have f1 := HCO.out W hSW; go_simp <;> with_reducible rfl))
      try simp only [lays]
      (refine pr 3 (oi := ⟨some 26, .call { callee := .builtin .len, args := #[.tmp 25], argTypes := #[22] }, 3, "snapshot.go:52", #[⟨2, .data⟩], none⟩) (v := ?_) rfl (by kernel_rfl) (by rfl) ?h ?_; case h => (intro W hSW; have f1 := HCO.out W hSW; go_simp <;> with_reducible rfl))
      try simp only [lays]
      (refine pr 4 (oi := ⟨some 27, .binOp .lss 3 (.tmp 23) (.tmp 26) 3, 4, "snapshot.go:52", #[⟨0, .data⟩, ⟨3, .data⟩], none⟩) (v := ?_) rfl (by kernel_rfl) (by rfl) ?h ?_; case h => (intro W hSW; go_simp <;> with_reducible rfl))
      try simp only [lays]
      (refine pr 5 (oi := ⟨some 28, .move (.tmp 27), 4, "snapshot.go:52", #[⟨4, .data⟩], none⟩) (v := ?_) rfl (by kernel_rfl) (by rfl) ?h ?_; case h => (intro W hSW; go_simp <;> with_reducible rfl))
      try simp only [lays]
      refine plan_oi (i := 6) (oi := ⟨some 29, .fieldAddr 25 (.tmp 5) 0, 0, "snapshot.go:52", #[⟨5, .guard⟩], some (5, true)⟩) rfl (by kernel_rfl) (by kernel_rfl) ?_
      first | (refine ⟨?_, (fx_read (Or.inl ⟨by rfl, ?hy5_6⟩)), ?_⟩; case hy5_6 => (intro W hSW; go_simp <;> with_reducible rfl)) | (refine ⟨undef, fx_skip (by rfl), ?_⟩)
      try simp only [lays]
      refine plan_oi (i := 7) (oi := ⟨some 30, .load 22 (.tmp 29), 22, "snapshot.go:52", #[⟨6, .data⟩, ⟨5, .guard⟩], some (5, true)⟩) rfl (by kernel_rfl) (by kernel_rfl) ?_
      first | (refine ⟨?_, (fx_read (Or.inl ⟨by rfl, ?hy5_7⟩)), ?_⟩; case hy5_7 => (intro W hSW; have f1 := HCO.out W hSW; go_simp <;> with_reducible rfl)) | (refine ⟨undef, fx_skip (by rfl), ?_⟩)
      try simp only [lays]
      refine plan_oi (i := 8) (oi := ⟨some 31, .move (.tmp 8), 3, "snapshot.go:52", #[⟨5, .guard⟩], some (5, true)⟩) rfl (by kernel_rfl) (by kernel_rfl) ?_
      first | (refine ⟨?_, (fx_read (Or.inl ⟨by rfl, ?hy5_8⟩)), ?_⟩; case hy5_8 => (intro W hSW; go_simp <;> with_reducible rfl)) | (refine ⟨undef, fx_skip (by rfl), ?_⟩)
      try simp only [lays]
      refine plan_oi (i := 9) (oi := ⟨some 32, .indexAddr 22 (.tmp 30) (.tmp 31), 0, "snapshot.go:52", #[⟨7, .data⟩, ⟨8, .data⟩, ⟨5, .guard⟩], some (5, true)⟩) rfl (by kernel_rfl) (by kernel_rfl) ?_
      first | (refine ⟨?_, (fx_read (Or.inl ⟨by rfl, ?hy5_9⟩)), ?_⟩; case hy5_9 => (intro W hSW; go_simp <;> with_reducible rfl)) | (refine ⟨undef, fx_skip (by rfl), ?_⟩)
      try simp only [lays]
      first | (refine plan_take (i := 10) (oi := ⟨some 33, .load 48 (.tmp 32), 48, "snapshot.go:52", #[⟨9, .data⟩, ⟨5, .guard⟩], some (5, true)⟩) (v := vy) rfl (by kernel_rfl) (by kernel_rfl) (fx_read ?hy5_10) ?_; case hy5_10 => (refine yields_loadSgV ?hw (.tmp 32) rfl g (k * 23) ?hx Y vy Hvy.out (fun W hSW => HRY.out W hSW); (case hw => rfl); (case hx => rfl))) | (refine plan_take (i := 10) (oi := ⟨some 33, .load 48 (.tmp 32), 48, "snapshot.go:52", #[⟨9, .data⟩, ⟨5, .guard⟩], some (5, true)⟩) (v := undef) rfl (by kernel_rfl) (by kernel_rfl) (fx_skip (by rfl)) ?_) | fail "OP10"
      try simp only [lays]
      refine plan_oi (i := 11) (oi := ⟨some 34, .move (.tmp 6), 22, "snapshot.go:52", #[⟨5, .guard⟩], some (5, true)⟩) rfl (by kernel_rfl) (by kernel_rfl) ?_
      first | (refine ⟨?_, (fx_read (Or.inl ⟨by rfl, ?hy5_11⟩)), ?_⟩; case hy5_11 => (intro W hSW; go_simp <;> with_reducible rfl)) | (refine ⟨undef, fx_skip (by rfl), ?_⟩)
      try simp only [lays]
      refine plan_oi (i := 12) (oi := ⟨some 35, .move (.tmp 7), 3, "snapshot.go:52", #[⟨5, .guard⟩], some (5, true)⟩) rfl (by kernel_rfl) (by kernel_rfl) ?_
      first | (refine ⟨?_, (fx_read (Or.inl ⟨by rfl, ?hy5_12⟩)), ?_⟩; case hy5_12 => (intro W hSW; go_simp <;> with_reducible rfl)) | (refine ⟨undef, fx_skip (by rfl), ?_⟩)
      try simp only [lays]
      refine plan_oi (i := 13) (oi := ⟨some 36, .indexAddr 22 (.tmp 34) (.tmp 35), 0, "snapshot.go:52", #[⟨11, .data⟩, ⟨12, .data⟩, ⟨5, .guard⟩], some (5, true)⟩) rfl (by kernel_rfl) (by kernel_rfl) ?_
      first | (refine ⟨?_, (fx_read (Or.inl ⟨by rfl, ?hy5_13⟩)), ?_⟩; case hy5_13 => (intro W hSW; go_simp <;> with_reducible rfl)) | (refine ⟨undef, fx_skip (by rfl), ?_⟩)
      try simp only [lays]
      first | (refine plan_take (i := 14) (oi := ⟨some 37, .load 48 (.tmp 36), 48, "snapshot.go:52", #[⟨13, .data⟩, ⟨5, .guard⟩], some (5, true)⟩) (v := vt) rfl (by kernel_rfl) (by kernel_rfl) (fx_read ?hy5_14) ?_; case hy5_14 => (refine yields_loadSgV ?hw (.tmp 36) rfl b (o + i * 23) ?hx T vt Hvt.out (fun W hSW => HRT.out W hSW); (case hw => rfl); (case hx => rfl))) | (refine plan_take (i := 14) (oi := ⟨some 37, .load 48 (.tmp 36), 48, "snapshot.go:52", #[⟨13, .data⟩, ⟨5, .guard⟩], some (5, true)⟩) (v := undef) rfl (by kernel_rfl) (by kernel_rfl) (fx_skip (by rfl)) ?_) | fail "OP14"
      try simp only [lays]
      refine plan_oi (i := 15) (oi := ⟨some 38, .call { callee := .value (.func 45), args := #[.tmp 33, .tmp 37], argTypes := #[48, 48] }, 4, "snapshot.go:52", #[⟨10, .data⟩, ⟨14, .data⟩, ⟨5, .chain⟩, ⟨5, .guard⟩], some (5, true)⟩) rfl (by kernel_rfl) (by kernel_rfl) ?_
      first | (refine ⟨?_, (fx_call (by rfl) (fun W hSW K hK => ?hy5_15)), ?_⟩; case hy5_15 => (go_simp; go_at_call 45; (with_reducible refine (HLS.out W hSW).mono ?_); rintro e w1 ⟨rfl, he1⟩; exact hK.out _ (hSW.trans he1))) | (refine ⟨undef, fx_skip (by rfl), ?_⟩)
      try simp only [lays]
      (refine pr 16 (oi := ⟨some 39, .pick (.tmp 28) (.tmp 38) (.const (.bool false)), 4, "snapshot.go:52", #[⟨5, .data⟩, ⟨15, .data⟩], none⟩) (v := ?_) rfl (by kernel_rfl) (by rfl) ?h ?_; case h => (intro W hSW; go_simp <;> with_reducible rfl))
      try simp only [lays]
      refine Plan.done (by kernel_rfl) (fun W hSW => ?_)
      have HZ2 := Lib.hid hSW
      clear HZ hSW
      have HZ := HZ2
      clear HZ2 HLS
      obtain ⟨wr, rfl⟩ : ∃ q, q = W := ⟨_, rfl⟩
      cases hyt : eqSg Y T with
      | true =>
       rw [hyt] at HSM
       have HY := Lib.hid (show Y.V = T.V from by rw [eqSg_V] at hyt; exact of_decide_eq_true hyt)
       clear hyt
       go_wp2_with fail
       refine wp_region_plan (S := fun W => Ext W0 W) (by kernel_rfl) (by kernel_rfl) ((HZ.out.drew')) ?_
       (refine pr 0 (oi := ⟨some 42, .move (.tmp 8), 3, "snapshot.go:55", #[], none⟩) (v := ?_) rfl (by kernel_rfl) (by rfl) ?h ?_; case h => (intro W hSW; go_simp <;> with_reducible rfl))
       try simp only [lays]
       (refine pr 1 (oi := ⟨some 43, .fieldAddr 25 (.tmp 5) 0, 0, "snapshot.go:55", #[], none⟩) (v := ?_) rfl (by kernel_rfl) (by rfl) ?h ?_; case h => (intro W hSW; go_simp <;> with_reducible rfl))
       try simp only [lays]
       (refine pr 2 (oi := ⟨some 44, .load 22 (.tmp 43), 22, "snapshot.go:55", #[⟨1, .data⟩], none⟩) (v := ?_) rfl (by kernel_rfl) (by rfl) ?h ?_; case h => (intro W hSW; have f1 := HCO.out W hSW; go_simp <;> with_reducible rfl))
       try simp only [lays]
       (refine pr 3 (oi := ⟨some 45, .call { callee := .builtin .len, args := #[.tmp 44], argTypes := #[22] }, 3, "snapshot.go:55", #[⟨2, .data⟩], none⟩) (v := ?_) rfl (by kernel_rfl) (by rfl) ?h ?_; case h => (intro W hSW; have f1 := HCO.out W hSW; go_simp <;> with_reducible rfl))
       try simp only [lays]
       (refine pr 4 (oi := ⟨some 46, .binOp .lss 3 (.tmp 42) (.tmp 45) 3, 4, "snapshot.go:55", #[⟨0, .data⟩, ⟨3, .data⟩], none⟩) (v := ?_) rfl (by kernel_rfl) (by rfl) ?h ?_; case h => (intro W hSW; go_simp <;> with_reducible rfl))
       try simp only [lays]
       (refine pr 5 (oi := ⟨some 47, .move (.tmp 46), 4, "snapshot.go:55", #[⟨4, .data⟩], none⟩) (v := ?_) rfl (by kernel_rfl) (by rfl) ?h ?_; case h => (intro W hSW; go_simp <;> with_reducible rfl))
       try simp only [lays]
       refine plan_oi (i := 6) (oi := ⟨some 48, .fieldAddr 25 (.tmp 5) 0, 0, "snapshot.go:55", #[⟨5, .guard⟩], some (5, true)⟩) rfl (by kernel_rfl) (by kernel_rfl) ?_
       first | (refine ⟨?_, (fx_read (Or.inl ⟨by rfl, ?hy6_6⟩)), ?_⟩; case hy6_6 => (intro W hSW; go_simp <;> with_reducible rfl)) | (refine ⟨undef, fx_skip (by rfl), ?_⟩)
       try simp only [lays]
       refine plan_oi (i := 7) (oi := ⟨some 49, .load 22 (.tmp 48), 22, "snapshot.go:55", #[⟨6, .data⟩, ⟨5, .guard⟩], some (5, true)⟩) rfl (by kernel_rfl) (by kernel_rfl) ?_
       first | (refine ⟨?_, (fx_read (Or.inl ⟨by rfl, ?hy6_7⟩)), ?_⟩; case hy6_7 => (intro W hSW; have f1 := HCO.out W hSW; go_simp <;> with_reducible rfl)) | (refine ⟨undef, fx_skip (by rfl), ?_⟩)
       try simp only [lays]
       refine plan_oi (i := 8) (oi := ⟨some 50, .move (.tmp 8), 3, "snapshot.go:55", #[⟨5, .guard⟩], some (5, true)⟩) rfl (by kernel_rfl) (by kernel_rfl) ?_
       first | (refine ⟨?_, (fx_read (Or.inl ⟨by rfl, ?hy6_8⟩)), ?_⟩; case hy6_8 => (intro W hSW; go_simp <;> with_reducible rfl)) | (refine ⟨undef, fx_skip (by rfl), ?_⟩)
       try simp only [lays]
       refine plan_oi (i := 9) (oi := ⟨some 51, .indexAddr 22 (.tmp 49) (.tmp 50), 0, "snapshot.go:55", #[⟨7, .data⟩, ⟨8, .data⟩, ⟨5, .guard⟩], some (5, true)⟩) rfl (by kernel_rfl) (by kernel_rfl) ?_
       first | (refine ⟨?_, (fx_read (Or.inl ⟨by rfl, ?hy6_9⟩)), ?_⟩; case hy6_9 => (intro W hSW; go_simp <;> with_reducible rfl)) | (refine ⟨undef, fx_skip (by rfl), ?_⟩)
       try simp only [lays]
       first | (refine plan_take (i := 10) (oi := ⟨some 52, .load 48 (.tmp 51), 48, "snapshot.go:55", #[⟨9, .data⟩, ⟨5, .guard⟩], some (5, true)⟩) (v := vy) rfl (by kernel_rfl) (by kernel_rfl) (fx_read ?hy6_10) ?_; case hy6_10 => (refine yields_loadSgV ?hw (.tmp 51) rfl g (k * 23) ?hx Y vy Hvy.out (fun W hSW => HRY.out W hSW); (case hw => rfl); (case hx => rfl))) | (refine plan_take (i := 10) (oi := ⟨some 52, .load 48 (.tmp 51), 48, "snapshot.go:55", #[⟨9, .data⟩, ⟨5, .guard⟩], some (5, true)⟩) (v := undef) rfl (by kernel_rfl) (by kernel_rfl) (fx_skip (by rfl)) ?_) | fail "OP10"
       try simp only [lays]
       refine plan_oi (i := 11) (oi := ⟨some 53, .move (.tmp 6), 22, "snapshot.go:55", #[⟨5, .guard⟩], some (5, true)⟩) rfl (by kernel_rfl) (by kernel_rfl) ?_
       first | (refine ⟨?_, (fx_read (Or.inl ⟨by rfl, ?hy6_11⟩)), ?_⟩; case hy6_11 => (intro W hSW; go_simp <;> with_reducible rfl)) | (refine ⟨undef, fx_skip (by rfl), ?_⟩)
       try simp only [lays]
       refine plan_oi (i := 12) (oi := ⟨some 54, .move (.tmp 7), 3, "snapshot.go:55", #[⟨5, .guard⟩], some (5, true)⟩) rfl (by kernel_rfl) (by kernel_rfl) ?_
       first | (refine ⟨?_, (fx_read (Or.inl ⟨by rfl, ?hy6_12⟩)), ?_⟩; case hy6_12 => (intro W hSW; go_simp <;> with_reducible rfl)) | (refine ⟨undef, fx_skip (by rfl), ?_⟩)
       try simp only [lays]
       refine plan_oi (i := 13) (oi := ⟨some 55, .indexAddr 22 (.tmp 53) (.tmp 54), 0, "snapshot.go:55", #[⟨11, .data⟩, ⟨12, .data⟩, ⟨5, .guard⟩], some (5, true)⟩) rfl (by kernel_rfl) (by kernel_rfl) ?_
       first | (refine ⟨?_, (fx_read (Or.inl ⟨by rfl, ?hy6_13⟩)), ?_⟩; case hy6_13 => (intro W hSW; go_simp <;> with_reducible rfl)) | (refine ⟨undef, fx_skip (by rfl), ?_⟩)
       try simp only [lays]
       first | (refine plan_take (i := 14) (oi := ⟨some 56, .load 48 (.tmp 55), 48, "snapshot.go:55", #[⟨13, .data⟩, ⟨5, .guard⟩], some (5, true)⟩) (v := vt) rfl (by kernel_rfl) (by kernel_rfl) (fx_read ?hy6_14) ?_; case hy6_14 => (refine yields_loadSgV ?hw (.tmp 55) rfl b (o + i * 23) ?hx T vt Hvt.out (fun W hSW => HRT.out W hSW); (case hw => rfl); (case hx => rfl))) | (refine plan_take (i := 14) (oi := ⟨some 56, .load 48 (.tmp 55), 48, "snapshot.go:55", #[⟨13, .data⟩, ⟨5, .guard⟩], some (5, true)⟩) (v := undef) rfl (by kernel_rfl) (by kernel_rfl) (fx_skip (by rfl)) ?_) | fail "OP14"
       try simp only [lays]
       refine plan_oi (i := 15) (oi := ⟨some 57, .call { callee := .value (.func 27), args := #[.tmp 52, .tmp 56], argTypes := #[48, 48] }, 4, "snapshot.go:55", #[⟨10, .data⟩, ⟨14, .data⟩, ⟨5, .chain⟩, ⟨5, .guard⟩], some (5, true)⟩) rfl (by kernel_rfl) (by kernel_rfl) ?_
       first | (refine ⟨?_, (fx_call (by rfl) (fun W hSW K hK => ?hy6_15)), ?_⟩; case hy6_15 => (go_simp; go_at_call 27; (with_reducible refine (HSM.out W hSW).mono ?_); rintro e w1 ⟨rfl, he1⟩; exact hK.out _ (hSW.trans he1))) | (refine ⟨undef, fx_skip (by rfl), ?_⟩)
       try simp only [lays]
       (refine pr 16 (oi := ⟨some 58, .pick (.tmp 47) (.tmp 57) (.const (.bool false)), 4, "snapshot.go:55", #[⟨5, .data⟩, ⟨15, .data⟩], none⟩) (v := ?_) rfl (by kernel_rfl) (by rfl) ?h ?_; case h => (intro W hSW; go_simp <;> with_reducible rfl))
       try simp only [lays]
       refine Plan.done (by kernel_rfl) (fun W hSW => ?_)
       have HDF := Lib.hid (HST.out.ext hSW)
       have HCF := Lib.hid (show D.map SgR.V = canonO ltSv ((AL.take (i + 1)).map SgR.V) from by
        rw [HTK.out, canonO_snoc, ← HCA.out, insO_eq T.V (D.map SgR.V) k (by rw [List.length_map, HST.out.row.len]; exact hk2) (fun j hj hl => by rw [List.getElem_map, nthG_eq]; exact HBEF.out j hj) (by rw [List.getElem_map, nthG_eq, HYE.out]; exact HB.out) (by rw [List.getElem_map, nthG_eq, HYE.out]; exact HY.out)])
       clear hSW HZ HSM
       go_wp2_with fail
       go_roundw
       case rel => exact ⟨i + 1, _, n, c, D, by go_num, hlt, by omega, HDF, HCF⟩
       case measure => simp [intOf]; omega
      | false =>
       rw [hyt] at HSM
       have HAT := Lib.hid (show ∀ (h : k < (D.map SgR.V).length), ltSv (D.map SgR.V)[k] T.V = false ∧ (D.map SgR.V)[k] ≠ T.V from fun h => by
        rw [List.getElem_map, nthG_eq, HYE.out]; exact ⟨HB.out, by rw [eqSg_V] at hyt; exact of_decide_eq_false hyt⟩)
       clear hyt
       go_wp2_with fail
       refine wp_region_plan (S := fun W => Ext W0 W) (by kernel_rfl) (by kernel_rfl) ((HZ.out.drew')) ?_
       (refine pr 0 (oi := ⟨some 42, .move (.tmp 8), 3, "snapshot.go:55", #[], none⟩) (v := ?_) rfl (by kernel_rfl) (by rfl) ?h ?_; case h => (intro W hSW; go_simp <;> with_reducible rfl))
       try simp only [lays]
       (refine pr 1 (oi := ⟨some 43, .fieldAddr 25 (.tmp 5) 0, 0, "snapshot.go:55", #[], none⟩) (v := ?_) rfl (by kernel_rfl) (by rfl) ?h ?_; case h => (intro W hSW; go_simp <;> with_reducible rfl))
       try simp only [lays]
       (refine pr 2 (oi := ⟨some 44, .load 22 (.tmp 43), 22, "snapshot.go:55", #[⟨1, .data⟩], none⟩) (v := ?_) rfl (by kernel_rfl) (by rfl) ?h ?_; case h => (intro W hSW; have f1 := HCO.out W hSW; go_simp <;> with_reducible rfl))
       try simp only [lays]
       (refine pr 3 (oi := ⟨some 45, .call { callee := .builtin .len, args := #[.tmp 44], argTypes := #[22] }, 3, "snapshot.go:55", #[⟨2, .data⟩], none⟩) (v := ?_) rfl (by kernel_rfl) (by rfl) ?h ?_; case h => (intro W hSW; have f1 := HCO.out W hSW; go_simp <;> with_reducible rfl))
       try simp only [lays]
       (refine pr 4 (oi := ⟨some 46, .binOp .lss 3 (.tmp 42) (.tmp 45) 3, 4, "snapshot.go:55", #[⟨0, .data⟩, ⟨3, .data⟩], none⟩) (v := ?_) rfl (by kernel_rfl) (by rfl) ?h ?_; case h => (intro W hSW; go_simp <;> with_reducible rfl))
       try simp only [lays]
       (refine pr 5 (oi := ⟨some 47, .move (.tmp 46), 4, "snapshot.go:55", #[⟨4, .data⟩], none⟩) (v := ?_) rfl (by kernel_rfl) (by rfl) ?h ?_; case h => (intro W hSW; go_simp <;> with_reducible rfl))
       try simp only [lays]
       refine plan_oi (i := 6) (oi := ⟨some 48, .fieldAddr 25 (.tmp 5) 0, 0, "snapshot.go:55", #[⟨5, .guard⟩], some (5, true)⟩) rfl (by kernel_rfl) (by kernel_rfl) ?_
       first | (refine ⟨?_, (fx_read (Or.inl ⟨by rfl, ?hy7_6⟩)), ?_⟩; case hy7_6 => (intro W hSW; go_simp <;> with_reducible rfl)) | (refine ⟨undef, fx_skip (by rfl), ?_⟩)
       try simp only [lays]
       refine plan_oi (i := 7) (oi := ⟨some 49, .load 22 (.tmp 48), 22, "snapshot.go:55", #[⟨6, .data⟩, ⟨5, .guard⟩], some (5, true)⟩) rfl (by kernel_rfl) (by kernel_rfl) ?_
       first | (refine ⟨?_, (fx_read (Or.inl ⟨by rfl, ?hy7_7⟩)), ?_⟩; case hy7_7 => (intro W hSW; have f1 := HCO.out W hSW; go_simp <;> with_reducible rfl)) | (refine ⟨undef, fx_skip (by rfl), ?_⟩)
       try simp only [lays]
       refine plan_oi (i := 8) (oi := ⟨some 50, .move (.tmp 8), 3, "snapshot.go:55", #[⟨5, .guard⟩], some (5, true)⟩) rfl (by kernel_rfl) (by kernel_rfl) ?_
       first | (refine ⟨?_, (fx_read (Or.inl ⟨by rfl, ?hy7_8⟩)), ?_⟩; case hy7_8 => (intro W hSW; go_simp <;> with_reducible rfl)) | (refine ⟨undef, fx_skip (by rfl), ?_⟩)
       try simp only [lays]
       refine plan_oi (i := 9) (oi := ⟨some 51, .indexAddr 22 (.tmp 49) (.tmp 50), 0, "snapshot.go:55", #[⟨7, .data⟩, ⟨8, .data⟩, ⟨5, .guard⟩], some (5, true)⟩) rfl (by kernel_rfl) (by kernel_rfl) ?_
       first | (refine ⟨?_, (fx_read (Or.inl ⟨by rfl, ?hy7_9⟩)), ?_⟩; case hy7_9 => (intro W hSW; go_simp <;> with_reducible rfl)) | (refine ⟨undef, fx_skip (by rfl), ?_⟩)
       try simp only [lays]
       first | (refine plan_take (i := 10) (oi := ⟨some 52, .load 48 (.tmp 51), 48, "snapshot.go:55", #[⟨9, .data⟩, ⟨5, .guard⟩], some (5, true)⟩) (v := vy) rfl (by kernel_rfl) (by kernel_rfl) (fx_read ?hy7_10) ?_; case hy7_10 => (refine yields_loadSgV ?hw (.tmp 51) rfl g (k * 23) ?hx Y vy Hvy.out (fun W hSW => HRY.out W hSW); (case hw => rfl); (case hx => rfl))) | (refine plan_take (i := 10) (oi := ⟨some 52, .load 48 (.tmp 51), 48, "snapshot.go:55", #[⟨9, .data⟩, ⟨5, .guard⟩], some (5, true)⟩) (v := undef) rfl (by kernel_rfl) (by kernel_rfl) (fx_skip (by rfl)) ?_) | fail "OP10"
       try simp only [lays]
       refine plan_oi (i := 11) (oi := ⟨some 53, .move (.tmp 6), 22, "snapshot.go:55", #[⟨5, .guard⟩], some (5, true)⟩) rfl (by kernel_rfl) (by kernel_rfl) ?_
       first | (refine ⟨?_, (fx_read (Or.inl ⟨by rfl, ?hy7_11⟩)), ?_⟩; case hy7_11 => (intro W hSW; go_simp <;> with_reducible rfl)) | (refine ⟨undef, fx_skip (by rfl), ?_⟩)
       try simp only [lays]
       refine plan_oi (i := 12) (oi := ⟨some 54, .move (.tmp 7), 3, "snapshot.go:55", #[⟨5, .guard⟩], some (5, true)⟩) rfl (by kernel_rfl) (by kernel_rfl) ?_
       first | (refine ⟨?_, (fx_read (Or.inl ⟨by rfl, ?hy7_12⟩)), ?_⟩; case hy7_12 => (intro W hSW; go_simp <;> with_reducible rfl)) | (refine ⟨undef, fx_skip (by rfl), ?_⟩)
       try simp only [lays]
       refine plan_oi (i := 13) (oi := ⟨some 55, .indexAddr 22 (.tmp 53) (.tmp 54), 0, "snapshot.go:55", #[⟨11, .data⟩, ⟨12, .data⟩, ⟨5, .guard⟩], some (5, true)⟩) rfl (by kernel_rfl) (by kernel_rfl) ?_
       first | (refine ⟨?_, (fx_read (Or.inl ⟨by rfl, ?hy7_13⟩)), ?_⟩; case hy7_13 => (intro W hSW; go_simp <;> with_reducible rfl)) | (refine ⟨undef, fx_skip (by rfl), ?_⟩)
       try simp only [lays]
       first | (refine plan_take (i := 14) (oi := ⟨some 56, .load 48 (.tmp 55), 48, "snapshot.go:55", #[⟨13, .data⟩, ⟨5, .guard⟩], some (5, true)⟩) (v := vt) rfl (by kernel_rfl) (by kernel_rfl) (fx_read ?hy7_14) ?_; case hy7_14 => (refine yields_loadSgV ?hw (.tmp 55) rfl b (o + i * 23) ?hx T vt Hvt.out (fun W hSW => HRT.out W hSW); (case hw => rfl); (case hx => rfl))) | (refine plan_take (i := 14) (oi := ⟨some 56, .load 48 (.tmp 55), 48, "snapshot.go:55", #[⟨13, .data⟩, ⟨5, .guard⟩], some (5, true)⟩) (v := undef) rfl (by kernel_rfl) (by kernel_rfl) (fx_skip (by rfl)) ?_) | fail "OP14"
       try simp only [lays]
       refine plan_oi (i := 15) (oi := ⟨some 57, .call { callee := .value (.func 27), args := #[.tmp 52, .tmp 56], argTypes := #[48, 48] }, 4, "snapshot.go:55", #[⟨10, .data⟩, ⟨14, .data⟩, ⟨5, .chain⟩, ⟨5, .guard⟩], some (5, true)⟩) rfl (by kernel_rfl) (by kernel_rfl) ?_
       first | (refine ⟨?_, (fx_call (by rfl) (fun W hSW K hK => ?hy7_15)), ?_⟩; case hy7_15 => (go_simp; go_at_call 27; (with_reducible refine (HSM.out W hSW).mono ?_); rintro e w1 ⟨rfl, he1⟩; exact hK.out _ (hSW.trans he1))) | (refine ⟨undef, fx_skip (by rfl), ?_⟩)
       try simp only [lays]
       (refine pr 16 (oi := ⟨some 58, .pick (.tmp 47) (.tmp 57) (.const (.bool false)), 4, "snapshot.go:55", #[⟨5, .data⟩, ⟨15, .data⟩], none⟩) (v := ?_) rfl (by kernel_rfl) (by rfl) ?h ?_; case h => (intro W hSW; go_simp <;> with_reducible rfl))
       try simp only [lays]
       refine Plan.done (by kernel_rfl) (fun W hSW => ?_)
       have HZW := Lib.hid hSW
       clear hSW HRY HSM HYE HB Hvy
       obtain ⟨Wc, rfl⟩ : ∃ q, q = W := ⟨_, rfl⟩
       obtain ⟨A, hA⟩ : ∃ A, (some ⟨g, 0, none⟩ : Option Addr) = A := ⟨_, rfl⟩
       rw [hA] at HST HCO ⊢
       clear hA
       obtain ⟨Tv, Ta, Tn, Tc, Tl⟩ := T
       obtain ⟨vq, hvq⟩ : ∃ v, Value.agg (vtA Tv) = v := ⟨_, rfl⟩
       have HVQ := Lib.hid hvq
       have HWF := Lib.hid (show Tv.wf from (HOS.out W0 (Ext.refl _)).v)
       have HCT := Lib.hid (fun (W : World) (he : Ext W0 W) => show W.cell? ⟨b, o + i * 23 + 22, none⟩ = some (.slice Ta Tn Tc) from HRT.out W he 22 _ rfl)
       have HOT := Lib.hid (fun (W : World) (he : Ext W0 W) => show SlB W Ta Tn Tc Tl from (HOS.out W he).sig)
       have HSZ := Lib.hid (show w.heap.size + 4 ≤ Wc.heap.size from Nat.le_trans HST.out.big HZW.out.size)
       clear hvq HOS Hvt HCO
       have hkc : k ≤ c := Nat.le_trans hkn (HST.out.row.sl).le
       have HD := Lib.hid (HST.out.ext HZW.out)
       have hcapk := HST.out.row.sl.cap
       clear HZ
       have f1 : Wc.cell? ⟨w.heap.size + 3, 0, none⟩ = some (.slice A n c) := HD.out.bo.cell 0
       have f1a := fun W (he : Ext Wc W) => (HD.out.bo.ext he).cell 0
       have f2 : (Wc.alloc (.cells #[] 48)).cell? ⟨w.heap.size + 3, 0, none⟩ = some (.slice A n c) := (HD.out.bo.alloc _).cell 0
       go_wp2_with (at_builtin; go_must (refine wpList_appGG sgE rfl (.tmp 59) (.tmp 63) rfl Wc.heap.size (some ⟨Wc.heap.size, 0, none⟩) 0 0 [] rfl ?r0q10 A k c (gcs (D.take k)) rfl ?r1q10 ?l1q10 (gcs_cell _) (by omega) (by omega) ?b1q10 ?_))
       case r0q10 => exact own_zero Wc 48 23
       case r1q10 => exact ((HD.out.row.sl.ext ((Ext.refl Wc).alloc' _)).upto (k := k) (c' := c) hkn hkc hcapk).rd
       case l1q10 => rw [gcs_length, List.length_take, HST.out.row.len, Nat.min_eq_left hkn]; rfl
       intro A9 c9 w9 ho9 hg9
       have HE9 := Lib.hid (show Ext Wc w9 from Below.grown ((Ext.refl Wc).alloc' (.cells #[] 48)) hg9 (by simp) (fun q hq => by simp [Value.ownBlock] at hq; omega))
       have HO9 := Lib.hid (show w9.ownsRow Wc.heap.size 48 23 (.slice A9 k c9) k (gcs (D.take k)) from by simpa only [Nat.zero_add, List.nil_append] using ho9)
       clear ho9 hg9 f1 f2 f1a
       have HCX := Lib.hid (fun (W : World) (he : Ext Wc W) => HCT.out W (HZW.out.trans he))
       have HRV := Lib.hid (fun (W : World) (he : Ext Wc W) => (rangeAt_take (k := 22) (HRT.out W (HZW.out.trans he)) : W.rangeAt b (o + i * 23) (vtL Tv)))
       have HOK := Lib.hid (fun (W : World) (he : Ext Wc W) => HOT.out W (HZW.out.trans he))
       go_upto_region 11 with (fail)
       have HE := Lib.hid (HE9.out.drew')
       have HO9 := Lib.hid (own_ext HO9.out (Ext.refl w9).drew')
       clear HE9
       refine wp_region_held_drew (S := fun W => Ext Wc W) (by kernel_rfl) (HE.out) (fun hHeld => ?_)
       (refine Go.Proofs.YtbfepgjeecndiaaGreat.wr 0 (oi := ⟨some 65, .move (.tmp 9), 22, "snapshot.go:59", #[], none⟩) (v := ?_) rfl (by kernel_rfl) (by rfl) (fun _ _ _ h => h) ?h hHeld ?_; case h => (intro W hSW; go_simp <;> with_reducible rfl))
       try simp only [lays]
       (refine Go.Proofs.YtbfepgjeecndiaaGreat.wr 1 (oi := ⟨some 66, .move (.tmp 6), 22, "snapshot.go:59", #[], none⟩) (v := ?_) rfl (by kernel_rfl) (by rfl) (fun _ _ _ h => h) ?h hHeld ?_; case h => (intro W hSW; go_simp <;> with_reducible rfl))
       try simp only [lays]
       (refine Go.Proofs.YtbfepgjeecndiaaGreat.wr 2 (oi := ⟨some 67, .move (.tmp 7), 3, "snapshot.go:59", #[], none⟩) (v := ?_) rfl (by kernel_rfl) (by rfl) (fun _ _ _ h => h) ?h hHeld ?_; case h => (intro W hSW; go_simp <;> with_reducible rfl))
       try simp only [lays]
       (refine Go.Proofs.YtbfepgjeecndiaaGreat.wr 3 (oi := ⟨some 68, .indexAddr 22 (.tmp 66) (.tmp 67), 0, "snapshot.go:59", #[⟨1, .data⟩, ⟨2, .data⟩], none⟩) (v := ?_) rfl (by kernel_rfl) (by rfl) (fun _ _ _ h => h) ?h hHeld ?_; case h => (intro W hSW; go_simp <;> with_reducible rfl))
       try simp only [lays]
       (refine Go.Proofs.YtbfepgjeecndiaaGreat.wr 4 (oi := ⟨some 69, .fieldAddr 48 (.tmp 68) 0, 0, "snapshot.go:59", #[⟨3, .data⟩], none⟩) (v := ?_) rfl (by kernel_rfl) (by rfl) (fun _ _ _ h => h) ?h hHeld ?_; case h => (intro W hSW; go_simp <;> with_reducible rfl))
       try simp only [lays]
       (refine wpAnyH_take (i := 5) (oi := ⟨some 70, .load 46 (.tmp 69), 46, "snapshot.go:59", #[⟨4, .data⟩], none⟩) (v := vq) rfl (by kernel_rfl) (by kernel_rfl) (by kernel_rfl) (fun _ _ _ h => h) ?hy2_5_l11 hHeld ?_; case hy2_5_l11 => (refine yields_loadVtV ?hw (.tmp 69) rfl b (o + i * 23) ?hx Tv vq HVQ.out (fun W hSW => HRV.out W hSW); (case hw => rfl); (case hx => rfl)))
       try simp only [lays]
       (refine Go.Proofs.YtbfepgjeecndiaaGreat.wr 7 (oi := ⟨some 72, .move (.tmp 6), 22, "snapshot.go:59", #[], none⟩) (v := ?_) rfl (by kernel_rfl) (by rfl) (fun _ _ _ h => h) ?h hHeld ?_; case h => (intro W hSW; go_simp <;> with_reducible rfl))
       try simp only [lays]
       (refine Go.Proofs.YtbfepgjeecndiaaGreat.wr 8 (oi := ⟨some 73, .move (.tmp 7), 3, "snapshot.go:59", #[], none⟩) (v := ?_) rfl (by kernel_rfl) (by rfl) (fun _ _ _ h => h) ?h hHeld ?_; case h => (intro W hSW; go_simp <;> with_reducible rfl))
       try simp only [lays]
       (refine Go.Proofs.YtbfepgjeecndiaaGreat.wr 9 (oi := ⟨some 74, .indexAddr 22 (.tmp 72) (.tmp 73), 0, "snapshot.go:59", #[⟨7, .data⟩, ⟨8, .data⟩], none⟩) (v := ?_) rfl (by kernel_rfl) (by rfl) (fun _ _ _ h => h) ?h hHeld ?_; case h => (intro W hSW; go_simp <;> with_reducible rfl))
       try simp only [lays]
       (refine Go.Proofs.YtbfepgjeecndiaaGreat.wr 10 (oi := ⟨some 75, .fieldAddr 48 (.tmp 74) 1, 0, "snapshot.go:59", #[⟨9, .data⟩], none⟩) (v := ?_) rfl (by kernel_rfl) (by rfl) (fun _ _ _ h => h) ?h hHeld ?_; case h => (intro W hSW; go_simp <;> with_reducible rfl))
       try simp only [lays]
       (refine Go.Proofs.YtbfepgjeecndiaaGreat.wr 11 (oi := ⟨some 76, .load 28 (.tmp 75), 28, "snapshot.go:59", #[⟨10, .data⟩], none⟩) (v := ?_) rfl (by kernel_rfl) (by rfl) (fun _ _ _ h => h) ?h hHeld ?_; case h => (intro W hSW; have f1 := HCX.out W hSW; go_simp <;> with_reducible rfl))
       try simp only [lays]
       refine wpAnyH_ready (rs := [6]) (by kernel_rfl) (by simp) ?_
       refine (AllReadyH.cons (o := ⟨some 71, .buildSlice 28 0 #[], 28, "snapshot.go:59", #[], none⟩) rfl (fun K hK => ?_) AllReadyH.nil)
       (refine step_build0 1 run_buildY0 rfl (by rfl) ?_; intro g6 W6 h6; have HG6 := Lib.hid (Nat.le_trans HE.out.size h6.out.2.2.1); have HO9 := Lib.hid (own_ext HO9.out h6.out.2.1); have HE := Lib.hid (HE.out.trans h6.out.2.1); have HO6 := Lib.hid h6.out.1; have HGL := Lib.hid h6.out.2.2.2; clear h6)
       refine hK.out _ _ (HE.out) (fun hHeld => ?_)
       clear hK K
       try simp only [lays]
       refine wpAnyH_ready (rs := [12]) (by kernel_rfl) (by simp) ?_
       refine (AllReadyH.cons (o := ⟨some 77, .call { callee := .builtin .append, args := #[.tmp 71, .tmp 76], argTypes := #[28, 28] }, 28, "snapshot.go:59", #[⟨6, .data⟩, ⟨11, .data⟩], none⟩) rfl (fun K hK => ?_) AllReadyH.nil)
       (refine step_appBG bytesE rfl (.tmp 71) (.tmp 76) rfl g6 (some ⟨g6, 0, none⟩) 0 0 [] (by rfl) HO6.out Ta Tn Tc Tl (by rfl) (HOK.out _ HE.out) (by omega) (Nat.le_of_lt HGL.out) ?_; intro A7 c7 w7 ho hg; simp only [Nat.zero_add, List.nil_append] at ho ⊢; have HO9 := Lib.hid (World.ownsRow.kept HO9.out hg (own_ne HO9.out HO6.out (by decide))); have HE := Lib.hid (show Ext _ _ from Below.grown HE.out hg HE.out.size (fun q hq => Nat.le_trans HG6.out (World.ownsRow.lt HO6.out q hq).1)); have HT7 := Lib.hid (show OwnB w7 Wc.heap.size 5 A7 Tn c7 Tl from own_mono ho HG6.out); obtain ⟨S7, hS7⟩ : ∃ S, (⟨Tv, A7, Tn, c7, Tl⟩ : SgR) = S := ⟨_, rfl⟩; obtain ⟨v7, hv7⟩ : ∃ v, Value.agg (sgA S7) = v := ⟨_, rfl⟩; have HV7 := Lib.hid hv7; have HS7 := Lib.hid hS7; clear ho hg hv7 hS7)
       refine hK.out _ _ (HE.out) (fun hHeld => ?_)
       clear hK K
       try simp only [lays]
       (refine wpAnyH_take (i := 13) (oi := ⟨some 78, .build 48 #[(0, .tmp 70), (1, .tmp 77)], 48, "snapshot.go:59", #[⟨5, .data⟩, ⟨12, .data⟩], none⟩) (v := v7) rfl (by kernel_rfl) (by kernel_rfl) (by kernel_rfl) (fun _ _ _ h => h) ?hy2_13_l35 hHeld ?_; case hy2_13_l35 => (refine yields_buildSgV ?hw (.tmp 70) (.tmp 77) rfl Tv A7 Tn c7 Tl vq v7 HVQ.out (by rw [HS7.out]; exact HV7.out) ?hx ?hy; (case hw => rfl); (case hx => rfl); (case hy => rfl)))
       try simp only [lays]
       refine wpAnyH_ready (rs := [14]) (by kernel_rfl) (by simp) ?_
       refine (AllReadyH.cons (o := ⟨some 79, .buildSlice 22 1 #[(0, .tmp 78)], 22, "snapshot.go:59", #[⟨13, .data⟩], none⟩) rfl (fun K hK => ?_) AllReadyH.nil)
       (refine step_buildSg rfl (.tmp 78) (by rfl) S7 v7 HV7.out (by rfl) ?_; intro W8 hW8; have HR8 := Lib.hid (show Rd W8 (some ⟨w7.heap.size, 0, none⟩) (sgL S7) from by rw [← hW8.out]; exact Rd.of_blk (Blk.new w7 48 (sgA S7))); have HX8 := Lib.hid (show Ext w7 W8 from by rw [← hW8.out]; exact (Ext.refl w7).alloc' _); have HO9 := Lib.hid (own_ext HO9.out HX8.out); have HT7 := Lib.hid (OwnB.ext HT7.out HX8.out); have HE := Lib.hid (HE.out.trans HX8.out); clear hW8 HX8)
       refine hK.out _ _ (HE.out) (fun hHeld => ?_)
       clear hK K
       try simp only [lays]
       refine wpAnyH_ready (rs := [15]) (by kernel_rfl) (by simp) ?_
       refine (AllReadyH.cons (o := ⟨some 80, .call { callee := .builtin .append, args := #[.tmp 65, .tmp 79], argTypes := #[22, 22] }, 22, "snapshot.go:59", #[⟨0, .data⟩, ⟨14, .data⟩, ⟨12, .chain⟩], none⟩) rfl (fun K hK => ?_) AllReadyH.nil)
       (refine step_appG' sgE rfl (.tmp 65) (.tmp 79) rfl Wc.heap.size A9 k c9 (gcs (D.take k)) (by rfl) HO9.out (some ⟨w7.heap.size, 0, none⟩) 1 1 (sgL S7) (by rfl) HR8.out (by rfl) (sgL_one _) (by omega) (by omega) HE.out.size ?_; intro A11 c11 w11 ho hg; have HT7 := Lib.hid (show OwnB w11 Wc.heap.size 5 A7 Tn c7 Tl from World.ownsRow.kept HT7.out hg (own_ne HT7.out HO9.out (by decide))); have HE := Lib.hid (show Ext _ _ from Below.grown HE.out hg HE.out.size (fun q hq => (World.ownsRow.lt HO9.out q hq).1)); have HO11 := Lib.hid ho; clear ho hg)
       refine hK.out _ _ (HE.out) (fun hHeld => ?_)
       clear hK K
       try simp only [lays]
       (refine Go.Proofs.YtbfepgjeecndiaaGreat.wr 16 (oi := ⟨some 9, .assign (.tmp 80), 22, "snapshot.go:59", #[⟨15, .data⟩, ⟨15, .chain⟩, ⟨0, .phase⟩, ⟨1, .phase⟩, ⟨2, .phase⟩, ⟨3, .phase⟩, ⟨4, .phase⟩, ⟨5, .phase⟩, ⟨6, .phase⟩, ⟨7, .phase⟩, ⟨8, .phase⟩, ⟨9, .phase⟩, ⟨10, .phase⟩, ⟨11, .phase⟩, ⟨12, .phase⟩, ⟨13, .phase⟩, ⟨14, .phase⟩, ⟨15, .phase⟩], none⟩) (v := ?_) rfl (by kernel_rfl) (by rfl) (fun _ _ _ h => h) ?h hHeld ?_; case h => (intro W hSW; go_simp <;> with_reducible rfl))
       try simp only [lays]
       refine wpAnyH_done (by kernel_rfl) ?_ _
       have f3 : w11.cell? ⟨w.heap.size + 3, 0, none⟩ = some (.slice A n c) := (HD.out.bo.ext HE.out).cell 0
       have hHW := Lib.hid hHeld
       clear hHeld HR8 HO9 HCX HRV HOK
       have HDW := Lib.hid (HD.out.ext HE.out)
       by_cases hck : c = k
       ·exact absurd hck (by have := HST.out.row.sl.le; omega)
       ·have hck' : k < c := by omega
        have HCUT := Lib.hid (HDW.out.row.sl.cut (k := k) hkn hck')
        go_wp2_with (at_builtin; go_must (refine wpList_appGG sgE rfl (.tmp 81) (.tmp 85) rfl Wc.heap.size A11 (k + 1) c11 (gcs (D.take k) ++ sgL S7) rfl HO11.out (A.map (·.add (k * 23))) (n - k) (c - k) (gcs (D.drop k)) (by simp [Act.eval]) ?r1q30 ?l1q30 (gcs_cell _) (by omega) (by omega) HE.out.size ?_))
        case r1q30 => exact HCUT.out.rd
        case l1q30 => rw [gcs_length, List.length_drop, HST.out.row.len]; rfl
        intro A12 c12 w12 ho12 hg12
        have HO12 := Lib.hid (show w12.ownsRow Wc.heap.size 48 23 (.slice A12 (n + 1) c12) (n + 1) (gcs (D.take k ++ S7 :: D.drop k)) from by
         have := ho12
         have h2 : RowT.enc S7 = sgL S7 := rfl
         rw [gcs_append, gcs_cons, h2]
         rw [show k + 1 + (n - k) = n + 1 from by omega] at this
         simpa using this)
        have hkn1 : k + 1 + (n - k) = n + 1 := by omega
        have HE12 := Lib.hid (show Ext Wc w12 from Below.grown HE.out hg12 HE.out.size (fun q hq => (World.ownsRow.lt HO11.out q hq).1))
        have HT12 := Lib.hid (show OwnB w12 Wc.heap.size 5 A7 Tn c7 Tl from World.ownsRow.kept HT7.out hg12 (own_ne HT7.out HO11.out (by decide)))
        have HRW2 := Lib.hid (show RwS w12 (w.heap.size + 4) A12 (n + 1) c12 (D.take k ++ S7 :: D.drop k) from ⟨own_mono HO12.out HSZ.out, fun Q hQ => by
         rcases List.mem_append.1 hQ with hQ | hQ
         ·exact ⟨OwnB.ext (HD.out.row.sig Q (List.mem_of_mem_take hQ)).1 HE12.out, (HD.out.row.sig Q (List.mem_of_mem_take hQ)).2⟩
         ·rcases List.mem_cons.1 hQ with rfl | hQ
          ·rw [← HS7.out]; exact ⟨own_mono HT12.out HSZ.out, HWF.out⟩
          ·exact ⟨OwnB.ext (HD.out.row.sig Q (List.mem_of_mem_drop hQ)).1 HE12.out, (HD.out.row.sig Q (List.mem_of_mem_drop hQ)).2⟩⟩)
        have HCA2 := Lib.hid (show (D.take k ++ S7 :: D.drop k).map SgR.V = canonO ltSv ((AL.take (i + 1)).map SgR.V) from by
         rw [HTK.out, canonO_snoc, ← HCA.out, insO_at (SgR.V ⟨Tv, Ta, Tn, Tc, Tl⟩) (D.map SgR.V) k (by rw [List.length_map, HST.out.row.len]; first | exact hkn | exact Nat.le_refl _) (fun j hj hl => by rw [List.getElem_map, nthG_eq]; exact HBEF.out j hj) HAT.out]
         rw [List.map_append, List.map_cons, List.map_take, List.map_drop, ← HS7.out]; rfl)
        have hb12 := HD.out.bo.ext HE12.out
        have q12 : w12.cell? ⟨w.heap.size + 3, 0, none⟩ = some (.slice A n c) := hb12.cell 0
        have p12 := hb12.frozen 0
        have HPU := Lib.hid (fun (v : Value) (hv : v = .slice A12 (n + 1) c12) => (HD.out.put HE12.out HRW2.out v hv))
        clear ho12 hg12 HO12 HT7 HT12 HD HDW HE HE12 hb12 HST
        go_wp2_with fail
        go_roundw
        case rel => exact ⟨i + 1, A12, n + 1, c12, _, by go_num, hlt, by omega, Lib.hid (HPU.out _ (by first | rfl | (rw [hkn1]))), HCA2⟩
        case measure => simp [intOf]; omega
    ·have hken : k = n := by omega
     have i2 : ¬ (k : Int) < (n : Int) := by omega
     have HAT := Lib.hid (show ∀ (h : k < (D.map SgR.V).length), ltSv (D.map SgR.V)[k] T.V = false ∧ (D.map SgR.V)[k] ≠ T.V from fun h => absurd h (by rw [List.length_map, HST.out.row.len]; omega))
     clear hken
     go_wp2_with fail
     refine wp_region_plan (S := fun W => Ext W0 W) (by kernel_rfl) (by kernel_rfl) ((HZ.out.drew')) ?_
     (refine pr 0 (oi := ⟨some 23, .move (.tmp 8), 3, "snapshot.go:52", #[], none⟩) (v := ?_) rfl (by kernel_rfl) (by rfl) ?h ?_; case h => (intro W hSW; go_simp <;> with_reducible rfl))
     try simp only [lays]
     (refine pr 1 (oi := ⟨some 24, .fieldAddr 25 (.tmp 5) 0, 0, "snapshot.go:52", #[], none⟩) (v := ?_) rfl (by kernel_rfl) (by rfl) ?h ?_; case h => (intro W hSW; go_simp <;> with_reducible rfl))
     try simp only [lays]
     (refine pr 2 (oi := ⟨some 25, .load 22 (.tmp 24), 22, "snapshot.go:52", #[⟨1, .data⟩], none⟩) (v := ?_) rfl (by kernel_rfl) (by rfl) ?h ?_; case h => (intro W hSW; have f1 := HCO.out W hSW; go_simp <;> with_reducible rfl))
     try simp only [lays]
     (refine pr 3 (oi := ⟨some 26, .call { callee := .builtin .len, args := #[.tmp 25], argTypes := #[22] }, 3, "snapshot.go:52", #[⟨2, .data⟩], none⟩) (v := ?_) rfl (by kernel_rfl) (by rfl) ?h ?_; case h => (intro W hSW; have f1 := HCO.out W hSW; go_simp <;> with_reducible rfl))
     try simp only [lays]
     (refine pr 4 (oi := ⟨some 27, .binOp .lss 3 (.tmp 23) (.tmp 26) 3, 4, "snapshot.go:52", #[⟨0, .data⟩, ⟨3, .data⟩], none⟩) (v := ?_) rfl (by kernel_rfl) (by rfl) ?h ?_; case h => (intro W hSW; go_simp <;> with_reducible rfl))
     try simp only [lays]
     (refine pr 5 (oi := ⟨some 28, .move (.tmp 27), 4, "snapshot.go:52", #[⟨4, .data⟩], none⟩) (v := ?_) rfl (by kernel_rfl) (by rfl) ?h ?_; case h => (intro W hSW; go_simp <;> with_reducible rfl))
     try simp only [lays]
     refine plan_oi (i := 6) (oi := ⟨some 29, .fieldAddr 25 (.tmp 5) 0, 0, "snapshot.go:52", #[⟨5, .guard⟩], some (5, true)⟩) rfl (by kernel_rfl) (by kernel_rfl) ?_
     first | (refine ⟨?_, (fx_read (Or.inl ⟨by rfl, ?hy8_6⟩)), ?_⟩; case hy8_6 => (intro W hSW; go_simp <;> with_reducible rfl)) | (refine ⟨undef, fx_skip (by rfl), ?_⟩)
     try simp only [lays]
     refine plan_oi (i := 7) (oi := ⟨some 30, .load 22 (.tmp 29), 22, "snapshot.go:52", #[⟨6, .data⟩, ⟨5, .guard⟩], some (5, true)⟩) rfl (by kernel_rfl) (by kernel_rfl) ?_
     first | (refine ⟨?_, (fx_read (Or.inl ⟨by rfl, ?hy8_7⟩)), ?_⟩; case hy8_7 => (intro W hSW; have f1 := HCO.out W hSW; go_simp <;> with_reducible rfl)) | (refine ⟨undef, fx_skip (by rfl), ?_⟩)
     try simp only [lays]
     refine plan_oi (i := 8) (oi := ⟨some 31, .move (.tmp 8), 3, "snapshot.go:52", #[⟨5, .guard⟩], some (5, true)⟩) rfl (by kernel_rfl) (by kernel_rfl) ?_
     first | (refine ⟨?_, (fx_read (Or.inl ⟨by rfl, ?hy8_8⟩)), ?_⟩; case hy8_8 => (intro W hSW; go_simp <;> with_reducible rfl)) | (refine ⟨undef, fx_skip (by rfl), ?_⟩)
     try simp only [lays]
     refine plan_oi (i := 9) (oi := ⟨some 32, .indexAddr 22 (.tmp 30) (.tmp 31), 0, "snapshot.go:52", #[⟨7, .data⟩, ⟨8, .data⟩, ⟨5, .guard⟩], some (5, true)⟩) rfl (by kernel_rfl) (by kernel_rfl) ?_
     first | (refine ⟨?_, (fx_read (Or.inl ⟨by rfl, ?hy8_9⟩)), ?_⟩; case hy8_9 => (intro W hSW; go_simp <;> with_reducible rfl)) | (refine ⟨undef, fx_skip (by rfl), ?_⟩)
     try simp only [lays]
     refine plan_oi (i := 10) (oi := ⟨some 33, .load 48 (.tmp 32), 48, "snapshot.go:52", #[⟨9, .data⟩, ⟨5, .guard⟩], some (5, true)⟩) rfl (by kernel_rfl) (by kernel_rfl) ?_
     first | (refine ⟨?_, (fx_read (Or.inl ⟨by rfl, ?hy8_10⟩)), ?_⟩; case hy8_10 => (intro W hSW; have f1 := HCO.out W hSW; go_simp <;> with_reducible rfl)) | (refine ⟨undef, fx_skip (by rfl), ?_⟩)
     try simp only [lays]
     refine plan_oi (i := 11) (oi := ⟨some 34, .move (.tmp 6), 22, "snapshot.go:52", #[⟨5, .guard⟩], some (5, true)⟩) rfl (by kernel_rfl) (by kernel_rfl) ?_
     first | (refine ⟨?_, (fx_read (Or.inl ⟨by rfl, ?hy8_11⟩)), ?_⟩; case hy8_11 => (intro W hSW; go_simp <;> with_reducible rfl)) | (refine ⟨undef, fx_skip (by rfl), ?_⟩)
     try simp only [lays]
     refine plan_oi (i := 12) (oi := ⟨some 35, .move (.tmp 7), 3, "snapshot.go:52", #[⟨5, .guard⟩], some (5, true)⟩) rfl (by kernel_rfl) (by kernel_rfl) ?_
     first | (refine ⟨?_, (fx_read (Or.inl ⟨by rfl, ?hy8_12⟩)), ?_⟩; case hy8_12 => (intro W hSW; go_simp <;> with_reducible rfl)) | (refine ⟨undef, fx_skip (by rfl), ?_⟩)
     try simp only [lays]
     refine plan_oi (i := 13) (oi := ⟨some 36, .indexAddr 22 (.tmp 34) (.tmp 35), 0, "snapshot.go:52", #[⟨11, .data⟩, ⟨12, .data⟩, ⟨5, .guard⟩], some (5, true)⟩) rfl (by kernel_rfl) (by kernel_rfl) ?_
     first | (refine ⟨?_, (fx_read (Or.inl ⟨by rfl, ?hy8_13⟩)), ?_⟩; case hy8_13 => (intro W hSW; go_simp <;> with_reducible rfl)) | (refine ⟨undef, fx_skip (by rfl), ?_⟩)
     try simp only [lays]
     refine plan_oi (i := 14) (oi := ⟨some 37, .load 48 (.tmp 36), 48, "snapshot.go:52", #[⟨13, .data⟩, ⟨5, .guard⟩], some (5, true)⟩) rfl (by kernel_rfl) (by kernel_rfl) ?_
     first | (refine ⟨?_, (fx_read (Or.inl ⟨by rfl, ?hy8_14⟩)), ?_⟩; case hy8_14 => (intro W hSW; have f1 := HCO.out W hSW; go_simp <;> with_reducible rfl)) | (refine ⟨undef, fx_skip (by rfl), ?_⟩)
     try simp only [lays]
     refine plan_oi (i := 15) (oi := ⟨some 38, .call { callee := .value (.func 45), args := #[.tmp 33, .tmp 37], argTypes := #[48, 48] }, 4, "snapshot.go:52", #[⟨10, .data⟩, ⟨14, .data⟩, ⟨5, .chain⟩, ⟨5, .guard⟩], some (5, true)⟩) rfl (by kernel_rfl) (by kernel_rfl) ?_
     first | (refine ⟨?_, (fx_call (by rfl) (fun W hSW K hK => ?hy8_15)), ?_⟩; case hy8_15 => (go_simp; go_at_call 45; (with_reducible refine (HLS.out W hSW).mono ?_); rintro e w1 ⟨rfl, he1⟩; exact hK.out _ (hSW.trans he1))) | (refine ⟨undef, fx_skip (by rfl), ?_⟩)
     try simp only [lays]
     (refine pr 16 (oi := ⟨some 39, .pick (.tmp 28) (.tmp 38) (.const (.bool false)), 4, "snapshot.go:52", #[⟨5, .data⟩, ⟨15, .data⟩], none⟩) (v := ?_) rfl (by kernel_rfl) (by rfl) ?h ?_; case h => (intro W hSW; go_simp <;> with_reducible rfl))
     try simp only [lays]
     refine Plan.done (by kernel_rfl) (fun W hSW => ?_)
     have HZ2 := Lib.hid hSW
     clear HZ hSW
     have HZ := HZ2
     clear HZ2
     obtain ⟨wr, rfl⟩ : ∃ q, q = W := ⟨_, rfl⟩
     go_wp2_with fail
     refine wp_region_plan (S := fun W => Ext W0 W) (by kernel_rfl) (by kernel_rfl) ((HZ.out.drew')) ?_
     (refine pr 0 (oi := ⟨some 42, .move (.tmp 8), 3, "snapshot.go:55", #[], none⟩) (v := ?_) rfl (by kernel_rfl) (by rfl) ?h ?_; case h => (intro W hSW; go_simp <;> with_reducible rfl))
     try simp only [lays]
     (refine pr 1 (oi := ⟨some 43, .fieldAddr 25 (.tmp 5) 0, 0, "snapshot.go:55", #[], none⟩) (v := ?_) rfl (by kernel_rfl) (by rfl) ?h ?_; case h => (intro W hSW; go_simp <;> with_reducible rfl))
     try simp only [lays]
     (refine pr 2 (oi := ⟨some 44, .load 22 (.tmp 43), 22, "snapshot.go:55", #[⟨1, .data⟩], none⟩) (v := ?_) rfl (by kernel_rfl) (by rfl) ?h ?_; case h => (intro W hSW; have f1 := HCO.out W hSW; go_simp <;> with_reducible rfl))
     try simp only [lays]
     (refine pr 3 (oi := ⟨some 45, .call { callee := .builtin .len, args := #[.tmp 44], argTypes := #[22] }, 3, "snapshot.go:55", #[⟨2, .data⟩], none⟩) (v := ?_) rfl (by kernel_rfl) (by rfl) ?h ?_; case h => (intro W hSW; have f1 := HCO.out W hSW; go_simp <;> with_reducible rfl))
     try simp only [lays]
     (refine pr 4 (oi := ⟨some 46, .binOp .lss 3 (.tmp 42) (.tmp 45) 3, 4, "snapshot.go:55", #[⟨0, .data⟩, ⟨3, .data⟩], none⟩) (v := ?_) rfl (by kernel_rfl) (by rfl) ?h ?_; case h => (intro W hSW; go_simp <;> with_reducible rfl))
     try simp only [lays]
     (refine pr 5 (oi := ⟨some 47, .move (.tmp 46), 4, "snapshot.go:55", #[⟨4, .data⟩], none⟩) (v := ?_) rfl (by kernel_rfl) (by rfl) ?h ?_; case h => (intro W hSW; go_simp <;> with_reducible rfl))
     try simp only [lays]
     refine plan_oi (i := 6) (oi := ⟨some 48, .fieldAddr 25 (.tmp 5) 0, 0, "snapshot.go:55", #[⟨5, .guard⟩], some (5, true)⟩) rfl (by kernel_rfl) (by kernel_rfl) ?_
     first | (refine ⟨?_, (fx_read (Or.inl ⟨by rfl, ?hy9_6⟩)), ?_⟩; case hy9_6 => (intro W hSW; go_simp <;> with_reducible rfl)) | (refine ⟨undef, fx_skip (by rfl), ?_⟩)
     try simp only [lays]
     refine plan_oi (i := 7) (oi := ⟨some 49, .load 22 (.tmp 48), 22, "snapshot.go:55", #[⟨6, .data⟩, ⟨5, .guard⟩], some (5, true)⟩) rfl (by kernel_rfl) (by kernel_rfl) ?_
     first | (refine ⟨?_, (fx_read (Or.inl ⟨by rfl, ?hy9_7⟩)), ?_⟩; case hy9_7 => (intro W hSW; have f1 := HCO.out W hSW; go_simp <;> with_reducible rfl)) | (refine ⟨undef, fx_skip (by rfl), ?_⟩)
     try simp only [lays]
     refine plan_oi (i := 8) (oi := ⟨some 50, .move (.tmp 8), 3, "snapshot.go:55", #[⟨5, .guard⟩], some (5, true)⟩) rfl (by kernel_rfl) (by kernel_rfl) ?_
     first | (refine ⟨?_, (fx_read (Or.inl ⟨by rfl, ?hy9_8⟩)), ?_⟩; case hy9_8 => (intro W hSW; go_simp <;> with_reducible rfl)) | (refine ⟨undef, fx_skip (by rfl), ?_⟩)
     try simp only [lays]
     refine plan_oi (i := 9) (oi := ⟨some 51, .indexAddr 22 (.tmp 49) (.tmp 50), 0, "snapshot.go:55", #[⟨7, .data⟩, ⟨8, .data⟩, ⟨5, .guard⟩], some (5, true)⟩) rfl (by kernel_rfl) (by kernel_rfl) ?_
     first | (refine ⟨?_, (fx_read (Or.inl ⟨by rfl, ?hy9_9⟩)), ?_⟩; case hy9_9 => (intro W hSW; go_simp <;> with_reducible rfl)) | (refine ⟨undef, fx_skip (by rfl), ?_⟩)
     try simp only [lays]
     refine plan_oi (i := 10) (oi := ⟨some 52, .load 48 (.tmp 51), 48, "snapshot.go:55", #[⟨9, .data⟩, ⟨5, .guard⟩], some (5, true)⟩) rfl (by kernel_rfl) (by kernel_rfl) ?_
     first | (refine ⟨?_, (fx_read (Or.inl ⟨by rfl, ?hy9_10⟩)), ?_⟩; case hy9_10 => (intro W hSW; have f1 := HCO.out W hSW; go_simp <;> with_reducible rfl)) | (refine ⟨undef, fx_skip (by rfl), ?_⟩)
     try simp only [lays]
     refine plan_oi (i := 11) (oi := ⟨some 53, .move (.tmp 6), 22, "snapshot.go:55", #[⟨5, .guard⟩], some (5, true)⟩) rfl (by kernel_rfl) (by kernel_rfl) ?_
     first | (refine ⟨?_, (fx_read (Or.inl ⟨by rfl, ?hy9_11⟩)), ?_⟩; case hy9_11 => (intro W hSW; go_simp <;> with_reducible rfl)) | (refine ⟨undef, fx_skip (by rfl), ?_⟩)
     try simp only [lays]
     refine plan_oi (i := 12) (oi := ⟨some 54, .move (.tmp 7), 3, "snapshot.go:55", #[⟨5, .guard⟩], some (5, true)⟩) rfl (by kernel_rfl) (by kernel_rfl) ?_
     first | (refine ⟨?_, (fx_read (Or.inl ⟨by rfl, ?hy9_12⟩)), ?_⟩; case hy9_12 => (intro W hSW; go_simp <;> with_reducible rfl)) | (refine ⟨undef, fx_skip (by rfl), ?_⟩)
     try simp only [lays]
     refine plan_oi (i := 13) (oi := ⟨some 55, .indexAddr 22 (.tmp 53) (.tmp 54), 0, "snapshot.go:55", #[⟨11, .data⟩, ⟨12, .data⟩, ⟨5, .guard⟩], some (5, true)⟩) rfl (by kernel_rfl) (by kernel_rfl) ?_
     first | (refine ⟨?_, (fx_read (Or.inl ⟨by rfl, ?hy9_13⟩)), ?_⟩; case hy9_13 => (intro W hSW; go_simp <;> with_reducible rfl)) | (refine ⟨undef, fx_skip (by rfl), ?_⟩)
     try simp only [lays]
     refine plan_oi (i := 14) (oi := ⟨some 56, .load 48 (.tmp 55), 48, "snapshot.go:55", #[⟨13, .data⟩, ⟨5, .guard⟩], some (5, true)⟩) rfl (by kernel_rfl) (by kernel_rfl) ?_
     first | (refine ⟨?_, (fx_read (Or.inl ⟨by rfl, ?hy9_14⟩)), ?_⟩; case hy9_14 => (intro W hSW; have f1 := HCO.out W hSW; go_simp <;> with_reducible rfl)) | (refine ⟨undef, fx_skip (by rfl), ?_⟩)
     try simp only [lays]
     refine plan_oi (i := 15) (oi := ⟨some 57, .call { callee := .value (.func 27), args := #[.tmp 52, .tmp 56], argTypes := #[48, 48] }, 4, "snapshot.go:55", #[⟨10, .data⟩, ⟨14, .data⟩, ⟨5, .chain⟩, ⟨5, .guard⟩], some (5, true)⟩) rfl (by kernel_rfl) (by kernel_rfl) ?_
     first | (refine ⟨?_, (fx_call (by rfl) (fun W hSW K hK => ?hy9_15)), ?_⟩; case hy9_15 => (go_simp; go_at_call 27; (with_reducible refine (HSM.out W hSW).mono ?_); rintro e w1 ⟨rfl, he1⟩; exact hK.out _ (hSW.trans he1))) | (refine ⟨undef, fx_skip (by rfl), ?_⟩)
     try simp only [lays]
     (refine pr 16 (oi := ⟨some 58, .pick (.tmp 47) (.tmp 57) (.const (.bool false)), 4, "snapshot.go:55", #[⟨5, .data⟩, ⟨15, .data⟩], none⟩) (v := ?_) rfl (by kernel_rfl) (by rfl) ?h ?_; case h => (intro W hSW; go_simp <;> with_reducible rfl))
     try simp only [lays]
     refine Plan.done (by kernel_rfl) (fun W hSW => ?_)
     have HZW := Lib.hid hSW
     clear hSW
     obtain ⟨Wc, rfl⟩ : ∃ q, q = W := ⟨_, rfl⟩
     obtain ⟨Tv, Ta, Tn, Tc, Tl⟩ := T
     obtain ⟨vq, hvq⟩ : ∃ v, Value.agg (vtA Tv) = v := ⟨_, rfl⟩
     have HVQ := Lib.hid hvq
     have HWF := Lib.hid (show Tv.wf from (HOS.out W0 (Ext.refl _)).v)
     have HCT := Lib.hid (fun (W : World) (he : Ext W0 W) => show W.cell? ⟨b, o + i * 23 + 22, none⟩ = some (.slice Ta Tn Tc) from HRT.out W he 22 _ rfl)
     have HOT := Lib.hid (fun (W : World) (he : Ext W0 W) => show SlB W Ta Tn Tc Tl from (HOS.out W he).sig)
     have HSZ := Lib.hid (show w.heap.size + 4 ≤ Wc.heap.size from Nat.le_trans HST.out.big HZW.out.size)
     clear hvq HOS Hvt HCO
     have hkc : k ≤ c := Nat.le_trans hkn (HST.out.row.sl).le
     have HD := Lib.hid (HST.out.ext HZW.out)
     have hcapk := HST.out.row.sl.cap
     clear HZ
     have f1 : Wc.cell? ⟨w.heap.size + 3, 0, none⟩ = some (.slice A n c) := HD.out.bo.cell 0
     have f1a := fun W (he : Ext Wc W) => (HD.out.bo.ext he).cell 0
     have f2 : (Wc.alloc (.cells #[] 48)).cell? ⟨w.heap.size + 3, 0, none⟩ = some (.slice A n c) := (HD.out.bo.alloc _).cell 0
     go_wp2_with (at_builtin; go_must (refine wpList_appGG sgE rfl (.tmp 59) (.tmp 63) rfl Wc.heap.size (some ⟨Wc.heap.size, 0, none⟩) 0 0 [] rfl ?r0q11 A k c (gcs (D.take k)) rfl ?r1q11 ?l1q11 (gcs_cell _) (by omega) (by omega) ?b1q11 ?_))
     case r0q11 => exact own_zero Wc 48 23
     case r1q11 => exact ((HD.out.row.sl.ext ((Ext.refl Wc).alloc' _)).upto (k := k) (c' := c) hkn hkc hcapk).rd
     case l1q11 => rw [gcs_length, List.length_take, HST.out.row.len, Nat.min_eq_left hkn]; rfl
     intro A9 c9 w9 ho9 hg9
     have HE9 := Lib.hid (show Ext Wc w9 from Below.grown ((Ext.refl Wc).alloc' (.cells #[] 48)) hg9 (by simp) (fun q hq => by simp [Value.ownBlock] at hq; omega))
     have HO9 := Lib.hid (show w9.ownsRow Wc.heap.size 48 23 (.slice A9 k c9) k (gcs (D.take k)) from by simpa only [Nat.zero_add, List.nil_append] using ho9)
     clear ho9 hg9 f1 f2 f1a
     have HCX := Lib.hid (fun (W : World) (he : Ext Wc W) => HCT.out W (HZW.out.trans he))
     have HRV := Lib.hid (fun (W : World) (he : Ext Wc W) => (rangeAt_take (k := 22) (HRT.out W (HZW.out.trans he)) : W.rangeAt b (o + i * 23) (vtL Tv)))
     have HOK := Lib.hid (fun (W : World) (he : Ext Wc W) => HOT.out W (HZW.out.trans he))
     go_upto_region 11 with (fail)
     have HE := Lib.hid (HE9.out.drew')
     have HO9 := Lib.hid (own_ext HO9.out (Ext.refl w9).drew')
     clear HE9
     refine wp_region_held_drew (S := fun W => Ext Wc W) (by kernel_rfl) (HE.out) (fun hHeld => ?_)
     (refine Go.Proofs.YtbfepgjeecndiaaGreat.wr 0 (oi := ⟨some 65, .move (.tmp 9), 22, "snapshot.go:59", #[], none⟩) (v := ?_) rfl (by kernel_rfl) (by rfl) (fun _ _ _ h => h) ?h hHeld ?_; case h => (intro W hSW; go_simp <;> with_reducible rfl))
     try simp only [lays]
     (refine Go.Proofs.YtbfepgjeecndiaaGreat.wr 1 (oi := ⟨some 66, .move (.tmp 6), 22, "snapshot.go:59", #[], none⟩) (v := ?_) rfl (by kernel_rfl) (by rfl) (fun _ _ _ h => h) ?h hHeld ?_; case h => (intro W hSW; go_simp <;> with_reducible rfl))
     try simp only [lays]
     (refine Go.Proofs.YtbfepgjeecndiaaGreat.wr 2 (oi := ⟨some 67, .move (.tmp 7), 3, "snapshot.go:59", #[], none⟩) (v := ?_) rfl (by kernel_rfl) (by rfl) (fun _ _ _ h => h) ?h hHeld ?_; case h => (intro W hSW; go_simp <;> with_reducible rfl))
     try simp only [lays]
     (refine Go.Proofs.YtbfepgjeecndiaaGreat.wr 3 (oi := ⟨some 68, .indexAddr 22 (.tmp 66) (.tmp 67), 0, "snapshot.go:59", #[⟨1, .data⟩, ⟨2, .data⟩], none⟩) (v := ?_) rfl (by kernel_rfl) (by rfl) (fun _ _ _ h => h) ?h hHeld ?_; case h => (intro W hSW; go_simp <;> with_reducible rfl))
     try simp only [lays]
     (refine Go.Proofs.YtbfepgjeecndiaaGreat.wr 4 (oi := ⟨some 69, .fieldAddr 48 (.tmp 68) 0, 0, "snapshot.go:59", #[⟨3, .data⟩], none⟩) (v := ?_) rfl (by kernel_rfl) (by rfl) (fun _ _ _ h => h) ?h hHeld ?_; case h => (intro W hSW; go_simp <;> with_reducible rfl))
     try simp only [lays]
     (refine wpAnyH_take (i := 5) (oi := ⟨some 70, .load 46 (.tmp 69), 46, "snapshot.go:59", #[⟨4, .data⟩], none⟩) (v := vq) rfl (by kernel_rfl) (by kernel_rfl) (by kernel_rfl) (fun _ _ _ h => h) ?hy2_5_l11 hHeld ?_; case hy2_5_l11 => (refine yields_loadVtV ?hw (.tmp 69) rfl b (o + i * 23) ?hx Tv vq HVQ.out (fun W hSW => HRV.out W hSW); (case hw => rfl); (case hx => rfl)))
     try simp only [lays]
     (refine Go.Proofs.YtbfepgjeecndiaaGreat.wr 7 (oi := ⟨some 72, .move (.tmp 6), 22, "snapshot.go:59", #[], none⟩) (v := ?_) rfl (by kernel_rfl) (by rfl) (fun _ _ _ h => h) ?h hHeld ?_; case h => (intro W hSW; go_simp <;> with_reducible rfl))
     try simp only [lays]
     (refine Go.Proofs.YtbfepgjeecndiaaGreat.wr 8 (oi := ⟨some 73, .move (.tmp 7), 3, "snapshot.go:59", #[], none⟩) (v := ?_) rfl (by kernel_rfl) (by rfl) (fun _ _ _ h => h) ?h hHeld ?_; case h => (intro W hSW; go_simp <;> with_reducible rfl))
     try simp only [lays]
     (refine Go.Proofs.YtbfepgjeecndiaaGreat.wr 9 (oi := ⟨some 74, .indexAddr 22 (.tmp 72) (.tmp 73), 0, "snapshot.go:59", #[⟨7, .data⟩, ⟨8, .data⟩], none⟩) (v := ?_) rfl (by kernel_rfl) (by rfl) (fun _ _ _ h => h) ?h hHeld ?_; case h => (intro W hSW; go_simp <;> with_reducible rfl))
     try simp only [lays]
     (refine Go.Proofs.YtbfepgjeecndiaaGreat.wr 10 (oi := ⟨some 75, .fieldAddr 48 (.tmp 74) 1, 0, "snapshot.go:59", #[⟨9, .data⟩], none⟩) (v := ?_) rfl (by kernel_rfl) (by rfl) (fun _ _ _ h => h) ?h hHeld ?_; case h => (intro W hSW; go_simp <;> with_reducible rfl))
     try simp only [lays]
     (refine Go.Proofs.YtbfepgjeecndiaaGreat.wr 11 (oi := ⟨some 76, .load 28 (.tmp 75), 28, "snapshot.go:59", #[⟨10, .data⟩], none⟩) (v := ?_) rfl (by kernel_rfl) (by rfl) (fun _ _ _ h => h) ?h hHeld ?_; case h => (intro W hSW; have f1 := HCX.out W hSW; go_simp <;> with_reducible rfl))
     try simp only [lays]
     refine wpAnyH_ready (rs := [6]) (by kernel_rfl) (by simp) ?_
     refine (AllReadyH.cons (o := ⟨some 71, .buildSlice 28 0 #[], 28, "snapshot.go:59", #[], none⟩) rfl (fun K hK => ?_) AllReadyH.nil)
     (refine step_build0 1 run_buildY0 rfl (by rfl) ?_; intro g6 W6 h6; have HG6 := Lib.hid (Nat.le_trans HE.out.size h6.out.2.2.1); have HO9 := Lib.hid (own_ext HO9.out h6.out.2.1); have HE := Lib.hid (HE.out.trans h6.out.2.1); have HO6 := Lib.hid h6.out.1; have HGL := Lib.hid h6.out.2.2.2; clear h6)
     refine hK.out _ _ (HE.out) (fun hHeld => ?_)
     clear hK K
     try simp only [lays]
     refine wpAnyH_ready (rs := [12]) (by kernel_rfl) (by simp) ?_
     refine (AllReadyH.cons (o := ⟨some 77, .call { callee := .builtin .append, args := #[.tmp 71, .tmp 76], argTypes := #[28, 28] }, 28, "snapshot.go:59", #[⟨6, .data⟩, ⟨11, .data⟩], none⟩) rfl (fun K hK => ?_) AllReadyH.nil)
     (refine step_appBG bytesE rfl (.tmp 71) (.tmp 76) rfl g6 (some ⟨g6, 0, none⟩) 0 0 [] (by rfl) HO6.out Ta Tn Tc Tl (by rfl) (HOK.out _ HE.out) (by omega) (Nat.le_of_lt HGL.out) ?_; intro A7 c7 w7 ho hg; simp only [Nat.zero_add, List.nil_append] at ho ⊢; have HO9 := Lib.hid (World.ownsRow.kept HO9.out hg (own_ne HO9.out HO6.out (by decide))); have HE := Lib.hid (show Ext _ _ from Below.grown HE.out hg HE.out.size (fun q hq => Nat.le_trans HG6.out (World.ownsRow.lt HO6.out q hq).1)); have HT7 := Lib.hid (show OwnB w7 Wc.heap.size 5 A7 Tn c7 Tl from own_mono ho HG6.out); obtain ⟨S7, hS7⟩ : ∃ S, (⟨Tv, A7, Tn, c7, Tl⟩ : SgR) = S := ⟨_, rfl⟩; obtain ⟨v7, hv7⟩ : ∃ v, Value.agg (sgA S7) = v := ⟨_, rfl⟩; have HV7 := Lib.hid hv7; have HS7 := Lib.hid hS7; clear ho hg hv7 hS7)
     refine hK.out _ _ (HE.out) (fun hHeld => ?_)
     clear hK K
     try simp only [lays]
     (refine wpAnyH_take (i := 13) (oi := ⟨some 78, .build 48 #[(0, .tmp 70), (1, .tmp 77)], 48, "snapshot.go:59", #[⟨5, .data⟩, ⟨12, .data⟩], none⟩) (v := v7) rfl (by kernel_rfl) (by kernel_rfl) (by kernel_rfl) (fun _ _ _ h => h) ?hy2_13_l35 hHeld ?_; case hy2_13_l35 => (refine yields_buildSgV ?hw (.tmp 70) (.tmp 77) rfl Tv A7 Tn c7 Tl vq v7 HVQ.out (by rw [HS7.out]; exact HV7.out) ?hx ?hy; (case hw => rfl); (case hx => rfl); (case hy => rfl)))
     try simp only [lays]
     refine wpAnyH_ready (rs := [14]) (by kernel_rfl) (by simp) ?_
     refine (AllReadyH.cons (o := ⟨some 79, .buildSlice 22 1 #[(0, .tmp 78)], 22, "snapshot.go:59", #[⟨13, .data⟩], none⟩) rfl (fun K hK => ?_) AllReadyH.nil)
     (refine step_buildSg rfl (.tmp 78) (by rfl) S7 v7 HV7.out (by rfl) ?_; intro W8 hW8; have HR8 := Lib.hid (show Rd W8 (some ⟨w7.heap.size, 0, none⟩) (sgL S7) from by rw [← hW8.out]; exact Rd.of_blk (Blk.new w7 48 (sgA S7))); have HX8 := Lib.hid (show Ext w7 W8 from by rw [← hW8.out]; exact (Ext.refl w7).alloc' _); have HO9 := Lib.hid (own_ext HO9.out HX8.out); have HT7 := Lib.hid (OwnB.ext HT7.out HX8.out); have HE := Lib.hid (HE.out.trans HX8.out); clear hW8 HX8)
     refine hK.out _ _ (HE.out) (fun hHeld => ?_)
     clear hK K
     try simp only [lays]
     refine wpAnyH_ready (rs := [15]) (by kernel_rfl) (by simp) ?_
     refine (AllReadyH.cons (o := ⟨some 80, .call { callee := .builtin .append, args := #[.tmp 65, .tmp 79], argTypes := #[22, 22] }, 22, "snapshot.go:59", #[⟨0, .data⟩, ⟨14, .data⟩, ⟨12, .chain⟩], none⟩) rfl (fun K hK => ?_) AllReadyH.nil)
     (refine step_appG' sgE rfl (.tmp 65) (.tmp 79) rfl Wc.heap.size A9 k c9 (gcs (D.take k)) (by rfl) HO9.out (some ⟨w7.heap.size, 0, none⟩) 1 1 (sgL S7) (by rfl) HR8.out (by rfl) (sgL_one _) (by omega) (by omega) HE.out.size ?_; intro A11 c11 w11 ho hg; have HT7 := Lib.hid (show OwnB w11 Wc.heap.size 5 A7 Tn c7 Tl from World.ownsRow.kept HT7.out hg (own_ne HT7.out HO9.out (by decide))); have HE := Lib.hid (show Ext _ _ from Below.grown HE.out hg HE.out.size (fun q hq => (World.ownsRow.lt HO9.out q hq).1)); have HO11 := Lib.hid ho; clear ho hg)
     refine hK.out _ _ (HE.out) (fun hHeld => ?_)
     clear hK K
     try simp only [lays]
     (refine Go.Proofs.YtbfepgjeecndiaaGreat.wr 16 (oi := ⟨some 9, .assign (.tmp 80), 22, "snapshot.go:59", #[⟨15, .data⟩, ⟨15, .chain⟩, ⟨0, .phase⟩, ⟨1, .phase⟩, ⟨2, .phase⟩, ⟨3, .phase⟩, ⟨4, .phase⟩, ⟨5, .phase⟩, ⟨6, .phase⟩, ⟨7, .phase⟩, ⟨8, .phase⟩, ⟨9, .phase⟩, ⟨10, .phase⟩, ⟨11, .phase⟩, ⟨12, .phase⟩, ⟨13, .phase⟩, ⟨14, .phase⟩, ⟨15, .phase⟩], none⟩) (v := ?_) rfl (by kernel_rfl) (by rfl) (fun _ _ _ h => h) ?h hHeld ?_; case h => (intro W hSW; go_simp <;> with_reducible rfl))
     try simp only [lays]
     refine wpAnyH_done (by kernel_rfl) ?_ _
     have f3 : w11.cell? ⟨w.heap.size + 3, 0, none⟩ = some (.slice A n c) := (HD.out.bo.ext HE.out).cell 0
     have hHW := Lib.hid hHeld
     clear hHeld HR8 HO9 HCX HRV HOK
     have HDW := Lib.hid (HD.out.ext HE.out)
     by_cases hck : c = k
     ·obtain rfl : k = n := by have := HST.out.row.sl.le; omega
      subst hck
      go_wp2_with (at_builtin; go_must (refine wpList_appGG sgE rfl (.tmp 81) (.tmp 85) rfl Wc.heap.size A11 (c + 1) c11 (gcs (D.take c) ++ sgL S7) rfl HO11.out A (c - c) (c - c) [] (by simp [Act.eval]) .nil (by simp) (fun u hu => by cases hu) (by omega) (by omega) HE.out.size ?_))
      intro A12 c12 w12 ho12 hg12
      have HO12 := Lib.hid (show w12.ownsRow Wc.heap.size 48 23 (.slice A12 (c + 1) c12) (c + 1) (gcs (D.take c ++ S7 :: D.drop c)) from by
       have h1 : D.drop c = [] := List.drop_of_length_le (by rw [HST.out.row.len]; exact Nat.le_refl _)
       have := ho12
       have h2 : RowT.enc S7 = sgL S7 := rfl
       rw [h1, gcs_append, gcs_one, h2]
       simpa using this)
      have HE12 := Lib.hid (show Ext Wc w12 from Below.grown HE.out hg12 HE.out.size (fun q hq => (World.ownsRow.lt HO11.out q hq).1))
      have HT12 := Lib.hid (show OwnB w12 Wc.heap.size 5 A7 Tn c7 Tl from World.ownsRow.kept HT7.out hg12 (own_ne HT7.out HO11.out (by decide)))
      have HRW2 := Lib.hid (show RwS w12 (w.heap.size + 4) A12 (c + 1) c12 (D.take c ++ S7 :: D.drop c) from ⟨own_mono HO12.out HSZ.out, fun Q hQ => by
       rcases List.mem_append.1 hQ with hQ | hQ
       ·exact ⟨OwnB.ext (HD.out.row.sig Q (List.mem_of_mem_take hQ)).1 HE12.out, (HD.out.row.sig Q (List.mem_of_mem_take hQ)).2⟩
       ·rcases List.mem_cons.1 hQ with rfl | hQ
        ·rw [← HS7.out]; exact ⟨own_mono HT12.out HSZ.out, HWF.out⟩
        ·exact ⟨OwnB.ext (HD.out.row.sig Q (List.mem_of_mem_drop hQ)).1 HE12.out, (HD.out.row.sig Q (List.mem_of_mem_drop hQ)).2⟩⟩)
      have HCA2 := Lib.hid (show (D.take c ++ S7 :: D.drop c).map SgR.V = canonO ltSv ((AL.take (i + 1)).map SgR.V) from by
       rw [HTK.out, canonO_snoc, ← HCA.out, insO_at (SgR.V ⟨Tv, Ta, Tn, Tc, Tl⟩) (D.map SgR.V) c (by rw [List.length_map, HST.out.row.len]; first | exact hkn | exact Nat.le_refl _) (fun j hj hl => by rw [List.getElem_map, nthG_eq]; exact HBEF.out j hj) HAT.out]
       rw [List.map_append, List.map_cons, List.map_take, List.map_drop, ← HS7.out]; rfl)
      have hb12 := HD.out.bo.ext HE12.out
      have q12 : w12.cell? ⟨w.heap.size + 3, 0, none⟩ = some (.slice A c c) := hb12.cell 0
      have p12 := hb12.frozen 0
      have HPU := Lib.hid (fun (v : Value) (hv : v = .slice A12 (c + 1) c12) => (HD.out.put HE12.out HRW2.out v hv))
      clear ho12 hg12 HO12 HT7 HT12 HD HDW HE HE12 hb12 HST
      go_wp2_with fail
      go_roundw
      case rel => exact ⟨i + 1, A12, c + 1, c12, _, by go_num, hlt, by omega, Lib.hid (HPU.out _ (by first | rfl | (rw [hkn1]))), HCA2⟩
      case measure => simp [intOf]; omega
     ·have hck' : k < c := by omega
      have HCUT := Lib.hid (HDW.out.row.sl.cut (k := k) hkn hck')
      go_wp2_with (at_builtin; go_must (refine wpList_appGG sgE rfl (.tmp 81) (.tmp 85) rfl Wc.heap.size A11 (k + 1) c11 (gcs (D.take k) ++ sgL S7) rfl HO11.out (A.map (·.add (k * 23))) (n - k) (c - k) (gcs (D.drop k)) (by simp [Act.eval]) ?r1q31 ?l1q31 (gcs_cell _) (by omega) (by omega) HE.out.size ?_))
      case r1q31 => exact HCUT.out.rd
      case l1q31 => rw [gcs_length, List.length_drop, HST.out.row.len]; rfl
      intro A12 c12 w12 ho12 hg12
      have HO12 := Lib.hid (show w12.ownsRow Wc.heap.size 48 23 (.slice A12 (n + 1) c12) (n + 1) (gcs (D.take k ++ S7 :: D.drop k)) from by
       have := ho12
       have h2 : RowT.enc S7 = sgL S7 := rfl
       rw [gcs_append, gcs_cons, h2]
       rw [show k + 1 + (n - k) = n + 1 from by omega] at this
       simpa using this)
      have hkn1 : k + 1 + (n - k) = n + 1 := by omega
      have HE12 := Lib.hid (show Ext Wc w12 from Below.grown HE.out hg12 HE.out.size (fun q hq => (World.ownsRow.lt HO11.out q hq).1))
      have HT12 := Lib.hid (show OwnB w12 Wc.heap.size 5 A7 Tn c7 Tl from World.ownsRow.kept HT7.out hg12 (own_ne HT7.out HO11.out (by decide)))
      have HRW2 := Lib.hid (show RwS w12 (w.heap.size + 4) A12 (n + 1) c12 (D.take k ++ S7 :: D.drop k) from ⟨own_mono HO12.out HSZ.out, fun Q hQ => by
       rcases List.mem_append.1 hQ with hQ | hQ
       ·exact ⟨OwnB.ext (HD.out.row.sig Q (List.mem_of_mem_take hQ)).1 HE12.out, (HD.out.row.sig Q (List.mem_of_mem_take hQ)).2⟩
       ·rcases List.mem_cons.1 hQ with rfl | hQ
        ·rw [← HS7.out]; exact ⟨own_mono HT12.out HSZ.out, HWF.out⟩
        ·exact ⟨OwnB.ext (HD.out.row.sig Q (List.mem_of_mem_drop hQ)).1 HE12.out, (HD.out.row.sig Q (List.mem_of_mem_drop hQ)).2⟩⟩)
      have HCA2 := Lib.hid (show (D.take k ++ S7 :: D.drop k).map SgR.V = canonO ltSv ((AL.take (i + 1)).map SgR.V) from by
       rw [HTK.out, canonO_snoc, ← HCA.out, insO_at (SgR.V ⟨Tv, Ta, Tn, Tc, Tl⟩) (D.map SgR.V) k (by rw [List.length_map, HST.out.row.len]; first | exact hkn | exact Nat.le_refl _) (fun j hj hl => by rw [List.getElem_map, nthG_eq]; exact HBEF.out j hj) HAT.out]
       rw [List.map_append, List.map_cons, List.map_take, List.map_drop, ← HS7.out]; rfl)
      have hb12 := HD.out.bo.ext HE12.out
      have q12 : w12.cell? ⟨w.heap.size + 3, 0, none⟩ = some (.slice A n c) := hb12.cell 0
      have p12 := hb12.frozen 0
      have HPU := Lib.hid (fun (v : Value) (hv : v = .slice A12 (n + 1) c12) => (HD.out.put HE12.out HRW2.out v hv))
      clear ho12 hg12 HO12 HT7 HT12 HD HDW HE HE12 hb12 HST
      go_wp2_with fail
      go_roundw
      case rel => exact ⟨i + 1, A12, n + 1, c12, _, by go_num, hlt, by omega, Lib.hid (HPU.out _ (by first | rfl | (rw [hkn1]))), HCA2⟩
      case measure => simp [intOf]; omega
  ·obtain rfl : i = N := by omega
   have i1 : ¬ (i : Int) < (i : Int) := by omega
   have HCF := Lib.hid (show D.map SgR.V = canonO ltSv (AL.map SgR.V) from by have := HCA.out; rwa [List.take_of_length_le (by rw [HALN.out]; exact Nat.le_refl _)] at this)
   go_upto_region 13 with (fail)
   have HPA := Lib.hid HST.out.ba
   have HPB := Lib.hid HST.out.bb
   have HE := Lib.hid ((Ext.refl wr).drew')
   have HSZ := Lib.hid (show w.heap.size ≤ wr.heap.size from HST.out.low.size)
   have HX := Lib.hid (HXW.out.ext HST.out.low)
   have HX2 := Lib.hid (HX2W.out.ext HST.out.low)
   refine wp_region_held_drew (S := fun W => Blk W w.heap.size 25 (vwA A1 n1 c1 B1 m1 d1) ∧ Blk W (w.heap.size + 1) 25 (vwA A2 n2 c2 B2 m2 d2)) (by kernel_rfl) (⟨HPA.out.drew, HPB.out.drew⟩) (fun hHeld => ?_)
   (refine Go.Proofs.YtbfepgjeecndiaaGreat.wr 1 (oi := ⟨some 89, .fieldAddr 25 (.tmp 2) 1, 0, "snapshot.go:62", #[], none⟩) (v := ?_) rfl (by kernel_rfl) (by rfl) (fun _ _ _ h => h) ?h hHeld ?_; case h => (intro W hSW; go_simp <;> with_reducible rfl))
   try simp only [lays]
   (refine Go.Proofs.YtbfepgjeecndiaaGreat.wr 2 (oi := ⟨some 90, .load 23 (.tmp 89), 23, "snapshot.go:62", #[⟨1, .data⟩], none⟩) (v := ?_) rfl (by kernel_rfl) (by rfl) (fun _ _ _ h => h) ?h hHeld ?_; case h => (intro W hSW; obtain ⟨c0, c1⟩ := vw_facts hSW.1; obtain ⟨e0, e1⟩ := vw_facts hSW.2; go_simp <;> with_reducible rfl))
   try simp only [lays]
   (refine Go.Proofs.YtbfepgjeecndiaaGreat.wr 4 (oi := ⟨some 92, .fieldAddr 25 (.tmp 3) 1, 0, "snapshot.go:62", #[], none⟩) (v := ?_) rfl (by kernel_rfl) (by rfl) (fun _ _ _ h => h) ?h hHeld ?_; case h => (intro W hSW; go_simp <;> with_reducible rfl))
   try simp only [lays]
   (refine Go.Proofs.YtbfepgjeecndiaaGreat.wr 5 (oi := ⟨some 93, .load 23 (.tmp 92), 23, "snapshot.go:62", #[⟨4, .data⟩], none⟩) (v := ?_) rfl (by kernel_rfl) (by rfl) (fun _ _ _ h => h) ?h hHeld ?_; case h => (intro W hSW; obtain ⟨c0, c1⟩ := vw_facts hSW.1; obtain ⟨e0, e1⟩ := vw_facts hSW.2; go_simp <;> with_reducible rfl))
   try simp only [lays]
   refine wpAnyH_ready (rs := [0]) (by kernel_rfl) (by simp) ?_
   refine (AllReadyH.cons (o := ⟨some 88, .buildSlice 23 0 #[], 23, "snapshot.go:62", #[], none⟩) rfl (fun K hK => ?_) AllReadyH.nil)
   (refine step_build0 1 run_buildT0 rfl (by rfl) ?_; intro g0 W4 h4; have HG0 := Lib.hid (Nat.le_trans HE.out.size h4.out.2.2.1); have HE := Lib.hid (HE.out.trans h4.out.2.1); have HO := Lib.hid h4.out.1; have HGL := Lib.hid h4.out.2.2.2; clear h4)
   refine hK.out _ _ (⟨HPA.out.ext HE.out, HPB.out.ext HE.out⟩) (fun hHeld => ?_)
   clear hK K
   try simp only [lays]
   refine wpAnyH_ready (rs := [3]) (by kernel_rfl) (by simp) ?_
   refine (AllReadyH.cons (o := ⟨some 91, .call { callee := .builtin .append, args := #[.tmp 88, .tmp 90], argTypes := #[23, 23] }, 23, "snapshot.go:62", #[⟨0, .data⟩, ⟨2, .data⟩], none⟩) rfl (fun K hK => ?_) AllReadyH.nil)
   (refine step_appG' teE rfl (.tmp 88) (.tmp 90) rfl g0 (some ⟨g0, 0, none⟩) 0 0 [] (by rfl) HO.out B1 m1 d1 (gcs X1) (by rfl) ((HX.out.ext HE.out)).rd (by rw [gcs_length, HX.out.len]; rfl) (gcs_cell _) (by omega) (by omega) (Nat.le_of_lt HGL.out) ?_; intro B5 d5 w5 ho hg; simp only [Nat.zero_add, List.nil_append] at ho ⊢; have HE := Lib.hid (show Ext _ _ from Below.grown HE.out hg HE.out.size (fun q hq => Nat.le_trans HG0.out (World.ownsRow.lt HO.out q hq).1)); have HGL := Lib.hid (Nat.lt_of_lt_of_le HGL.out hg.size); have HO := Lib.hid ho; clear ho hg)
   refine hK.out _ _ (⟨HPA.out.ext HE.out, HPB.out.ext HE.out⟩) (fun hHeld => ?_)
   clear hK K
   try simp only [lays]
   refine wpAnyH_ready (rs := [6]) (by kernel_rfl) (by simp) ?_
   refine (AllReadyH.cons (o := ⟨some 94, .call { callee := .builtin .append, args := #[.tmp 91, .tmp 93], argTypes := #[23, 23] }, 23, "snapshot.go:62", #[⟨3, .data⟩, ⟨5, .data⟩, ⟨3, .chain⟩], none⟩) rfl (fun K hK => ?_) AllReadyH.nil)
   (refine step_appG' teE rfl (.tmp 91) (.tmp 93) rfl g0 B5 m1 d5 (gcs X1) (by rfl) HO.out B2 m2 d2 (gcs X2) (by rfl) ((HX2.out.ext HE.out)).rd (by rw [gcs_length, HX2.out.len]; rfl) (gcs_cell _) (by omega) (by omega) (Nat.le_of_lt HGL.out) ?_; intro B6 d6 w6 ho hg; have HE := Lib.hid (show Ext _ _ from Below.grown HE.out hg HE.out.size (fun q hq => Nat.le_trans HG0.out (World.ownsRow.lt HO.out q hq).1)); have HGL := Lib.hid (Nat.lt_of_lt_of_le HGL.out hg.size); have HO := Lib.hid ho; clear ho hg)
   refine hK.out _ _ (⟨HPA.out.ext HE.out, HPB.out.ext HE.out⟩) (fun hHeld => ?_)
   clear hK K
   try simp only [lays]
   refine wpAnyH_ready (rs := [7]) (by kernel_rfl) (by simp) ?_
   refine (AllReadyH.cons (o := ⟨some 95, .call { callee := .value (.func 67), args := #[.tmp 94], argTypes := #[23] }, 23, "snapshot.go:62", #[⟨6, .data⟩, ⟨6, .chain⟩], none⟩) rfl (fun K hK => ?_) AllReadyH.nil)
   (go_simp; go_at_call 67; refine (sortedTexts_any B6 (m1 + m2) d6 (X1 ++ X2) _ (rows_sl HO.out (fun R hR => (HX.out.ok R hR).ext HE.out) (fun R hR => (HX2.out.ok R hR).ext HE.out)) (by omega) HXN.out).mono ?_; rintro e w7 ⟨A7, n7, c7, D7, rfl, hr7, hv7, hn7, he7⟩; have HR7 := Lib.hid (hr7.mono (Nat.le_trans HSZ.out HE.out.size)); have HV7 := Lib.hid hv7; have HE := Lib.hid (HE.out.trans he7); have HDE := Lib.hid (HST.out.ext HE.out); have q7 : w7.cell? ⟨w.heap.size + 3, 1, none⟩ = some (.slice none 0 0) := HDE.out.bo.cell 1; have p7 := HDE.out.bo.frozen 1; clear hr7 hv7 he7)
   refine hK.out _ _ (⟨HPA.out.ext HE.out, HPB.out.ext HE.out⟩) (fun hHeld => ?_)
   clear hK K
   try simp only [lays]
   (refine Go.Proofs.YtbfepgjeecndiaaGreat.wr 8 (oi := ⟨some 96, .fieldAddr 25 (.tmp 5) 1, 0, "snapshot.go:62", #[⟨0, .phase⟩, ⟨1, .phase⟩, ⟨2, .phase⟩, ⟨3, .phase⟩, ⟨4, .phase⟩, ⟨5, .phase⟩, ⟨6, .phase⟩, ⟨7, .phase⟩], none⟩) (v := ?_) rfl (by kernel_rfl) (by rfl) (fun _ _ _ h => h) ?h hHeld ?_; case h => (intro W hSW; go_simp <;> with_reducible rfl))
   try simp only [lays]
   refine wpAnyH_ready (rs := [9]) (by kernel_rfl) (by simp) ?_
   refine (AllReadyH.cons (o := ⟨none, .store 23 (.tmp 96) (.tmp 95), 0, "snapshot.go:62", #[⟨8, .data⟩, ⟨7, .data⟩, ⟨7, .chain⟩, ⟨0, .phase⟩, ⟨1, .phase⟩, ⟨2, .phase⟩, ⟨3, .phase⟩, ⟨4, .phase⟩, ⟨5, .phase⟩, ⟨6, .phase⟩, ⟨7, .phase⟩], none⟩) rfl (fun K hK => ?_) AllReadyH.nil)
   (go_simp)
   refine hK.out _ _ (⟨hHeld.1.far (p := ⟨w.heap.size + 3, 1, none⟩) (by simp) _, hHeld.2.far (p := ⟨w.heap.size + 3, 1, none⟩) (by simp) _⟩) (fun hHeld => ?_)
   clear hK K
   try simp only [lays]
   refine wpAnyH_done (by kernel_rfl) ?_ _
   generalize hW8 : w7.setCell ⟨w.heap.size + 1 + 1 + 1, 1, none⟩ (.slice A7 n7 c7) = W8
   have HB8 := Lib.hid (show Blk W8 (w.heap.size + 3) 25 (vwA A n c A7 n7 c7) from by rw [← hW8]; exact HDE.out.bo.set 1 _)
   have HR8 := Lib.hid (show Blk W8 (w.heap.size + 2) 25 (vwA none 0 0 none 0 0) from by rw [← hW8]; exact HDE.out.br.far (p := ⟨w.heap.size + 3, 1, none⟩) (by simp) _)
   have HV8 := Lib.hid (show VwO W8 w.heap.size A n c D A7 n7 c7 D7 from by
    rw [← hW8]
    have h1 := (HDE.out.row.setc (i := 1) HDE.out.bo (.slice A7 n7 c7)).mono (base' := w.heap.size) (by omega)
    have h3 := grown_set w7 (w.heap.size + 3) 1 (.slice A7 n7 c7)
    exact ⟨h1.own, World.ownsRow.kept HR7.out.own h3 (.inr (Ne.symm (own_other HR7.out.own HDE.out.bo (by decide)))), h1.sig, fun T hT => World.ownsRow.kept (HR7.out.tex T hT) h3 (.inr (Ne.symm (own_other (HR7.out.tex T hT) HDE.out.bo (by decide))))⟩)
   have HL8 := Lib.hid (show Ext w W8 from by rw [← hW8]; exact HDE.out.low.setCell (p := ⟨w.heap.size + 3, 1, none⟩) (by simp) _)
   clear hW8 hHeld q7 p7 HDE HST HE HR7 HPA HPB HX HX2
   obtain ⟨y0, y1⟩ := vw_facts HB8.out
   have ht : W8.there (w.heap.size + 2) 0 2 := there_of_blk HR8.out
   have hst := blk_whole (ds := vwA A n c A7 n7 c7) HR8.out rfl
   go_wp2_with (first | (with_reducible refine wpList_storeVw rfl (.tmp 4) (.tmp 97) rfl (w.heap.size + 2) A n c A7 n7 c7 rfl rfl ht ?_) | (with_reducible refine wpList_storeVw rfl (.tmp 4) (.tmp 97) rfl (w.heap.size + 1 + 1) A n c A7 n7 c7 rfl rfl ht ?_))
   exact bodyPost_ret (v := .agg (vwA A n c A7 n7 c7)) (retC rfl _ _ (w.heap.size + 2) _ rfl (run_loadVar_row _ _ _ _ _ (0, 0) _ hst Tryz.underlying25 rfl (by kernel_rfl))) rfl ⟨A, n, c, D, A7, n7, c7, D7, rfl, HV8.out.set HR8.out _, by rw [HAL.out]; exact HCF.out, HV7.out, by have := HNN.out; omega, hn7, Below.setCells' HL8.out (by omega) _ _⟩
end Go.Proofs.YtbfepgjeecndiaaGreat
