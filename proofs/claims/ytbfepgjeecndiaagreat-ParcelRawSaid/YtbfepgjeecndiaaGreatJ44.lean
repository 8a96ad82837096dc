/- The union of a view and an empty one (snapshot.Union): votes and texts in ascending order. -/
import Derived.Test.YtbfepgjeecndiaaGreatJ35
import Derived.Test.YtbfepgjeecndiaaGreatJ36
import Derived.Test.YtbfepgjeecndiaaGreatJ38
import Derived.Test.YtbfepgjeecndiaaGreatJ40
import Derived.Test.YtbfepgjeecndiaaGreatJ41
namespace Go.Proofs.YtbfepgjeecndiaaGreat
theorem hD {p : Prop} (h : p) : RowKit.Hid p := h
set_option maxRecDepth 100000
set_option maxHeartbeats 16000000
open Go.RowKit
set_option linter.unusedVariables false
set_option linter.unusedSimpArgs false
attribute [local go_sem ↓] Go.wp_at_zero Go.wp_at_succ
def UnOut (w : World) (L : List SgR) (X : List TeR) (n m : Nat) (e : Ending) (w' : World) : Prop := ∃ (A' : Option Addr) (n' c' : Nat) (L' : List SgR) (B' : Option Addr) (m' d' : Nat) (X' : List TeR), e = .returned (.agg (vwA A' n' c' B' m' d')) ∧ VwO w' w.heap.size A' n' c' L' B' m' d' X' ∧ L'.map SgR.V = canonO ltSv (L.map SgR.V) ∧ X'.map TeR.l = canonO lexB (X.map TeR.l) ∧ n' ≤ n ∧ m' ≤ m ∧ Ext w w'
theorem union_any (A : Option Addr) (n c : Nat) (L : List SgR) (B : Option Addr) (m d : Nat) (X : List TeR) (w : World) (hS : SlG w A n c L) (hX : SlG w B m d X) (hn : n ≤ 1000000000) (hm : m ≤ 1000000000) (hSn : ∀ S, S ∈ L → S.n ≤ 140737488355328) (hXn : ∀ T, T ∈ X → T.n ≤ 140737488355328) :
  Calls Tryz.prog 29 #[.agg (vwA A n c B m d), .agg (vwA none 0 0 none 0 0)] w (UnOut w L X n m) := by
 have hcap := hS.cap
 have hcap2 := hX.cap
 obtain ⟨W2, hW2⟩ : ∃ W2, ((w.alloc (.cells (vwA A n c B m d) 25)).alloc (.cells (vwA none 0 0 none 0 0) 25)).alloc (.cells (vwA none 0 0 none 0 0) 25) = W2 := ⟨_, rfl⟩
 have HEW := hD (show Ext w W2 from by rw [← hW2]; exact (((Ext.refl w).alloc' _).alloc' _).alloc' _)
 have HP := hD (show Blk W2 w.heap.size 25 (vwA A n c B m d) from by rw [← hW2]; exact ((Blk.new w 25 (vwA A n c B m d)).alloc _).alloc _)
 have HZ := hD (show Blk W2 (w.heap.size + 1) 25 (vwA none 0 0 none 0 0) from by rw [← hW2]; exact Blk.alloc (show Blk ((w.alloc (.cells (vwA A n c B m d) 25)).alloc (.cells (vwA none 0 0 none 0 0) 25)) (w.heap.size + 1) 25 (vwA none 0 0 none 0 0) from Blk.newAt _ _ _ _ (by simp)) _)
 have HRS := hD (show Blk W2 (w.heap.size + 2) 25 (vwA none 0 0 none 0 0) from by rw [← hW2]; exact Blk.newAt _ _ _ _ (by simp))
 have HW3 := hD (show W2.heap.size = w.heap.size + 3 from by rw [← hW2]; simp)
 have HW2 := hD (show w.heap.size ≤ W2.heap.size from by have := HW3.out; omega)
 have HS := hD (hS.ext HEW.out)
 have HX := hD (hX.ext HEW.out)
 have HLS := hD (show (gcs L).length = n * 23 from by rw [gcs_length, hS.len]; rfl)
 have HLX := hD (show (gcs X).length = m * 1 from by rw [gcs_length, hX.len]; rfl)
 have HCS := hD (gcs_cell L)
 have HCX := hD (gcs_cell X)
 have HSn := hD hSn
 have HXn := hD hXn
 clear hS hX hSn hXn
 have hle : n ≤ c ∨ True := .inr trivial
 go_enter Tryz.func29, Tryz.ntmps29
 go_upto_region 1 with (fail)
 clear hW2 hle
 go_cut [5] (fun t5 wx => ∃ (g : Nat) (A8 : Option Addr) (c8 : Nat) (L8 : List SgR) (B8 : Option Addr) (d8 : Nat) (X8 : List TeR), t5 = .pointer (some ⟨g, 0, none⟩) ∧ w.heap.size + 2 < g ∧ Hid (ClS w wx g A8 n c8 L8 B8 m d8 X8) ∧ Hid (L8.map SgR.V = L.map SgR.V) ∧ Hid (X8.map TeR.l = X.map TeR.l) ∧ Hid (Blk wx (w.heap.size + 2) 25 (vwA none 0 0 none 0 0)))
 case first =>
  have HE := hD ((Ext.refl W2).drew')
  have HRS := hD HRS.out.drew
  refine wp_region_held_drew (S := fun W => Blk W w.heap.size 25 (vwA A n c B m d) ∧ Blk W (w.heap.size + 1) 25 (vwA none 0 0 none 0 0)) (by kernel_rfl) (⟨HP.out.drew, HZ.out.drew⟩) (fun hHeld => ?_)
  (refine wr 0 (oi := ⟨some 6, .fieldAddr 25 (.tmp 2) 0, 0, "snapshot.go:79", #[], none⟩) (v := ?_) rfl (by kernel_rfl) (by rfl) (fun _ _ _ h => h) ?h hHeld ?_; case h => (intro W hSW; go_simp <;> with_reducible rfl))
  try simp only [lays]
  (refine wr 1 (oi := ⟨some 7, .load 22 (.tmp 6), 22, "snapshot.go:79", #[⟨0, .data⟩], none⟩) (v := ?_) rfl (by kernel_rfl) (by rfl) (fun _ _ _ h => h) ?h hHeld ?_; case h => (intro W hSW; obtain ⟨c0, c1⟩ := vw_facts hSW.1; obtain ⟨z0, z1⟩ := vw_facts hSW.2; go_simp <;> with_reducible rfl))
  try simp only [lays]
  (refine wr 2 (oi := ⟨some 8, .fieldAddr 25 (.tmp 3) 0, 0, "snapshot.go:79", #[], none⟩) (v := ?_) rfl (by kernel_rfl) (by rfl) (fun _ _ _ h => h) ?h hHeld ?_; case h => (intro W hSW; go_simp <;> with_reducible rfl))
  try simp only [lays]
  (refine wr 3 (oi := ⟨some 9, .load 22 (.tmp 8), 22, "snapshot.go:79", #[⟨2, .data⟩], none⟩) (v := ?_) rfl (by kernel_rfl) (by rfl) (fun _ _ _ h => h) ?h hHeld ?_; case h => (intro W hSW; obtain ⟨c0, c1⟩ := vw_facts hSW.1; obtain ⟨z0, z1⟩ := vw_facts hSW.2; go_simp <;> with_reducible rfl))
  try simp only [lays]
  (refine wr 6 (oi := ⟨some 12, .fieldAddr 25 (.tmp 2) 1, 0, "snapshot.go:79", #[], none⟩) (v := ?_) rfl (by kernel_rfl) (by rfl) (fun _ _ _ h => h) ?h hHeld ?_; case h => (intro W hSW; go_simp <;> with_reducible rfl))
  try simp only [lays]
  (refine wr 7 (oi := ⟨some 13, .load 23 (.tmp 12), 23, "snapshot.go:79", #[⟨6, .data⟩], none⟩) (v := ?_) rfl (by kernel_rfl) (by rfl) (fun _ _ _ h => h) ?h hHeld ?_; case h => (intro W hSW; obtain ⟨c0, c1⟩ := vw_facts hSW.1; obtain ⟨z0, z1⟩ := vw_facts hSW.2; go_simp <;> with_reducible rfl))
  try simp only [lays]
  (refine wr 8 (oi := ⟨some 14, .fieldAddr 25 (.tmp 3) 1, 0, "snapshot.go:79", #[], none⟩) (v := ?_) rfl (by kernel_rfl) (by rfl) (fun _ _ _ h => h) ?h hHeld ?_; case h => (intro W hSW; go_simp <;> with_reducible rfl))
  try simp only [lays]
  (refine wr 9 (oi := ⟨some 15, .load 23 (.tmp 14), 23, "snapshot.go:79", #[⟨8, .data⟩], none⟩) (v := ?_) rfl (by kernel_rfl) (by rfl) (fun _ _ _ h => h) ?h hHeld ?_; case h => (intro W hSW; obtain ⟨c0, c1⟩ := vw_facts hSW.1; obtain ⟨z0, z1⟩ := vw_facts hSW.2; go_simp <;> with_reducible rfl))
  try simp only [lays]
  refine wpAnyH_ready (rs := [4, 10, 14]) (by kernel_rfl) (by simp) ?_
  refine (AllReadyH.cons (o := ⟨some 10, .buildSlice 106 2 #[(0, .tmp 7), (1, .tmp 9)], 106, "snapshot.go:79", #[⟨1, .data⟩, ⟨3, .data⟩], none⟩) rfl (fun K hK => ?ka1_1_8_4_n1) (AllReadyH.cons (o := ⟨some 16, .buildSlice 107 2 #[(0, .tmp 13), (1, .tmp 15)], 107, "snapshot.go:79", #[⟨7, .data⟩, ⟨9, .data⟩], none⟩) rfl (fun K hK => ?ka1_1_8_10_n1) (AllReadyH.cons (o := ⟨some 5, .alloc 25, 0, "snapshot.go:79", #[], none⟩) rfl (fun K hK => ?ka1_1_8_14_n1) AllReadyH.nil)))
  case' ka1_1_8_4_n1 =>
   (refine step_build2 (run_build2s A n c none 0 0) rfl (.tmp 7) (.tmp 9) (by rfl) (by rfl) (by rfl) ?_; intro g1 W4 h4; have HXX := hD (h4.out.2.1); (try (have HK1 := hD (HK1.out.ext HXX.out))); (try (have HK2 := hD (HK2.out.ext HXX.out))); (try (have HO1 := hD (own_ext HO1.out HXX.out))); (try (have HO2 := hD (own_ext HO2.out HXX.out))); (try (have HG := hD (HG.out.ext HXX.out))); (try (have HV := hD (HV.out.ext HXX.out))); have HRS := hD (HRS.out.ext HXX.out); have HE := hD (HE.out.trans HXX.out); have HK1 := hD h4.out.1; clear h4)
   refine hK.out _ _ (⟨hHeld.1.ext HXX.out, hHeld.2.ext HXX.out⟩) (fun hHeld => ?_)
   clear hK K
   try simp only [lays]
   refine wpAnyH_ready (rs := [5, 10, 14]) (by kernel_rfl) (by simp) ?_
   refine (AllReadyH.cons (o := ⟨some 11, .call { callee := .value (.func 58), args := #[.tmp 10], argTypes := #[106] }, 22, "snapshot.go:79", #[⟨4, .data⟩], none⟩) rfl (fun K hK => ?ka1_1_9_5_n2) (AllReadyH.cons (o := ⟨some 16, .buildSlice 107 2 #[(0, .tmp 13), (1, .tmp 15)], 107, "snapshot.go:79", #[⟨7, .data⟩, ⟨9, .data⟩], none⟩) rfl (fun K hK => ?ka1_1_9_10_n2) (AllReadyH.cons (o := ⟨some 5, .alloc 25, 0, "snapshot.go:79", #[], none⟩) rfl (fun K hK => ?ka1_1_9_14_n2) AllReadyH.nil)))
   case' ka1_1_9_5_n2 =>
    (go_simp; go_at_call 58; refine (concatSg_any A n c (gcs L) g1 _ (HS.out.ext HE.out).rd HLS.out HCS.out hn hcap HK1.out).mono ?_; rintro e w5 ⟨A5, c5, rfl, ho5, he5⟩; have hq5 := own_mono ho5 (Nat.le_trans HW2.out HE.out.size); have HXX := hD (he5); (try (have HK1 := hD (HK1.out.ext HXX.out))); (try (have HK2 := hD (HK2.out.ext HXX.out))); (try (have HO1 := hD (own_ext HO1.out HXX.out))); (try (have HO2 := hD (own_ext HO2.out HXX.out))); (try (have HG := hD (HG.out.ext HXX.out))); (try (have HV := hD (HV.out.ext HXX.out))); have HRS := hD (HRS.out.ext HXX.out); have HE := hD (HE.out.trans HXX.out); have HO1 := hD hq5; clear ho5 he5 hq5)
    refine hK.out _ _ (⟨hHeld.1.ext HXX.out, hHeld.2.ext HXX.out⟩) (fun hHeld => ?_)
    clear hK K
    try simp only [lays]
    refine wpAnyH_ready (rs := [10, 14]) (by kernel_rfl) (by simp) ?_
    refine (AllReadyH.cons (o := ⟨some 16, .buildSlice 107 2 #[(0, .tmp 13), (1, .tmp 15)], 107, "snapshot.go:79", #[⟨7, .data⟩, ⟨9, .data⟩], none⟩) rfl (fun K hK => ?ka1_1_10_10_n3) (AllReadyH.cons (o := ⟨some 5, .alloc 25, 0, "snapshot.go:79", #[], none⟩) rfl (fun K hK => ?ka1_1_10_14_n3) AllReadyH.nil))
    case' ka1_1_10_10_n3 =>
     (refine step_build2 (run_build2t B m d none 0 0) rfl (.tmp 13) (.tmp 15) (by rfl) (by rfl) (by rfl) ?_; intro g2 W6 h6; have HXX := hD (h6.out.2.1); (try (have HK1 := hD (HK1.out.ext HXX.out))); (try (have HK2 := hD (HK2.out.ext HXX.out))); (try (have HO1 := hD (own_ext HO1.out HXX.out))); (try (have HO2 := hD (own_ext HO2.out HXX.out))); (try (have HG := hD (HG.out.ext HXX.out))); (try (have HV := hD (HV.out.ext HXX.out))); have HRS := hD (HRS.out.ext HXX.out); have HE := hD (HE.out.trans HXX.out); have HK2 := hD h6.out.1; clear h6)
     refine hK.out _ _ (⟨hHeld.1.ext HXX.out, hHeld.2.ext HXX.out⟩) (fun hHeld => ?_)
     clear hK K
     try simp only [lays]
     refine wpAnyH_ready (rs := [11, 14]) (by kernel_rfl) (by simp) ?_
     refine (AllReadyH.cons (o := ⟨some 17, .call { callee := .value (.func 59), args := #[.tmp 16], argTypes := #[107] }, 23, "snapshot.go:79", #[⟨10, .data⟩, ⟨5, .chain⟩], none⟩) rfl (fun K hK => ?ka1_1_11_11_n4) (AllReadyH.cons (o := ⟨some 5, .alloc 25, 0, "snapshot.go:79", #[], none⟩) rfl (fun K hK => ?ka1_1_11_14_n4) AllReadyH.nil))
     case' ka1_1_11_11_n4 =>
      (go_simp; go_at_call 59; refine (concatTe_any B m d (gcs X) g2 _ (HX.out.ext HE.out).rd HLX.out HCX.out hm hcap2 HK2.out).mono ?_; rintro e w7 ⟨B6, d6, rfl, ho7, he7⟩; have hq7 := own_mono ho7 (Nat.le_trans HW2.out HE.out.size); have HXX := hD (he7); (try (have HK1 := hD (HK1.out.ext HXX.out))); (try (have HK2 := hD (HK2.out.ext HXX.out))); (try (have HO1 := hD (own_ext HO1.out HXX.out))); (try (have HO2 := hD (own_ext HO2.out HXX.out))); (try (have HG := hD (HG.out.ext HXX.out))); (try (have HV := hD (HV.out.ext HXX.out))); have HRS := hD (HRS.out.ext HXX.out); have HE := hD (HE.out.trans HXX.out); have HO2 := hD hq7; clear ho7 he7 hq7)
      refine hK.out _ _ (⟨hHeld.1.ext HXX.out, hHeld.2.ext HXX.out⟩) (fun hHeld => ?_)
      clear hK K
      try simp only [lays]
      (refine wr 12 (oi := ⟨some 18, .build 25 #[(0, .tmp 11), (1, .tmp 17)], 25, "snapshot.go:79", #[⟨5, .data⟩, ⟨11, .data⟩], none⟩) (v := ?_) rfl (by kernel_rfl) (by rfl) (fun _ _ _ h => h) ?h hHeld ?_; case h => (intro W hSW; go_simp <;> with_reducible rfl))
      try simp only [lays]
      refine wpAnyH_ready (rs := [13, 14]) (by kernel_rfl) (by simp) ?_
      refine (AllReadyH.cons (o := ⟨some 19, .call { callee := .value (.func 57), args := #[.tmp 18], argTypes := #[25] }, 25, "snapshot.go:79", #[⟨12, .data⟩, ⟨11, .chain⟩], none⟩) rfl (fun K hK => ?ka1_1_13_13_n5) (AllReadyH.cons (o := ⟨some 5, .alloc 25, 0, "snapshot.go:79", #[], none⟩) rfl (fun K hK => ?ka1_1_13_14_n5) AllReadyH.nil))
      case' ka1_1_13_13_n5 =>
       (go_simp; go_at_call 57; refine (snClone_any A5 n c5 L B6 m d6 X _ (OwnG.sl HO1.out (HS.out.ext HE.out).ok) (OwnG.sl HO2.out (HX.out.ext HE.out).ok) hn hm HSn.out HXn.out).mono ?_; rintro e w8 ⟨A8, c8, L8, B8, d8, X8, rfl, hv8, hL8, hX8, he8⟩; have hq8 := hv8.mono (Nat.le_trans HW2.out HE.out.size); have HL8 := hD hL8; have HX8 := hD hX8; have HXX := hD (he8); (try (have HK1 := hD (HK1.out.ext HXX.out))); (try (have HK2 := hD (HK2.out.ext HXX.out))); (try (have HO1 := hD (own_ext HO1.out HXX.out))); (try (have HO2 := hD (own_ext HO2.out HXX.out))); (try (have HG := hD (HG.out.ext HXX.out))); (try (have HV := hD (HV.out.ext HXX.out))); have HRS := hD (HRS.out.ext HXX.out); have HE := hD (HE.out.trans HXX.out); have HV := hD hq8; clear hv8 he8 hq8 hL8 hX8)
       refine hK.out _ _ (⟨hHeld.1.ext HXX.out, hHeld.2.ext HXX.out⟩) (fun hHeld => ?_)
       clear hK K
       try simp only [lays]
       refine wpAnyH_ready (rs := [14]) (by kernel_rfl) (by simp) ?_
       refine (AllReadyH.cons (o := ⟨some 5, .alloc 25, 0, "snapshot.go:79", #[], none⟩) rfl (fun K hK => ?_) AllReadyH.nil)
       (refine step_allocVw rfl (by rfl) ?_; intro g3 W9 h9; have HG3 := hD (show w.heap.size + 2 < g3 from by have h1 := h9.out.2.2; have h2 := HE.out.size; have h3 := HW3.out; omega); have HXX := hD (h9.out.2.1); (try (have HK1 := hD (HK1.out.ext HXX.out))); (try (have HK2 := hD (HK2.out.ext HXX.out))); (try (have HO1 := hD (own_ext HO1.out HXX.out))); (try (have HO2 := hD (own_ext HO2.out HXX.out))); (try (have HG := hD (HG.out.ext HXX.out))); (try (have HV := hD (HV.out.ext HXX.out))); have HRS := hD (HRS.out.ext HXX.out); have HE := hD (HE.out.trans HXX.out); have HG := hD h9.out.1; clear h9)
       refine hK.out _ _ (⟨hHeld.1.ext HXX.out, hHeld.2.ext HXX.out⟩) (fun hHeld => ?_)
       clear hK K
       try simp only [lays]
       refine wpAnyH_ready (rs := [15]) (by kernel_rfl) (by simp) ?_
       refine (AllReadyH.cons (o := ⟨none, .store 25 (.tmp 5) (.tmp 19), 0, "snapshot.go:79", #[⟨14, .data⟩, ⟨13, .data⟩, ⟨13, .chain⟩, ⟨0, .phase⟩, ⟨1, .phase⟩, ⟨2, .phase⟩, ⟨3, .phase⟩, ⟨4, .phase⟩, ⟨5, .phase⟩, ⟨6, .phase⟩, ⟨7, .phase⟩, ⟨8, .phase⟩, ⟨9, .phase⟩, ⟨10, .phase⟩, ⟨11, .phase⟩, ⟨12, .phase⟩, ⟨13, .phase⟩, ⟨14, .phase⟩], none⟩) rfl (fun K hK => ?_) AllReadyH.nil)
       (refine step_storeVw rfl (.tmp 5) (.tmp 19) (by rfl) g3 A8 n c8 B8 m d8 (by rfl) (by rfl) HG.out ?_; intro W10 h10; have HCL := hD (ClS.ofStore (w0 := w) HG.out HV.out (HEW.out.trans HE.out) (by have := HG3.out; omega) h10.out); have HRS := hD (HCL.out.2 _ _ (by have := HG3.out; omega) HRS.out); clear h10)
       refine hK.out _ _ (⟨HCL.out.2 _ _ (by have := HG3.out; omega) hHeld.1, HCL.out.2 _ _ (by have := HG3.out; omega) hHeld.2⟩) (fun hHeld => ?_)
       clear hK K
       try simp only [lays]
       refine wpAnyH_done (by kernel_rfl) ?_ _
      case' ka1_1_13_14_n5 =>
       (refine step_allocVw rfl (by rfl) ?_; intro g3 W9 h9; have HG3 := hD (show w.heap.size + 2 < g3 from by have h1 := h9.out.2.2; have h2 := HE.out.size; have h3 := HW3.out; omega); have HXX := hD (h9.out.2.1); (try (have HK1 := hD (HK1.out.ext HXX.out))); (try (have HK2 := hD (HK2.out.ext HXX.out))); (try (have HO1 := hD (own_ext HO1.out HXX.out))); (try (have HO2 := hD (own_ext HO2.out HXX.out))); (try (have HG := hD (HG.out.ext HXX.out))); (try (have HV := hD (HV.out.ext HXX.out))); have HRS := hD (HRS.out.ext HXX.out); have HE := hD (HE.out.trans HXX.out); have HG := hD h9.out.1; clear h9)
       refine hK.out _ _ (⟨hHeld.1.ext HXX.out, hHeld.2.ext HXX.out⟩) (fun hHeld => ?_)
       clear hK K
       try simp only [lays]
       refine wpAnyH_ready (rs := [13]) (by kernel_rfl) (by simp) ?_
       refine (AllReadyH.cons (o := ⟨some 19, .call { callee := .value (.func 57), args := #[.tmp 18], argTypes := #[25] }, 25, "snapshot.go:79", #[⟨12, .data⟩, ⟨11, .chain⟩], none⟩) rfl (fun K hK => ?_) AllReadyH.nil)
       (go_simp; go_at_call 57; refine (snClone_any A5 n c5 L B6 m d6 X _ (OwnG.sl HO1.out (HS.out.ext HE.out).ok) (OwnG.sl HO2.out (HX.out.ext HE.out).ok) hn hm HSn.out HXn.out).mono ?_; rintro e w8 ⟨A8, c8, L8, B8, d8, X8, rfl, hv8, hL8, hX8, he8⟩; have hq8 := hv8.mono (Nat.le_trans HW2.out HE.out.size); have HL8 := hD hL8; have HX8 := hD hX8; have HXX := hD (he8); (try (have HK1 := hD (HK1.out.ext HXX.out))); (try (have HK2 := hD (HK2.out.ext HXX.out))); (try (have HO1 := hD (own_ext HO1.out HXX.out))); (try (have HO2 := hD (own_ext HO2.out HXX.out))); (try (have HG := hD (HG.out.ext HXX.out))); (try (have HV := hD (HV.out.ext HXX.out))); have HRS := hD (HRS.out.ext HXX.out); have HE := hD (HE.out.trans HXX.out); have HV := hD hq8; clear hv8 he8 hq8 hL8 hX8)
       refine hK.out _ _ (⟨hHeld.1.ext HXX.out, hHeld.2.ext HXX.out⟩) (fun hHeld => ?_)
       clear hK K
       try simp only [lays]
       refine wpAnyH_ready (rs := [15]) (by kernel_rfl) (by simp) ?_
       refine (AllReadyH.cons (o := ⟨none, .store 25 (.tmp 5) (.tmp 19), 0, "snapshot.go:79", #[⟨14, .data⟩, ⟨13, .data⟩, ⟨13, .chain⟩, ⟨0, .phase⟩, ⟨1, .phase⟩, ⟨2, .phase⟩, ⟨3, .phase⟩, ⟨4, .phase⟩, ⟨5, .phase⟩, ⟨6, .phase⟩, ⟨7, .phase⟩, ⟨8, .phase⟩, ⟨9, .phase⟩, ⟨10, .phase⟩, ⟨11, .phase⟩, ⟨12, .phase⟩, ⟨13, .phase⟩, ⟨14, .phase⟩], none⟩) rfl (fun K hK => ?_) AllReadyH.nil)
       (refine step_storeVw rfl (.tmp 5) (.tmp 19) (by rfl) g3 A8 n c8 B8 m d8 (by rfl) (by rfl) HG.out ?_; intro W10 h10; have HCL := hD (ClS.ofStore (w0 := w) HG.out HV.out (HEW.out.trans HE.out) (by have := HG3.out; omega) h10.out); have HRS := hD (HCL.out.2 _ _ (by have := HG3.out; omega) HRS.out); clear h10)
       refine hK.out _ _ (⟨HCL.out.2 _ _ (by have := HG3.out; omega) hHeld.1, HCL.out.2 _ _ (by have := HG3.out; omega) hHeld.2⟩) (fun hHeld => ?_)
       clear hK K
       try simp only [lays]
       refine wpAnyH_done (by kernel_rfl) ?_ _
     case' ka1_1_11_14_n4 =>
      (refine step_allocVw rfl (by rfl) ?_; intro g3 W9 h9; have HG3 := hD (show w.heap.size + 2 < g3 from by have h1 := h9.out.2.2; have h2 := HE.out.size; have h3 := HW3.out; omega); have HXX := hD (h9.out.2.1); (try (have HK1 := hD (HK1.out.ext HXX.out))); (try (have HK2 := hD (HK2.out.ext HXX.out))); (try (have HO1 := hD (own_ext HO1.out HXX.out))); (try (have HO2 := hD (own_ext HO2.out HXX.out))); (try (have HG := hD (HG.out.ext HXX.out))); (try (have HV := hD (HV.out.ext HXX.out))); have HRS := hD (HRS.out.ext HXX.out); have HE := hD (HE.out.trans HXX.out); have HG := hD h9.out.1; clear h9)
      refine hK.out _ _ (⟨hHeld.1.ext HXX.out, hHeld.2.ext HXX.out⟩) (fun hHeld => ?_)
      clear hK K
      try simp only [lays]
      refine wpAnyH_ready (rs := [11]) (by kernel_rfl) (by simp) ?_
      refine (AllReadyH.cons (o := ⟨some 17, .call { callee := .value (.func 59), args := #[.tmp 16], argTypes := #[107] }, 23, "snapshot.go:79", #[⟨10, .data⟩, ⟨5, .chain⟩], none⟩) rfl (fun K hK => ?_) AllReadyH.nil)
      (go_simp; go_at_call 59; refine (concatTe_any B m d (gcs X) g2 _ (HX.out.ext HE.out).rd HLX.out HCX.out hm hcap2 HK2.out).mono ?_; rintro e w7 ⟨B6, d6, rfl, ho7, he7⟩; have hq7 := own_mono ho7 (Nat.le_trans HW2.out HE.out.size); have HXX := hD (he7); (try (have HK1 := hD (HK1.out.ext HXX.out))); (try (have HK2 := hD (HK2.out.ext HXX.out))); (try (have HO1 := hD (own_ext HO1.out HXX.out))); (try (have HO2 := hD (own_ext HO2.out HXX.out))); (try (have HG := hD (HG.out.ext HXX.out))); (try (have HV := hD (HV.out.ext HXX.out))); have HRS := hD (HRS.out.ext HXX.out); have HE := hD (HE.out.trans HXX.out); have HO2 := hD hq7; clear ho7 he7 hq7)
      refine hK.out _ _ (⟨hHeld.1.ext HXX.out, hHeld.2.ext HXX.out⟩) (fun hHeld => ?_)
      clear hK K
      try simp only [lays]
      (refine wr 12 (oi := ⟨some 18, .build 25 #[(0, .tmp 11), (1, .tmp 17)], 25, "snapshot.go:79", #[⟨5, .data⟩, ⟨11, .data⟩], none⟩) (v := ?_) rfl (by kernel_rfl) (by rfl) (fun _ _ _ h => h) ?h hHeld ?_; case h => (intro W hSW; go_simp <;> with_reducible rfl))
      try simp only [lays]
      refine wpAnyH_ready (rs := [13]) (by kernel_rfl) (by simp) ?_
      refine (AllReadyH.cons (o := ⟨some 19, .call { callee := .value (.func 57), args := #[.tmp 18], argTypes := #[25] }, 25, "snapshot.go:79", #[⟨12, .data⟩, ⟨11, .chain⟩], none⟩) rfl (fun K hK => ?_) AllReadyH.nil)
      (go_simp; go_at_call 57; refine (snClone_any A5 n c5 L B6 m d6 X _ (OwnG.sl HO1.out (HS.out.ext HE.out).ok) (OwnG.sl HO2.out (HX.out.ext HE.out).ok) hn hm HSn.out HXn.out).mono ?_; rintro e w8 ⟨A8, c8, L8, B8, d8, X8, rfl, hv8, hL8, hX8, he8⟩; have hq8 := hv8.mono (Nat.le_trans HW2.out HE.out.size); have HL8 := hD hL8; have HX8 := hD hX8; have HXX := hD (he8); (try (have HK1 := hD (HK1.out.ext HXX.out))); (try (have HK2 := hD (HK2.out.ext HXX.out))); (try (have HO1 := hD (own_ext HO1.out HXX.out))); (try (have HO2 := hD (own_ext HO2.out HXX.out))); (try (have HG := hD (HG.out.ext HXX.out))); (try (have HV := hD (HV.out.ext HXX.out))); have HRS := hD (HRS.out.ext HXX.out); have HE := hD (HE.out.trans HXX.out); have HV := hD hq8; clear hv8 he8 hq8 hL8 hX8)
      refine hK.out _ _ (⟨hHeld.1.ext HXX.out, hHeld.2.ext HXX.out⟩) (fun hHeld => ?_)
      clear hK K
      try simp only [lays]
      refine wpAnyH_ready (rs := [15]) (by kernel_rfl) (by simp) ?_
      refine (AllReadyH.cons (o := ⟨none, .store 25 (.tmp 5) (.tmp 19), 0, "snapshot.go:79", #[⟨14, .data⟩, ⟨13, .data⟩, ⟨13, .chain⟩, ⟨0, .phase⟩, ⟨1, .phase⟩, ⟨2, .phase⟩, ⟨3, .phase⟩, ⟨4, .phase⟩, ⟨5, .phase⟩, ⟨6, .phase⟩, ⟨7, .phase⟩, ⟨8, .phase⟩, ⟨9, .phase⟩, ⟨10, .phase⟩, ⟨11, .phase⟩, ⟨12, .phase⟩, ⟨13, .phase⟩, ⟨14, .phase⟩], none⟩) rfl (fun K hK => ?_) AllReadyH.nil)
      (refine step_storeVw rfl (.tmp 5) (.tmp 19) (by rfl) g3 A8 n c8 B8 m d8 (by rfl) (by rfl) HG.out ?_; intro W10 h10; have HCL := hD (ClS.ofStore (w0 := w) HG.out HV.out (HEW.out.trans HE.out) (by have := HG3.out; omega) h10.out); have HRS := hD (HCL.out.2 _ _ (by have := HG3.out; omega) HRS.out); clear h10)
      refine hK.out _ _ (⟨HCL.out.2 _ _ (by have := HG3.out; omega) hHeld.1, HCL.out.2 _ _ (by have := HG3.out; omega) hHeld.2⟩) (fun hHeld => ?_)
      clear hK K
      try simp only [lays]
      refine wpAnyH_done (by kernel_rfl) ?_ _
    case' ka1_1_10_14_n3 =>
     (refine step_allocVw rfl (by rfl) ?_; intro g3 W9 h9; have HG3 := hD (show w.heap.size + 2 < g3 from by have h1 := h9.out.2.2; have h2 := HE.out.size; have h3 := HW3.out; omega); have HXX := hD (h9.out.2.1); (try (have HK1 := hD (HK1.out.ext HXX.out))); (try (have HK2 := hD (HK2.out.ext HXX.out))); (try (have HO1 := hD (own_ext HO1.out HXX.out))); (try (have HO2 := hD (own_ext HO2.out HXX.out))); (try (have HG := hD (HG.out.ext HXX.out))); (try (have HV := hD (HV.out.ext HXX.out))); have HRS := hD (HRS.out.ext HXX.out); have HE := hD (HE.out.trans HXX.out); have HG := hD h9.out.1; clear h9)
     refine hK.out _ _ (⟨hHeld.1.ext HXX.out, hHeld.2.ext HXX.out⟩) (fun hHeld => ?_)
     clear hK K
     try simp only [lays]
     refine wpAnyH_ready (rs := [10]) (by kernel_rfl) (by simp) ?_
     refine (AllReadyH.cons (o := ⟨some 16, .buildSlice 107 2 #[(0, .tmp 13), (1, .tmp 15)], 107, "snapshot.go:79", #[⟨7, .data⟩, ⟨9, .data⟩], none⟩) rfl (fun K hK => ?_) AllReadyH.nil)
     (refine step_build2 (run_build2t B m d none 0 0) rfl (.tmp 13) (.tmp 15) (by rfl) (by rfl) (by rfl) ?_; intro g2 W6 h6; have HXX := hD (h6.out.2.1); (try (have HK1 := hD (HK1.out.ext HXX.out))); (try (have HK2 := hD (HK2.out.ext HXX.out))); (try (have HO1 := hD (own_ext HO1.out HXX.out))); (try (have HO2 := hD (own_ext HO2.out HXX.out))); (try (have HG := hD (HG.out.ext HXX.out))); (try (have HV := hD (HV.out.ext HXX.out))); have HRS := hD (HRS.out.ext HXX.out); have HE := hD (HE.out.trans HXX.out); have HK2 := hD h6.out.1; clear h6)
     refine hK.out _ _ (⟨hHeld.1.ext HXX.out, hHeld.2.ext HXX.out⟩) (fun hHeld => ?_)
     clear hK K
     try simp only [lays]
     refine wpAnyH_ready (rs := [11]) (by kernel_rfl) (by simp) ?_
     refine (AllReadyH.cons (o := ⟨some 17, .call { callee := .value (.func 59), args := #[.tmp 16], argTypes := #[107] }, 23, "snapshot.go:79", #[⟨10, .data⟩, ⟨5, .chain⟩], none⟩) rfl (fun K hK => ?_) AllReadyH.nil)
     (go_simp; go_at_call 59; refine (concatTe_any B m d (gcs X) g2 _ (HX.out.ext HE.out).rd HLX.out HCX.out hm hcap2 HK2.out).mono ?_; rintro e w7 ⟨B6, d6, rfl, ho7, he7⟩; have hq7 := own_mono ho7 (Nat.le_trans HW2.out HE.out.size); have HXX := hD (he7); (try (have HK1 := hD (HK1.out.ext HXX.out))); (try (have HK2 := hD (HK2.out.ext HXX.out))); (try (have HO1 := hD (own_ext HO1.out HXX.out))); (try (have HO2 := hD (own_ext HO2.out HXX.out))); (try (have HG := hD (HG.out.ext HXX.out))); (try (have HV := hD (HV.out.ext HXX.out))); have HRS := hD (HRS.out.ext HXX.out); have HE := hD (HE.out.trans HXX.out); have HO2 := hD hq7; clear ho7 he7 hq7)
     refine hK.out _ _ (⟨hHeld.1.ext HXX.out, hHeld.2.ext HXX.out⟩) (fun hHeld => ?_)
     clear hK K
     try simp only [lays]
     (refine wr 12 (oi := ⟨some 18, .build 25 #[(0, .tmp 11), (1, .tmp 17)], 25, "snapshot.go:79", #[⟨5, .data⟩, ⟨11, .data⟩], none⟩) (v := ?_) rfl (by kernel_rfl) (by rfl) (fun _ _ _ h => h) ?h hHeld ?_; case h => (intro W hSW; go_simp <;> with_reducible rfl))
     try simp only [lays]
     refine wpAnyH_ready (rs := [13]) (by kernel_rfl) (by simp) ?_
     refine (AllReadyH.cons (o := ⟨some 19, .call { callee := .value (.func 57), args := #[.tmp 18], argTypes := #[25] }, 25, "snapshot.go:79", #[⟨12, .data⟩, ⟨11, .chain⟩], none⟩) rfl (fun K hK => ?_) AllReadyH.nil)
     (go_simp; go_at_call 57; refine (snClone_any A5 n c5 L B6 m d6 X _ (OwnG.sl HO1.out (HS.out.ext HE.out).ok) (OwnG.sl HO2.out (HX.out.ext HE.out).ok) hn hm HSn.out HXn.out).mono ?_; rintro e w8 ⟨A8, c8, L8, B8, d8, X8, rfl, hv8, hL8, hX8, he8⟩; have hq8 := hv8.mono (Nat.le_trans HW2.out HE.out.size); have HL8 := hD hL8; have HX8 := hD hX8; have HXX := hD (he8); (try (have HK1 := hD (HK1.out.ext HXX.out))); (try (have HK2 := hD (HK2.out.ext HXX.out))); (try (have HO1 := hD (own_ext HO1.out HXX.out))); (try (have HO2 := hD (own_ext HO2.out HXX.out))); (try (have HG := hD (HG.out.ext HXX.out))); (try (have HV := hD (HV.out.ext HXX.out))); have HRS := hD (HRS.out.ext HXX.out); have HE := hD (HE.out.trans HXX.out); have HV := hD hq8; clear hv8 he8 hq8 hL8 hX8)
     refine hK.out _ _ (⟨hHeld.1.ext HXX.out, hHeld.2.ext HXX.out⟩) (fun hHeld => ?_)
     clear hK K
     try simp only [lays]
     refine wpAnyH_ready (rs := [15]) (by kernel_rfl) (by simp) ?_
     refine (AllReadyH.cons (o := ⟨none, .store 25 (.tmp 5) (.tmp 19), 0, "snapshot.go:79", #[⟨14, .data⟩, ⟨13, .data⟩, ⟨13, .chain⟩, ⟨0, .phase⟩, ⟨1, .phase⟩, ⟨2, .phase⟩, ⟨3, .phase⟩, ⟨4, .phase⟩, ⟨5, .phase⟩, ⟨6, .phase⟩, ⟨7, .phase⟩, ⟨8, .phase⟩, ⟨9, .phase⟩, ⟨10, .phase⟩, ⟨11, .phase⟩, ⟨12, .phase⟩, ⟨13, .phase⟩, ⟨14, .phase⟩], none⟩) rfl (fun K hK => ?_) AllReadyH.nil)
     (refine step_storeVw rfl (.tmp 5) (.tmp 19) (by rfl) g3 A8 n c8 B8 m d8 (by rfl) (by rfl) HG.out ?_; intro W10 h10; have HCL := hD (ClS.ofStore (w0 := w) HG.out HV.out (HEW.out.trans HE.out) (by have := HG3.out; omega) h10.out); have HRS := hD (HCL.out.2 _ _ (by have := HG3.out; omega) HRS.out); clear h10)
     refine hK.out _ _ (⟨HCL.out.2 _ _ (by have := HG3.out; omega) hHeld.1, HCL.out.2 _ _ (by have := HG3.out; omega) hHeld.2⟩) (fun hHeld => ?_)
     clear hK K
     try simp only [lays]
     refine wpAnyH_done (by kernel_rfl) ?_ _
   case' ka1_1_9_10_n2 =>
    (refine step_build2 (run_build2t B m d none 0 0) rfl (.tmp 13) (.tmp 15) (by rfl) (by rfl) (by rfl) ?_; intro g2 W6 h6; have HXX := hD (h6.out.2.1); (try (have HK1 := hD (HK1.out.ext HXX.out))); (try (have HK2 := hD (HK2.out.ext HXX.out))); (try (have HO1 := hD (own_ext HO1.out HXX.out))); (try (have HO2 := hD (own_ext HO2.out HXX.out))); (try (have HG := hD (HG.out.ext HXX.out))); (try (have HV := hD (HV.out.ext HXX.out))); have HRS := hD (HRS.out.ext HXX.out); have HE := hD (HE.out.trans HXX.out); have HK2 := hD h6.out.1; clear h6)
    refine hK.out _ _ (⟨hHeld.1.ext HXX.out, hHeld.2.ext HXX.out⟩) (fun hHeld => ?_)
    clear hK K
    try simp only [lays]
    refine wpAnyH_ready (rs := [5, 14]) (by kernel_rfl) (by simp) ?_
    refine (AllReadyH.cons (o := ⟨some 11, .call { callee := .value (.func 58), args := #[.tmp 10], argTypes := #[106] }, 22, "snapshot.go:79", #[⟨4, .data⟩], none⟩) rfl (fun K hK => ?ka1_1_10_5_n17) (AllReadyH.cons (o := ⟨some 5, .alloc 25, 0, "snapshot.go:79", #[], none⟩) rfl (fun K hK => ?ka1_1_10_14_n17) AllReadyH.nil))
    case' ka1_1_10_5_n17 =>
     (go_simp; go_at_call 58; refine (concatSg_any A n c (gcs L) g1 _ (HS.out.ext HE.out).rd HLS.out HCS.out hn hcap HK1.out).mono ?_; rintro e w5 ⟨A5, c5, rfl, ho5, he5⟩; have hq5 := own_mono ho5 (Nat.le_trans HW2.out HE.out.size); have HXX := hD (he5); (try (have HK1 := hD (HK1.out.ext HXX.out))); (try (have HK2 := hD (HK2.out.ext HXX.out))); (try (have HO1 := hD (own_ext HO1.out HXX.out))); (try (have HO2 := hD (own_ext HO2.out HXX.out))); (try (have HG := hD (HG.out.ext HXX.out))); (try (have HV := hD (HV.out.ext HXX.out))); have HRS := hD (HRS.out.ext HXX.out); have HE := hD (HE.out.trans HXX.out); have HO1 := hD hq5; clear ho5 he5 hq5)
     refine hK.out _ _ (⟨hHeld.1.ext HXX.out, hHeld.2.ext HXX.out⟩) (fun hHeld => ?_)
     clear hK K
     try simp only [lays]
     refine wpAnyH_ready (rs := [11, 14]) (by kernel_rfl) (by simp) ?_
     refine (AllReadyH.cons (o := ⟨some 17, .call { callee := .value (.func 59), args := #[.tmp 16], argTypes := #[107] }, 23, "snapshot.go:79", #[⟨10, .data⟩, ⟨5, .chain⟩], none⟩) rfl (fun K hK => ?ka1_1_11_11_n18) (AllReadyH.cons (o := ⟨some 5, .alloc 25, 0, "snapshot.go:79", #[], none⟩) rfl (fun K hK => ?ka1_1_11_14_n18) AllReadyH.nil))
     case' ka1_1_11_11_n18 =>
      (go_simp; go_at_call 59; refine (concatTe_any B m d (gcs X) g2 _ (HX.out.ext HE.out).rd HLX.out HCX.out hm hcap2 HK2.out).mono ?_; rintro e w7 ⟨B6, d6, rfl, ho7, he7⟩; have hq7 := own_mono ho7 (Nat.le_trans HW2.out HE.out.size); have HXX := hD (he7); (try (have HK1 := hD (HK1.out.ext HXX.out))); (try (have HK2 := hD (HK2.out.ext HXX.out))); (try (have HO1 := hD (own_ext HO1.out HXX.out))); (try (have HO2 := hD (own_ext HO2.out HXX.out))); (try (have HG := hD (HG.out.ext HXX.out))); (try (have HV := hD (HV.out.ext HXX.out))); have HRS := hD (HRS.out.ext HXX.out); have HE := hD (HE.out.trans HXX.out); have HO2 := hD hq7; clear ho7 he7 hq7)
      refine hK.out _ _ (⟨hHeld.1.ext HXX.out, hHeld.2.ext HXX.out⟩) (fun hHeld => ?_)
      clear hK K
      try simp only [lays]
      (refine wr 12 (oi := ⟨some 18, .build 25 #[(0, .tmp 11), (1, .tmp 17)], 25, "snapshot.go:79", #[⟨5, .data⟩, ⟨11, .data⟩], none⟩) (v := ?_) rfl (by kernel_rfl) (by rfl) (fun _ _ _ h => h) ?h hHeld ?_; case h => (intro W hSW; go_simp <;> with_reducible rfl))
      try simp only [lays]
      refine wpAnyH_ready (rs := [13, 14]) (by kernel_rfl) (by simp) ?_
      refine (AllReadyH.cons (o := ⟨some 19, .call { callee := .value (.func 57), args := #[.tmp 18], argTypes := #[25] }, 25, "snapshot.go:79", #[⟨12, .data⟩, ⟨11, .chain⟩], none⟩) rfl (fun K hK => ?ka1_1_13_13_n19) (AllReadyH.cons (o := ⟨some 5, .alloc 25, 0, "snapshot.go:79", #[], none⟩) rfl (fun K hK => ?ka1_1_13_14_n19) AllReadyH.nil))
      case' ka1_1_13_13_n19 =>
       (go_simp; go_at_call 57; refine (snClone_any A5 n c5 L B6 m d6 X _ (OwnG.sl HO1.out (HS.out.ext HE.out).ok) (OwnG.sl HO2.out (HX.out.ext HE.out).ok) hn hm HSn.out HXn.out).mono ?_; rintro e w8 ⟨A8, c8, L8, B8, d8, X8, rfl, hv8, hL8, hX8, he8⟩; have hq8 := hv8.mono (Nat.le_trans HW2.out HE.out.size); have HL8 := hD hL8; have HX8 := hD hX8; have HXX := hD (he8); (try (have HK1 := hD (HK1.out.ext HXX.out))); (try (have HK2 := hD (HK2.out.ext HXX.out))); (try (have HO1 := hD (own_ext HO1.out HXX.out))); (try (have HO2 := hD (own_ext HO2.out HXX.out))); (try (have HG := hD (HG.out.ext HXX.out))); (try (have HV := hD (HV.out.ext HXX.out))); have HRS := hD (HRS.out.ext HXX.out); have HE := hD (HE.out.trans HXX.out); have HV := hD hq8; clear hv8 he8 hq8 hL8 hX8)
       refine hK.out _ _ (⟨hHeld.1.ext HXX.out, hHeld.2.ext HXX.out⟩) (fun hHeld => ?_)
       clear hK K
       try simp only [lays]
       refine wpAnyH_ready (rs := [14]) (by kernel_rfl) (by simp) ?_
       refine (AllReadyH.cons (o := ⟨some 5, .alloc 25, 0, "snapshot.go:79", #[], none⟩) rfl (fun K hK => ?_) AllReadyH.nil)
       (refine step_allocVw rfl (by rfl) ?_; intro g3 W9 h9; have HG3 := hD (show w.heap.size + 2 < g3 from by have h1 := h9.out.2.2; have h2 := HE.out.size; have h3 := HW3.out; omega); have HXX := hD (h9.out.2.1); (try (have HK1 := hD (HK1.out.ext HXX.out))); (try (have HK2 := hD (HK2.out.ext HXX.out))); (try (have HO1 := hD (own_ext HO1.out HXX.out))); (try (have HO2 := hD (own_ext HO2.out HXX.out))); (try (have HG := hD (HG.out.ext HXX.out))); (try (have HV := hD (HV.out.ext HXX.out))); have HRS := hD (HRS.out.ext HXX.out); have HE := hD (HE.out.trans HXX.out); have HG := hD h9.out.1; clear h9)
       refine hK.out _ _ (⟨hHeld.1.ext HXX.out, hHeld.2.ext HXX.out⟩) (fun hHeld => ?_)
       clear hK K
       try simp only [lays]
       refine wpAnyH_ready (rs := [15]) (by kernel_rfl) (by simp) ?_
       refine (AllReadyH.cons (o := ⟨none, .store 25 (.tmp 5) (.tmp 19), 0, "snapshot.go:79", #[⟨14, .data⟩, ⟨13, .data⟩, ⟨13, .chain⟩, ⟨0, .phase⟩, ⟨1, .phase⟩, ⟨2, .phase⟩, ⟨3, .phase⟩, ⟨4, .phase⟩, ⟨5, .phase⟩, ⟨6, .phase⟩, ⟨7, .phase⟩, ⟨8, .phase⟩, ⟨9, .phase⟩, ⟨10, .phase⟩, ⟨11, .phase⟩, ⟨12, .phase⟩, ⟨13, .phase⟩, ⟨14, .phase⟩], none⟩) rfl (fun K hK => ?_) AllReadyH.nil)
       (refine step_storeVw rfl (.tmp 5) (.tmp 19) (by rfl) g3 A8 n c8 B8 m d8 (by rfl) (by rfl) HG.out ?_; intro W10 h10; have HCL := hD (ClS.ofStore (w0 := w) HG.out HV.out (HEW.out.trans HE.out) (by have := HG3.out; omega) h10.out); have HRS := hD (HCL.out.2 _ _ (by have := HG3.out; omega) HRS.out); clear h10)
       refine hK.out _ _ (⟨HCL.out.2 _ _ (by have := HG3.out; omega) hHeld.1, HCL.out.2 _ _ (by have := HG3.out; omega) hHeld.2⟩) (fun hHeld => ?_)
       clear hK K
       try simp only [lays]
       refine wpAnyH_done (by kernel_rfl) ?_ _
      case' ka1_1_13_14_n19 =>
       (refine step_allocVw rfl (by rfl) ?_; intro g3 W9 h9; have HG3 := hD (show w.heap.size + 2 < g3 from by have h1 := h9.out.2.2; have h2 := HE.out.size; have h3 := HW3.out; omega); have HXX := hD (h9.out.2.1); (try (have HK1 := hD (HK1.out.ext HXX.out))); (try (have HK2 := hD (HK2.out.ext HXX.out))); (try (have HO1 := hD (own_ext HO1.out HXX.out))); (try (have HO2 := hD (own_ext HO2.out HXX.out))); (try (have HG := hD (HG.out.ext HXX.out))); (try (have HV := hD (HV.out.ext HXX.out))); have HRS := hD (HRS.out.ext HXX.out); have HE := hD (HE.out.trans HXX.out); have HG := hD h9.out.1; clear h9)
       refine hK.out _ _ (⟨hHeld.1.ext HXX.out, hHeld.2.ext HXX.out⟩) (fun hHeld => ?_)
       clear hK K
       try simp only [lays]
       refine wpAnyH_ready (rs := [13]) (by kernel_rfl) (by simp) ?_
       refine (AllReadyH.cons (o := ⟨some 19, .call { callee := .value (.func 57), args := #[.tmp 18], argTypes := #[25] }, 25, "snapshot.go:79", #[⟨12, .data⟩, ⟨11, .chain⟩], none⟩) rfl (fun K hK => ?_) AllReadyH.nil)
       (go_simp; go_at_call 57; refine (snClone_any A5 n c5 L B6 m d6 X _ (OwnG.sl HO1.out (HS.out.ext HE.out).ok) (OwnG.sl HO2.out (HX.out.ext HE.out).ok) hn hm HSn.out HXn.out).mono ?_; rintro e w8 ⟨A8, c8, L8, B8, d8, X8, rfl, hv8, hL8, hX8, he8⟩; have hq8 := hv8.mono (Nat.le_trans HW2.out HE.out.size); have HL8 := hD hL8; have HX8 := hD hX8; have HXX := hD (he8); (try (have HK1 := hD (HK1.out.ext HXX.out))); (try (have HK2 := hD (HK2.out.ext HXX.out))); (try (have HO1 := hD (own_ext HO1.out HXX.out))); (try (have HO2 := hD (own_ext HO2.out HXX.out))); (try (have HG := hD (HG.out.ext HXX.out))); (try (have HV := hD (HV.out.ext HXX.out))); have HRS := hD (HRS.out.ext HXX.out); have HE := hD (HE.out.trans HXX.out); have HV := hD hq8; clear hv8 he8 hq8 hL8 hX8)
       refine hK.out _ _ (⟨hHeld.1.ext HXX.out, hHeld.2.ext HXX.out⟩) (fun hHeld => ?_)
       clear hK K
       try simp only [lays]
       refine wpAnyH_ready (rs := [15]) (by kernel_rfl) (by simp) ?_
       refine (AllReadyH.cons (o := ⟨none, .store 25 (.tmp 5) (.tmp 19), 0, "snapshot.go:79", #[⟨14, .data⟩, ⟨13, .data⟩, ⟨13, .chain⟩, ⟨0, .phase⟩, ⟨1, .phase⟩, ⟨2, .phase⟩, ⟨3, .phase⟩, ⟨4, .phase⟩, ⟨5, .phase⟩, ⟨6, .phase⟩, ⟨7, .phase⟩, ⟨8, .phase⟩, ⟨9, .phase⟩, ⟨10, .phase⟩, ⟨11, .phase⟩, ⟨12, .phase⟩, ⟨13, .phase⟩, ⟨14, .phase⟩], none⟩) rfl (fun K hK => ?_) AllReadyH.nil)
       (refine step_storeVw rfl (.tmp 5) (.tmp 19) (by rfl) g3 A8 n c8 B8 m d8 (by rfl) (by rfl) HG.out ?_; intro W10 h10; have HCL := hD (ClS.ofStore (w0 := w) HG.out HV.out (HEW.out.trans HE.out) (by have := HG3.out; omega) h10.out); have HRS := hD (HCL.out.2 _ _ (by have := HG3.out; omega) HRS.out); clear h10)
       refine hK.out _ _ (⟨HCL.out.2 _ _ (by have := HG3.out; omega) hHeld.1, HCL.out.2 _ _ (by have := HG3.out; omega) hHeld.2⟩) (fun hHeld => ?_)
       clear hK K
       try simp only [lays]
       refine wpAnyH_done (by kernel_rfl) ?_ _
     case' ka1_1_11_14_n18 =>
      (refine step_allocVw rfl (by rfl) ?_; intro g3 W9 h9; have HG3 := hD (show w.heap.size + 2 < g3 from by have h1 := h9.out.2.2; have h2 := HE.out.size; have h3 := HW3.out; omega); have HXX := hD (h9.out.2.1); (try (have HK1 := hD (HK1.out.ext HXX.out))); (try (have HK2 := hD (HK2.out.ext HXX.out))); (try (have HO1 := hD (own_ext HO1.out HXX.out))); (try (have HO2 := hD (own_ext HO2.out HXX.out))); (try (have HG := hD (HG.out.ext HXX.out))); (try (have HV := hD (HV.out.ext HXX.out))); have HRS := hD (HRS.out.ext HXX.out); have HE := hD (HE.out.trans HXX.out); have HG := hD h9.out.1; clear h9)
      refine hK.out _ _ (⟨hHeld.1.ext HXX.out, hHeld.2.ext HXX.out⟩) (fun hHeld => ?_)
      clear hK K
      try simp only [lays]
      refine wpAnyH_ready (rs := [11]) (by kernel_rfl) (by simp) ?_
      refine (AllReadyH.cons (o := ⟨some 17, .call { callee := .value (.func 59), args := #[.tmp 16], argTypes := #[107] }, 23, "snapshot.go:79", #[⟨10, .data⟩, ⟨5, .chain⟩], none⟩) rfl (fun K hK => ?_) AllReadyH.nil)
      (go_simp; go_at_call 59; refine (concatTe_any B m d (gcs X) g2 _ (HX.out.ext HE.out).rd HLX.out HCX.out hm hcap2 HK2.out).mono ?_; rintro e w7 ⟨B6, d6, rfl, ho7, he7⟩; have hq7 := own_mono ho7 (Nat.le_trans HW2.out HE.out.size); have HXX := hD (he7); (try (have HK1 := hD (HK1.out.ext HXX.out))); (try (have HK2 := hD (HK2.out.ext HXX.out))); (try (have HO1 := hD (own_ext HO1.out HXX.out))); (try (have HO2 := hD (own_ext HO2.out HXX.out))); (try (have HG := hD (HG.out.ext HXX.out))); (try (have HV := hD (HV.out.ext HXX.out))); have HRS := hD (HRS.out.ext HXX.out); have HE := hD (HE.out.trans HXX.out); have HO2 := hD hq7; clear ho7 he7 hq7)
      refine hK.out _ _ (⟨hHeld.1.ext HXX.out, hHeld.2.ext HXX.out⟩) (fun hHeld => ?_)
      clear hK K
      try simp only [lays]
      (refine wr 12 (oi := ⟨some 18, .build 25 #[(0, .tmp 11), (1, .tmp 17)], 25, "snapshot.go:79", #[⟨5, .data⟩, ⟨11, .data⟩], none⟩) (v := ?_) rfl (by kernel_rfl) (by rfl) (fun _ _ _ h => h) ?h hHeld ?_; case h => (intro W hSW; go_simp <;> with_reducible rfl))
      try simp only [lays]
      refine wpAnyH_ready (rs := [13]) (by kernel_rfl) (by simp) ?_
      refine (AllReadyH.cons (o := ⟨some 19, .call { callee := .value (.func 57), args := #[.tmp 18], argTypes := #[25] }, 25, "snapshot.go:79", #[⟨12, .data⟩, ⟨11, .chain⟩], none⟩) rfl (fun K hK => ?_) AllReadyH.nil)
      (go_simp; go_at_call 57; refine (snClone_any A5 n c5 L B6 m d6 X _ (OwnG.sl HO1.out (HS.out.ext HE.out).ok) (OwnG.sl HO2.out (HX.out.ext HE.out).ok) hn hm HSn.out HXn.out).mono ?_; rintro e w8 ⟨A8, c8, L8, B8, d8, X8, rfl, hv8, hL8, hX8, he8⟩; have hq8 := hv8.mono (Nat.le_trans HW2.out HE.out.size); have HL8 := hD hL8; have HX8 := hD hX8; have HXX := hD (he8); (try (have HK1 := hD (HK1.out.ext HXX.out))); (try (have HK2 := hD (HK2.out.ext HXX.out))); (try (have HO1 := hD (own_ext HO1.out HXX.out))); (try (have HO2 := hD (own_ext HO2.out HXX.out))); (try (have HG := hD (HG.out.ext HXX.out))); (try (have HV := hD (HV.out.ext HXX.out))); have HRS := hD (HRS.out.ext HXX.out); have HE := hD (HE.out.trans HXX.out); have HV := hD hq8; clear hv8 he8 hq8 hL8 hX8)
      refine hK.out _ _ (⟨hHeld.1.ext HXX.out, hHeld.2.ext HXX.out⟩) (fun hHeld => ?_)
      clear hK K
      try simp only [lays]
      refine wpAnyH_ready (rs := [15]) (by kernel_rfl) (by simp) ?_
      refine (AllReadyH.cons (o := ⟨none, .store 25 (.tmp 5) (.tmp 19), 0, "snapshot.go:79", #[⟨14, .data⟩, ⟨13, .data⟩, ⟨13, .chain⟩, ⟨0, .phase⟩, ⟨1, .phase⟩, ⟨2, .phase⟩, ⟨3, .phase⟩, ⟨4, .phase⟩, ⟨5, .phase⟩, ⟨6, .phase⟩, ⟨7, .phase⟩, ⟨8, .phase⟩, ⟨9, .phase⟩, ⟨10, .phase⟩, ⟨11, .phase⟩, ⟨12, .phase⟩, ⟨13, .phase⟩, ⟨14, .phase⟩], none⟩) rfl (fun K hK => ?_) AllReadyH.nil)
      (refine step_storeVw rfl (.tmp 5) (.tmp 19) (by rfl) g3 A8 n c8 B8 m d8 (by rfl) (by rfl) HG.out ?_; intro W10 h10; have HCL := hD (ClS.ofStore (w0 := w) HG.out HV.out (HEW.out.trans HE.out) (by have := HG3.out; omega) h10.out); have HRS := hD (HCL.out.2 _ _ (by have := HG3.out; omega) HRS.out); clear h10)
      refine hK.out _ _ (⟨HCL.out.2 _ _ (by have := HG3.out; omega) hHeld.1, HCL.out.2 _ _ (by have := HG3.out; omega) hHeld.2⟩) (fun hHeld => ?_)
      clear hK K
      try simp only [lays]
      refine wpAnyH_done (by kernel_rfl) ?_ _
    case' ka1_1_10_14_n17 =>
     (refine step_allocVw rfl (by rfl) ?_; intro g3 W9 h9; have HG3 := hD (show w.heap.size + 2 < g3 from by have h1 := h9.out.2.2; have h2 := HE.out.size; have h3 := HW3.out; omega); have HXX := hD (h9.out.2.1); (try (have HK1 := hD (HK1.out.ext HXX.out))); (try (have HK2 := hD (HK2.out.ext HXX.out))); (try (have HO1 := hD (own_ext HO1.out HXX.out))); (try (have HO2 := hD (own_ext HO2.out HXX.out))); (try (have HG := hD (HG.out.ext HXX.out))); (try (have HV := hD (HV.out.ext HXX.out))); have HRS := hD (HRS.out.ext HXX.out); have HE := hD (HE.out.trans HXX.out); have HG := hD h9.out.1; clear h9)
     refine hK.out _ _ (⟨hHeld.1.ext HXX.out, hHeld.2.ext HXX.out⟩) (fun hHeld => ?_)
     clear hK K
     try simp only [lays]
     refine wpAnyH_ready (rs := [5]) (by kernel_rfl) (by simp) ?_
     refine (AllReadyH.cons (o := ⟨some 11, .call { callee := .value (.func 58), args := #[.tmp 10], argTypes := #[106] }, 22, "snapshot.go:79", #[⟨4, .data⟩], none⟩) rfl (fun K hK => ?_) AllReadyH.nil)
     (go_simp; go_at_call 58; refine (concatSg_any A n c (gcs L) g1 _ (HS.out.ext HE.out).rd HLS.out HCS.out hn hcap HK1.out).mono ?_; rintro e w5 ⟨A5, c5, rfl, ho5, he5⟩; have hq5 := own_mono ho5 (Nat.le_trans HW2.out HE.out.size); have HXX := hD (he5); (try (have HK1 := hD (HK1.out.ext HXX.out))); (try (have HK2 := hD (HK2.out.ext HXX.out))); (try (have HO1 := hD (own_ext HO1.out HXX.out))); (try (have HO2 := hD (own_ext HO2.out HXX.out))); (try (have HG := hD (HG.out.ext HXX.out))); (try (have HV := hD (HV.out.ext HXX.out))); have HRS := hD (HRS.out.ext HXX.out); have HE := hD (HE.out.trans HXX.out); have HO1 := hD hq5; clear ho5 he5 hq5)
     refine hK.out _ _ (⟨hHeld.1.ext HXX.out, hHeld.2.ext HXX.out⟩) (fun hHeld => ?_)
     clear hK K
     try simp only [lays]
     refine wpAnyH_ready (rs := [11]) (by kernel_rfl) (by simp) ?_
     refine (AllReadyH.cons (o := ⟨some 17, .call { callee := .value (.func 59), args := #[.tmp 16], argTypes := #[107] }, 23, "snapshot.go:79", #[⟨10, .data⟩, ⟨5, .chain⟩], none⟩) rfl (fun K hK => ?_) AllReadyH.nil)
     (go_simp; go_at_call 59; refine (concatTe_any B m d (gcs X) g2 _ (HX.out.ext HE.out).rd HLX.out HCX.out hm hcap2 HK2.out).mono ?_; rintro e w7 ⟨B6, d6, rfl, ho7, he7⟩; have hq7 := own_mono ho7 (Nat.le_trans HW2.out HE.out.size); have HXX := hD (he7); (try (have HK1 := hD (HK1.out.ext HXX.out))); (try (have HK2 := hD (HK2.out.ext HXX.out))); (try (have HO1 := hD (own_ext HO1.out HXX.out))); (try (have HO2 := hD (own_ext HO2.out HXX.out))); (try (have HG := hD (HG.out.ext HXX.out))); (try (have HV := hD (HV.out.ext HXX.out))); have HRS := hD (HRS.out.ext HXX.out); have HE := hD (HE.out.trans HXX.out); have HO2 := hD hq7; clear ho7 he7 hq7)
     refine hK.out _ _ (⟨hHeld.1.ext HXX.out, hHeld.2.ext HXX.out⟩) (fun hHeld => ?_)
     clear hK K
     try simp only [lays]
     (refine wr 12 (oi := ⟨some 18, .build 25 #[(0, .tmp 11), (1, .tmp 17)], 25, "snapshot.go:79", #[⟨5, .data⟩, ⟨11, .data⟩], none⟩) (v := ?_) rfl (by kernel_rfl) (by rfl) (fun _ _ _ h => h) ?h hHeld ?_; case h => (intro W hSW; go_simp <;> with_reducible rfl))
     try simp only [lays]
     refine wpAnyH_ready (rs := [13]) (by kernel_rfl) (by simp) ?_
     refine (AllReadyH.cons (o := ⟨some 19, .call { callee := .value (.func 57), args := #[.tmp 18], argTypes := #[25] }, 25, "snapshot.go:79", #[⟨12, .data⟩, ⟨11, .chain⟩], none⟩) rfl (fun K hK => ?_) AllReadyH.nil)
     (go_simp; go_at_call 57; refine (snClone_any A5 n c5 L B6 m d6 X _ (OwnG.sl HO1.out (HS.out.ext HE.out).ok) (OwnG.sl HO2.out (HX.out.ext HE.out).ok) hn hm HSn.out HXn.out).mono ?_; rintro e w8 ⟨A8, c8, L8, B8, d8, X8, rfl, hv8, hL8, hX8, he8⟩; have hq8 := hv8.mono (Nat.le_trans HW2.out HE.out.size); have HL8 := hD hL8; have HX8 := hD hX8; have HXX := hD (he8); (try (have HK1 := hD (HK1.out.ext HXX.out))); (try (have HK2 := hD (HK2.out.ext HXX.out))); (try (have HO1 := hD (own_ext HO1.out HXX.out))); (try (have HO2 := hD (own_ext HO2.out HXX.out))); (try (have HG := hD (HG.out.ext HXX.out))); (try (have HV := hD (HV.out.ext HXX.out))); have HRS := hD (HRS.out.ext HXX.out); have HE := hD (HE.out.trans HXX.out); have HV := hD hq8; clear hv8 he8 hq8 hL8 hX8)
     refine hK.out _ _ (⟨hHeld.1.ext HXX.out, hHeld.2.ext HXX.out⟩) (fun hHeld => ?_)
     clear hK K
     try simp only [lays]
     refine wpAnyH_ready (rs := [15]) (by kernel_rfl) (by simp) ?_
     refine (AllReadyH.cons (o := ⟨none, .store 25 (.tmp 5) (.tmp 19), 0, "snapshot.go:79", #[⟨14, .data⟩, ⟨13, .data⟩, ⟨13, .chain⟩, ⟨0, .phase⟩, ⟨1, .phase⟩, ⟨2, .phase⟩, ⟨3, .phase⟩, ⟨4, .phase⟩, ⟨5, .phase⟩, ⟨6, .phase⟩, ⟨7, .phase⟩, ⟨8, .phase⟩, ⟨9, .phase⟩, ⟨10, .phase⟩, ⟨11, .phase⟩, ⟨12, .phase⟩, ⟨13, .phase⟩, ⟨14, .phase⟩], none⟩) rfl (fun K hK => ?_) AllReadyH.nil)
     (refine step_storeVw rfl (.tmp 5) (.tmp 19) (by rfl) g3 A8 n c8 B8 m d8 (by rfl) (by rfl) HG.out ?_; intro W10 h10; have HCL := hD (ClS.ofStore (w0 := w) HG.out HV.out (HEW.out.trans HE.out) (by have := HG3.out; omega) h10.out); have HRS := hD (HCL.out.2 _ _ (by have := HG3.out; omega) HRS.out); clear h10)
     refine hK.out _ _ (⟨HCL.out.2 _ _ (by have := HG3.out; omega) hHeld.1, HCL.out.2 _ _ (by have := HG3.out; omega) hHeld.2⟩) (fun hHeld => ?_)
     clear hK K
     try simp only [lays]
     refine wpAnyH_done (by kernel_rfl) ?_ _
   case' ka1_1_9_14_n2 =>
    (refine step_allocVw rfl (by rfl) ?_; intro g3 W9 h9; have HG3 := hD (show w.heap.size + 2 < g3 from by have h1 := h9.out.2.2; have h2 := HE.out.size; have h3 := HW3.out; omega); have HXX := hD (h9.out.2.1); (try (have HK1 := hD (HK1.out.ext HXX.out))); (try (have HK2 := hD (HK2.out.ext HXX.out))); (try (have HO1 := hD (own_ext HO1.out HXX.out))); (try (have HO2 := hD (own_ext HO2.out HXX.out))); (try (have HG := hD (HG.out.ext HXX.out))); (try (have HV := hD (HV.out.ext HXX.out))); have HRS := hD (HRS.out.ext HXX.out); have HE := hD (HE.out.trans HXX.out); have HG := hD h9.out.1; clear h9)
    refine hK.out _ _ (⟨hHeld.1.ext HXX.out, hHeld.2.ext HXX.out⟩) (fun hHeld => ?_)
    clear hK K
    try simp only [lays]
    refine wpAnyH_ready (rs := [5, 10]) (by kernel_rfl) (by simp) ?_
    refine (AllReadyH.cons (o := ⟨some 11, .call { callee := .value (.func 58), args := #[.tmp 10], argTypes := #[106] }, 22, "snapshot.go:79", #[⟨4, .data⟩], none⟩) rfl (fun K hK => ?ka1_1_10_5_n31) (AllReadyH.cons (o := ⟨some 16, .buildSlice 107 2 #[(0, .tmp 13), (1, .tmp 15)], 107, "snapshot.go:79", #[⟨7, .data⟩, ⟨9, .data⟩], none⟩) rfl (fun K hK => ?ka1_1_10_10_n31) AllReadyH.nil))
    case' ka1_1_10_5_n31 =>
     (go_simp; go_at_call 58; refine (concatSg_any A n c (gcs L) g1 _ (HS.out.ext HE.out).rd HLS.out HCS.out hn hcap HK1.out).mono ?_; rintro e w5 ⟨A5, c5, rfl, ho5, he5⟩; have hq5 := own_mono ho5 (Nat.le_trans HW2.out HE.out.size); have HXX := hD (he5); (try (have HK1 := hD (HK1.out.ext HXX.out))); (try (have HK2 := hD (HK2.out.ext HXX.out))); (try (have HO1 := hD (own_ext HO1.out HXX.out))); (try (have HO2 := hD (own_ext HO2.out HXX.out))); (try (have HG := hD (HG.out.ext HXX.out))); (try (have HV := hD (HV.out.ext HXX.out))); have HRS := hD (HRS.out.ext HXX.out); have HE := hD (HE.out.trans HXX.out); have HO1 := hD hq5; clear ho5 he5 hq5)
     refine hK.out _ _ (⟨hHeld.1.ext HXX.out, hHeld.2.ext HXX.out⟩) (fun hHeld => ?_)
     clear hK K
     try simp only [lays]
     refine wpAnyH_ready (rs := [10]) (by kernel_rfl) (by simp) ?_
     refine (AllReadyH.cons (o := ⟨some 16, .buildSlice 107 2 #[(0, .tmp 13), (1, .tmp 15)], 107, "snapshot.go:79", #[⟨7, .data⟩, ⟨9, .data⟩], none⟩) rfl (fun K hK => ?_) AllReadyH.nil)
     (refine step_build2 (run_build2t B m d none 0 0) rfl (.tmp 13) (.tmp 15) (by rfl) (by rfl) (by rfl) ?_; intro g2 W6 h6; have HXX := hD (h6.out.2.1); (try (have HK1 := hD (HK1.out.ext HXX.out))); (try (have HK2 := hD (HK2.out.ext HXX.out))); (try (have HO1 := hD (own_ext HO1.out HXX.out))); (try (have HO2 := hD (own_ext HO2.out HXX.out))); (try (have HG := hD (HG.out.ext HXX.out))); (try (have HV := hD (HV.out.ext HXX.out))); have HRS := hD (HRS.out.ext HXX.out); have HE := hD (HE.out.trans HXX.out); have HK2 := hD h6.out.1; clear h6)
     refine hK.out _ _ (⟨hHeld.1.ext HXX.out, hHeld.2.ext HXX.out⟩) (fun hHeld => ?_)
     clear hK K
     try simp only [lays]
     refine wpAnyH_ready (rs := [11]) (by kernel_rfl) (by simp) ?_
     refine (AllReadyH.cons (o := ⟨some 17, .call { callee := .value (.func 59), args := #[.tmp 16], argTypes := #[107] }, 23, "snapshot.go:79", #[⟨10, .data⟩, ⟨5, .chain⟩], none⟩) rfl (fun K hK => ?_) AllReadyH.nil)
     (go_simp; go_at_call 59; refine (concatTe_any B m d (gcs X) g2 _ (HX.out.ext HE.out).rd HLX.out HCX.out hm hcap2 HK2.out).mono ?_; rintro e w7 ⟨B6, d6, rfl, ho7, he7⟩; have hq7 := own_mono ho7 (Nat.le_trans HW2.out HE.out.size); have HXX := hD (he7); (try (have HK1 := hD (HK1.out.ext HXX.out))); (try (have HK2 := hD (HK2.out.ext HXX.out))); (try (have HO1 := hD (own_ext HO1.out HXX.out))); (try (have HO2 := hD (own_ext HO2.out HXX.out))); (try (have HG := hD (HG.out.ext HXX.out))); (try (have HV := hD (HV.out.ext HXX.out))); have HRS := hD (HRS.out.ext HXX.out); have HE := hD (HE.out.trans HXX.out); have HO2 := hD hq7; clear ho7 he7 hq7)
     refine hK.out _ _ (⟨hHeld.1.ext HXX.out, hHeld.2.ext HXX.out⟩) (fun hHeld => ?_)
     clear hK K
     try simp only [lays]
     (refine wr 12 (oi := ⟨some 18, .build 25 #[(0, .tmp 11), (1, .tmp 17)], 25, "snapshot.go:79", #[⟨5, .data⟩, ⟨11, .data⟩], none⟩) (v := ?_) rfl (by kernel_rfl) (by rfl) (fun _ _ _ h => h) ?h hHeld ?_; case h => (intro W hSW; go_simp <;> with_reducible rfl))
     try simp only [lays]
     refine wpAnyH_ready (rs := [13]) (by kernel_rfl) (by simp) ?_
     refine (AllReadyH.cons (o := ⟨some 19, .call { callee := .value (.func 57), args := #[.tmp 18], argTypes := #[25] }, 25, "snapshot.go:79", #[⟨12, .data⟩, ⟨11, .chain⟩], none⟩) rfl (fun K hK => ?_) AllReadyH.nil)
     (go_simp; go_at_call 57; refine (snClone_any A5 n c5 L B6 m d6 X _ (OwnG.sl HO1.out (HS.out.ext HE.out).ok) (OwnG.sl HO2.out (HX.out.ext HE.out).ok) hn hm HSn.out HXn.out).mono ?_; rintro e w8 ⟨A8, c8, L8, B8, d8, X8, rfl, hv8, hL8, hX8, he8⟩; have hq8 := hv8.mono (Nat.le_trans HW2.out HE.out.size); have HL8 := hD hL8; have HX8 := hD hX8; have HXX := hD (he8); (try (have HK1 := hD (HK1.out.ext HXX.out))); (try (have HK2 := hD (HK2.out.ext HXX.out))); (try (have HO1 := hD (own_ext HO1.out HXX.out))); (try (have HO2 := hD (own_ext HO2.out HXX.out))); (try (have HG := hD (HG.out.ext HXX.out))); (try (have HV := hD (HV.out.ext HXX.out))); have HRS := hD (HRS.out.ext HXX.out); have HE := hD (HE.out.trans HXX.out); have HV := hD hq8; clear hv8 he8 hq8 hL8 hX8)
     refine hK.out _ _ (⟨hHeld.1.ext HXX.out, hHeld.2.ext HXX.out⟩) (fun hHeld => ?_)
     clear hK K
     try simp only [lays]
     refine wpAnyH_ready (rs := [15]) (by kernel_rfl) (by simp) ?_
     refine (AllReadyH.cons (o := ⟨none, .store 25 (.tmp 5) (.tmp 19), 0, "snapshot.go:79", #[⟨14, .data⟩, ⟨13, .data⟩, ⟨13, .chain⟩, ⟨0, .phase⟩, ⟨1, .phase⟩, ⟨2, .phase⟩, ⟨3, .phase⟩, ⟨4, .phase⟩, ⟨5, .phase⟩, ⟨6, .phase⟩, ⟨7, .phase⟩, ⟨8, .phase⟩, ⟨9, .phase⟩, ⟨10, .phase⟩, ⟨11, .phase⟩, ⟨12, .phase⟩, ⟨13, .phase⟩, ⟨14, .phase⟩], none⟩) rfl (fun K hK => ?_) AllReadyH.nil)
     (refine step_storeVw rfl (.tmp 5) (.tmp 19) (by rfl) g3 A8 n c8 B8 m d8 (by rfl) (by rfl) HG.out ?_; intro W10 h10; have HCL := hD (ClS.ofStore (w0 := w) HG.out HV.out (HEW.out.trans HE.out) (by have := HG3.out; omega) h10.out); have HRS := hD (HCL.out.2 _ _ (by have := HG3.out; omega) HRS.out); clear h10)
     refine hK.out _ _ (⟨HCL.out.2 _ _ (by have := HG3.out; omega) hHeld.1, HCL.out.2 _ _ (by have := HG3.out; omega) hHeld.2⟩) (fun hHeld => ?_)
     clear hK K
     try simp only [lays]
     refine wpAnyH_done (by kernel_rfl) ?_ _
    case' ka1_1_10_10_n31 =>
     (refine step_build2 (run_build2t B m d none 0 0) rfl (.tmp 13) (.tmp 15) (by rfl) (by rfl) (by rfl) ?_; intro g2 W6 h6; have HXX := hD (h6.out.2.1); (try (have HK1 := hD (HK1.out.ext HXX.out))); (try (have HK2 := hD (HK2.out.ext HXX.out))); (try (have HO1 := hD (own_ext HO1.out HXX.out))); (try (have HO2 := hD (own_ext HO2.out HXX.out))); (try (have HG := hD (HG.out.ext HXX.out))); (try (have HV := hD (HV.out.ext HXX.out))); have HRS := hD (HRS.out.ext HXX.out); have HE := hD (HE.out.trans HXX.out); have HK2 := hD h6.out.1; clear h6)
     refine hK.out _ _ (⟨hHeld.1.ext HXX.out, hHeld.2.ext HXX.out⟩) (fun hHeld => ?_)
     clear hK K
     try simp only [lays]
     refine wpAnyH_ready (rs := [5]) (by kernel_rfl) (by simp) ?_
     refine (AllReadyH.cons (o := ⟨some 11, .call { callee := .value (.func 58), args := #[.tmp 10], argTypes := #[106] }, 22, "snapshot.go:79", #[⟨4, .data⟩], none⟩) rfl (fun K hK => ?_) AllReadyH.nil)
     (go_simp; go_at_call 58; refine (concatSg_any A n c (gcs L) g1 _ (HS.out.ext HE.out).rd HLS.out HCS.out hn hcap HK1.out).mono ?_; rintro e w5 ⟨A5, c5, rfl, ho5, he5⟩; have hq5 := own_mono ho5 (Nat.le_trans HW2.out HE.out.size); have HXX := hD (he5); (try (have HK1 := hD (HK1.out.ext HXX.out))); (try (have HK2 := hD (HK2.out.ext HXX.out))); (try (have HO1 := hD (own_ext HO1.out HXX.out))); (try (have HO2 := hD (own_ext HO2.out HXX.out))); (try (have HG := hD (HG.out.ext HXX.out))); (try (have HV := hD (HV.out.ext HXX.out))); have HRS := hD (HRS.out.ext HXX.out); have HE := hD (HE.out.trans HXX.out); have HO1 := hD hq5; clear ho5 he5 hq5)
     refine hK.out _ _ (⟨hHeld.1.ext HXX.out, hHeld.2.ext HXX.out⟩) (fun hHeld => ?_)
     clear hK K
     try simp only [lays]
     refine wpAnyH_ready (rs := [11]) (by kernel_rfl) (by simp) ?_
     refine (AllReadyH.cons (o := ⟨some 17, .call { callee := .value (.func 59), args := #[.tmp 16], argTypes := #[107] }, 23, "snapshot.go:79", #[⟨10, .data⟩, ⟨5, .chain⟩], none⟩) rfl (fun K hK => ?_) AllReadyH.nil)
     (go_simp; go_at_call 59; refine (concatTe_any B m d (gcs X) g2 _ (HX.out.ext HE.out).rd HLX.out HCX.out hm hcap2 HK2.out).mono ?_; rintro e w7 ⟨B6, d6, rfl, ho7, he7⟩; have hq7 := own_mono ho7 (Nat.le_trans HW2.out HE.out.size); have HXX := hD (he7); (try (have HK1 := hD (HK1.out.ext HXX.out))); (try (have HK2 := hD (HK2.out.ext HXX.out))); (try (have HO1 := hD (own_ext HO1.out HXX.out))); (try (have HO2 := hD (own_ext HO2.out HXX.out))); (try (have HG := hD (HG.out.ext HXX.out))); (try (have HV := hD (HV.out.ext HXX.out))); have HRS := hD (HRS.out.ext HXX.out); have HE := hD (HE.out.trans HXX.out); have HO2 := hD hq7; clear ho7 he7 hq7)
     refine hK.out _ _ (⟨hHeld.1.ext HXX.out, hHeld.2.ext HXX.out⟩) (fun hHeld => ?_)
     clear hK K
     try simp only [lays]
     (refine wr 12 (oi := ⟨some 18, .build 25 #[(0, .tmp 11), (1, .tmp 17)], 25, "snapshot.go:79", #[⟨5, .data⟩, ⟨11, .data⟩], none⟩) (v := ?_) rfl (by kernel_rfl) (by rfl) (fun _ _ _ h => h) ?h hHeld ?_; case h => (intro W hSW; go_simp <;> with_reducible rfl))
     try simp only [lays]
     refine wpAnyH_ready (rs := [13]) (by kernel_rfl) (by simp) ?_
     refine (AllReadyH.cons (o := ⟨some 19, .call { callee := .value (.func 57), args := #[.tmp 18], argTypes := #[25] }, 25, "snapshot.go:79", #[⟨12, .data⟩, ⟨11, .chain⟩], none⟩) rfl (fun K hK => ?_) AllReadyH.nil)
     (go_simp; go_at_call 57; refine (snClone_any A5 n c5 L B6 m d6 X _ (OwnG.sl HO1.out (HS.out.ext HE.out).ok) (OwnG.sl HO2.out (HX.out.ext HE.out).ok) hn hm HSn.out HXn.out).mono ?_; rintro e w8 ⟨A8, c8, L8, B8, d8, X8, rfl, hv8, hL8, hX8, he8⟩; have hq8 := hv8.mono (Nat.le_trans HW2.out HE.out.size); have HL8 := hD hL8; have HX8 := hD hX8; have HXX := hD (he8); (try (have HK1 := hD (HK1.out.ext HXX.out))); (try (have HK2 := hD (HK2.out.ext HXX.out))); (try (have HO1 := hD (own_ext HO1.out HXX.out))); (try (have HO2 := hD (own_ext HO2.out HXX.out))); (try (have HG := hD (HG.out.ext HXX.out))); (try (have HV := hD (HV.out.ext HXX.out))); have HRS := hD (HRS.out.ext HXX.out); have HE := hD (HE.out.trans HXX.out); have HV := hD hq8; clear hv8 he8 hq8 hL8 hX8)
     refine hK.out _ _ (⟨hHeld.1.ext HXX.out, hHeld.2.ext HXX.out⟩) (fun hHeld => ?_)
     clear hK K
     try simp only [lays]
     refine wpAnyH_ready (rs := [15]) (by kernel_rfl) (by simp) ?_
     refine (AllReadyH.cons (o := ⟨none, .store 25 (.tmp 5) (.tmp 19), 0, "snapshot.go:79", #[⟨14, .data⟩, ⟨13, .data⟩, ⟨13, .chain⟩, ⟨0, .phase⟩, ⟨1, .phase⟩, ⟨2, .phase⟩, ⟨3, .phase⟩, ⟨4, .phase⟩, ⟨5, .phase⟩, ⟨6, .phase⟩, ⟨7, .phase⟩, ⟨8, .phase⟩, ⟨9, .phase⟩, ⟨10, .phase⟩, ⟨11, .phase⟩, ⟨12, .phase⟩, ⟨13, .phase⟩, ⟨14, .phase⟩], none⟩) rfl (fun K hK => ?_) AllReadyH.nil)
     (refine step_storeVw rfl (.tmp 5) (.tmp 19) (by rfl) g3 A8 n c8 B8 m d8 (by rfl) (by rfl) HG.out ?_; intro W10 h10; have HCL := hD (ClS.ofStore (w0 := w) HG.out HV.out (HEW.out.trans HE.out) (by have := HG3.out; omega) h10.out); have HRS := hD (HCL.out.2 _ _ (by have := HG3.out; omega) HRS.out); clear h10)
     refine hK.out _ _ (⟨HCL.out.2 _ _ (by have := HG3.out; omega) hHeld.1, HCL.out.2 _ _ (by have := HG3.out; omega) hHeld.2⟩) (fun hHeld => ?_)
     clear hK K
     try simp only [lays]
     refine wpAnyH_done (by kernel_rfl) ?_ _
  case' ka1_1_8_10_n1 =>
   (refine step_build2 (run_build2t B m d none 0 0) rfl (.tmp 13) (.tmp 15) (by rfl) (by rfl) (by rfl) ?_; intro g2 W6 h6; have HXX := hD (h6.out.2.1); (try (have HK1 := hD (HK1.out.ext HXX.out))); (try (have HK2 := hD (HK2.out.ext HXX.out))); (try (have HO1 := hD (own_ext HO1.out HXX.out))); (try (have HO2 := hD (own_ext HO2.out HXX.out))); (try (have HG := hD (HG.out.ext HXX.out))); (try (have HV := hD (HV.out.ext HXX.out))); have HRS := hD (HRS.out.ext HXX.out); have HE := hD (HE.out.trans HXX.out); have HK2 := hD h6.out.1; clear h6)
   refine hK.out _ _ (⟨hHeld.1.ext HXX.out, hHeld.2.ext HXX.out⟩) (fun hHeld => ?_)
   clear hK K
   try simp only [lays]
   refine wpAnyH_ready (rs := [4, 14]) (by kernel_rfl) (by simp) ?_
   refine (AllReadyH.cons (o := ⟨some 10, .buildSlice 106 2 #[(0, .tmp 7), (1, .tmp 9)], 106, "snapshot.go:79", #[⟨1, .data⟩, ⟨3, .data⟩], none⟩) rfl (fun K hK => ?ka1_1_9_4_n40) (AllReadyH.cons (o := ⟨some 5, .alloc 25, 0, "snapshot.go:79", #[], none⟩) rfl (fun K hK => ?ka1_1_9_14_n40) AllReadyH.nil))
   case' ka1_1_9_4_n40 =>
    (refine step_build2 (run_build2s A n c none 0 0) rfl (.tmp 7) (.tmp 9) (by rfl) (by rfl) (by rfl) ?_; intro g1 W4 h4; have HXX := hD (h4.out.2.1); (try (have HK1 := hD (HK1.out.ext HXX.out))); (try (have HK2 := hD (HK2.out.ext HXX.out))); (try (have HO1 := hD (own_ext HO1.out HXX.out))); (try (have HO2 := hD (own_ext HO2.out HXX.out))); (try (have HG := hD (HG.out.ext HXX.out))); (try (have HV := hD (HV.out.ext HXX.out))); have HRS := hD (HRS.out.ext HXX.out); have HE := hD (HE.out.trans HXX.out); have HK1 := hD h4.out.1; clear h4)
    refine hK.out _ _ (⟨hHeld.1.ext HXX.out, hHeld.2.ext HXX.out⟩) (fun hHeld => ?_)
    clear hK K
    try simp only [lays]
    refine wpAnyH_ready (rs := [5, 14]) (by kernel_rfl) (by simp) ?_
    refine (AllReadyH.cons (o := ⟨some 11, .call { callee := .value (.func 58), args := #[.tmp 10], argTypes := #[106] }, 22, "snapshot.go:79", #[⟨4, .data⟩], none⟩) rfl (fun K hK => ?ka1_1_10_5_n41) (AllReadyH.cons (o := ⟨some 5, .alloc 25, 0, "snapshot.go:79", #[], none⟩) rfl (fun K hK => ?ka1_1_10_14_n41) AllReadyH.nil))
    case' ka1_1_10_5_n41 =>
     (go_simp; go_at_call 58; refine (concatSg_any A n c (gcs L) g1 _ (HS.out.ext HE.out).rd HLS.out HCS.out hn hcap HK1.out).mono ?_; rintro e w5 ⟨A5, c5, rfl, ho5, he5⟩; have hq5 := own_mono ho5 (Nat.le_trans HW2.out HE.out.size); have HXX := hD (he5); (try (have HK1 := hD (HK1.out.ext HXX.out))); (try (have HK2 := hD (HK2.out.ext HXX.out))); (try (have HO1 := hD (own_ext HO1.out HXX.out))); (try (have HO2 := hD (own_ext HO2.out HXX.out))); (try (have HG := hD (HG.out.ext HXX.out))); (try (have HV := hD (HV.out.ext HXX.out))); have HRS := hD (HRS.out.ext HXX.out); have HE := hD (HE.out.trans HXX.out); have HO1 := hD hq5; clear ho5 he5 hq5)
     refine hK.out _ _ (⟨hHeld.1.ext HXX.out, hHeld.2.ext HXX.out⟩) (fun hHeld => ?_)
     clear hK K
     try simp only [lays]
     refine wpAnyH_ready (rs := [11, 14]) (by kernel_rfl) (by simp) ?_
     refine (AllReadyH.cons (o := ⟨some 17, .call { callee := .value (.func 59), args := #[.tmp 16], argTypes := #[107] }, 23, "snapshot.go:79", #[⟨10, .data⟩, ⟨5, .chain⟩], none⟩) rfl (fun K hK => ?ka1_1_11_11_n42) (AllReadyH.cons (o := ⟨some 5, .alloc 25, 0, "snapshot.go:79", #[], none⟩) rfl (fun K hK => ?ka1_1_11_14_n42) AllReadyH.nil))
     case' ka1_1_11_11_n42 =>
      (go_simp; go_at_call 59; refine (concatTe_any B m d (gcs X) g2 _ (HX.out.ext HE.out).rd HLX.out HCX.out hm hcap2 HK2.out).mono ?_; rintro e w7 ⟨B6, d6, rfl, ho7, he7⟩; have hq7 := own_mono ho7 (Nat.le_trans HW2.out HE.out.size); have HXX := hD (he7); (try (have HK1 := hD (HK1.out.ext HXX.out))); (try (have HK2 := hD (HK2.out.ext HXX.out))); (try (have HO1 := hD (own_ext HO1.out HXX.out))); (try (have HO2 := hD (own_ext HO2.out HXX.out))); (try (have HG := hD (HG.out.ext HXX.out))); (try (have HV := hD (HV.out.ext HXX.out))); have HRS := hD (HRS.out.ext HXX.out); have HE := hD (HE.out.trans HXX.out); have HO2 := hD hq7; clear ho7 he7 hq7)
      refine hK.out _ _ (⟨hHeld.1.ext HXX.out, hHeld.2.ext HXX.out⟩) (fun hHeld => ?_)
      clear hK K
      try simp only [lays]
      (refine wr 12 (oi := ⟨some 18, .build 25 #[(0, .tmp 11), (1, .tmp 17)], 25, "snapshot.go:79", #[⟨5, .data⟩, ⟨11, .data⟩], none⟩) (v := ?_) rfl (by kernel_rfl) (by rfl) (fun _ _ _ h => h) ?h hHeld ?_; case h => (intro W hSW; go_simp <;> with_reducible rfl))
      try simp only [lays]
      refine wpAnyH_ready (rs := [13, 14]) (by kernel_rfl) (by simp) ?_
      refine (AllReadyH.cons (o := ⟨some 19, .call { callee := .value (.func 57), args := #[.tmp 18], argTypes := #[25] }, 25, "snapshot.go:79", #[⟨12, .data⟩, ⟨11, .chain⟩], none⟩) rfl (fun K hK => ?ka1_1_13_13_n43) (AllReadyH.cons (o := ⟨some 5, .alloc 25, 0, "snapshot.go:79", #[], none⟩) rfl (fun K hK => ?ka1_1_13_14_n43) AllReadyH.nil))
      case' ka1_1_13_13_n43 =>
       (go_simp; go_at_call 57; refine (snClone_any A5 n c5 L B6 m d6 X _ (OwnG.sl HO1.out (HS.out.ext HE.out).ok) (OwnG.sl HO2.out (HX.out.ext HE.out).ok) hn hm HSn.out HXn.out).mono ?_; rintro e w8 ⟨A8, c8, L8, B8, d8, X8, rfl, hv8, hL8, hX8, he8⟩; have hq8 := hv8.mono (Nat.le_trans HW2.out HE.out.size); have HL8 := hD hL8; have HX8 := hD hX8; have HXX := hD (he8); (try (have HK1 := hD (HK1.out.ext HXX.out))); (try (have HK2 := hD (HK2.out.ext HXX.out))); (try (have HO1 := hD (own_ext HO1.out HXX.out))); (try (have HO2 := hD (own_ext HO2.out HXX.out))); (try (have HG := hD (HG.out.ext HXX.out))); (try (have HV := hD (HV.out.ext HXX.out))); have HRS := hD (HRS.out.ext HXX.out); have HE := hD (HE.out.trans HXX.out); have HV := hD hq8; clear hv8 he8 hq8 hL8 hX8)
       refine hK.out _ _ (⟨hHeld.1.ext HXX.out, hHeld.2.ext HXX.out⟩) (fun hHeld => ?_)
       clear hK K
       try simp only [lays]
       refine wpAnyH_ready (rs := [14]) (by kernel_rfl) (by simp) ?_
       refine (AllReadyH.cons (o := ⟨some 5, .alloc 25, 0, "snapshot.go:79", #[], none⟩) rfl (fun K hK => ?_) AllReadyH.nil)
       (refine step_allocVw rfl (by rfl) ?_; intro g3 W9 h9; have HG3 := hD (show w.heap.size + 2 < g3 from by have h1 := h9.out.2.2; have h2 := HE.out.size; have h3 := HW3.out; omega); have HXX := hD (h9.out.2.1); (try (have HK1 := hD (HK1.out.ext HXX.out))); (try (have HK2 := hD (HK2.out.ext HXX.out))); (try (have HO1 := hD (own_ext HO1.out HXX.out))); (try (have HO2 := hD (own_ext HO2.out HXX.out))); (try (have HG := hD (HG.out.ext HXX.out))); (try (have HV := hD (HV.out.ext HXX.out))); have HRS := hD (HRS.out.ext HXX.out); have HE := hD (HE.out.trans HXX.out); have HG := hD h9.out.1; clear h9)
       refine hK.out _ _ (⟨hHeld.1.ext HXX.out, hHeld.2.ext HXX.out⟩) (fun hHeld => ?_)
       clear hK K
       try simp only [lays]
       refine wpAnyH_ready (rs := [15]) (by kernel_rfl) (by simp) ?_
       refine (AllReadyH.cons (o := ⟨none, .store 25 (.tmp 5) (.tmp 19), 0, "snapshot.go:79", #[⟨14, .data⟩, ⟨13, .data⟩, ⟨13, .chain⟩, ⟨0, .phase⟩, ⟨1, .phase⟩, ⟨2, .phase⟩, ⟨3, .phase⟩, ⟨4, .phase⟩, ⟨5, .phase⟩, ⟨6, .phase⟩, ⟨7, .phase⟩, ⟨8, .phase⟩, ⟨9, .phase⟩, ⟨10, .phase⟩, ⟨11, .phase⟩, ⟨12, .phase⟩, ⟨13, .phase⟩, ⟨14, .phase⟩], none⟩) rfl (fun K hK => ?_) AllReadyH.nil)
       (refine step_storeVw rfl (.tmp 5) (.tmp 19) (by rfl) g3 A8 n c8 B8 m d8 (by rfl) (by rfl) HG.out ?_; intro W10 h10; have HCL := hD (ClS.ofStore (w0 := w) HG.out HV.out (HEW.out.trans HE.out) (by have := HG3.out; omega) h10.out); have HRS := hD (HCL.out.2 _ _ (by have := HG3.out; omega) HRS.out); clear h10)
       refine hK.out _ _ (⟨HCL.out.2 _ _ (by have := HG3.out; omega) hHeld.1, HCL.out.2 _ _ (by have := HG3.out; omega) hHeld.2⟩) (fun hHeld => ?_)
       clear hK K
       try simp only [lays]
       refine wpAnyH_done (by kernel_rfl) ?_ _
      case' ka1_1_13_14_n43 =>
       (refine step_allocVw rfl (by rfl) ?_; intro g3 W9 h9; have HG3 := hD (show w.heap.size + 2 < g3 from by have h1 := h9.out.2.2; have h2 := HE.out.size; have h3 := HW3.out; omega); have HXX := hD (h9.out.2.1); (try (have HK1 := hD (HK1.out.ext HXX.out))); (try (have HK2 := hD (HK2.out.ext HXX.out))); (try (have HO1 := hD (own_ext HO1.out HXX.out))); (try (have HO2 := hD (own_ext HO2.out HXX.out))); (try (have HG := hD (HG.out.ext HXX.out))); (try (have HV := hD (HV.out.ext HXX.out))); have HRS := hD (HRS.out.ext HXX.out); have HE := hD (HE.out.trans HXX.out); have HG := hD h9.out.1; clear h9)
       refine hK.out _ _ (⟨hHeld.1.ext HXX.out, hHeld.2.ext HXX.out⟩) (fun hHeld => ?_)
       clear hK K
       try simp only [lays]
       refine wpAnyH_ready (rs := [13]) (by kernel_rfl) (by simp) ?_
       refine (AllReadyH.cons (o := ⟨some 19, .call { callee := .value (.func 57), args := #[.tmp 18], argTypes := #[25] }, 25, "snapshot.go:79", #[⟨12, .data⟩, ⟨11, .chain⟩], none⟩) rfl (fun K hK => ?_) AllReadyH.nil)
       (go_simp; go_at_call 57; refine (snClone_any A5 n c5 L B6 m d6 X _ (OwnG.sl HO1.out (HS.out.ext HE.out).ok) (OwnG.sl HO2.out (HX.out.ext HE.out).ok) hn hm HSn.out HXn.out).mono ?_; rintro e w8 ⟨A8, c8, L8, B8, d8, X8, rfl, hv8, hL8, hX8, he8⟩; have hq8 := hv8.mono (Nat.le_trans HW2.out HE.out.size); have HL8 := hD hL8; have HX8 := hD hX8; have HXX := hD (he8); (try (have HK1 := hD (HK1.out.ext HXX.out))); (try (have HK2 := hD (HK2.out.ext HXX.out))); (try (have HO1 := hD (own_ext HO1.out HXX.out))); (try (have HO2 := hD (own_ext HO2.out HXX.out))); (try (have HG := hD (HG.out.ext HXX.out))); (try (have HV := hD (HV.out.ext HXX.out))); have HRS := hD (HRS.out.ext HXX.out); have HE := hD (HE.out.trans HXX.out); have HV := hD hq8; clear hv8 he8 hq8 hL8 hX8)
       refine hK.out _ _ (⟨hHeld.1.ext HXX.out, hHeld.2.ext HXX.out⟩) (fun hHeld => ?_)
       clear hK K
       try simp only [lays]
       refine wpAnyH_ready (rs := [15]) (by kernel_rfl) (by simp) ?_
       refine (AllReadyH.cons (o := ⟨none, .store 25 (.tmp 5) (.tmp 19), 0, "snapshot.go:79", #[⟨14, .data⟩, ⟨13, .data⟩, ⟨13, .chain⟩, ⟨0, .phase⟩, ⟨1, .phase⟩, ⟨2, .phase⟩, ⟨3, .phase⟩, ⟨4, .phase⟩, ⟨5, .phase⟩, ⟨6, .phase⟩, ⟨7, .phase⟩, ⟨8, .phase⟩, ⟨9, .phase⟩, ⟨10, .phase⟩, ⟨11, .phase⟩, ⟨12, .phase⟩, ⟨13, .phase⟩, ⟨14, .phase⟩], none⟩) rfl (fun K hK => ?_) AllReadyH.nil)
       (refine step_storeVw rfl (.tmp 5) (.tmp 19) (by rfl) g3 A8 n c8 B8 m d8 (by rfl) (by rfl) HG.out ?_; intro W10 h10; have HCL := hD (ClS.ofStore (w0 := w) HG.out HV.out (HEW.out.trans HE.out) (by have := HG3.out; omega) h10.out); have HRS := hD (HCL.out.2 _ _ (by have := HG3.out; omega) HRS.out); clear h10)
       refine hK.out _ _ (⟨HCL.out.2 _ _ (by have := HG3.out; omega) hHeld.1, HCL.out.2 _ _ (by have := HG3.out; omega) hHeld.2⟩) (fun hHeld => ?_)
       clear hK K
       try simp only [lays]
       refine wpAnyH_done (by kernel_rfl) ?_ _
     case' ka1_1_11_14_n42 =>
      (refine step_allocVw rfl (by rfl) ?_; intro g3 W9 h9; have HG3 := hD (show w.heap.size + 2 < g3 from by have h1 := h9.out.2.2; have h2 := HE.out.size; have h3 := HW3.out; omega); have HXX := hD (h9.out.2.1); (try (have HK1 := hD (HK1.out.ext HXX.out))); (try (have HK2 := hD (HK2.out.ext HXX.out))); (try (have HO1 := hD (own_ext HO1.out HXX.out))); (try (have HO2 := hD (own_ext HO2.out HXX.out))); (try (have HG := hD (HG.out.ext HXX.out))); (try (have HV := hD (HV.out.ext HXX.out))); have HRS := hD (HRS.out.ext HXX.out); have HE := hD (HE.out.trans HXX.out); have HG := hD h9.out.1; clear h9)
      refine hK.out _ _ (⟨hHeld.1.ext HXX.out, hHeld.2.ext HXX.out⟩) (fun hHeld => ?_)
      clear hK K
      try simp only [lays]
      refine wpAnyH_ready (rs := [11]) (by kernel_rfl) (by simp) ?_
      refine (AllReadyH.cons (o := ⟨some 17, .call { callee := .value (.func 59), args := #[.tmp 16], argTypes := #[107] }, 23, "snapshot.go:79", #[⟨10, .data⟩, ⟨5, .chain⟩], none⟩) rfl (fun K hK => ?_) AllReadyH.nil)
      (go_simp; go_at_call 59; refine (concatTe_any B m d (gcs X) g2 _ (HX.out.ext HE.out).rd HLX.out HCX.out hm hcap2 HK2.out).mono ?_; rintro e w7 ⟨B6, d6, rfl, ho7, he7⟩; have hq7 := own_mono ho7 (Nat.le_trans HW2.out HE.out.size); have HXX := hD (he7); (try (have HK1 := hD (HK1.out.ext HXX.out))); (try (have HK2 := hD (HK2.out.ext HXX.out))); (try (have HO1 := hD (own_ext HO1.out HXX.out))); (try (have HO2 := hD (own_ext HO2.out HXX.out))); (try (have HG := hD (HG.out.ext HXX.out))); (try (have HV := hD (HV.out.ext HXX.out))); have HRS := hD (HRS.out.ext HXX.out); have HE := hD (HE.out.trans HXX.out); have HO2 := hD hq7; clear ho7 he7 hq7)
      refine hK.out _ _ (⟨hHeld.1.ext HXX.out, hHeld.2.ext HXX.out⟩) (fun hHeld => ?_)
      clear hK K
      try simp only [lays]
      (refine wr 12 (oi := ⟨some 18, .build 25 #[(0, .tmp 11), (1, .tmp 17)], 25, "snapshot.go:79", #[⟨5, .data⟩, ⟨11, .data⟩], none⟩) (v := ?_) rfl (by kernel_rfl) (by rfl) (fun _ _ _ h => h) ?h hHeld ?_; case h => (intro W hSW; go_simp <;> with_reducible rfl))
      try simp only [lays]
      refine wpAnyH_ready (rs := [13]) (by kernel_rfl) (by simp) ?_
      refine (AllReadyH.cons (o := ⟨some 19, .call { callee := .value (.func 57), args := #[.tmp 18], argTypes := #[25] }, 25, "snapshot.go:79", #[⟨12, .data⟩, ⟨11, .chain⟩], none⟩) rfl (fun K hK => ?_) AllReadyH.nil)
      (go_simp; go_at_call 57; refine (snClone_any A5 n c5 L B6 m d6 X _ (OwnG.sl HO1.out (HS.out.ext HE.out).ok) (OwnG.sl HO2.out (HX.out.ext HE.out).ok) hn hm HSn.out HXn.out).mono ?_; rintro e w8 ⟨A8, c8, L8, B8, d8, X8, rfl, hv8, hL8, hX8, he8⟩; have hq8 := hv8.mono (Nat.le_trans HW2.out HE.out.size); have HL8 := hD hL8; have HX8 := hD hX8; have HXX := hD (he8); (try (have HK1 := hD (HK1.out.ext HXX.out))); (try (have HK2 := hD (HK2.out.ext HXX.out))); (try (have HO1 := hD (own_ext HO1.out HXX.out))); (try (have HO2 := hD (own_ext HO2.out HXX.out))); (try (have HG := hD (HG.out.ext HXX.out))); (try (have HV := hD (HV.out.ext HXX.out))); have HRS := hD (HRS.out.ext HXX.out); have HE := hD (HE.out.trans HXX.out); have HV := hD hq8; clear hv8 he8 hq8 hL8 hX8)
      refine hK.out _ _ (⟨hHeld.1.ext HXX.out, hHeld.2.ext HXX.out⟩) (fun hHeld => ?_)
      clear hK K
      try simp only [lays]
      refine wpAnyH_ready (rs := [15]) (by kernel_rfl) (by simp) ?_
      refine (AllReadyH.cons (o := ⟨none, .store 25 (.tmp 5) (.tmp 19), 0, "snapshot.go:79", #[⟨14, .data⟩, ⟨13, .data⟩, ⟨13, .chain⟩, ⟨0, .phase⟩, ⟨1, .phase⟩, ⟨2, .phase⟩, ⟨3, .phase⟩, ⟨4, .phase⟩, ⟨5, .phase⟩, ⟨6, .phase⟩, ⟨7, .phase⟩, ⟨8, .phase⟩, ⟨9, .phase⟩, ⟨10, .phase⟩, ⟨11, .phase⟩, ⟨12, .phase⟩, ⟨13, .phase⟩, ⟨14, .phase⟩], none⟩) rfl (fun K hK => ?_) AllReadyH.nil)
      (refine step_storeVw rfl (.tmp 5) (.tmp 19) (by rfl) g3 A8 n c8 B8 m d8 (by rfl) (by rfl) HG.out ?_; intro W10 h10; have HCL := hD (ClS.ofStore (w0 := w) HG.out HV.out (HEW.out.trans HE.out) (by have := HG3.out; omega) h10.out); have HRS := hD (HCL.out.2 _ _ (by have := HG3.out; omega) HRS.out); clear h10)
      refine hK.out _ _ (⟨HCL.out.2 _ _ (by have := HG3.out; omega) hHeld.1, HCL.out.2 _ _ (by have := HG3.out; omega) hHeld.2⟩) (fun hHeld => ?_)
      clear hK K
      try simp only [lays]
      refine wpAnyH_done (by kernel_rfl) ?_ _
    case' ka1_1_10_14_n41 =>
     (refine step_allocVw rfl (by rfl) ?_; intro g3 W9 h9; have HG3 := hD (show w.heap.size + 2 < g3 from by have h1 := h9.out.2.2; have h2 := HE.out.size; have h3 := HW3.out; omega); have HXX := hD (h9.out.2.1); (try (have HK1 := hD (HK1.out.ext HXX.out))); (try (have HK2 := hD (HK2.out.ext HXX.out))); (try (have HO1 := hD (own_ext HO1.out HXX.out))); (try (have HO2 := hD (own_ext HO2.out HXX.out))); (try (have HG := hD (HG.out.ext HXX.out))); (try (have HV := hD (HV.out.ext HXX.out))); have HRS := hD (HRS.out.ext HXX.out); have HE := hD (HE.out.trans HXX.out); have HG := hD h9.out.1; clear h9)
     refine hK.out _ _ (⟨hHeld.1.ext HXX.out, hHeld.2.ext HXX.out⟩) (fun hHeld => ?_)
     clear hK K
     try simp only [lays]
     refine wpAnyH_ready (rs := [5]) (by kernel_rfl) (by simp) ?_
     refine (AllReadyH.cons (o := ⟨some 11, .call { callee := .value (.func 58), args := #[.tmp 10], argTypes := #[106] }, 22, "snapshot.go:79", #[⟨4, .data⟩], none⟩) rfl (fun K hK => ?_) AllReadyH.nil)
     (go_simp; go_at_call 58; refine (concatSg_any A n c (gcs L) g1 _ (HS.out.ext HE.out).rd HLS.out HCS.out hn hcap HK1.out).mono ?_; rintro e w5 ⟨A5, c5, rfl, ho5, he5⟩; have hq5 := own_mono ho5 (Nat.le_trans HW2.out HE.out.size); have HXX := hD (he5); (try (have HK1 := hD (HK1.out.ext HXX.out))); (try (have HK2 := hD (HK2.out.ext HXX.out))); (try (have HO1 := hD (own_ext HO1.out HXX.out))); (try (have HO2 := hD (own_ext HO2.out HXX.out))); (try (have HG := hD (HG.out.ext HXX.out))); (try (have HV := hD (HV.out.ext HXX.out))); have HRS := hD (HRS.out.ext HXX.out); have HE := hD (HE.out.trans HXX.out); have HO1 := hD hq5; clear ho5 he5 hq5)
     refine hK.out _ _ (⟨hHeld.1.ext HXX.out, hHeld.2.ext HXX.out⟩) (fun hHeld => ?_)
     clear hK K
     try simp only [lays]
     refine wpAnyH_ready (rs := [11]) (by kernel_rfl) (by simp) ?_
     refine (AllReadyH.cons (o := ⟨some 17, .call { callee := .value (.func 59), args := #[.tmp 16], argTypes := #[107] }, 23, "snapshot.go:79", #[⟨10, .data⟩, ⟨5, .chain⟩], none⟩) rfl (fun K hK => ?_) AllReadyH.nil)
     (go_simp; go_at_call 59; refine (concatTe_any B m d (gcs X) g2 _ (HX.out.ext HE.out).rd HLX.out HCX.out hm hcap2 HK2.out).mono ?_; rintro e w7 ⟨B6, d6, rfl, ho7, he7⟩; have hq7 := own_mono ho7 (Nat.le_trans HW2.out HE.out.size); have HXX := hD (he7); (try (have HK1 := hD (HK1.out.ext HXX.out))); (try (have HK2 := hD (HK2.out.ext HXX.out))); (try (have HO1 := hD (own_ext HO1.out HXX.out))); (try (have HO2 := hD (own_ext HO2.out HXX.out))); (try (have HG := hD (HG.out.ext HXX.out))); (try (have HV := hD (HV.out.ext HXX.out))); have HRS := hD (HRS.out.ext HXX.out); have HE := hD (HE.out.trans HXX.out); have HO2 := hD hq7; clear ho7 he7 hq7)
     refine hK.out _ _ (⟨hHeld.1.ext HXX.out, hHeld.2.ext HXX.out⟩) (fun hHeld => ?_)
     clear hK K
     try simp only [lays]
     (refine wr 12 (oi := ⟨some 18, .build 25 #[(0, .tmp 11), (1, .tmp 17)], 25, "snapshot.go:79", #[⟨5, .data⟩, ⟨11, .data⟩], none⟩) (v := ?_) rfl (by kernel_rfl) (by rfl) (fun _ _ _ h => h) ?h hHeld ?_; case h => (intro W hSW; go_simp <;> with_reducible rfl))
     try simp only [lays]
     refine wpAnyH_ready (rs := [13]) (by kernel_rfl) (by simp) ?_
     refine (AllReadyH.cons (o := ⟨some 19, .call { callee := .value (.func 57), args := #[.tmp 18], argTypes := #[25] }, 25, "snapshot.go:79", #[⟨12, .data⟩, ⟨11, .chain⟩], none⟩) rfl (fun K hK => ?_) AllReadyH.nil)
     (go_simp; go_at_call 57; refine (snClone_any A5 n c5 L B6 m d6 X _ (OwnG.sl HO1.out (HS.out.ext HE.out).ok) (OwnG.sl HO2.out (HX.out.ext HE.out).ok) hn hm HSn.out HXn.out).mono ?_; rintro e w8 ⟨A8, c8, L8, B8, d8, X8, rfl, hv8, hL8, hX8, he8⟩; have hq8 := hv8.mono (Nat.le_trans HW2.out HE.out.size); have HL8 := hD hL8; have HX8 := hD hX8; have HXX := hD (he8); (try (have HK1 := hD (HK1.out.ext HXX.out))); (try (have HK2 := hD (HK2.out.ext HXX.out))); (try (have HO1 := hD (own_ext HO1.out HXX.out))); (try (have HO2 := hD (own_ext HO2.out HXX.out))); (try (have HG := hD (HG.out.ext HXX.out))); (try (have HV := hD (HV.out.ext HXX.out))); have HRS := hD (HRS.out.ext HXX.out); have HE := hD (HE.out.trans HXX.out); have HV := hD hq8; clear hv8 he8 hq8 hL8 hX8)
     refine hK.out _ _ (⟨hHeld.1.ext HXX.out, hHeld.2.ext HXX.out⟩) (fun hHeld => ?_)
     clear hK K
     try simp only [lays]
     refine wpAnyH_ready (rs := [15]) (by kernel_rfl) (by simp) ?_
     refine (AllReadyH.cons (o := ⟨none, .store 25 (.tmp 5) (.tmp 19), 0, "snapshot.go:79", #[⟨14, .data⟩, ⟨13, .data⟩, ⟨13, .chain⟩, ⟨0, .phase⟩, ⟨1, .phase⟩, ⟨2, .phase⟩, ⟨3, .phase⟩, ⟨4, .phase⟩, ⟨5, .phase⟩, ⟨6, .phase⟩, ⟨7, .phase⟩, ⟨8, .phase⟩, ⟨9, .phase⟩, ⟨10, .phase⟩, ⟨11, .phase⟩, ⟨12, .phase⟩, ⟨13, .phase⟩, ⟨14, .phase⟩], none⟩) rfl (fun K hK => ?_) AllReadyH.nil)
     (refine step_storeVw rfl (.tmp 5) (.tmp 19) (by rfl) g3 A8 n c8 B8 m d8 (by rfl) (by rfl) HG.out ?_; intro W10 h10; have HCL := hD (ClS.ofStore (w0 := w) HG.out HV.out (HEW.out.trans HE.out) (by have := HG3.out; omega) h10.out); have HRS := hD (HCL.out.2 _ _ (by have := HG3.out; omega) HRS.out); clear h10)
     refine hK.out _ _ (⟨HCL.out.2 _ _ (by have := HG3.out; omega) hHeld.1, HCL.out.2 _ _ (by have := HG3.out; omega) hHeld.2⟩) (fun hHeld => ?_)
     clear hK K
     try simp only [lays]
     refine wpAnyH_done (by kernel_rfl) ?_ _
   case' ka1_1_9_14_n40 =>
    (refine step_allocVw rfl (by rfl) ?_; intro g3 W9 h9; have HG3 := hD (show w.heap.size + 2 < g3 from by have h1 := h9.out.2.2; have h2 := HE.out.size; have h3 := HW3.out; omega); have HXX := hD (h9.out.2.1); (try (have HK1 := hD (HK1.out.ext HXX.out))); (try (have HK2 := hD (HK2.out.ext HXX.out))); (try (have HO1 := hD (own_ext HO1.out HXX.out))); (try (have HO2 := hD (own_ext HO2.out HXX.out))); (try (have HG := hD (HG.out.ext HXX.out))); (try (have HV := hD (HV.out.ext HXX.out))); have HRS := hD (HRS.out.ext HXX.out); have HE := hD (HE.out.trans HXX.out); have HG := hD h9.out.1; clear h9)
    refine hK.out _ _ (⟨hHeld.1.ext HXX.out, hHeld.2.ext HXX.out⟩) (fun hHeld => ?_)
    clear hK K
    try simp only [lays]
    refine wpAnyH_ready (rs := [4]) (by kernel_rfl) (by simp) ?_
    refine (AllReadyH.cons (o := ⟨some 10, .buildSlice 106 2 #[(0, .tmp 7), (1, .tmp 9)], 106, "snapshot.go:79", #[⟨1, .data⟩, ⟨3, .data⟩], none⟩) rfl (fun K hK => ?_) AllReadyH.nil)
    (refine step_build2 (run_build2s A n c none 0 0) rfl (.tmp 7) (.tmp 9) (by rfl) (by rfl) (by rfl) ?_; intro g1 W4 h4; have HXX := hD (h4.out.2.1); (try (have HK1 := hD (HK1.out.ext HXX.out))); (try (have HK2 := hD (HK2.out.ext HXX.out))); (try (have HO1 := hD (own_ext HO1.out HXX.out))); (try (have HO2 := hD (own_ext HO2.out HXX.out))); (try (have HG := hD (HG.out.ext HXX.out))); (try (have HV := hD (HV.out.ext HXX.out))); have HRS := hD (HRS.out.ext HXX.out); have HE := hD (HE.out.trans HXX.out); have HK1 := hD h4.out.1; clear h4)
    refine hK.out _ _ (⟨hHeld.1.ext HXX.out, hHeld.2.ext HXX.out⟩) (fun hHeld => ?_)
    clear hK K
    try simp only [lays]
    refine wpAnyH_ready (rs := [5]) (by kernel_rfl) (by simp) ?_
    refine (AllReadyH.cons (o := ⟨some 11, .call { callee := .value (.func 58), args := #[.tmp 10], argTypes := #[106] }, 22, "snapshot.go:79", #[⟨4, .data⟩], none⟩) rfl (fun K hK => ?_) AllReadyH.nil)
    (go_simp; go_at_call 58; refine (concatSg_any A n c (gcs L) g1 _ (HS.out.ext HE.out).rd HLS.out HCS.out hn hcap HK1.out).mono ?_; rintro e w5 ⟨A5, c5, rfl, ho5, he5⟩; have hq5 := own_mono ho5 (Nat.le_trans HW2.out HE.out.size); have HXX := hD (he5); (try (have HK1 := hD (HK1.out.ext HXX.out))); (try (have HK2 := hD (HK2.out.ext HXX.out))); (try (have HO1 := hD (own_ext HO1.out HXX.out))); (try (have HO2 := hD (own_ext HO2.out HXX.out))); (try (have HG := hD (HG.out.ext HXX.out))); (try (have HV := hD (HV.out.ext HXX.out))); have HRS := hD (HRS.out.ext HXX.out); have HE := hD (HE.out.trans HXX.out); have HO1 := hD hq5; clear ho5 he5 hq5)
    refine hK.out _ _ (⟨hHeld.1.ext HXX.out, hHeld.2.ext HXX.out⟩) (fun hHeld => ?_)
    clear hK K
    try simp only [lays]
    refine wpAnyH_ready (rs := [11]) (by kernel_rfl) (by simp) ?_
    refine (AllReadyH.cons (o := ⟨some 17, .call { callee := .value (.func 59), args := #[.tmp 16], argTypes := #[107] }, 23, "snapshot.go:79", #[⟨10, .data⟩, ⟨5, .chain⟩], none⟩) rfl (fun K hK => ?_) AllReadyH.nil)
    (go_simp; go_at_call 59; refine (concatTe_any B m d (gcs X) g2 _ (HX.out.ext HE.out).rd HLX.out HCX.out hm hcap2 HK2.out).mono ?_; rintro e w7 ⟨B6, d6, rfl, ho7, he7⟩; have hq7 := own_mono ho7 (Nat.le_trans HW2.out HE.out.size); have HXX := hD (he7); (try (have HK1 := hD (HK1.out.ext HXX.out))); (try (have HK2 := hD (HK2.out.ext HXX.out))); (try (have HO1 := hD (own_ext HO1.out HXX.out))); (try (have HO2 := hD (own_ext HO2.out HXX.out))); (try (have HG := hD (HG.out.ext HXX.out))); (try (have HV := hD (HV.out.ext HXX.out))); have HRS := hD (HRS.out.ext HXX.out); have HE := hD (HE.out.trans HXX.out); have HO2 := hD hq7; clear ho7 he7 hq7)
    refine hK.out _ _ (⟨hHeld.1.ext HXX.out, hHeld.2.ext HXX.out⟩) (fun hHeld => ?_)
    clear hK K
    try simp only [lays]
    (refine wr 12 (oi := ⟨some 18, .build 25 #[(0, .tmp 11), (1, .tmp 17)], 25, "snapshot.go:79", #[⟨5, .data⟩, ⟨11, .data⟩], none⟩) (v := ?_) rfl (by kernel_rfl) (by rfl) (fun _ _ _ h => h) ?h hHeld ?_; case h => (intro W hSW; go_simp <;> with_reducible rfl))
    try simp only [lays]
    refine wpAnyH_ready (rs := [13]) (by kernel_rfl) (by simp) ?_
    refine (AllReadyH.cons (o := ⟨some 19, .call { callee := .value (.func 57), args := #[.tmp 18], argTypes := #[25] }, 25, "snapshot.go:79", #[⟨12, .data⟩, ⟨11, .chain⟩], none⟩) rfl (fun K hK => ?_) AllReadyH.nil)
    (go_simp; go_at_call 57; refine (snClone_any A5 n c5 L B6 m d6 X _ (OwnG.sl HO1.out (HS.out.ext HE.out).ok) (OwnG.sl HO2.out (HX.out.ext HE.out).ok) hn hm HSn.out HXn.out).mono ?_; rintro e w8 ⟨A8, c8, L8, B8, d8, X8, rfl, hv8, hL8, hX8, he8⟩; have hq8 := hv8.mono (Nat.le_trans HW2.out HE.out.size); have HL8 := hD hL8; have HX8 := hD hX8; have HXX := hD (he8); (try (have HK1 := hD (HK1.out.ext HXX.out))); (try (have HK2 := hD (HK2.out.ext HXX.out))); (try (have HO1 := hD (own_ext HO1.out HXX.out))); (try (have HO2 := hD (own_ext HO2.out HXX.out))); (try (have HG := hD (HG.out.ext HXX.out))); (try (have HV := hD (HV.out.ext HXX.out))); have HRS := hD (HRS.out.ext HXX.out); have HE := hD (HE.out.trans HXX.out); have HV := hD hq8; clear hv8 he8 hq8 hL8 hX8)
    refine hK.out _ _ (⟨hHeld.1.ext HXX.out, hHeld.2.ext HXX.out⟩) (fun hHeld => ?_)
    clear hK K
    try simp only [lays]
    refine wpAnyH_ready (rs := [15]) (by kernel_rfl) (by simp) ?_
    refine (AllReadyH.cons (o := ⟨none, .store 25 (.tmp 5) (.tmp 19), 0, "snapshot.go:79", #[⟨14, .data⟩, ⟨13, .data⟩, ⟨13, .chain⟩, ⟨0, .phase⟩, ⟨1, .phase⟩, ⟨2, .phase⟩, ⟨3, .phase⟩, ⟨4, .phase⟩, ⟨5, .phase⟩, ⟨6, .phase⟩, ⟨7, .phase⟩, ⟨8, .phase⟩, ⟨9, .phase⟩, ⟨10, .phase⟩, ⟨11, .phase⟩, ⟨12, .phase⟩, ⟨13, .phase⟩, ⟨14, .phase⟩], none⟩) rfl (fun K hK => ?_) AllReadyH.nil)
    (refine step_storeVw rfl (.tmp 5) (.tmp 19) (by rfl) g3 A8 n c8 B8 m d8 (by rfl) (by rfl) HG.out ?_; intro W10 h10; have HCL := hD (ClS.ofStore (w0 := w) HG.out HV.out (HEW.out.trans HE.out) (by have := HG3.out; omega) h10.out); have HRS := hD (HCL.out.2 _ _ (by have := HG3.out; omega) HRS.out); clear h10)
    refine hK.out _ _ (⟨HCL.out.2 _ _ (by have := HG3.out; omega) hHeld.1, HCL.out.2 _ _ (by have := HG3.out; omega) hHeld.2⟩) (fun hHeld => ?_)
    clear hK K
    try simp only [lays]
    refine wpAnyH_done (by kernel_rfl) ?_ _
  case' ka1_1_8_14_n1 =>
   (refine step_allocVw rfl (by rfl) ?_; intro g3 W9 h9; have HG3 := hD (show w.heap.size + 2 < g3 from by have h1 := h9.out.2.2; have h2 := HE.out.size; have h3 := HW3.out; omega); have HXX := hD (h9.out.2.1); (try (have HK1 := hD (HK1.out.ext HXX.out))); (try (have HK2 := hD (HK2.out.ext HXX.out))); (try (have HO1 := hD (own_ext HO1.out HXX.out))); (try (have HO2 := hD (own_ext HO2.out HXX.out))); (try (have HG := hD (HG.out.ext HXX.out))); (try (have HV := hD (HV.out.ext HXX.out))); have HRS := hD (HRS.out.ext HXX.out); have HE := hD (HE.out.trans HXX.out); have HG := hD h9.out.1; clear h9)
   refine hK.out _ _ (⟨hHeld.1.ext HXX.out, hHeld.2.ext HXX.out⟩) (fun hHeld => ?_)
   clear hK K
   try simp only [lays]
   refine wpAnyH_ready (rs := [4, 10]) (by kernel_rfl) (by simp) ?_
   refine (AllReadyH.cons (o := ⟨some 10, .buildSlice 106 2 #[(0, .tmp 7), (1, .tmp 9)], 106, "snapshot.go:79", #[⟨1, .data⟩, ⟨3, .data⟩], none⟩) rfl (fun K hK => ?ka1_1_9_4_n60) (AllReadyH.cons (o := ⟨some 16, .buildSlice 107 2 #[(0, .tmp 13), (1, .tmp 15)], 107, "snapshot.go:79", #[⟨7, .data⟩, ⟨9, .data⟩], none⟩) rfl (fun K hK => ?ka1_1_9_10_n60) AllReadyH.nil))
   case' ka1_1_9_4_n60 =>
    (refine step_build2 (run_build2s A n c none 0 0) rfl (.tmp 7) (.tmp 9) (by rfl) (by rfl) (by rfl) ?_; intro g1 W4 h4; have HXX := hD (h4.out.2.1); (try (have HK1 := hD (HK1.out.ext HXX.out))); (try (have HK2 := hD (HK2.out.ext HXX.out))); (try (have HO1 := hD (own_ext HO1.out HXX.out))); (try (have HO2 := hD (own_ext HO2.out HXX.out))); (try (have HG := hD (HG.out.ext HXX.out))); (try (have HV := hD (HV.out.ext HXX.out))); have HRS := hD (HRS.out.ext HXX.out); have HE := hD (HE.out.trans HXX.out); have HK1 := hD h4.out.1; clear h4)
    refine hK.out _ _ (⟨hHeld.1.ext HXX.out, hHeld.2.ext HXX.out⟩) (fun hHeld => ?_)
    clear hK K
    try simp only [lays]
    refine wpAnyH_ready (rs := [5, 10]) (by kernel_rfl) (by simp) ?_
    refine (AllReadyH.cons (o := ⟨some 11, .call { callee := .value (.func 58), args := #[.tmp 10], argTypes := #[106] }, 22, "snapshot.go:79", #[⟨4, .data⟩], none⟩) rfl (fun K hK => ?ka1_1_10_5_n61) (AllReadyH.cons (o := ⟨some 16, .buildSlice 107 2 #[(0, .tmp 13), (1, .tmp 15)], 107, "snapshot.go:79", #[⟨7, .data⟩, ⟨9, .data⟩], none⟩) rfl (fun K hK => ?ka1_1_10_10_n61) AllReadyH.nil))
    case' ka1_1_10_5_n61 =>
     (go_simp; go_at_call 58; refine (concatSg_any A n c (gcs L) g1 _ (HS.out.ext HE.out).rd HLS.out HCS.out hn hcap HK1.out).mono ?_; rintro e w5 ⟨A5, c5, rfl, ho5, he5⟩; have hq5 := own_mono ho5 (Nat.le_trans HW2.out HE.out.size); have HXX := hD (he5); (try (have HK1 := hD (HK1.out.ext HXX.out))); (try (have HK2 := hD (HK2.out.ext HXX.out))); (try (have HO1 := hD (own_ext HO1.out HXX.out))); (try (have HO2 := hD (own_ext HO2.out HXX.out))); (try (have HG := hD (HG.out.ext HXX.out))); (try (have HV := hD (HV.out.ext HXX.out))); have HRS := hD (HRS.out.ext HXX.out); have HE := hD (HE.out.trans HXX.out); have HO1 := hD hq5; clear ho5 he5 hq5)
     refine hK.out _ _ (⟨hHeld.1.ext HXX.out, hHeld.2.ext HXX.out⟩) (fun hHeld => ?_)
     clear hK K
     try simp only [lays]
     refine wpAnyH_ready (rs := [10]) (by kernel_rfl) (by simp) ?_
     refine (AllReadyH.cons (o := ⟨some 16, .buildSlice 107 2 #[(0, .tmp 13), (1, .tmp 15)], 107, "snapshot.go:79", #[⟨7, .data⟩, ⟨9, .data⟩], none⟩) rfl (fun K hK => ?_) AllReadyH.nil)
     (refine step_build2 (run_build2t B m d none 0 0) rfl (.tmp 13) (.tmp 15) (by rfl) (by rfl) (by rfl) ?_; intro g2 W6 h6; have HXX := hD (h6.out.2.1); (try (have HK1 := hD (HK1.out.ext HXX.out))); (try (have HK2 := hD (HK2.out.ext HXX.out))); (try (have HO1 := hD (own_ext HO1.out HXX.out))); (try (have HO2 := hD (own_ext HO2.out HXX.out))); (try (have HG := hD (HG.out.ext HXX.out))); (try (have HV := hD (HV.out.ext HXX.out))); have HRS := hD (HRS.out.ext HXX.out); have HE := hD (HE.out.trans HXX.out); have HK2 := hD h6.out.1; clear h6)
     refine hK.out _ _ (⟨hHeld.1.ext HXX.out, hHeld.2.ext HXX.out⟩) (fun hHeld => ?_)
     clear hK K
     try simp only [lays]
     refine wpAnyH_ready (rs := [11]) (by kernel_rfl) (by simp) ?_
     refine (AllReadyH.cons (o := ⟨some 17, .call { callee := .value (.func 59), args := #[.tmp 16], argTypes := #[107] }, 23, "snapshot.go:79", #[⟨10, .data⟩, ⟨5, .chain⟩], none⟩) rfl (fun K hK => ?_) AllReadyH.nil)
     (go_simp; go_at_call 59; refine (concatTe_any B m d (gcs X) g2 _ (HX.out.ext HE.out).rd HLX.out HCX.out hm hcap2 HK2.out).mono ?_; rintro e w7 ⟨B6, d6, rfl, ho7, he7⟩; have hq7 := own_mono ho7 (Nat.le_trans HW2.out HE.out.size); have HXX := hD (he7); (try (have HK1 := hD (HK1.out.ext HXX.out))); (try (have HK2 := hD (HK2.out.ext HXX.out))); (try (have HO1 := hD (own_ext HO1.out HXX.out))); (try (have HO2 := hD (own_ext HO2.out HXX.out))); (try (have HG := hD (HG.out.ext HXX.out))); (try (have HV := hD (HV.out.ext HXX.out))); have HRS := hD (HRS.out.ext HXX.out); have HE := hD (HE.out.trans HXX.out); have HO2 := hD hq7; clear ho7 he7 hq7)
     refine hK.out _ _ (⟨hHeld.1.ext HXX.out, hHeld.2.ext HXX.out⟩) (fun hHeld => ?_)
     clear hK K
     try simp only [lays]
     (refine wr 12 (oi := ⟨some 18, .build 25 #[(0, .tmp 11), (1, .tmp 17)], 25, "snapshot.go:79", #[⟨5, .data⟩, ⟨11, .data⟩], none⟩) (v := ?_) rfl (by kernel_rfl) (by rfl) (fun _ _ _ h => h) ?h hHeld ?_; case h => (intro W hSW; go_simp <;> with_reducible rfl))
     try simp only [lays]
     refine wpAnyH_ready (rs := [13]) (by kernel_rfl) (by simp) ?_
     refine (AllReadyH.cons (o := ⟨some 19, .call { callee := .value (.func 57), args := #[.tmp 18], argTypes := #[25] }, 25, "snapshot.go:79", #[⟨12, .data⟩, ⟨11, .chain⟩], none⟩) rfl (fun K hK => ?_) AllReadyH.nil)
     (go_simp; go_at_call 57; refine (snClone_any A5 n c5 L B6 m d6 X _ (OwnG.sl HO1.out (HS.out.ext HE.out).ok) (OwnG.sl HO2.out (HX.out.ext HE.out).ok) hn hm HSn.out HXn.out).mono ?_; rintro e w8 ⟨A8, c8, L8, B8, d8, X8, rfl, hv8, hL8, hX8, he8⟩; have hq8 := hv8.mono (Nat.le_trans HW2.out HE.out.size); have HL8 := hD hL8; have HX8 := hD hX8; have HXX := hD (he8); (try (have HK1 := hD (HK1.out.ext HXX.out))); (try (have HK2 := hD (HK2.out.ext HXX.out))); (try (have HO1 := hD (own_ext HO1.out HXX.out))); (try (have HO2 := hD (own_ext HO2.out HXX.out))); (try (have HG := hD (HG.out.ext HXX.out))); (try (have HV := hD (HV.out.ext HXX.out))); have HRS := hD (HRS.out.ext HXX.out); have HE := hD (HE.out.trans HXX.out); have HV := hD hq8; clear hv8 he8 hq8 hL8 hX8)
     refine hK.out _ _ (⟨hHeld.1.ext HXX.out, hHeld.2.ext HXX.out⟩) (fun hHeld => ?_)
     clear hK K
     try simp only [lays]
     refine wpAnyH_ready (rs := [15]) (by kernel_rfl) (by simp) ?_
     refine (AllReadyH.cons (o := ⟨none, .store 25 (.tmp 5) (.tmp 19), 0, "snapshot.go:79", #[⟨14, .data⟩, ⟨13, .data⟩, ⟨13, .chain⟩, ⟨0, .phase⟩, ⟨1, .phase⟩, ⟨2, .phase⟩, ⟨3, .phase⟩, ⟨4, .phase⟩, ⟨5, .phase⟩, ⟨6, .phase⟩, ⟨7, .phase⟩, ⟨8, .phase⟩, ⟨9, .phase⟩, ⟨10, .phase⟩, ⟨11, .phase⟩, ⟨12, .phase⟩, ⟨13, .phase⟩, ⟨14, .phase⟩], none⟩) rfl (fun K hK => ?_) AllReadyH.nil)
     (refine step_storeVw rfl (.tmp 5) (.tmp 19) (by rfl) g3 A8 n c8 B8 m d8 (by rfl) (by rfl) HG.out ?_; intro W10 h10; have HCL := hD (ClS.ofStore (w0 := w) HG.out HV.out (HEW.out.trans HE.out) (by have := HG3.out; omega) h10.out); have HRS := hD (HCL.out.2 _ _ (by have := HG3.out; omega) HRS.out); clear h10)
     refine hK.out _ _ (⟨HCL.out.2 _ _ (by have := HG3.out; omega) hHeld.1, HCL.out.2 _ _ (by have := HG3.out; omega) hHeld.2⟩) (fun hHeld => ?_)
     clear hK K
     try simp only [lays]
     refine wpAnyH_done (by kernel_rfl) ?_ _
    case' ka1_1_10_10_n61 =>
     (refine step_build2 (run_build2t B m d none 0 0) rfl (.tmp 13) (.tmp 15) (by rfl) (by rfl) (by rfl) ?_; intro g2 W6 h6; have HXX := hD (h6.out.2.1); (try (have HK1 := hD (HK1.out.ext HXX.out))); (try (have HK2 := hD (HK2.out.ext HXX.out))); (try (have HO1 := hD (own_ext HO1.out HXX.out))); (try (have HO2 := hD (own_ext HO2.out HXX.out))); (try (have HG := hD (HG.out.ext HXX.out))); (try (have HV := hD (HV.out.ext HXX.out))); have HRS := hD (HRS.out.ext HXX.out); have HE := hD (HE.out.trans HXX.out); have HK2 := hD h6.out.1; clear h6)
     refine hK.out _ _ (⟨hHeld.1.ext HXX.out, hHeld.2.ext HXX.out⟩) (fun hHeld => ?_)
     clear hK K
     try simp only [lays]
     refine wpAnyH_ready (rs := [5]) (by kernel_rfl) (by simp) ?_
     refine (AllReadyH.cons (o := ⟨some 11, .call { callee := .value (.func 58), args := #[.tmp 10], argTypes := #[106] }, 22, "snapshot.go:79", #[⟨4, .data⟩], none⟩) rfl (fun K hK => ?_) AllReadyH.nil)
     (go_simp; go_at_call 58; refine (concatSg_any A n c (gcs L) g1 _ (HS.out.ext HE.out).rd HLS.out HCS.out hn hcap HK1.out).mono ?_; rintro e w5 ⟨A5, c5, rfl, ho5, he5⟩; have hq5 := own_mono ho5 (Nat.le_trans HW2.out HE.out.size); have HXX := hD (he5); (try (have HK1 := hD (HK1.out.ext HXX.out))); (try (have HK2 := hD (HK2.out.ext HXX.out))); (try (have HO1 := hD (own_ext HO1.out HXX.out))); (try (have HO2 := hD (own_ext HO2.out HXX.out))); (try (have HG := hD (HG.out.ext HXX.out))); (try (have HV := hD (HV.out.ext HXX.out))); have HRS := hD (HRS.out.ext HXX.out); have HE := hD (HE.out.trans HXX.out); have HO1 := hD hq5; clear ho5 he5 hq5)
     refine hK.out _ _ (⟨hHeld.1.ext HXX.out, hHeld.2.ext HXX.out⟩) (fun hHeld => ?_)
     clear hK K
     try simp only [lays]
     refine wpAnyH_ready (rs := [11]) (by kernel_rfl) (by simp) ?_
     refine (AllReadyH.cons (o := ⟨some 17, .call { callee := .value (.func 59), args := #[.tmp 16], argTypes := #[107] }, 23, "snapshot.go:79", #[⟨10, .data⟩, ⟨5, .chain⟩], none⟩) rfl (fun K hK => ?_) AllReadyH.nil)
     (go_simp; go_at_call 59; refine (concatTe_any B m d (gcs X) g2 _ (HX.out.ext HE.out).rd HLX.out HCX.out hm hcap2 HK2.out).mono ?_; rintro e w7 ⟨B6, d6, rfl, ho7, he7⟩; have hq7 := own_mono ho7 (Nat.le_trans HW2.out HE.out.size); have HXX := hD (he7); (try (have HK1 := hD (HK1.out.ext HXX.out))); (try (have HK2 := hD (HK2.out.ext HXX.out))); (try (have HO1 := hD (own_ext HO1.out HXX.out))); (try (have HO2 := hD (own_ext HO2.out HXX.out))); (try (have HG := hD (HG.out.ext HXX.out))); (try (have HV := hD (HV.out.ext HXX.out))); have HRS := hD (HRS.out.ext HXX.out); have HE := hD (HE.out.trans HXX.out); have HO2 := hD hq7; clear ho7 he7 hq7)
     refine hK.out _ _ (⟨hHeld.1.ext HXX.out, hHeld.2.ext HXX.out⟩) (fun hHeld => ?_)
     clear hK K
     try simp only [lays]
     (refine wr 12 (oi := ⟨some 18, .build 25 #[(0, .tmp 11), (1, .tmp 17)], 25, "snapshot.go:79", #[⟨5, .data⟩, ⟨11, .data⟩], none⟩) (v := ?_) rfl (by kernel_rfl) (by rfl) (fun _ _ _ h => h) ?h hHeld ?_; case h => (intro W hSW; go_simp <;> with_reducible rfl))
     try simp only [lays]
     refine wpAnyH_ready (rs := [13]) (by kernel_rfl) (by simp) ?_
     refine (AllReadyH.cons (o := ⟨some 19, .call { callee := .value (.func 57), args := #[.tmp 18], argTypes := #[25] }, 25, "snapshot.go:79", #[⟨12, .data⟩, ⟨11, .chain⟩], none⟩) rfl (fun K hK => ?_) AllReadyH.nil)
     (go_simp; go_at_call 57; refine (snClone_any A5 n c5 L B6 m d6 X _ (OwnG.sl HO1.out (HS.out.ext HE.out).ok) (OwnG.sl HO2.out (HX.out.ext HE.out).ok) hn hm HSn.out HXn.out).mono ?_; rintro e w8 ⟨A8, c8, L8, B8, d8, X8, rfl, hv8, hL8, hX8, he8⟩; have hq8 := hv8.mono (Nat.le_trans HW2.out HE.out.size); have HL8 := hD hL8; have HX8 := hD hX8; have HXX := hD (he8); (try (have HK1 := hD (HK1.out.ext HXX.out))); (try (have HK2 := hD (HK2.out.ext HXX.out))); (try (have HO1 := hD (own_ext HO1.out HXX.out))); (try (have HO2 := hD (own_ext HO2.out HXX.out))); (try (have HG := hD (HG.out.ext HXX.out))); (try (have HV := hD (HV.out.ext HXX.out))); have HRS := hD (HRS.out.ext HXX.out); have HE := hD (HE.out.trans HXX.out); have HV := hD hq8; clear hv8 he8 hq8 hL8 hX8)
     refine hK.out _ _ (⟨hHeld.1.ext HXX.out, hHeld.2.ext HXX.out⟩) (fun hHeld => ?_)
     clear hK K
     try simp only [lays]
     refine wpAnyH_ready (rs := [15]) (by kernel_rfl) (by simp) ?_
     refine (AllReadyH.cons (o := ⟨none, .store 25 (.tmp 5) (.tmp 19), 0, "snapshot.go:79", #[⟨14, .data⟩, ⟨13, .data⟩, ⟨13, .chain⟩, ⟨0, .phase⟩, ⟨1, .phase⟩, ⟨2, .phase⟩, ⟨3, .phase⟩, ⟨4, .phase⟩, ⟨5, .phase⟩, ⟨6, .phase⟩, ⟨7, .phase⟩, ⟨8, .phase⟩, ⟨9, .phase⟩, ⟨10, .phase⟩, ⟨11, .phase⟩, ⟨12, .phase⟩, ⟨13, .phase⟩, ⟨14, .phase⟩], none⟩) rfl (fun K hK => ?_) AllReadyH.nil)
     (refine step_storeVw rfl (.tmp 5) (.tmp 19) (by rfl) g3 A8 n c8 B8 m d8 (by rfl) (by rfl) HG.out ?_; intro W10 h10; have HCL := hD (ClS.ofStore (w0 := w) HG.out HV.out (HEW.out.trans HE.out) (by have := HG3.out; omega) h10.out); have HRS := hD (HCL.out.2 _ _ (by have := HG3.out; omega) HRS.out); clear h10)
     refine hK.out _ _ (⟨HCL.out.2 _ _ (by have := HG3.out; omega) hHeld.1, HCL.out.2 _ _ (by have := HG3.out; omega) hHeld.2⟩) (fun hHeld => ?_)
     clear hK K
     try simp only [lays]
     refine wpAnyH_done (by kernel_rfl) ?_ _
   case' ka1_1_9_10_n60 =>
    (refine step_build2 (run_build2t B m d none 0 0) rfl (.tmp 13) (.tmp 15) (by rfl) (by rfl) (by rfl) ?_; intro g2 W6 h6; have HXX := hD (h6.out.2.1); (try (have HK1 := hD (HK1.out.ext HXX.out))); (try (have HK2 := hD (HK2.out.ext HXX.out))); (try (have HO1 := hD (own_ext HO1.out HXX.out))); (try (have HO2 := hD (own_ext HO2.out HXX.out))); (try (have HG := hD (HG.out.ext HXX.out))); (try (have HV := hD (HV.out.ext HXX.out))); have HRS := hD (HRS.out.ext HXX.out); have HE := hD (HE.out.trans HXX.out); have HK2 := hD h6.out.1; clear h6)
    refine hK.out _ _ (⟨hHeld.1.ext HXX.out, hHeld.2.ext HXX.out⟩) (fun hHeld => ?_)
    clear hK K
    try simp only [lays]
    refine wpAnyH_ready (rs := [4]) (by kernel_rfl) (by simp) ?_
    refine (AllReadyH.cons (o := ⟨some 10, .buildSlice 106 2 #[(0, .tmp 7), (1, .tmp 9)], 106, "snapshot.go:79", #[⟨1, .data⟩, ⟨3, .data⟩], none⟩) rfl (fun K hK => ?_) AllReadyH.nil)
    (refine step_build2 (run_build2s A n c none 0 0) rfl (.tmp 7) (.tmp 9) (by rfl) (by rfl) (by rfl) ?_; intro g1 W4 h4; have HXX := hD (h4.out.2.1); (try (have HK1 := hD (HK1.out.ext HXX.out))); (try (have HK2 := hD (HK2.out.ext HXX.out))); (try (have HO1 := hD (own_ext HO1.out HXX.out))); (try (have HO2 := hD (own_ext HO2.out HXX.out))); (try (have HG := hD (HG.out.ext HXX.out))); (try (have HV := hD (HV.out.ext HXX.out))); have HRS := hD (HRS.out.ext HXX.out); have HE := hD (HE.out.trans HXX.out); have HK1 := hD h4.out.1; clear h4)
    refine hK.out _ _ (⟨hHeld.1.ext HXX.out, hHeld.2.ext HXX.out⟩) (fun hHeld => ?_)
    clear hK K
    try simp only [lays]
    refine wpAnyH_ready (rs := [5]) (by kernel_rfl) (by simp) ?_
    refine (AllReadyH.cons (o := ⟨some 11, .call { callee := .value (.func 58), args := #[.tmp 10], argTypes := #[106] }, 22, "snapshot.go:79", #[⟨4, .data⟩], none⟩) rfl (fun K hK => ?_) AllReadyH.nil)
    (go_simp; go_at_call 58; refine (concatSg_any A n c (gcs L) g1 _ (HS.out.ext HE.out).rd HLS.out HCS.out hn hcap HK1.out).mono ?_; rintro e w5 ⟨A5, c5, rfl, ho5, he5⟩; have hq5 := own_mono ho5 (Nat.le_trans HW2.out HE.out.size); have HXX := hD (he5); (try (have HK1 := hD (HK1.out.ext HXX.out))); (try (have HK2 := hD (HK2.out.ext HXX.out))); (try (have HO1 := hD (own_ext HO1.out HXX.out))); (try (have HO2 := hD (own_ext HO2.out HXX.out))); (try (have HG := hD (HG.out.ext HXX.out))); (try (have HV := hD (HV.out.ext HXX.out))); have HRS := hD (HRS.out.ext HXX.out); have HE := hD (HE.out.trans HXX.out); have HO1 := hD hq5; clear ho5 he5 hq5)
    refine hK.out _ _ (⟨hHeld.1.ext HXX.out, hHeld.2.ext HXX.out⟩) (fun hHeld => ?_)
    clear hK K
    try simp only [lays]
    refine wpAnyH_ready (rs := [11]) (by kernel_rfl) (by simp) ?_
    refine (AllReadyH.cons (o := ⟨some 17, .call { callee := .value (.func 59), args := #[.tmp 16], argTypes := #[107] }, 23, "snapshot.go:79", #[⟨10, .data⟩, ⟨5, .chain⟩], none⟩) rfl (fun K hK => ?_) AllReadyH.nil)
    (go_simp; go_at_call 59; refine (concatTe_any B m d (gcs X) g2 _ (HX.out.ext HE.out).rd HLX.out HCX.out hm hcap2 HK2.out).mono ?_; rintro e w7 ⟨B6, d6, rfl, ho7, he7⟩; have hq7 := own_mono ho7 (Nat.le_trans HW2.out HE.out.size); have HXX := hD (he7); (try (have HK1 := hD (HK1.out.ext HXX.out))); (try (have HK2 := hD (HK2.out.ext HXX.out))); (try (have HO1 := hD (own_ext HO1.out HXX.out))); (try (have HO2 := hD (own_ext HO2.out HXX.out))); (try (have HG := hD (HG.out.ext HXX.out))); (try (have HV := hD (HV.out.ext HXX.out))); have HRS := hD (HRS.out.ext HXX.out); have HE := hD (HE.out.trans HXX.out); have HO2 := hD hq7; clear ho7 he7 hq7)
    refine hK.out _ _ (⟨hHeld.1.ext HXX.out, hHeld.2.ext HXX.out⟩) (fun hHeld => ?_)
    clear hK K
    try simp only [lays]
    (refine wr 12 (oi := ⟨some 18, .build 25 #[(0, .tmp 11), (1, .tmp 17)], 25, "snapshot.go:79", #[⟨5, .data⟩, ⟨11, .data⟩], none⟩) (v := ?_) rfl (by kernel_rfl) (by rfl) (fun _ _ _ h => h) ?h hHeld ?_; case h => (intro W hSW; go_simp <;> with_reducible rfl))
    try simp only [lays]
    refine wpAnyH_ready (rs := [13]) (by kernel_rfl) (by simp) ?_
    refine (AllReadyH.cons (o := ⟨some 19, .call { callee := .value (.func 57), args := #[.tmp 18], argTypes := #[25] }, 25, "snapshot.go:79", #[⟨12, .data⟩, ⟨11, .chain⟩], none⟩) rfl (fun K hK => ?_) AllReadyH.nil)
    (go_simp; go_at_call 57; refine (snClone_any A5 n c5 L B6 m d6 X _ (OwnG.sl HO1.out (HS.out.ext HE.out).ok) (OwnG.sl HO2.out (HX.out.ext HE.out).ok) hn hm HSn.out HXn.out).mono ?_; rintro e w8 ⟨A8, c8, L8, B8, d8, X8, rfl, hv8, hL8, hX8, he8⟩; have hq8 := hv8.mono (Nat.le_trans HW2.out HE.out.size); have HL8 := hD hL8; have HX8 := hD hX8; have HXX := hD (he8); (try (have HK1 := hD (HK1.out.ext HXX.out))); (try (have HK2 := hD (HK2.out.ext HXX.out))); (try (have HO1 := hD (own_ext HO1.out HXX.out))); (try (have HO2 := hD (own_ext HO2.out HXX.out))); (try (have HG := hD (HG.out.ext HXX.out))); (try (have HV := hD (HV.out.ext HXX.out))); have HRS := hD (HRS.out.ext HXX.out); have HE := hD (HE.out.trans HXX.out); have HV := hD hq8; clear hv8 he8 hq8 hL8 hX8)
    refine hK.out _ _ (⟨hHeld.1.ext HXX.out, hHeld.2.ext HXX.out⟩) (fun hHeld => ?_)
    clear hK K
    try simp only [lays]
    refine wpAnyH_ready (rs := [15]) (by kernel_rfl) (by simp) ?_
    refine (AllReadyH.cons (o := ⟨none, .store 25 (.tmp 5) (.tmp 19), 0, "snapshot.go:79", #[⟨14, .data⟩, ⟨13, .data⟩, ⟨13, .chain⟩, ⟨0, .phase⟩, ⟨1, .phase⟩, ⟨2, .phase⟩, ⟨3, .phase⟩, ⟨4, .phase⟩, ⟨5, .phase⟩, ⟨6, .phase⟩, ⟨7, .phase⟩, ⟨8, .phase⟩, ⟨9, .phase⟩, ⟨10, .phase⟩, ⟨11, .phase⟩, ⟨12, .phase⟩, ⟨13, .phase⟩, ⟨14, .phase⟩], none⟩) rfl (fun K hK => ?_) AllReadyH.nil)
    (refine step_storeVw rfl (.tmp 5) (.tmp 19) (by rfl) g3 A8 n c8 B8 m d8 (by rfl) (by rfl) HG.out ?_; intro W10 h10; have HCL := hD (ClS.ofStore (w0 := w) HG.out HV.out (HEW.out.trans HE.out) (by have := HG3.out; omega) h10.out); have HRS := hD (HCL.out.2 _ _ (by have := HG3.out; omega) HRS.out); clear h10)
    refine hK.out _ _ (⟨HCL.out.2 _ _ (by have := HG3.out; omega) hHeld.1, HCL.out.2 _ _ (by have := HG3.out; omega) hHeld.2⟩) (fun hHeld => ?_)
    clear hK K
    try simp only [lays]
    refine wpAnyH_done (by kernel_rfl) ?_ _
  all_goals (
   go_wp2_with fail
   go_meet
   exact ⟨g3, A8, c8, L8, B8, d8, X8, rfl, HG3.out, hD HCL.out.1, HL8, HX8, HRS⟩)
 case rest =>
  obtain ⟨g, A8, c8, L8, B8, d8, X8, rfl, hg, HC, HL8, HX8, HRS⟩ := hcut
  clear HP HZ HS HX HLS HLX HCS HCX HSn HXn HEW HW2 HW3
  obtain ⟨W0, hW0⟩ : ∃ W0, wc = W0 := ⟨_, rfl⟩
  rw [hW0] at HC HRS ⊢
  clear hW0
  obtain ⟨q0, q1⟩ := vw_facts HC.out.blk
  have HSO := hD (sortStable_any W0 W0 w.heap.size A8 n c8 L8.toArray HC.out.rows1 hn (HC.out.vw.sl1.cap))
  go_upto_region 3 with (first | (go_at_call 60; (with_reducible refine HSO.out.mono ?_); rintro e w1 ⟨rfl, d1, hr1, hp1, hs1⟩))
  have HC1 := hD (HC.out.row1 hr1).1
  have HRS1 := hD ((HC.out.row1 hr1).2 _ _ HRS.out)
  have HV1 := hD (show compO (d1.toList.map SgR.V) = canonO ltSv (L.map SgR.V) from by
   have := canon_of_sorted (V := SgR.V) ltSv_sto (fun _ _ => rfl) HC.out.rows1.size hp1 hs1
   rw [this]; show canonO ltSv (L8.map SgR.V) = _; rw [HL8.out])
  clear hr1 hp1 hs1 HC HRS q0 q1 HSO
  obtain ⟨q0, q1⟩ := vw_facts HC1.out.blk
  have HSO := hD (sortTe_any w1 w1 w.heap.size B8 m d8 X8.toArray HC1.out.rows2 hm)
  go_upto_region 4 with (first | (go_at_call 62; (with_reducible refine HSO.out.mono ?_); rintro e w2 ⟨rfl, d2, hr2, hp2, hs2⟩))
  have HC2 := hD (HC1.out.row2 hr2).1
  have HRS2 := hD ((HC1.out.row2 hr2).2 _ _ HRS1.out)
  have HV2 := hD (show compO (d2.toList.map TeR.l) = canonO lexB (X.map TeR.l) from by
   have := canon_of_sorted (V := TeR.l) lexB_sto (fun _ _ => rfl) HC1.out.rows2.size hp2 hs2
   rw [this]; show canonO lexB (X8.map TeR.l) = _; rw [HX8.out])
  clear hr2 hp2 hs2 HC1 HRS1 q0 q1 HSO
  obtain ⟨q0, q1⟩ := vw_facts HC2.out.blk
  have HSO := hD (compactSg_any w2 w2 w.heap.size A8 n c8 d1.toList.toArray HC2.out.rows1 hn HC2.out.vw.sl1.le HC2.out.vw.sl1.cap)
  go_upto_region 5 with (first | (go_at_call 64; (with_reducible refine HSO.out.mono ?_); rintro e w3 ⟨n3, d3, rfl, hn3, hr3, hv3⟩; have HR3 := hD hr3; have HV3 := hD hv3; clear hr3 hv3; have hb3 := HC2.out.blk1 HR3.out; have p0 : w3.cell? ⟨g, 0, none⟩ = some (.slice A8 n c8) := hb3.cell 0; have pf := hb3.frozen 0; clear hb3))
  obtain ⟨W3, hW3⟩ : ∃ W, w3.setCell ⟨g, 0, none⟩ (.slice A8 n3 c8) = W := ⟨_, rfl⟩
  have HC3 := hD (show ClS w W3 g A8 n3 c8 d3.toList B8 m d8 d2.toList from by rw [← hW3]; exact (HC2.out.row1S HR3.out).1)
  have HRS3 := hD (show Blk W3 (w.heap.size + 2) 25 (vwA none 0 0 none 0 0) from by rw [← hW3]; exact (HC2.out.row1S HR3.out).2 _ _ (by omega) HRS2.out)
  clear HR3 p0 pf HC2 HRS2 q0 q1 HSO
  rw [hW3]
  clear hW3
  obtain ⟨q0, q1⟩ := vw_facts HC3.out.blk
  have HSO := hD (compactTe_any W3 W3 w.heap.size B8 m d8 d2.toList.toArray HC3.out.rows2 hm HC3.out.vw.sl2.le HC3.out.vw.sl2.cap)
  go_upto_region 6 with (first | (go_at_call 66; (with_reducible refine HSO.out.mono ?_); rintro e w4 ⟨m4, d4, rfl, hm4, hr4, hv4⟩; have HR4 := hD hr4; have HV4 := hD hv4; clear hr4 hv4; have hb4 := HC3.out.blk2 HR4.out; have p0 : w4.cell? ⟨g, 1, none⟩ = some (.slice B8 m d8) := hb4.cell 1; have pf := hb4.frozen 1; clear hb4))
  obtain ⟨W4, hW4⟩ : ∃ W, w4.setCell ⟨g, 1, none⟩ (.slice B8 m4 d8) = W := ⟨_, rfl⟩
  have HC4 := hD (show ClS w W4 g A8 n3 c8 d3.toList B8 m4 d8 d4.toList from by rw [← hW4]; exact (HC3.out.row2S HR4.out).1)
  have HRS4 := hD (show Blk W4 (w.heap.size + 2) 25 (vwA none 0 0 none 0 0) from by rw [← hW4]; exact (HC3.out.row2S HR4.out).2 _ _ (by omega) HRS3.out)
  clear HR4 p0 pf HC3 HRS3 q0 q1 HSO
  rw [hW4]
  clear hW4
  obtain ⟨q0, q1⟩ := vw_facts HC4.out.blk
  have ht : W4.there (w.heap.size + 2) 0 2 := there_of_blk HRS4.out
  have hst := blk_whole (ds := vwA A8 n3 c8 B8 m4 d8) HRS4.out rfl
  go_wp2_with (first | (with_reducible refine wpList_storeVw rfl (.tmp 4) (.tmp 34) rfl (w.heap.size + 2) A8 n3 c8 B8 m4 d8 rfl rfl ht ?_))
  exact bodyPost_ret (v := .agg (vwA A8 n3 c8 B8 m4 d8)) (retC rfl _ _ (w.heap.size + 2) _ rfl (run_loadVar_row _ _ _ _ _ (0, 0) _ hst Tryz.underlying25 rfl (by kernel_rfl))) rfl ⟨A8, n3, c8, d3.toList, B8, m4, d8, d4.toList, rfl, HC4.out.vw.set HRS4.out _, HV3.out.trans HV1.out, HV4.out.trans HV2.out, hn3, hm4, Below.setCells' HC4.out.low (by omega) _ _⟩
end Go.Proofs.YtbfepgjeecndiaaGreat
