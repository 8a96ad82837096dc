/- A view in parcels (parcel.Split). -/
import Derived.Test.YtbfepgjeecndiaaGreatJ44
namespace Go.Proofs.YtbfepgjeecndiaaGreat
set_option maxRecDepth 100000
set_option maxHeartbeats 16000000
open Go.RowKit
set_option linter.unusedVariables false
set_option linter.unusedSimpArgs false
attribute [local go_sem ↓] Go.wp_at_zero Go.wp_at_succ
theorem VwB.ofStore {w0 w W2 : World} {g : Nat} {A : Option Addr} {n c : Nat} {B : Option Addr} {m d : Nat} {A' : Option Addr} {n' c' : Nat} {D : List TeR} {base : Nat} (hb : Blk w g 25 (vwA none 0 0 none 0 0)) (hg : w0.heap.size ≤ g) (hE : Ext w0 w) (hR : RwT w base A' n' c' D) (hW : W2 = w.setCells g 0 [.slice A n c, .slice B m d]) :
  Ext w0 W2 ∧ Blk W2 g 25 (vwA A n c B m d) ∧ RwT W2 base A' n' c' D ∧ ∀ k cs, k ≠ g → Blk w k 25 cs → Blk W2 k 25 cs := by
 subst hW
 exact ⟨Below.setCells' hE hg _ _, blk_whole (ds := vwA A n c B m d) hb rfl, hR.set hb (by decide) (by decide) _, fun k cs hne hk => hk.setCells_far hne _ 0⟩
def PcEnc2 (w : World) (z : Int) (l : List UInt8) (e : Ending) (w' : World) : Prop :=
 ((z ≠ 0 ∧ e = .returned (.tuple #[.slice none 0 0, .int .i64 z])) ∨ (z = 0 ∧ ∃ A' n' c', e = .returned (.tuple #[.slice A' n' c', .int .i64 0]) ∧ OwnB w' w.heap.size 5 A' n' c' l ∧ n' ≤ 10000000)) ∧ Ext w w'
def UnF (w : World) (L : List SgR) (X : List TeR) (LV : List SgV) (XV : List (List UInt8)) : Prop := canonO ltSv (L.map SgR.V) = LV ∧ canonO lexB (X.map TeR.l) = XV
def SpOut (w : World) (L : List SgR) (X : List TeR) (e : Ending) (w' : World) : Prop := ∃ (A : Option Addr) (n c : Nat) (D : List TeR), e = .returned (.tuple #[.slice A n c, .int .i64 (splV (canonO ltSv (L.map SgR.V)) (canonO lexB (X.map TeR.l))).2]) ∧ RwT w' w.heap.size A n c D ∧ D.map TeR.l = (splV (canonO ltSv (L.map SgR.V)) (canonO lexB (X.map TeR.l))).1 ∧ (∀ T ∈ D, T.n ≤ 10000000) ∧ Ext w w'
theorem SpOut.mk {w w' : World} {L : List SgR} {X : List TeR} {LV : List SgV} {XV R : List (List UInt8)} {z : Int} {A : Option Addr} {n c base : Nat} {D : List TeR} (hF : UnF w L X LV XV) (hs : splV LV XV = (R, z)) (h : RwT w' base A n c D) (hb : w.heap.size ≤ base) (hD : D.map TeR.l = R) (hn : ∀ T ∈ D, T.n ≤ 10000000) (he : Ext w w') : SpOut w L X (.returned (.tuple #[.slice A n c, .int .i64 z])) w' := by
 refine ⟨A, n, c, D, ?_, h.mono hb, ?_, hn, he⟩
 ·rw [hF.1, hF.2, hs]
 ·rw [hF.1, hF.2, hs]; exact hD
theorem split_any (A : Option Addr) (n c : Nat) (L : List SgR) (B : Option Addr) (m d : Nat) (X : List TeR) (w : World) (hS : SlG w A n c L) (hX : SlG w B m d X) (hn : n ≤ 1000000000) (hm : m ≤ 1000000000) (hSn : ∀ S, S ∈ L → S.n ≤ 140737488355328) (hXn : ∀ T, T ∈ X → T.n ≤ 140737488355328) :
  Calls Tryz.prog 14 #[.agg (vwA A n c B m d)] w (SpOut w L X) := by
 obtain ⟨W2, hW2⟩ : ∃ W2, w.alloc (.cells (vwA A n c B m d) 25) = W2 := ⟨_, rfl⟩
 have HEW := Lib.hid (show Ext w W2 from by rw [← hW2]; exact (Ext.refl w).alloc' _)
 have HP := Lib.hid (show Blk W2 w.heap.size 25 (vwA A n c B m d) from by rw [← hW2]; exact Blk.new _ _ _)
 have HU := Lib.hid (union_any A n c L B m d X W2 (hS.ext HEW.out) (hX.ext HEW.out) hn hm hSn hXn)
 clear hS hX hSn hXn
 obtain ⟨c0, c1⟩ := vw_facts HP.out
 go_enter Tryz.func14, Tryz.ntmps14
 go_upto_region 2 with (first | (go_at_call 29; (with_reducible refine HU.out.mono ?_); rintro e w3 ⟨A3, n3, c3, L3, B3, m3, d3, X3, rfl, hv3, hL3, hX3, hn3', hm3', he3⟩))
 obtain ⟨g, hg⟩ : ∃ q, w3.heap.size = q := ⟨_, rfl⟩
 obtain ⟨W9, hW9⟩ : ∃ W, w3.alloc (.cells (vwA A3 n3 c3 B3 m3 d3) 25) = W := ⟨_, rfl⟩
 have HE9 := Lib.hid (show Ext w3 W9 from by rw [← hW9]; exact (Ext.refl w3).alloc' _)
 have HBG := Lib.hid (show Blk W9 g 25 (vwA A3 n3 c3 B3 m3 d3) from by rw [← hW9, ← hg]; exact Blk.new _ _ _)
 have HGL := Lib.hid (show g < W9.heap.size from HBG.out.lt)
 have HV9 := Lib.hid (hv3.ext HE9.out)
 have HEW9 := Lib.hid ((HEW.out.trans he3).trans HE9.out)
 have HS := Lib.hid HV9.out.sl1
 have HX := Lib.hid HV9.out.sl2
 have hn3 : n3 ≤ 1000000000 := by omega
 have hm3 : m3 ≤ 1000000000 := by omega
 have HOKS := Lib.hid (show ∀ S ∈ L3, S.sig.length = S.n from fun S hS => (HS.out.ok S hS).sig.len)
 have HOKX := Lib.hid (show ∀ T ∈ X3, T.l.length = T.n from fun T hT => SlB.len (HX.out.ok T hT))
 obtain ⟨LV, hLV⟩ : ∃ q, canonO ltSv (L.map SgR.V) = q := ⟨_, rfl⟩
 obtain ⟨XV, hXV⟩ : ∃ q, canonO lexB (X.map TeR.l) = q := ⟨_, rfl⟩
 have HL3 := Lib.hid (hL3.trans hLV)
 have HX3 := Lib.hid (hX3.trans hXV)
 have HPO := Lib.hid (show UnF w L X LV XV from ⟨hLV, hXV⟩)
 have HK := Lib.hid (show splN LV XV ≤ 1000000000 from by
  have h1 : LV.length = n3 := by rw [← HL3.out, List.length_map]; exact HS.out.len
  have h2 : XV.length = m3 := by rw [← HX3.out, List.length_map]; exact HX.out.len
  unfold splN; omega)
 rw [hW9, hg]
 clear hW9 hg he3 hv3 hL3 hX3 HU HP HV9 HE9 c0 c1 hW2 hLV hXV hn3' hm3'
 go_wp2_with fail
 go_loopw [5, 6] (fun vo vi wr => ∃ (i : Nat) (A0 : Option Addr) (c0 : Nat) (D : List TeR), vi = .int .i64 (i : Int) ∧ vo = .slice A0 i c0 ∧ i ≤ splN LV XV ∧ Hid (RwT wr W9.heap.size A0 i c0 D) ∧ Hid (Ext W9 wr) ∧ Hid (splF LV XV (splN LV XV - i) i (D.map TeR.l) = splV LV XV) ∧ Hid (∀ T ∈ D, T.n ≤ 10000000)) (fun _ i _ => splN LV XV - (intOf i).toNat)
 case atStart => exact ⟨0, none, 0, [], rfl, rfl, Nat.zero_le _, Lib.hid (RwT.nil _ _), Lib.hid (Ext.refl _), Lib.hid rfl, Lib.hid (fun T hT => by cases hT)⟩
 case round =>
  obtain ⟨i, A0, c0, D, rfl, rfl, hiK, HRW, HE, HSP, HDn⟩ := hrel
  have hi : i ≤ 1000000000 := Nat.le_trans hiK HK.out
  have HBG := Lib.hid (HBG.out.ext HE.out)
  go_upto_region 5 with (fail)
  go_cut [7] (fun t7 wx => ∃ (g7 : Nat) (A5 : Option Addr) (n5 : Nat) (B5 : Option Addr) (m5 : Nat), t7 = .pointer (some ⟨g7, 0, none⟩) ∧ n5 ≤ n3 ∧ m5 ≤ m3 ∧ Hid (Blk wx g7 25 (vwA A5 n5 n5 B5 m5 m5)) ∧ Hid (SlG W9 A5 n5 n5 (prt L3 i)) ∧ Hid (SlG W9 B5 m5 m5 (prt X3 i)) ∧ Hid (Ext W9 wx) ∧ Hid (RwT wx W9.heap.size A0 i c0 D))
  case first =>
    have HE := Lib.hid (HE.out.drew')
    have HRW := Lib.hid (show RwT wr.drew W9.heap.size A0 i c0 D from HRW.out.ext (Ext.refl wr).drew')
    refine wp_region_held_drew (S := fun W => Blk W g 25 (vwA A3 n3 c3 B3 m3 d3)) (by kernel_rfl) (HBG.out.drew) (fun hHeld => ?_)
    (refine Go.Proofs.YtbfepgjeecndiaaGreat.wr 0 (oi := ⟨some 15, .fieldAddr 25 (.tmp 4) 0, 0, "parcel.go:78", #[], none⟩) (v := ?_) rfl (by kernel_rfl) (by rfl) (fun _ _ _ h => h) ?h hHeld ?_; case h => (intro W hSW; go_simp <;> with_reducible rfl))
    try simp only [lays]
    (refine Go.Proofs.YtbfepgjeecndiaaGreat.wr 1 (oi := ⟨some 16, .load 22 (.tmp 15), 22, "parcel.go:78", #[⟨0, .data⟩], none⟩) (v := ?_) rfl (by kernel_rfl) (by rfl) (fun _ _ _ h => h) ?h hHeld ?_; case h => (intro W hSW; obtain ⟨c0, c1⟩ := vw_facts hSW; go_simp <;> with_reducible rfl))
    try simp only [lays]
    (refine Go.Proofs.YtbfepgjeecndiaaGreat.wr 2 (oi := ⟨some 17, .move (.tmp 6), 3, "parcel.go:78", #[], none⟩) (v := ?_) rfl (by kernel_rfl) (by rfl) (fun _ _ _ h => h) ?h hHeld ?_; case h => (intro W hSW; go_simp <;> with_reducible rfl))
    try simp only [lays]
    (refine Go.Proofs.YtbfepgjeecndiaaGreat.wr 4 (oi := ⟨some 19, .fieldAddr 25 (.tmp 4) 1, 0, "parcel.go:78", #[], none⟩) (v := ?_) rfl (by kernel_rfl) (by rfl) (fun _ _ _ h => h) ?h hHeld ?_; case h => (intro W hSW; go_simp <;> with_reducible rfl))
    try simp only [lays]
    (refine Go.Proofs.YtbfepgjeecndiaaGreat.wr 5 (oi := ⟨some 20, .load 23 (.tmp 19), 23, "parcel.go:78", #[⟨4, .data⟩], none⟩) (v := ?_) rfl (by kernel_rfl) (by rfl) (fun _ _ _ h => h) ?h hHeld ?_; case h => (intro W hSW; obtain ⟨c0, c1⟩ := vw_facts hSW; go_simp <;> with_reducible rfl))
    try simp only [lays]
    (refine Go.Proofs.YtbfepgjeecndiaaGreat.wr 6 (oi := ⟨some 21, .move (.tmp 6), 3, "parcel.go:78", #[], none⟩) (v := ?_) rfl (by kernel_rfl) (by rfl) (fun _ _ _ h => h) ?h hHeld ?_; case h => (intro W hSW; go_simp <;> with_reducible rfl))
    try simp only [lays]
    refine wpAnyH_ready (rs := [3, 9]) (by kernel_rfl) (by simp) ?_
    refine (AllReadyH.cons (o := ⟨some 18, .call { callee := .value (.func 30), args := #[.tmp 16, .tmp 17], argTypes := #[22, 3] }, 22, "parcel.go:78", #[⟨1, .data⟩, ⟨2, .data⟩], none⟩) rfl (fun K hK => ?ka1_5_6_3_n1) (AllReadyH.cons (o := ⟨some 7, .alloc 25, 0, "parcel.go:78", #[], none⟩) rfl (fun K hK => ?ka1_5_6_9_n1) AllReadyH.nil))
    case' ka1_5_6_3_n1 =>
     (go_simp; go_at_call 30; refine (partSg_any A3 n3 c3 L3 i W9 _ HS.out hi hn3).mono ?_; rintro e w5 ⟨A5, n5, rfl, hn5, h5, rfl⟩; have HS5 := Lib.hid h5; clear h5)
     refine hK.out _ _ (hHeld) (fun hHeld => ?_)
     clear hK K
     try simp only [lays]
     refine wpAnyH_ready (rs := [7, 9]) (by kernel_rfl) (by simp) ?_
     refine (AllReadyH.cons (o := ⟨some 22, .call { callee := .value (.func 31), args := #[.tmp 20, .tmp 21], argTypes := #[23, 3] }, 23, "parcel.go:78", #[⟨5, .data⟩, ⟨6, .data⟩, ⟨3, .chain⟩], none⟩) rfl (fun K hK => ?ka1_5_7_7_n2) (AllReadyH.cons (o := ⟨some 7, .alloc 25, 0, "parcel.go:78", #[], none⟩) rfl (fun K hK => ?ka1_5_7_9_n2) AllReadyH.nil))
     case' ka1_5_7_7_n2 =>
      (go_simp; go_at_call 31; refine (partTe_any B3 m3 d3 X3 i W9 _ HX.out hi hm3).mono ?_; rintro e w6 ⟨B5, m5, rfl, hm5, h6, rfl⟩; have HX5 := Lib.hid h6; clear h6)
      refine hK.out _ _ (hHeld) (fun hHeld => ?_)
      clear hK K
      try simp only [lays]
      (refine Go.Proofs.YtbfepgjeecndiaaGreat.wr 8 (oi := ⟨some 23, .build 25 #[(0, .tmp 18), (1, .tmp 22)], 25, "parcel.go:78", #[⟨3, .data⟩, ⟨7, .data⟩], none⟩) (v := ?_) rfl (by kernel_rfl) (by rfl) (fun _ _ _ h => h) ?h hHeld ?_; case h => (intro W hSW; go_simp <;> with_reducible rfl))
      try simp only [lays]
      refine wpAnyH_ready (rs := [9]) (by kernel_rfl) (by simp) ?_
      refine (AllReadyH.cons (o := ⟨some 7, .alloc 25, 0, "parcel.go:78", #[], none⟩) rfl (fun K hK => ?_) AllReadyH.nil)
      (refine step_allocVw rfl (by rfl) ?_; intro g7 W7 h7; have HG7 := Lib.hid (Nat.le_trans HE.out.size h7.out.2.2); have HXX := Lib.hid (h7.out.2.1); (try (have HG := Lib.hid (HG.out.ext HXX.out))); have HE := Lib.hid (HE.out.trans HXX.out); have HRW := Lib.hid (HRW.out.ext HXX.out); have HG := Lib.hid h7.out.1; clear h7)
      refine hK.out _ _ (hHeld.ext HXX.out) (fun hHeld => ?_)
      clear hK K
      try simp only [lays]
      refine wpAnyH_ready (rs := [10]) (by kernel_rfl) (by simp) ?_
      refine (AllReadyH.cons (o := ⟨none, .store 25 (.tmp 7) (.tmp 23), 0, "parcel.go:78", #[⟨9, .data⟩, ⟨8, .data⟩, ⟨7, .chain⟩, ⟨0, .phase⟩, ⟨1, .phase⟩, ⟨2, .phase⟩, ⟨3, .phase⟩, ⟨4, .phase⟩, ⟨5, .phase⟩, ⟨6, .phase⟩, ⟨7, .phase⟩, ⟨8, .phase⟩, ⟨9, .phase⟩], none⟩) rfl (fun K hK => ?_) AllReadyH.nil)
      (refine step_storeVw rfl (.tmp 7) (.tmp 23) (by rfl) g7 A5 n5 n5 B5 m5 m5 (by rfl) (by rfl) HG.out ?_; intro W10 h10; have HST := Lib.hid (VwB.ofStore HG.out HG7.out HE.out HRW.out h10.out); have hBg := HST.out.2.2.2 _ _ (by have := HGL.out; have := HG7.out; omega) hHeld; clear h10)
      refine hK.out _ _ (hBg) (fun hHeld => ?_)
      clear hK K
      try simp only [lays]
      refine wpAnyH_done (by kernel_rfl) ?_ _
     case' ka1_5_7_9_n2 =>
      (refine step_allocVw rfl (by rfl) ?_; intro g7 W7 h7; have HG7 := Lib.hid (Nat.le_trans HE.out.size h7.out.2.2); have HXX := Lib.hid (h7.out.2.1); (try (have HG := Lib.hid (HG.out.ext HXX.out))); have HE := Lib.hid (HE.out.trans HXX.out); have HRW := Lib.hid (HRW.out.ext HXX.out); have HG := Lib.hid h7.out.1; clear h7)
      refine hK.out _ _ (hHeld.ext HXX.out) (fun hHeld => ?_)
      clear hK K
      try simp only [lays]
      refine wpAnyH_ready (rs := [7]) (by kernel_rfl) (by simp) ?_
      refine (AllReadyH.cons (o := ⟨some 22, .call { callee := .value (.func 31), args := #[.tmp 20, .tmp 21], argTypes := #[23, 3] }, 23, "parcel.go:78", #[⟨5, .data⟩, ⟨6, .data⟩, ⟨3, .chain⟩], none⟩) rfl (fun K hK => ?_) AllReadyH.nil)
      (go_simp; go_at_call 31; refine (partTe_any B3 m3 d3 X3 i W9 _ HX.out hi hm3).mono ?_; rintro e w6 ⟨B5, m5, rfl, hm5, h6, rfl⟩; have HX5 := Lib.hid h6; clear h6)
      refine hK.out _ _ (hHeld) (fun hHeld => ?_)
      clear hK K
      try simp only [lays]
      (refine Go.Proofs.YtbfepgjeecndiaaGreat.wr 8 (oi := ⟨some 23, .build 25 #[(0, .tmp 18), (1, .tmp 22)], 25, "parcel.go:78", #[⟨3, .data⟩, ⟨7, .data⟩], none⟩) (v := ?_) rfl (by kernel_rfl) (by rfl) (fun _ _ _ h => h) ?h hHeld ?_; case h => (intro W hSW; go_simp <;> with_reducible rfl))
      try simp only [lays]
      refine wpAnyH_ready (rs := [10]) (by kernel_rfl) (by simp) ?_
      refine (AllReadyH.cons (o := ⟨none, .store 25 (.tmp 7) (.tmp 23), 0, "parcel.go:78", #[⟨9, .data⟩, ⟨8, .data⟩, ⟨7, .chain⟩, ⟨0, .phase⟩, ⟨1, .phase⟩, ⟨2, .phase⟩, ⟨3, .phase⟩, ⟨4, .phase⟩, ⟨5, .phase⟩, ⟨6, .phase⟩, ⟨7, .phase⟩, ⟨8, .phase⟩, ⟨9, .phase⟩], none⟩) rfl (fun K hK => ?_) AllReadyH.nil)
      (refine step_storeVw rfl (.tmp 7) (.tmp 23) (by rfl) g7 A5 n5 n5 B5 m5 m5 (by rfl) (by rfl) HG.out ?_; intro W10 h10; have HST := Lib.hid (VwB.ofStore HG.out HG7.out HE.out HRW.out h10.out); have hBg := HST.out.2.2.2 _ _ (by have := HGL.out; have := HG7.out; omega) hHeld; clear h10)
      refine hK.out _ _ (hBg) (fun hHeld => ?_)
      clear hK K
      try simp only [lays]
      refine wpAnyH_done (by kernel_rfl) ?_ _
    case' ka1_5_6_9_n1 =>
     (refine step_allocVw rfl (by rfl) ?_; intro g7 W7 h7; have HG7 := Lib.hid (Nat.le_trans HE.out.size h7.out.2.2); have HXX := Lib.hid (h7.out.2.1); (try (have HG := Lib.hid (HG.out.ext HXX.out))); have HE := Lib.hid (HE.out.trans HXX.out); have HRW := Lib.hid (HRW.out.ext HXX.out); have HG := Lib.hid h7.out.1; clear h7)
     refine hK.out _ _ (hHeld.ext HXX.out) (fun hHeld => ?_)
     clear hK K
     try simp only [lays]
     refine wpAnyH_ready (rs := [3]) (by kernel_rfl) (by simp) ?_
     refine (AllReadyH.cons (o := ⟨some 18, .call { callee := .value (.func 30), args := #[.tmp 16, .tmp 17], argTypes := #[22, 3] }, 22, "parcel.go:78", #[⟨1, .data⟩, ⟨2, .data⟩], none⟩) rfl (fun K hK => ?_) AllReadyH.nil)
     (go_simp; go_at_call 30; refine (partSg_any A3 n3 c3 L3 i W9 _ HS.out hi hn3).mono ?_; rintro e w5 ⟨A5, n5, rfl, hn5, h5, rfl⟩; have HS5 := Lib.hid h5; clear h5)
     refine hK.out _ _ (hHeld) (fun hHeld => ?_)
     clear hK K
     try simp only [lays]
     refine wpAnyH_ready (rs := [7]) (by kernel_rfl) (by simp) ?_
     refine (AllReadyH.cons (o := ⟨some 22, .call { callee := .value (.func 31), args := #[.tmp 20, .tmp 21], argTypes := #[23, 3] }, 23, "parcel.go:78", #[⟨5, .data⟩, ⟨6, .data⟩, ⟨3, .chain⟩], none⟩) rfl (fun K hK => ?_) AllReadyH.nil)
     (go_simp; go_at_call 31; refine (partTe_any B3 m3 d3 X3 i W9 _ HX.out hi hm3).mono ?_; rintro e w6 ⟨B5, m5, rfl, hm5, h6, rfl⟩; have HX5 := Lib.hid h6; clear h6)
     refine hK.out _ _ (hHeld) (fun hHeld => ?_)
     clear hK K
     try simp only [lays]
     (refine Go.Proofs.YtbfepgjeecndiaaGreat.wr 8 (oi := ⟨some 23, .build 25 #[(0, .tmp 18), (1, .tmp 22)], 25, "parcel.go:78", #[⟨3, .data⟩, ⟨7, .data⟩], none⟩) (v := ?_) rfl (by kernel_rfl) (by rfl) (fun _ _ _ h => h) ?h hHeld ?_; case h => (intro W hSW; go_simp <;> with_reducible rfl))
     try simp only [lays]
     refine wpAnyH_ready (rs := [10]) (by kernel_rfl) (by simp) ?_
     refine (AllReadyH.cons (o := ⟨none, .store 25 (.tmp 7) (.tmp 23), 0, "parcel.go:78", #[⟨9, .data⟩, ⟨8, .data⟩, ⟨7, .chain⟩, ⟨0, .phase⟩, ⟨1, .phase⟩, ⟨2, .phase⟩, ⟨3, .phase⟩, ⟨4, .phase⟩, ⟨5, .phase⟩, ⟨6, .phase⟩, ⟨7, .phase⟩, ⟨8, .phase⟩, ⟨9, .phase⟩], none⟩) rfl (fun K hK => ?_) AllReadyH.nil)
     (refine step_storeVw rfl (.tmp 7) (.tmp 23) (by rfl) g7 A5 n5 n5 B5 m5 m5 (by rfl) (by rfl) HG.out ?_; intro W10 h10; have HST := Lib.hid (VwB.ofStore HG.out HG7.out HE.out HRW.out h10.out); have hBg := HST.out.2.2.2 _ _ (by have := HGL.out; have := HG7.out; omega) hHeld; clear h10)
     refine hK.out _ _ (hBg) (fun hHeld => ?_)
     clear hK K
     try simp only [lays]
     refine wpAnyH_done (by kernel_rfl) ?_ _
    all_goals (
     go_wp2_with fail
     go_meet
     exact ⟨g7, A5, n5, B5, m5, rfl, hn5, hm5, Lib.hid HST.out.2.1, HS5, HX5, Lib.hid HST.out.1, Lib.hid HST.out.2.2.1⟩)
  case rest =>
   obtain ⟨g7, A5, n5, B5, m5, rfl, hn5, hm5, HGU, HS5, HX5, HE10, HRW10⟩ := hcut
   clear HE HRW HBG
   obtain ⟨W8, hW8⟩ : ∃ W8, wc = W8 := ⟨_, rfl⟩
   rw [hW8] at HGU HE10 HRW10 ⊢
   clear hW8
   obtain ⟨q0, q1⟩ := vw_facts HGU.out
   have HL5 := Lib.hid (show (prt L3 i).length = n5 from HS5.out.len)
   have HX5l := Lib.hid (show (prt X3 i).length = m5 from HX5.out.len)
   have HPL := Lib.hid (show (prt L3 i).map SgR.V = prt LV i from by rw [prt_map, HL3.out])
   have HPX := Lib.hid (show (prt X3 i).map TeR.l = prt XV i from by rw [prt_map, HX3.out])
   by_cases h0 : n5 = 0 ∧ m5 = 0
   ·obtain ⟨rfl, rfl⟩ := h0
    have HEND := Lib.hid (show splN LV XV ≤ i from prt_empty.1 ⟨by rw [← HPL.out, List.eq_nil_of_length_eq_zero HL5.out]; rfl, by rw [← HPX.out, List.eq_nil_of_length_eq_zero HX5l.out]; rfl⟩)
    have HSV := Lib.hid (show splV LV XV = (D.map TeR.l, 0) from by rw [← HSP.out, splF_end HEND.out])
    clear HSP HEND HPL HPX HS5 HX5
    go_wp2_with fail
    go_ret2
    exact SpOut.mk HPO.out HSV.out HRW10.out HEW9.out.size rfl HDn.out (HEW9.out.trans HE10.out)
   ·have HNE := Lib.hid (show i < splN LV XV from by
     refine Nat.lt_of_not_le (fun hh => h0 ?_)
     have := prt_empty.2 hh
     constructor
     ·rw [← HL5.out, ← List.length_map (f := SgR.V), HPL.out, this.1]; rfl
     ·rw [← HX5l.out, ← List.length_map (f := TeR.l), HPX.out, this.2]; rfl)
    have hguard : ¬ (n5 : Int) = 0 ∨ ((n5 : Int) = 0 ∧ ¬ (m5 : Int) = 0) := by omega
    have HPE := Lib.hid (pcEnc_any A5 n5 n5 (prt L3 i) B5 m5 m5 (prt X3 i) W8 (HS5.out.ext HE10.out) (HX5.out.ext HE10.out))
    have HPV := Lib.hid (show pcE (prt L3 i) (prt X3 i) = pcEV (prt LV i) (prt XV i) from by
     rw [pcE_V (L := prt L3 i) (X := prt X3 i) (fun S hS => HOKS.out S (List.mem_of_mem_drop (List.mem_of_mem_take hS))) (fun T hT => HOKX.out T (List.mem_of_mem_drop (List.mem_of_mem_take hT))), HPL.out, HPX.out])
    have HPC := Lib.hid (show encPc (prt L3 i) (prt X3 i) = encPcV (prt LV i) (prt XV i) from by rw [encPc_V, HPL.out, HPX.out])
    obtain ⟨z, hz⟩ : ∃ z, pcE (prt L3 i) (prt X3 i) = z := ⟨_, rfl⟩
    have HZ := Lib.hid hz
    clear hz h0 HL5 HX5l HS5 HX5
    have HGO := Lib.hid (show PcEnc2 W8 z (encPcV (prt LV i) (prt XV i)) = PcEnc2 W8 z (encPcV (prt LV i) (prt XV i)) from rfl)
    have HPE2 := Lib.hid (show Calls Tryz.prog 9 #[.agg (vwA A5 n5 n5 B5 m5 m5)] W8 (PcEnc2 W8 z (encPcV (prt LV i) (prt XV i))) from by rw [← HZ.out, ← HPC.out]; exact HPE.out)
    have HPV := Lib.hid (show pcEV (prt LV i) (prt XV i) = z from by rw [← HPV.out, HZ.out])
    clear HPE HZ HPC HGO HPL HPX HL3 HX3
    rcases hguard with hg1 | ⟨hg1, hg2⟩
    ·go_wp2_with fail
     refine HPE2.out.mono ?_
     rintro e w11 ⟨⟨hne, rfl⟩ | ⟨hz0, A6, n6, c6, rfl, ho6, hn6⟩, he11⟩
     ·have HSV := Lib.hid (show splV LV XV = ([], z) from by
       have h1 : pcEV (prt LV i) (prt XV i) ≠ 0 := by rw [HPV.out]; exact hne
       rw [← HSP.out, splF_no HNE.out h1, HPV.out])
      have hne' : ¬ z = 0 := hne
      clear HSP HPE2
      go_wp2_with fail
      go_ret2
      exact SpOut.mk HPO.out HSV.out (RwT.nil _ _) (Nat.le_refl _) rfl (fun T hT => by cases hT) ((HEW9.out.trans HE10.out).trans he11)
     ·have HSP2 := Lib.hid (show splF LV XV (splN LV XV - (i + 1)) (i + 1) ((D ++ [TeR.mk A6 n6 c6 (encPcV (prt LV i) (prt XV i))]).map TeR.l) = splV LV XV from by
       rw [← HSP.out, splF_yes HNE.out (by rw [HPV.out]; exact hz0), List.map_append]; rfl)
      have HDn2 := Lib.hid (show ∀ T ∈ D ++ [TeR.mk A6 n6 c6 (encPcV (prt LV i) (prt XV i))], T.n ≤ 10000000 from fun T hT => by
       rcases List.mem_append.1 hT with hT | hT
       ·exact HDn.out T hT
       ·rw [List.mem_singleton.1 hT]; exact hn6)
      obtain ⟨l6, hl6⟩ : ∃ l, encPcV (prt LV i) (prt XV i) = l := ⟨_, rfl⟩
      rw [hl6] at HSP2 HDn2 ho6
      have HE11 := Lib.hid (HE10.out.trans he11)
      have HRW11 := Lib.hid (HRW10.out.ext he11)
      have HO6 := Lib.hid (own_mono ho6 HE10.out.size)
      subst hz0
      clear hl6 ho6 he11 HSP HPE2 HDn HPV
      go_wp2_with (at_builtin; go_must (refine wpList_appGG teE rfl (.tmp 43) (.tmp 45) rfl W9.heap.size A0 i c0 (gcs D) rfl ?r0 (some ⟨w11.heap.size, 0, none⟩) 1 1 [.slice A6 n6 c6] rfl ?r1 (by rfl) (fun u hu => by rw [List.mem_singleton.1 hu]; rfl) (by omega) (by omega) ?b1 ?_))
      case r0 => exact (HRW11.out.ext ((Ext.refl w11).alloc' _)).own
      case r1 => exact Rd.of_blk (Blk.new w11 28 #[.slice A6 n6 c6])
      case b1 => have := HE11.out.size; simp; omega
      intro A7 c7 w12 ho12 hg12
      have HRA := Lib.hid (HRW11.out.ext ((Ext.refl w11).alloc' (.cells #[.slice A6 n6 c6] 28)))
      have HOA := Lib.hid (show OwnB (w11.alloc (.cells #[.slice A6 n6 c6] 28)) W9.heap.size 5 A6 n6 c6 l6 from OwnB.alloc HO6.out _)
      have HEA := Lib.hid (HE11.out.alloc' (.cells #[.slice A6 n6 c6] 28))
      have HE12 := Lib.hid (Below.grown HEA.out hg12 HEA.out.size (fun k hk => (World.ownsRow.lt HRA.out.own k hk).1))
      have HRW12 := Lib.hid (HRA.out.push (T := ⟨A6, n6, c6, l6⟩) HOA.out hg12 ho12)
      clear ho12 hg12 HRA HOA HEA HRW11 HO6 HE11 HRW10 HE10 HGU q0 q1
      go_wp2_with fail
      go_roundw
      case rel => exact ⟨i + 1, A7, c7, _, by go_num, rfl, HNE.out, HRW12, HE12, HSP2, HDn2⟩
      case measure => simp [intOf]; have := HNE.out; omega
    ·go_wp2_with fail
     refine HPE2.out.mono ?_
     rintro e w11 ⟨⟨hne, rfl⟩ | ⟨hz0, A6, n6, c6, rfl, ho6, hn6⟩, he11⟩
     ·have HSV := Lib.hid (show splV LV XV = ([], z) from by
       have h1 : pcEV (prt LV i) (prt XV i) ≠ 0 := by rw [HPV.out]; exact hne
       rw [← HSP.out, splF_no HNE.out h1, HPV.out])
      have hne' : ¬ z = 0 := hne
      clear HSP HPE2
      go_wp2_with fail
      go_ret2
      exact SpOut.mk HPO.out HSV.out (RwT.nil _ _) (Nat.le_refl _) rfl (fun T hT => by cases hT) ((HEW9.out.trans HE10.out).trans he11)
     ·have HSP2 := Lib.hid (show splF LV XV (splN LV XV - (i + 1)) (i + 1) ((D ++ [TeR.mk A6 n6 c6 (encPcV (prt LV i) (prt XV i))]).map TeR.l) = splV LV XV from by
       rw [← HSP.out, splF_yes HNE.out (by rw [HPV.out]; exact hz0), List.map_append]; rfl)
      have HDn2 := Lib.hid (show ∀ T ∈ D ++ [TeR.mk A6 n6 c6 (encPcV (prt LV i) (prt XV i))], T.n ≤ 10000000 from fun T hT => by
       rcases List.mem_append.1 hT with hT | hT
       ·exact HDn.out T hT
       ·rw [List.mem_singleton.1 hT]; exact hn6)
      obtain ⟨l6, hl6⟩ : ∃ l, encPcV (prt LV i) (prt XV i) = l := ⟨_, rfl⟩
      rw [hl6] at HSP2 HDn2 ho6
      have HE11 := Lib.hid (HE10.out.trans he11)
      have HRW11 := Lib.hid (HRW10.out.ext he11)
      have HO6 := Lib.hid (own_mono ho6 HE10.out.size)
      subst hz0
      clear hl6 ho6 he11 HSP HPE2 HDn HPV
      go_wp2_with (at_builtin; go_must (refine wpList_appGG teE rfl (.tmp 43) (.tmp 45) rfl W9.heap.size A0 i c0 (gcs D) rfl ?r0 (some ⟨w11.heap.size, 0, none⟩) 1 1 [.slice A6 n6 c6] rfl ?r1 (by rfl) (fun u hu => by rw [List.mem_singleton.1 hu]; rfl) (by omega) (by omega) ?b1 ?_))
      case r0 => exact (HRW11.out.ext ((Ext.refl w11).alloc' _)).own
      case r1 => exact Rd.of_blk (Blk.new w11 28 #[.slice A6 n6 c6])
      case b1 => have := HE11.out.size; simp; omega
      intro A7 c7 w12 ho12 hg12
      have HRA := Lib.hid (HRW11.out.ext ((Ext.refl w11).alloc' (.cells #[.slice A6 n6 c6] 28)))
      have HOA := Lib.hid (show OwnB (w11.alloc (.cells #[.slice A6 n6 c6] 28)) W9.heap.size 5 A6 n6 c6 l6 from OwnB.alloc HO6.out _)
      have HEA := Lib.hid (HE11.out.alloc' (.cells #[.slice A6 n6 c6] 28))
      have HE12 := Lib.hid (Below.grown HEA.out hg12 HEA.out.size (fun k hk => (World.ownsRow.lt HRA.out.own k hk).1))
      have HRW12 := Lib.hid (HRA.out.push (T := ⟨A6, n6, c6, l6⟩) HOA.out hg12 ho12)
      clear ho12 hg12 HRA HOA HEA HRW11 HO6 HE11 HRW10 HE10 HGU q0 q1
      go_wp2_with fail
      go_roundw
      case rel => exact ⟨i + 1, A7, c7, _, by go_num, rfl, HNE.out, HRW12, HE12, HSP2, HDn2⟩
      case measure => simp [intOf]; have := HNE.out; omega
end Go.Proofs.YtbfepgjeecndiaaGreat
