/- The reference's SortedTexts: texts in ascending order, each once. -/
import Derived.Test.YtbfepgjeecndiaaGreatJ28
import Derived.Test.YtbfepgjeecndiaaGreatJ32
namespace Go.Proofs.YtbfepgjeecndiaaGreat
set_option maxRecDepth 100000
set_option maxHeartbeats 16000000
open Go.RowKit
set_option linter.unusedVariables false
set_option linter.unusedSimpArgs false
attribute [local go_sem ↓] Go.wp_at_zero Go.wp_at_succ
def SoOut (w : World) (X : List TeR) (m : Nat) (e : Ending) (w' : World) : Prop := ∃ (A : Option Addr) (n c : Nat) (D : List TeR), e = .returned (.slice A n c) ∧ RwT w' w.heap.size A n c D ∧ D.map TeR.l = canonO lexB (X.map TeR.l) ∧ n ≤ m ∧ Ext w w'
theorem sortedTexts_any (B : Option Addr) (m d : Nat) (X : List TeR) (w : World) (hX : SlG w B m d X) (hm : m ≤ 1000000000) (hXn : ∀ T, T ∈ X → T.n ≤ 140737488355328) :
  Calls Tryz.prog 67 #[.slice B m d] w (SoOut w X m) := by
 have hcap2 := hX.cap
 have hle2 := hX.le
 have hb0 := run_buildT0
 have hb1 := run_buildY0
 have HX := Lib.hid hX
 have HXA := Lib.hid (fun (h : 0 < m) => HX.out.at h)
 have HXn := Lib.hid hXn
 clear hX hXn
 go_enter Tryz.func67, Tryz.ntmps67
 go_wp2_with fail
 go_loopw [3, 4] (fun vo vi wr => ∃ (i : Nat) (A : Option Addr) (n c : Nat) (D : List TeR), vi = .int .i64 (i : Int) ∧ vo = .slice A n c ∧ i ≤ m ∧ n ≤ i ∧ Hid (RwT wr w.heap.size A n c D) ∧ Hid (D.map TeR.l = canonO lexB ((X.take i).map TeR.l)) ∧ Hid (Ext w wr)) (fun _ i _ => m - (intOf i).toNat)
 case atStart => exact ⟨0, none, 0, 0, [], rfl, rfl, Nat.zero_le _, Nat.le_refl _, Lib.hid (RwT.nil _ _), Lib.hid rfl, Lib.hid (Ext.refl _)⟩
 case round =>
  obtain ⟨i, A, n, c, D, rfl, rfl, hi, hn, HRW, HCA, HEW⟩ := hrel
  by_cases hlt : i < m
  ·obtain ⟨b, o, rfl, hr0, hb⟩ := HXA.out (by omega)
   have i1 : (i : Int) < (m : Int) := by omega
   obtain ⟨T, hT⟩ : ∃ T, nthG X i = T := ⟨_, rfl⟩
   have HCX := Lib.hid (fun (W : World) (he : Ext w W) => show W.cell? ⟨b, o + i, none⟩ = some (.slice (nthG X i).A (nthG X i).n (nthG X i).c) from te_at (rangeAt_keep hr0 (he.block b hb)) (k := i) (by rw [HX.out.len]; exact hlt))
   have HOK := Lib.hid (fun (W : World) (he : Ext w W) => (HX.out.ext he).nth (k := i) hlt)
   have hTn := HXn.out _ (nthG_mem (L := X) (k := i) (by rw [HX.out.len]; exact hlt))
   have HTK := Lib.hid (show (X.take (i + 1)).map TeR.l = (X.take i).map TeR.l ++ [T.l] from by rw [take_nthG (L := X) (k := i) (by rw [HX.out.len]; exact hlt), List.map_append, hT]; rfl)
   rw [hT] at HCX HOK hTn
   clear hT hr0
   obtain ⟨Ta, Tn, Tc, Tl⟩ := T
   obtain ⟨s2, hs2⟩ : ∃ s, strV Tl = s := ⟨_, rfl⟩
   have HST := Lib.hid (fun (W : World) (he : Ext w W) => show (convert 28 9 (.slice Ta Tn Tc)).run Tryz.prog W = .ok (.string s2) W from by rw [← hs2]; exact run_strV (HOK.out W he))
   have HS2 := Lib.hid hs2
   clear hs2
   go_wp2_with fail
   obtain ⟨W0, rfl⟩ : ∃ W0, W0 = wr := ⟨_, rfl⟩
   go_loopw [5] (fun vk wr => ∃ k : Nat, vk = .int .i64 (k : Int) ∧ k ≤ n ∧ Hid (∀ j, j < k → lexB (nthG D j).l Tl = true) ∧ Hid (Ext W0 wr)) (fun k _ => n - (intOf k).toNat)
   case atStart => exact ⟨0, rfl, Nat.zero_le _, Lib.hid (fun j hj => by omega), Lib.hid (Ext.refl _)⟩
   case round =>
    obtain ⟨k, rfl, hkn, HBEF, HZ⟩ := hrel
    by_cases hk2 : k < n
    ·have i2 : (k : Int) < (n : Int) := by omega
     obtain ⟨g, rfl, -, hrg⟩ := own_at HRW.out.own (by omega)
     have HCY := Lib.hid (fun (W : World) (he : Ext W0 W) => show W.cell? ⟨g, k, none⟩ = some (.slice (nthG D k).A (nthG D k).n (nthG D k).c) from by
      have := te_at (rangeAt_keep hrg (he.block g (World.ownsRow.lt HRW.out.own g rfl).2)) (k := k) (by rw [HRW.out.len]; exact hk2)
      rwa [Nat.zero_add] at this)
     have HSY0 := Lib.hid (fun (W : World) (he : Ext W0 W) => (HRW.out.sl.ext he).nth (k := k) hk2)
     obtain ⟨Y, hY⟩ : ∃ Y, nthG D k = Y := ⟨_, rfl⟩
     rw [hY] at HCY HSY0
     have HYE := Lib.hid hY
     clear hY hrg
     obtain ⟨Ya, Yn, Yc, Yl⟩ := Y
     obtain ⟨s1, hs1⟩ : ∃ s, strV Yl = s := ⟨_, rfl⟩
     have HSY := Lib.hid (fun (W : World) (he : Ext W0 W) => show (convert 28 9 (.slice Ya Yn Yc)).run Tryz.prog W = .ok (.string s1) W from by rw [← hs1]; exact run_strV (HSY0.out W he))
     have HS1 := Lib.hid hs1
     clear hs1 HSY0
     cases hbl : lexB Yl Tl with
     | true =>
      have hl : Op.bytesLess s1.toList s2.toList = true := by rw [← HS1.out, ← HS2.out, strV_lt]; exact hbl
      have HB := Lib.hid hbl
      clear hbl
      go_wp2_with fail
      refine wp_region_plan (S := fun W => Ext wr W) (by kernel_rfl) (by kernel_rfl) ((Ext.refl wr).drew') ?_
      (refine pr 0 (oi := ⟨some 13, .move (.tmp 5), 3, "items.go:26", #[], none⟩) (v := ?_) rfl (by kernel_rfl) (by rfl) ?h ?_; case h => (intro W hSW; go_simp <;> with_reducible rfl))
      try simp only [lays]
      (refine pr 1 (oi := ⟨some 14, .move (.tmp 3), 23, "items.go:26", #[], none⟩) (v := ?_) rfl (by kernel_rfl) (by rfl) ?h ?_; case h => (intro W hSW; go_simp <;> with_reducible rfl))
      try simp only [lays]
      (refine pr 2 (oi := ⟨some 15, .call { callee := .builtin .len, args := #[.tmp 14], argTypes := #[23] }, 3, "items.go:26", #[⟨1, .data⟩], none⟩) (v := ?_) rfl (by kernel_rfl) (by rfl) ?h ?_; case h => (intro W hSW; have f1 := HCY.out W (HZ.out.trans hSW); have f2 := HCX.out W (HEW.out.trans (HZ.out.trans hSW)); have f3 := HSY.out W (HZ.out.trans hSW); have f4 := HST.out W (HEW.out.trans (HZ.out.trans hSW)); go_simp <;> with_reducible rfl))
      try simp only [lays]
      (refine pr 3 (oi := ⟨some 16, .binOp .lss 3 (.tmp 13) (.tmp 15) 3, 4, "items.go:26", #[⟨0, .data⟩, ⟨2, .data⟩], none⟩) (v := ?_) rfl (by kernel_rfl) (by rfl) ?h ?_; case h => (intro W hSW; go_simp <;> with_reducible rfl))
      try simp only [lays]
      (refine pr 4 (oi := ⟨some 17, .move (.tmp 16), 4, "items.go:26", #[⟨3, .data⟩], none⟩) (v := ?_) rfl (by kernel_rfl) (by rfl) ?h ?_; case h => (intro W hSW; go_simp <;> with_reducible rfl))
      try simp only [lays]
      refine plan_oi (i := 5) (oi := ⟨some 18, .move (.tmp 3), 23, "items.go:26", #[⟨4, .guard⟩], some (4, true)⟩) rfl (by kernel_rfl) (by kernel_rfl) ?_
      first | (refine ⟨?_, (fx_read (Or.inl ⟨by rfl, ?hy1_5⟩)), ?_⟩; case hy1_5 => (intro W hSW; go_simp <;> with_reducible rfl)) | (refine ⟨undef, fx_skip (by rfl), ?_⟩)
      try simp only [lays]
      refine plan_oi (i := 6) (oi := ⟨some 19, .move (.tmp 5), 3, "items.go:26", #[⟨4, .guard⟩], some (4, true)⟩) rfl (by kernel_rfl) (by kernel_rfl) ?_
      first | (refine ⟨?_, (fx_read (Or.inl ⟨by rfl, ?hy1_6⟩)), ?_⟩; case hy1_6 => (intro W hSW; go_simp <;> with_reducible rfl)) | (refine ⟨undef, fx_skip (by rfl), ?_⟩)
      try simp only [lays]
      refine plan_oi (i := 7) (oi := ⟨some 20, .indexAddr 23 (.tmp 18) (.tmp 19), 0, "items.go:26", #[⟨5, .data⟩, ⟨6, .data⟩, ⟨4, .guard⟩], some (4, true)⟩) rfl (by kernel_rfl) (by kernel_rfl) ?_
      first | (refine ⟨?_, (fx_read (Or.inl ⟨by rfl, ?hy1_7⟩)), ?_⟩; case hy1_7 => (intro W hSW; go_simp <;> with_reducible rfl)) | (refine ⟨undef, fx_skip (by rfl), ?_⟩)
      try simp only [lays]
      refine plan_oi (i := 8) (oi := ⟨some 21, .load 28 (.tmp 20), 28, "items.go:26", #[⟨7, .data⟩, ⟨4, .guard⟩], some (4, true)⟩) rfl (by kernel_rfl) (by kernel_rfl) ?_
      first | (refine ⟨?_, (fx_read (Or.inl ⟨by rfl, ?hy1_8⟩)), ?_⟩; case hy1_8 => (intro W hSW; have f1 := HCY.out W (HZ.out.trans hSW); have f2 := HCX.out W (HEW.out.trans (HZ.out.trans hSW)); have f3 := HSY.out W (HZ.out.trans hSW); have f4 := HST.out W (HEW.out.trans (HZ.out.trans hSW)); go_simp <;> with_reducible rfl)) | (refine ⟨undef, fx_skip (by rfl), ?_⟩)
      try simp only [lays]
      refine plan_oi (i := 9) (oi := ⟨some 22, .convert 28 9 (.tmp 21), 9, "items.go:26", #[⟨8, .data⟩, ⟨4, .guard⟩], some (4, true)⟩) rfl (by kernel_rfl) (by kernel_rfl) ?_
      first | (refine ⟨?_, (fx_read (Or.inl ⟨by rfl, ?hy1_9⟩)), ?_⟩; case hy1_9 => (intro W hSW; have f1 := HCY.out W (HZ.out.trans hSW); have f2 := HCX.out W (HEW.out.trans (HZ.out.trans hSW)); have f3 := HSY.out W (HZ.out.trans hSW); have f4 := HST.out W (HEW.out.trans (HZ.out.trans hSW)); go_simp <;> with_reducible rfl)) | (refine ⟨undef, fx_skip (by rfl), ?_⟩)
      try simp only [lays]
      refine plan_oi (i := 10) (oi := ⟨some 23, .move (.tmp 0), 23, "items.go:26", #[⟨4, .guard⟩], some (4, true)⟩) rfl (by kernel_rfl) (by kernel_rfl) ?_
      first | (refine ⟨?_, (fx_read (Or.inl ⟨by rfl, ?hy1_10⟩)), ?_⟩; case hy1_10 => (intro W hSW; go_simp <;> with_reducible rfl)) | (refine ⟨undef, fx_skip (by rfl), ?_⟩)
      try simp only [lays]
      refine plan_oi (i := 11) (oi := ⟨some 24, .move (.tmp 4), 3, "items.go:26", #[⟨4, .guard⟩], some (4, true)⟩) rfl (by kernel_rfl) (by kernel_rfl) ?_
      first | (refine ⟨?_, (fx_read (Or.inl ⟨by rfl, ?hy1_11⟩)), ?_⟩; case hy1_11 => (intro W hSW; go_simp <;> with_reducible rfl)) | (refine ⟨undef, fx_skip (by rfl), ?_⟩)
      try simp only [lays]
      refine plan_oi (i := 12) (oi := ⟨some 25, .indexAddr 23 (.tmp 23) (.tmp 24), 0, "items.go:26", #[⟨10, .data⟩, ⟨11, .data⟩, ⟨4, .guard⟩], some (4, true)⟩) rfl (by kernel_rfl) (by kernel_rfl) ?_
      first | (refine ⟨?_, (fx_read (Or.inl ⟨by rfl, ?hy1_12⟩)), ?_⟩; case hy1_12 => (intro W hSW; go_simp <;> with_reducible rfl)) | (refine ⟨undef, fx_skip (by rfl), ?_⟩)
      try simp only [lays]
      refine plan_oi (i := 13) (oi := ⟨some 26, .load 28 (.tmp 25), 28, "items.go:26", #[⟨12, .data⟩, ⟨4, .guard⟩], some (4, true)⟩) rfl (by kernel_rfl) (by kernel_rfl) ?_
      first | (refine ⟨?_, (fx_read (Or.inl ⟨by rfl, ?hy1_13⟩)), ?_⟩; case hy1_13 => (intro W hSW; have f1 := HCY.out W (HZ.out.trans hSW); have f2 := HCX.out W (HEW.out.trans (HZ.out.trans hSW)); have f3 := HSY.out W (HZ.out.trans hSW); have f4 := HST.out W (HEW.out.trans (HZ.out.trans hSW)); go_simp <;> with_reducible rfl)) | (refine ⟨undef, fx_skip (by rfl), ?_⟩)
      try simp only [lays]
      refine plan_oi (i := 14) (oi := ⟨some 27, .convert 28 9 (.tmp 26), 9, "items.go:26", #[⟨13, .data⟩, ⟨4, .guard⟩], some (4, true)⟩) rfl (by kernel_rfl) (by kernel_rfl) ?_
      first | (refine ⟨?_, (fx_read (Or.inl ⟨by rfl, ?hy1_14⟩)), ?_⟩; case hy1_14 => (intro W hSW; have f1 := HCY.out W (HZ.out.trans hSW); have f2 := HCX.out W (HEW.out.trans (HZ.out.trans hSW)); have f3 := HSY.out W (HZ.out.trans hSW); have f4 := HST.out W (HEW.out.trans (HZ.out.trans hSW)); go_simp <;> with_reducible rfl)) | (refine ⟨undef, fx_skip (by rfl), ?_⟩)
      try simp only [lays]
      refine plan_oi (i := 15) (oi := ⟨some 28, .binOp .lss 9 (.tmp 22) (.tmp 27) 9, 4, "items.go:26", #[⟨9, .data⟩, ⟨14, .data⟩, ⟨4, .guard⟩], some (4, true)⟩) rfl (by kernel_rfl) (by kernel_rfl) ?_
      first | (refine ⟨?_, (fx_read (Or.inl ⟨by rfl, ?hy1_15⟩)), ?_⟩; case hy1_15 => (intro W hSW; go_simp <;> with_reducible rfl)) | (refine ⟨undef, fx_skip (by rfl), ?_⟩)
      try simp only [lays]
      (refine pr 16 (oi := ⟨some 29, .pick (.tmp 17) (.tmp 28) (.const (.bool false)), 4, "items.go:26", #[⟨4, .data⟩, ⟨15, .data⟩], none⟩) (v := ?_) rfl (by kernel_rfl) (by rfl) ?h ?_; case h => (intro W hSW; go_simp <;> with_reducible rfl))
      try simp only [lays]
      refine Plan.done (by kernel_rfl) (fun W hSW => ?_)
      have HZ2 := Lib.hid (HZ.out.trans hSW)
      have HBEF2 := Lib.hid (show ∀ j, j < k + 1 → lexB (nthG D j).l Tl = true from fun j hj => by
       rcases Nat.lt_or_ge j k with h | h
       ·exact HBEF.out j h
       ·obtain rfl : j = k := by omega
        rw [HYE.out]; exact HB.out)
      clear HZ hSW hl HCY HSY HS1
      go_wp2_with fail
      go_roundw
      case rel => exact ⟨k + 1, by go_num, hk2, HBEF2, HZ2⟩
      case measure => simp [intOf]; omega
     | false =>
      have hl : Op.bytesLess s1.toList s2.toList = false := by rw [← HS1.out, ← HS2.out, strV_lt]; exact hbl
      have HB := Lib.hid hbl
      clear hbl
      go_wp2_with fail
      refine wp_region_plan (S := fun W => Ext wr W) (by kernel_rfl) (by kernel_rfl) ((Ext.refl wr).drew') ?_
      (refine pr 0 (oi := ⟨some 13, .move (.tmp 5), 3, "items.go:26", #[], none⟩) (v := ?_) rfl (by kernel_rfl) (by rfl) ?h ?_; case h => (intro W hSW; go_simp <;> with_reducible rfl))
      try simp only [lays]
      (refine pr 1 (oi := ⟨some 14, .move (.tmp 3), 23, "items.go:26", #[], none⟩) (v := ?_) rfl (by kernel_rfl) (by rfl) ?h ?_; case h => (intro W hSW; go_simp <;> with_reducible rfl))
      try simp only [lays]
      (refine pr 2 (oi := ⟨some 15, .call { callee := .builtin .len, args := #[.tmp 14], argTypes := #[23] }, 3, "items.go:26", #[⟨1, .data⟩], none⟩) (v := ?_) rfl (by kernel_rfl) (by rfl) ?h ?_; case h => (intro W hSW; have f1 := HCY.out W (HZ.out.trans hSW); have f2 := HCX.out W (HEW.out.trans (HZ.out.trans hSW)); have f3 := HSY.out W (HZ.out.trans hSW); have f4 := HST.out W (HEW.out.trans (HZ.out.trans hSW)); go_simp <;> with_reducible rfl))
      try simp only [lays]
      (refine pr 3 (oi := ⟨some 16, .binOp .lss 3 (.tmp 13) (.tmp 15) 3, 4, "items.go:26", #[⟨0, .data⟩, ⟨2, .data⟩], none⟩) (v := ?_) rfl (by kernel_rfl) (by rfl) ?h ?_; case h => (intro W hSW; go_simp <;> with_reducible rfl))
      try simp only [lays]
      (refine pr 4 (oi := ⟨some 17, .move (.tmp 16), 4, "items.go:26", #[⟨3, .data⟩], none⟩) (v := ?_) rfl (by kernel_rfl) (by rfl) ?h ?_; case h => (intro W hSW; go_simp <;> with_reducible rfl))
      try simp only [lays]
      refine plan_oi (i := 5) (oi := ⟨some 18, .move (.tmp 3), 23, "items.go:26", #[⟨4, .guard⟩], some (4, true)⟩) rfl (by kernel_rfl) (by kernel_rfl) ?_
      first | (refine ⟨?_, (fx_read (Or.inl ⟨by rfl, ?hy2_5⟩)), ?_⟩; case hy2_5 => (intro W hSW; go_simp <;> with_reducible rfl)) | (refine ⟨undef, fx_skip (by rfl), ?_⟩)
      try simp only [lays]
      refine plan_oi (i := 6) (oi := ⟨some 19, .move (.tmp 5), 3, "items.go:26", #[⟨4, .guard⟩], some (4, true)⟩) rfl (by kernel_rfl) (by kernel_rfl) ?_
      first | (refine ⟨?_, (fx_read (Or.inl ⟨by rfl, ?hy2_6⟩)), ?_⟩; case hy2_6 => (intro W hSW; go_simp <;> with_reducible rfl)) | (refine ⟨undef, fx_skip (by rfl), ?_⟩)
      try simp only [lays]
      refine plan_oi (i := 7) (oi := ⟨some 20, .indexAddr 23 (.tmp 18) (.tmp 19), 0, "items.go:26", #[⟨5, .data⟩, ⟨6, .data⟩, ⟨4, .guard⟩], some (4, true)⟩) rfl (by kernel_rfl) (by kernel_rfl) ?_
      first | (refine ⟨?_, (fx_read (Or.inl ⟨by rfl, ?hy2_7⟩)), ?_⟩; case hy2_7 => (intro W hSW; go_simp <;> with_reducible rfl)) | (refine ⟨undef, fx_skip (by rfl), ?_⟩)
      try simp only [lays]
      refine plan_oi (i := 8) (oi := ⟨some 21, .load 28 (.tmp 20), 28, "items.go:26", #[⟨7, .data⟩, ⟨4, .guard⟩], some (4, true)⟩) rfl (by kernel_rfl) (by kernel_rfl) ?_
      first | (refine ⟨?_, (fx_read (Or.inl ⟨by rfl, ?hy2_8⟩)), ?_⟩; case hy2_8 => (intro W hSW; have f1 := HCY.out W (HZ.out.trans hSW); have f2 := HCX.out W (HEW.out.trans (HZ.out.trans hSW)); have f3 := HSY.out W (HZ.out.trans hSW); have f4 := HST.out W (HEW.out.trans (HZ.out.trans hSW)); go_simp <;> with_reducible rfl)) | (refine ⟨undef, fx_skip (by rfl), ?_⟩)
      try simp only [lays]
      refine plan_oi (i := 9) (oi := ⟨some 22, .convert 28 9 (.tmp 21), 9, "items.go:26", #[⟨8, .data⟩, ⟨4, .guard⟩], some (4, true)⟩) rfl (by kernel_rfl) (by kernel_rfl) ?_
      first | (refine ⟨?_, (fx_read (Or.inl ⟨by rfl, ?hy2_9⟩)), ?_⟩; case hy2_9 => (intro W hSW; have f1 := HCY.out W (HZ.out.trans hSW); have f2 := HCX.out W (HEW.out.trans (HZ.out.trans hSW)); have f3 := HSY.out W (HZ.out.trans hSW); have f4 := HST.out W (HEW.out.trans (HZ.out.trans hSW)); go_simp <;> with_reducible rfl)) | (refine ⟨undef, fx_skip (by rfl), ?_⟩)
      try simp only [lays]
      refine plan_oi (i := 10) (oi := ⟨some 23, .move (.tmp 0), 23, "items.go:26", #[⟨4, .guard⟩], some (4, true)⟩) rfl (by kernel_rfl) (by kernel_rfl) ?_
      first | (refine ⟨?_, (fx_read (Or.inl ⟨by rfl, ?hy2_10⟩)), ?_⟩; case hy2_10 => (intro W hSW; go_simp <;> with_reducible rfl)) | (refine ⟨undef, fx_skip (by rfl), ?_⟩)
      try simp only [lays]
      refine plan_oi (i := 11) (oi := ⟨some 24, .move (.tmp 4), 3, "items.go:26", #[⟨4, .guard⟩], some (4, true)⟩) rfl (by kernel_rfl) (by kernel_rfl) ?_
      first | (refine ⟨?_, (fx_read (Or.inl ⟨by rfl, ?hy2_11⟩)), ?_⟩; case hy2_11 => (intro W hSW; go_simp <;> with_reducible rfl)) | (refine ⟨undef, fx_skip (by rfl), ?_⟩)
      try simp only [lays]
      refine plan_oi (i := 12) (oi := ⟨some 25, .indexAddr 23 (.tmp 23) (.tmp 24), 0, "items.go:26", #[⟨10, .data⟩, ⟨11, .data⟩, ⟨4, .guard⟩], some (4, true)⟩) rfl (by kernel_rfl) (by kernel_rfl) ?_
      first | (refine ⟨?_, (fx_read (Or.inl ⟨by rfl, ?hy2_12⟩)), ?_⟩; case hy2_12 => (intro W hSW; go_simp <;> with_reducible rfl)) | (refine ⟨undef, fx_skip (by rfl), ?_⟩)
      try simp only [lays]
      refine plan_oi (i := 13) (oi := ⟨some 26, .load 28 (.tmp 25), 28, "items.go:26", #[⟨12, .data⟩, ⟨4, .guard⟩], some (4, true)⟩) rfl (by kernel_rfl) (by kernel_rfl) ?_
      first | (refine ⟨?_, (fx_read (Or.inl ⟨by rfl, ?hy2_13⟩)), ?_⟩; case hy2_13 => (intro W hSW; have f1 := HCY.out W (HZ.out.trans hSW); have f2 := HCX.out W (HEW.out.trans (HZ.out.trans hSW)); have f3 := HSY.out W (HZ.out.trans hSW); have f4 := HST.out W (HEW.out.trans (HZ.out.trans hSW)); go_simp <;> with_reducible rfl)) | (refine ⟨undef, fx_skip (by rfl), ?_⟩)
      try simp only [lays]
      refine plan_oi (i := 14) (oi := ⟨some 27, .convert 28 9 (.tmp 26), 9, "items.go:26", #[⟨13, .data⟩, ⟨4, .guard⟩], some (4, true)⟩) rfl (by kernel_rfl) (by kernel_rfl) ?_
      first | (refine ⟨?_, (fx_read (Or.inl ⟨by rfl, ?hy2_14⟩)), ?_⟩; case hy2_14 => (intro W hSW; have f1 := HCY.out W (HZ.out.trans hSW); have f2 := HCX.out W (HEW.out.trans (HZ.out.trans hSW)); have f3 := HSY.out W (HZ.out.trans hSW); have f4 := HST.out W (HEW.out.trans (HZ.out.trans hSW)); go_simp <;> with_reducible rfl)) | (refine ⟨undef, fx_skip (by rfl), ?_⟩)
      try simp only [lays]
      refine plan_oi (i := 15) (oi := ⟨some 28, .binOp .lss 9 (.tmp 22) (.tmp 27) 9, 4, "items.go:26", #[⟨9, .data⟩, ⟨14, .data⟩, ⟨4, .guard⟩], some (4, true)⟩) rfl (by kernel_rfl) (by kernel_rfl) ?_
      first | (refine ⟨?_, (fx_read (Or.inl ⟨by rfl, ?hy2_15⟩)), ?_⟩; case hy2_15 => (intro W hSW; go_simp <;> with_reducible rfl)) | (refine ⟨undef, fx_skip (by rfl), ?_⟩)
      try simp only [lays]
      (refine pr 16 (oi := ⟨some 29, .pick (.tmp 17) (.tmp 28) (.const (.bool false)), 4, "items.go:26", #[⟨4, .data⟩, ⟨15, .data⟩], none⟩) (v := ?_) rfl (by kernel_rfl) (by rfl) ?h ?_; case h => (intro W hSW; go_simp <;> with_reducible rfl))
      try simp only [lays]
      refine Plan.done (by kernel_rfl) (fun W hSW => ?_)
      have HZ2 := Lib.hid (HZ.out.trans hSW)
      clear HZ hSW hl
      have HZ := HZ2
      clear HZ2
      obtain ⟨wr, rfl⟩ : ∃ q, q = W := ⟨_, rfl⟩
      by_cases hyt : Yl = Tl
      ·have HY := Lib.hid hyt
       have hqq : s1 = s2 := by rw [← HS1.out, ← HS2.out, hyt]
       have hq2 : (s1.toList == s2.toList) = true := by rw [hqq]; simp
       clear hyt
       go_wp2_with fail
       refine wp_region_plan (S := fun W => Ext wr W) (by kernel_rfl) (by kernel_rfl) ((Ext.refl wr).drew') ?_
       (refine pr 0 (oi := ⟨some 32, .move (.tmp 5), 3, "items.go:29", #[], none⟩) (v := ?_) rfl (by kernel_rfl) (by rfl) ?h ?_; case h => (intro W hSW; go_simp <;> with_reducible rfl))
       try simp only [lays]
       (refine pr 1 (oi := ⟨some 33, .move (.tmp 3), 23, "items.go:29", #[], none⟩) (v := ?_) rfl (by kernel_rfl) (by rfl) ?h ?_; case h => (intro W hSW; go_simp <;> with_reducible rfl))
       try simp only [lays]
       (refine pr 2 (oi := ⟨some 34, .call { callee := .builtin .len, args := #[.tmp 33], argTypes := #[23] }, 3, "items.go:29", #[⟨1, .data⟩], none⟩) (v := ?_) rfl (by kernel_rfl) (by rfl) ?h ?_; case h => (intro W hSW; have f1 := HCY.out W (HZ.out.trans hSW); have f2 := HCX.out W (HEW.out.trans (HZ.out.trans hSW)); have f3 := HSY.out W (HZ.out.trans hSW); have f4 := HST.out W (HEW.out.trans (HZ.out.trans hSW)); go_simp <;> with_reducible rfl))
       try simp only [lays]
       (refine pr 3 (oi := ⟨some 35, .binOp .lss 3 (.tmp 32) (.tmp 34) 3, 4, "items.go:29", #[⟨0, .data⟩, ⟨2, .data⟩], none⟩) (v := ?_) rfl (by kernel_rfl) (by rfl) ?h ?_; case h => (intro W hSW; go_simp <;> with_reducible rfl))
       try simp only [lays]
       (refine pr 4 (oi := ⟨some 36, .move (.tmp 35), 4, "items.go:29", #[⟨3, .data⟩], none⟩) (v := ?_) rfl (by kernel_rfl) (by rfl) ?h ?_; case h => (intro W hSW; go_simp <;> with_reducible rfl))
       try simp only [lays]
       refine plan_oi (i := 5) (oi := ⟨some 37, .move (.tmp 3), 23, "items.go:29", #[⟨4, .guard⟩], some (4, true)⟩) rfl (by kernel_rfl) (by kernel_rfl) ?_
       first | (refine ⟨?_, (fx_read (Or.inl ⟨by rfl, ?hy3_5⟩)), ?_⟩; case hy3_5 => (intro W hSW; go_simp <;> with_reducible rfl)) | (refine ⟨undef, fx_skip (by rfl), ?_⟩)
       try simp only [lays]
       refine plan_oi (i := 6) (oi := ⟨some 38, .move (.tmp 5), 3, "items.go:29", #[⟨4, .guard⟩], some (4, true)⟩) rfl (by kernel_rfl) (by kernel_rfl) ?_
       first | (refine ⟨?_, (fx_read (Or.inl ⟨by rfl, ?hy3_6⟩)), ?_⟩; case hy3_6 => (intro W hSW; go_simp <;> with_reducible rfl)) | (refine ⟨undef, fx_skip (by rfl), ?_⟩)
       try simp only [lays]
       refine plan_oi (i := 7) (oi := ⟨some 39, .indexAddr 23 (.tmp 37) (.tmp 38), 0, "items.go:29", #[⟨5, .data⟩, ⟨6, .data⟩, ⟨4, .guard⟩], some (4, true)⟩) rfl (by kernel_rfl) (by kernel_rfl) ?_
       first | (refine ⟨?_, (fx_read (Or.inl ⟨by rfl, ?hy3_7⟩)), ?_⟩; case hy3_7 => (intro W hSW; go_simp <;> with_reducible rfl)) | (refine ⟨undef, fx_skip (by rfl), ?_⟩)
       try simp only [lays]
       refine plan_oi (i := 8) (oi := ⟨some 40, .load 28 (.tmp 39), 28, "items.go:29", #[⟨7, .data⟩, ⟨4, .guard⟩], some (4, true)⟩) rfl (by kernel_rfl) (by kernel_rfl) ?_
       first | (refine ⟨?_, (fx_read (Or.inl ⟨by rfl, ?hy3_8⟩)), ?_⟩; case hy3_8 => (intro W hSW; have f1 := HCY.out W (HZ.out.trans hSW); have f2 := HCX.out W (HEW.out.trans (HZ.out.trans hSW)); have f3 := HSY.out W (HZ.out.trans hSW); have f4 := HST.out W (HEW.out.trans (HZ.out.trans hSW)); go_simp <;> with_reducible rfl)) | (refine ⟨undef, fx_skip (by rfl), ?_⟩)
       try simp only [lays]
       refine plan_oi (i := 9) (oi := ⟨some 41, .convert 28 9 (.tmp 40), 9, "items.go:29", #[⟨8, .data⟩, ⟨4, .guard⟩], some (4, true)⟩) rfl (by kernel_rfl) (by kernel_rfl) ?_
       first | (refine ⟨?_, (fx_read (Or.inl ⟨by rfl, ?hy3_9⟩)), ?_⟩; case hy3_9 => (intro W hSW; have f1 := HCY.out W (HZ.out.trans hSW); have f2 := HCX.out W (HEW.out.trans (HZ.out.trans hSW)); have f3 := HSY.out W (HZ.out.trans hSW); have f4 := HST.out W (HEW.out.trans (HZ.out.trans hSW)); go_simp <;> with_reducible rfl)) | (refine ⟨undef, fx_skip (by rfl), ?_⟩)
       try simp only [lays]
       refine plan_oi (i := 10) (oi := ⟨some 42, .move (.tmp 0), 23, "items.go:29", #[⟨4, .guard⟩], some (4, true)⟩) rfl (by kernel_rfl) (by kernel_rfl) ?_
       first | (refine ⟨?_, (fx_read (Or.inl ⟨by rfl, ?hy3_10⟩)), ?_⟩; case hy3_10 => (intro W hSW; go_simp <;> with_reducible rfl)) | (refine ⟨undef, fx_skip (by rfl), ?_⟩)
       try simp only [lays]
       refine plan_oi (i := 11) (oi := ⟨some 43, .move (.tmp 4), 3, "items.go:29", #[⟨4, .guard⟩], some (4, true)⟩) rfl (by kernel_rfl) (by kernel_rfl) ?_
       first | (refine ⟨?_, (fx_read (Or.inl ⟨by rfl, ?hy3_11⟩)), ?_⟩; case hy3_11 => (intro W hSW; go_simp <;> with_reducible rfl)) | (refine ⟨undef, fx_skip (by rfl), ?_⟩)
       try simp only [lays]
       refine plan_oi (i := 12) (oi := ⟨some 44, .indexAddr 23 (.tmp 42) (.tmp 43), 0, "items.go:29", #[⟨10, .data⟩, ⟨11, .data⟩, ⟨4, .guard⟩], some (4, true)⟩) rfl (by kernel_rfl) (by kernel_rfl) ?_
       first | (refine ⟨?_, (fx_read (Or.inl ⟨by rfl, ?hy3_12⟩)), ?_⟩; case hy3_12 => (intro W hSW; go_simp <;> with_reducible rfl)) | (refine ⟨undef, fx_skip (by rfl), ?_⟩)
       try simp only [lays]
       refine plan_oi (i := 13) (oi := ⟨some 45, .load 28 (.tmp 44), 28, "items.go:29", #[⟨12, .data⟩, ⟨4, .guard⟩], some (4, true)⟩) rfl (by kernel_rfl) (by kernel_rfl) ?_
       first | (refine ⟨?_, (fx_read (Or.inl ⟨by rfl, ?hy3_13⟩)), ?_⟩; case hy3_13 => (intro W hSW; have f1 := HCY.out W (HZ.out.trans hSW); have f2 := HCX.out W (HEW.out.trans (HZ.out.trans hSW)); have f3 := HSY.out W (HZ.out.trans hSW); have f4 := HST.out W (HEW.out.trans (HZ.out.trans hSW)); go_simp <;> with_reducible rfl)) | (refine ⟨undef, fx_skip (by rfl), ?_⟩)
       try simp only [lays]
       refine plan_oi (i := 14) (oi := ⟨some 46, .convert 28 9 (.tmp 45), 9, "items.go:29", #[⟨13, .data⟩, ⟨4, .guard⟩], some (4, true)⟩) rfl (by kernel_rfl) (by kernel_rfl) ?_
       first | (refine ⟨?_, (fx_read (Or.inl ⟨by rfl, ?hy3_14⟩)), ?_⟩; case hy3_14 => (intro W hSW; have f1 := HCY.out W (HZ.out.trans hSW); have f2 := HCX.out W (HEW.out.trans (HZ.out.trans hSW)); have f3 := HSY.out W (HZ.out.trans hSW); have f4 := HST.out W (HEW.out.trans (HZ.out.trans hSW)); go_simp <;> with_reducible rfl)) | (refine ⟨undef, fx_skip (by rfl), ?_⟩)
       try simp only [lays]
       refine plan_oi (i := 15) (oi := ⟨some 47, .binOp .eql 9 (.tmp 41) (.tmp 46) 9, 4, "items.go:29", #[⟨9, .data⟩, ⟨14, .data⟩, ⟨4, .guard⟩], some (4, true)⟩) rfl (by kernel_rfl) (by kernel_rfl) ?_
       first | (refine ⟨?_, (fx_read (Or.inl ⟨by rfl, ?hy3_15⟩)), ?_⟩; case hy3_15 => (intro W hSW; go_simp <;> with_reducible rfl)) | (refine ⟨undef, fx_skip (by rfl), ?_⟩)
       try simp only [lays]
       (refine pr 16 (oi := ⟨some 48, .pick (.tmp 36) (.tmp 47) (.const (.bool false)), 4, "items.go:29", #[⟨4, .data⟩, ⟨15, .data⟩], none⟩) (v := ?_) rfl (by kernel_rfl) (by rfl) ?h ?_; case h => (intro W hSW; go_simp <;> with_reducible rfl))
       try simp only [lays]
       refine Plan.done (by kernel_rfl) (fun W hSW => ?_)
       have HEF := Lib.hid (HEW.out.trans (HZ.out.trans hSW))
       have HRF := Lib.hid (HRW.out.ext (HZ.out.trans hSW))
       have HCF := Lib.hid (show D.map TeR.l = canonO lexB ((X.take (i + 1)).map TeR.l) from by
        rw [HTK.out, canonO_snoc, ← HCA.out, insO_eq Tl (D.map TeR.l) k (by rw [List.length_map, HRW.out.len]; exact hk2) (fun j hj hl => by rw [List.getElem_map, nthG_eq]; exact HBEF.out j hj) (by rw [List.getElem_map, nthG_eq, HYE.out]; exact HB.out) (by rw [List.getElem_map, nthG_eq, HYE.out]; exact HY.out)])
       clear hqq hq2 hSW HZ
       go_wp2_with fail
       go_roundw
       case rel => exact ⟨i + 1, _, n, c, D, by go_num, rfl, hlt, by omega, HRF, HCF, HEF⟩
       case measure => simp [intOf]; omega
      ·have HAT := Lib.hid (show ∀ (h : k < (D.map TeR.l).length), lexB (D.map TeR.l)[k] Tl = false ∧ (D.map TeR.l)[k] ≠ Tl from fun h => by
        rw [List.getElem_map, nthG_eq, HYE.out]; exact ⟨HB.out, hyt⟩)
       have hqq : True := trivial
       have hq2 : (s1.toList == s2.toList) = false := by rw [← HS1.out, ← HS2.out, strV_eq']; exact decide_eq_false hyt
       clear hyt
       go_wp2_with fail
       refine wp_region_plan (S := fun W => Ext wr W) (by kernel_rfl) (by kernel_rfl) ((Ext.refl wr).drew') ?_
       (refine pr 0 (oi := ⟨some 32, .move (.tmp 5), 3, "items.go:29", #[], none⟩) (v := ?_) rfl (by kernel_rfl) (by rfl) ?h ?_; case h => (intro W hSW; go_simp <;> with_reducible rfl))
       try simp only [lays]
       (refine pr 1 (oi := ⟨some 33, .move (.tmp 3), 23, "items.go:29", #[], none⟩) (v := ?_) rfl (by kernel_rfl) (by rfl) ?h ?_; case h => (intro W hSW; go_simp <;> with_reducible rfl))
       try simp only [lays]
       (refine pr 2 (oi := ⟨some 34, .call { callee := .builtin .len, args := #[.tmp 33], argTypes := #[23] }, 3, "items.go:29", #[⟨1, .data⟩], none⟩) (v := ?_) rfl (by kernel_rfl) (by rfl) ?h ?_; case h => (intro W hSW; have f1 := HCY.out W (HZ.out.trans hSW); have f2 := HCX.out W (HEW.out.trans (HZ.out.trans hSW)); have f3 := HSY.out W (HZ.out.trans hSW); have f4 := HST.out W (HEW.out.trans (HZ.out.trans hSW)); go_simp <;> with_reducible rfl))
       try simp only [lays]
       (refine pr 3 (oi := ⟨some 35, .binOp .lss 3 (.tmp 32) (.tmp 34) 3, 4, "items.go:29", #[⟨0, .data⟩, ⟨2, .data⟩], none⟩) (v := ?_) rfl (by kernel_rfl) (by rfl) ?h ?_; case h => (intro W hSW; go_simp <;> with_reducible rfl))
       try simp only [lays]
       (refine pr 4 (oi := ⟨some 36, .move (.tmp 35), 4, "items.go:29", #[⟨3, .data⟩], none⟩) (v := ?_) rfl (by kernel_rfl) (by rfl) ?h ?_; case h => (intro W hSW; go_simp <;> with_reducible rfl))
       try simp only [lays]
       refine plan_oi (i := 5) (oi := ⟨some 37, .move (.tmp 3), 23, "items.go:29", #[⟨4, .guard⟩], some (4, true)⟩) rfl (by kernel_rfl) (by kernel_rfl) ?_
       first | (refine ⟨?_, (fx_read (Or.inl ⟨by rfl, ?hy4_5⟩)), ?_⟩; case hy4_5 => (intro W hSW; go_simp <;> with_reducible rfl)) | (refine ⟨undef, fx_skip (by rfl), ?_⟩)
       try simp only [lays]
       refine plan_oi (i := 6) (oi := ⟨some 38, .move (.tmp 5), 3, "items.go:29", #[⟨4, .guard⟩], some (4, true)⟩) rfl (by kernel_rfl) (by kernel_rfl) ?_
       first | (refine ⟨?_, (fx_read (Or.inl ⟨by rfl, ?hy4_6⟩)), ?_⟩; case hy4_6 => (intro W hSW; go_simp <;> with_reducible rfl)) | (refine ⟨undef, fx_skip (by rfl), ?_⟩)
       try simp only [lays]
       refine plan_oi (i := 7) (oi := ⟨some 39, .indexAddr 23 (.tmp 37) (.tmp 38), 0, "items.go:29", #[⟨5, .data⟩, ⟨6, .data⟩, ⟨4, .guard⟩], some (4, true)⟩) rfl (by kernel_rfl) (by kernel_rfl) ?_
       first | (refine ⟨?_, (fx_read (Or.inl ⟨by rfl, ?hy4_7⟩)), ?_⟩; case hy4_7 => (intro W hSW; go_simp <;> with_reducible rfl)) | (refine ⟨undef, fx_skip (by rfl), ?_⟩)
       try simp only [lays]
       refine plan_oi (i := 8) (oi := ⟨some 40, .load 28 (.tmp 39), 28, "items.go:29", #[⟨7, .data⟩, ⟨4, .guard⟩], some (4, true)⟩) rfl (by kernel_rfl) (by kernel_rfl) ?_
       first | (refine ⟨?_, (fx_read (Or.inl ⟨by rfl, ?hy4_8⟩)), ?_⟩; case hy4_8 => (intro W hSW; have f1 := HCY.out W (HZ.out.trans hSW); have f2 := HCX.out W (HEW.out.trans (HZ.out.trans hSW)); have f3 := HSY.out W (HZ.out.trans hSW); have f4 := HST.out W (HEW.out.trans (HZ.out.trans hSW)); go_simp <;> with_reducible rfl)) | (refine ⟨undef, fx_skip (by rfl), ?_⟩)
       try simp only [lays]
       refine plan_oi (i := 9) (oi := ⟨some 41, .convert 28 9 (.tmp 40), 9, "items.go:29", #[⟨8, .data⟩, ⟨4, .guard⟩], some (4, true)⟩) rfl (by kernel_rfl) (by kernel_rfl) ?_
       first | (refine ⟨?_, (fx_read (Or.inl ⟨by rfl, ?hy4_9⟩)), ?_⟩; case hy4_9 => (intro W hSW; have f1 := HCY.out W (HZ.out.trans hSW); have f2 := HCX.out W (HEW.out.trans (HZ.out.trans hSW)); have f3 := HSY.out W (HZ.out.trans hSW); have f4 := HST.out W (HEW.out.trans (HZ.out.trans hSW)); go_simp <;> with_reducible rfl)) | (refine ⟨undef, fx_skip (by rfl), ?_⟩)
       try simp only [lays]
       refine plan_oi (i := 10) (oi := ⟨some 42, .move (.tmp 0), 23, "items.go:29", #[⟨4, .guard⟩], some (4, true)⟩) rfl (by kernel_rfl) (by kernel_rfl) ?_
       first | (refine ⟨?_, (fx_read (Or.inl ⟨by rfl, ?hy4_10⟩)), ?_⟩; case hy4_10 => (intro W hSW; go_simp <;> with_reducible rfl)) | (refine ⟨undef, fx_skip (by rfl), ?_⟩)
       try simp only [lays]
       refine plan_oi (i := 11) (oi := ⟨some 43, .move (.tmp 4), 3, "items.go:29", #[⟨4, .guard⟩], some (4, true)⟩) rfl (by kernel_rfl) (by kernel_rfl) ?_
       first | (refine ⟨?_, (fx_read (Or.inl ⟨by rfl, ?hy4_11⟩)), ?_⟩; case hy4_11 => (intro W hSW; go_simp <;> with_reducible rfl)) | (refine ⟨undef, fx_skip (by rfl), ?_⟩)
       try simp only [lays]
       refine plan_oi (i := 12) (oi := ⟨some 44, .indexAddr 23 (.tmp 42) (.tmp 43), 0, "items.go:29", #[⟨10, .data⟩, ⟨11, .data⟩, ⟨4, .guard⟩], some (4, true)⟩) rfl (by kernel_rfl) (by kernel_rfl) ?_
       first | (refine ⟨?_, (fx_read (Or.inl ⟨by rfl, ?hy4_12⟩)), ?_⟩; case hy4_12 => (intro W hSW; go_simp <;> with_reducible rfl)) | (refine ⟨undef, fx_skip (by rfl), ?_⟩)
       try simp only [lays]
       refine plan_oi (i := 13) (oi := ⟨some 45, .load 28 (.tmp 44), 28, "items.go:29", #[⟨12, .data⟩, ⟨4, .guard⟩], some (4, true)⟩) rfl (by kernel_rfl) (by kernel_rfl) ?_
       first | (refine ⟨?_, (fx_read (Or.inl ⟨by rfl, ?hy4_13⟩)), ?_⟩; case hy4_13 => (intro W hSW; have f1 := HCY.out W (HZ.out.trans hSW); have f2 := HCX.out W (HEW.out.trans (HZ.out.trans hSW)); have f3 := HSY.out W (HZ.out.trans hSW); have f4 := HST.out W (HEW.out.trans (HZ.out.trans hSW)); go_simp <;> with_reducible rfl)) | (refine ⟨undef, fx_skip (by rfl), ?_⟩)
       try simp only [lays]
       refine plan_oi (i := 14) (oi := ⟨some 46, .convert 28 9 (.tmp 45), 9, "items.go:29", #[⟨13, .data⟩, ⟨4, .guard⟩], some (4, true)⟩) rfl (by kernel_rfl) (by kernel_rfl) ?_
       first | (refine ⟨?_, (fx_read (Or.inl ⟨by rfl, ?hy4_14⟩)), ?_⟩; case hy4_14 => (intro W hSW; have f1 := HCY.out W (HZ.out.trans hSW); have f2 := HCX.out W (HEW.out.trans (HZ.out.trans hSW)); have f3 := HSY.out W (HZ.out.trans hSW); have f4 := HST.out W (HEW.out.trans (HZ.out.trans hSW)); go_simp <;> with_reducible rfl)) | (refine ⟨undef, fx_skip (by rfl), ?_⟩)
       try simp only [lays]
       refine plan_oi (i := 15) (oi := ⟨some 47, .binOp .eql 9 (.tmp 41) (.tmp 46) 9, 4, "items.go:29", #[⟨9, .data⟩, ⟨14, .data⟩, ⟨4, .guard⟩], some (4, true)⟩) rfl (by kernel_rfl) (by kernel_rfl) ?_
       first | (refine ⟨?_, (fx_read (Or.inl ⟨by rfl, ?hy4_15⟩)), ?_⟩; case hy4_15 => (intro W hSW; go_simp <;> with_reducible rfl)) | (refine ⟨undef, fx_skip (by rfl), ?_⟩)
       try simp only [lays]
       (refine pr 16 (oi := ⟨some 48, .pick (.tmp 36) (.tmp 47) (.const (.bool false)), 4, "items.go:29", #[⟨4, .data⟩, ⟨15, .data⟩], none⟩) (v := ?_) rfl (by kernel_rfl) (by rfl) ?h ?_; case h => (intro W hSW; go_simp <;> with_reducible rfl))
       try simp only [lays]
       refine Plan.done (by kernel_rfl) (fun W hSW => ?_)
       have HZW := Lib.hid (HZ.out.trans hSW)
       clear hqq hq2 hSW HCY HSY HS1 HYE HST HB
       obtain ⟨A, hA⟩ : ∃ A, (some ⟨g, 0, none⟩ : Option Addr) = A := ⟨_, rfl⟩
       rw [hA] at HRW ⊢
       clear hA
       have hkc : k ≤ c := Nat.le_trans hkn (HRW.out.sl).le
       have HWD := Lib.hid (HRW.out.ext HZW.out)
       have HEWW := Lib.hid (HEW.out.trans HZW.out)
       have hcapk := HRW.out.sl.cap
       clear HZ
       go_wp2_with (at_builtin; go_must (refine wpList_appGG teE rfl (.tmp 49) (.tmp 52) rfl W.heap.size (some ⟨W.heap.size, 0, none⟩) 0 0 [] rfl ?r0 A k c (gcs (D.take k)) rfl ?r1 ?l1 (gcs_cell _) (by omega) (by omega) ?b1 ?_))
       case r0 => exact own_zero W 28 1
       case r1 => exact ((HWD.out.sl.ext ((Ext.refl W).alloc' _)).upto (k := k) (c' := c) hkn hkc hcapk).rd
       case l1 => rw [gcs_length, List.length_take, HRW.out.len, Nat.min_eq_left hkn]; rfl
       case b1 => simp
       intro A9 c9 w9 ho9 hg9
       have HE9 := Lib.hid (show Ext W w9 from Below.grown ((Ext.refl W).alloc' (.cells #[] 28)) hg9 (by simp) (fun q hq => by simp [Value.ownBlock] at hq; omega))
       have HO9 := Lib.hid (show w9.ownsRow W.heap.size 28 1 (.slice A9 k c9) k (gcs (D.take k)) from by simpa only [Nat.zero_add, List.nil_append] using ho9)
       have cX : (w9.alloc (.cells #[] 5)).cell? ⟨b, o + i, none⟩ = some (.slice Ta Tn Tc) := HCX.out _ ((HEWW.out.trans HE9.out).alloc' _)
       have HSX9 := Lib.hid (HOK.out _ ((HEWW.out.trans HE9.out).alloc' (.cells #[] 5)))
       clear ho9 hg9
       go_wp2_with (at_builtin; go_must (refine wpList_appBG bytesE rfl (.tmp 55) (.tmp 59) rfl w9.heap.size (some ⟨w9.heap.size, 0, none⟩) 0 0 [] rfl ?r0 Ta Tn Tc Tl rfl HSX9.out (by omega) ?b1 ?_))
       case r0 => exact own_zero w9 5 1
       case b1 => simp
       intro A10 c10 w10 ho10 hg10
       have HE10 := Lib.hid (show Ext w9 w10 from Below.grown ((Ext.refl w9).alloc' (.cells #[] 5)) hg10 (by simp) (fun q hq => by simp [Value.ownBlock] at hq; omega))
       have HO10 := Lib.hid (show OwnB w10 w9.heap.size 5 A10 Tn c10 Tl from by simpa only [Nat.zero_add, List.nil_append] using ho10)
       clear ho10 hg10 cX HSX9
       go_wp2_with (at_builtin; go_must (refine wpList_appGG teE rfl (.tmp 54) (.tmp 61) rfl W.heap.size A9 k c9 (gcs (D.take k)) rfl ?r0 (some ⟨w10.heap.size, 0, none⟩) 1 1 [.slice A10 Tn c10] (by simp [Act.eval]) ?r1 (by rfl) (fun u hu => by rw [List.mem_singleton.1 hu]; rfl) (by omega) (by omega) ?b1 ?_))
       case r0 => exact own_ext HO9.out (HE10.out.alloc' _)
       case r1 => exact Rd.of_blk (Blk.new w10 28 #[.slice A10 Tn c10])
       case b1 => have := HE9.out.size; have := HE10.out.size; simp; omega
       intro A11 c11 w11 ho11 hg11
       have HO10A := Lib.hid (own_ext HO9.out (HE10.out.alloc' (.cells #[.slice A10 Tn c10] 28)))
       have HE11 := Lib.hid (show Ext W w11 from Below.grown ((HE9.out.trans HE10.out).alloc' (.cells #[.slice A10 Tn c10] 28)) hg11 (by have := HE9.out.size; have := HE10.out.size; simp; omega) (fun q hq => (World.ownsRow.lt HO10A.out q hq).1))
       have HT11 := Lib.hid (show OwnB w11 w.heap.size 5 A10 Tn c10 Tl from own_mono (World.ownsRow.kept (OwnB.alloc HO10.out (.cells #[.slice A10 Tn c10] 28)) hg11 (own_ne (OwnB.alloc HO10.out (.cells #[.slice A10 Tn c10] 28)) HO10A.out (by decide))) (Nat.le_trans HEWW.out.size HE9.out.size))
       clear hg11 HO9 HO10 HO10A
       have HD11 := Lib.hid (HWD.out.ext HE11.out)
       by_cases hck : c = k
       ·obtain rfl : k = n := by have := HRW.out.sl.le; omega
        subst hck
        go_wp2_with (at_builtin; go_must (refine wpList_appGG teE rfl (.tmp 63) (.tmp 66) rfl W.heap.size A11 (c + 1) c11 (gcs (D.take c) ++ [.slice A10 Tn c10]) rfl ho11 A (c - c) (c - c) [] (by simp [Act.eval]) .nil (by simp) (fun u hu => by cases hu) (by omega) (by omega) ?b1 ?_))
        case b1 => exact HE11.out.size
        intro A12 c12 w12 ho12 hg12
        have HO12 := Lib.hid (show w12.ownsRow W.heap.size 28 1 (.slice A12 (c + 1) c12) (c + 1) (gcs (D.take c ++ (⟨A10, Tn, c10, Tl⟩ : TeR) :: D.drop c)) from by
         have h1 : D.drop c = [] := List.drop_of_length_le (by rw [HRW.out.len]; exact Nat.le_refl _)
         have := ho12
         have h2 : RowT.enc (⟨A10, Tn, c10, Tl⟩ : TeR) = [.slice A10 Tn c10] := rfl
         rw [h1, gcs_append, gcs_one, h2]
         simpa using this)
        have HE12 := Lib.hid (show Ext W w12 from Below.grown HE11.out hg12 HE11.out.size (fun q hq => (World.ownsRow.lt ho11 q hq).1))
        have HT12 := Lib.hid (show OwnB w12 w.heap.size 5 A10 Tn c10 Tl from World.ownsRow.kept HT11.out hg12 (own_ne HT11.out ho11 (by decide)))
        have HRW2 := Lib.hid (show RwT w12 w.heap.size A12 (c + 1) c12 (D.take c ++ (⟨A10, Tn, c10, Tl⟩ : TeR) :: D.drop c) from ⟨own_mono HO12.out HEWW.out.size, fun Q hQ => by
         rcases List.mem_append.1 hQ with hQ | hQ
         ·exact OwnB.ext (HWD.out.tex Q (List.mem_of_mem_take hQ)) HE12.out
         ·rcases List.mem_cons.1 hQ with rfl | hQ
          ·exact HT12.out
          ·exact OwnB.ext (HWD.out.tex Q (List.mem_of_mem_drop hQ)) HE12.out⟩)
        have HCA2 := Lib.hid (show (D.take c ++ (⟨A10, Tn, c10, Tl⟩ : TeR) :: D.drop c).map TeR.l = canonO lexB ((X.take (i + 1)).map TeR.l) from by
         rw [HTK.out, canonO_snoc, ← HCA.out, insO_at Tl (D.map TeR.l) c (by rw [List.length_map, HRW.out.len]; first | exact hkn | exact Nat.le_refl _) (fun j hj hl => by rw [List.getElem_map, nthG_eq]; exact HBEF.out j hj) HAT.out]
         rw [List.map_append, List.map_cons, List.map_take, List.map_drop])
        have HEF := Lib.hid (HEWW.out.trans HE12.out)
        clear ho11 ho12 hg12 HO12 HT11 HT12 HD11 HE11 HE12
        go_wp2_with fail
        go_roundw
        case rel => exact ⟨i + 1, A12, c + 1, c12, _, by go_num, by first | rfl | (rw [hkn1]), hlt, by omega, HRW2, HCA2, HEF⟩
        case measure => simp [intOf]; omega
       ·have hck' : k < c := by omega
        have HCUT := Lib.hid (HD11.out.sl.cut (k := k) hkn hck')
        go_wp2_with (at_builtin; go_must (refine wpList_appGG teE rfl (.tmp 63) (.tmp 66) rfl W.heap.size A11 (k + 1) c11 (gcs (D.take k) ++ [.slice A10 Tn c10]) rfl ho11 (A.map (·.add k)) (n - k) (c - k) (gcs (D.drop k)) (by simp [Act.eval]) ?r1 ?l1 (gcs_cell _) (by omega) (by omega) ?b1 ?_))
        case r1 => have := HCUT.out.rd; rwa [show RowT.sz TeR = 1 from rfl, Nat.mul_one] at this
        case l1 => rw [gcs_length, List.length_drop, HRW.out.len]; rfl
        case b1 => exact HE11.out.size
        intro A12 c12 w12 ho12 hg12
        have HO12 := Lib.hid (show w12.ownsRow W.heap.size 28 1 (.slice A12 (n + 1) c12) (n + 1) (gcs (D.take k ++ (⟨A10, Tn, c10, Tl⟩ : TeR) :: D.drop k)) from by
         have := ho12
         have h2 : RowT.enc (⟨A10, Tn, c10, Tl⟩ : TeR) = [.slice A10 Tn c10] := rfl
         rw [gcs_append, gcs_cons, h2]
         rw [show k + 1 + (n - k) = n + 1 from by omega] at this
         simpa using this)
        have hkn1 : k + 1 + (n - k) = n + 1 := by omega
        have HE12 := Lib.hid (show Ext W w12 from Below.grown HE11.out hg12 HE11.out.size (fun q hq => (World.ownsRow.lt ho11 q hq).1))
        have HT12 := Lib.hid (show OwnB w12 w.heap.size 5 A10 Tn c10 Tl from World.ownsRow.kept HT11.out hg12 (own_ne HT11.out ho11 (by decide)))
        have HRW2 := Lib.hid (show RwT w12 w.heap.size A12 (n + 1) c12 (D.take k ++ (⟨A10, Tn, c10, Tl⟩ : TeR) :: D.drop k) from ⟨own_mono HO12.out HEWW.out.size, fun Q hQ => by
         rcases List.mem_append.1 hQ with hQ | hQ
         ·exact OwnB.ext (HWD.out.tex Q (List.mem_of_mem_take hQ)) HE12.out
         ·rcases List.mem_cons.1 hQ with rfl | hQ
          ·exact HT12.out
          ·exact OwnB.ext (HWD.out.tex Q (List.mem_of_mem_drop hQ)) HE12.out⟩)
        have HCA2 := Lib.hid (show (D.take k ++ (⟨A10, Tn, c10, Tl⟩ : TeR) :: D.drop k).map TeR.l = canonO lexB ((X.take (i + 1)).map TeR.l) from by
         rw [HTK.out, canonO_snoc, ← HCA.out, insO_at Tl (D.map TeR.l) k (by rw [List.length_map, HRW.out.len]; first | exact hkn | exact Nat.le_refl _) (fun j hj hl => by rw [List.getElem_map, nthG_eq]; exact HBEF.out j hj) HAT.out]
         rw [List.map_append, List.map_cons, List.map_take, List.map_drop])
        have HEF := Lib.hid (HEWW.out.trans HE12.out)
        clear ho11 ho12 hg12 HO12 HT11 HT12 HD11 HE11 HE12
        go_wp2_with fail
        go_roundw
        case rel => exact ⟨i + 1, A12, n + 1, c12, _, by go_num, by first | rfl | (rw [hkn1]), hlt, by omega, HRW2, HCA2, HEF⟩
        case measure => simp [intOf]; omega
    ·have hken : k = n := by omega
     have i2 : ¬ (k : Int) < (n : Int) := by omega
     have HAT := Lib.hid (show ∀ (h : k < (D.map TeR.l).length), lexB (D.map TeR.l)[k] Tl = false ∧ (D.map TeR.l)[k] ≠ Tl from fun h => absurd h (by rw [List.length_map, HRW.out.len]; omega))
     clear hken
     go_wp2_with fail
     refine wp_region_plan (S := fun W => Ext wr W) (by kernel_rfl) (by kernel_rfl) ((Ext.refl wr).drew') ?_
     (refine pr 0 (oi := ⟨some 13, .move (.tmp 5), 3, "items.go:26", #[], none⟩) (v := ?_) rfl (by kernel_rfl) (by rfl) ?h ?_; case h => (intro W hSW; go_simp <;> with_reducible rfl))
     try simp only [lays]
     (refine pr 1 (oi := ⟨some 14, .move (.tmp 3), 23, "items.go:26", #[], none⟩) (v := ?_) rfl (by kernel_rfl) (by rfl) ?h ?_; case h => (intro W hSW; go_simp <;> with_reducible rfl))
     try simp only [lays]
     (refine pr 2 (oi := ⟨some 15, .call { callee := .builtin .len, args := #[.tmp 14], argTypes := #[23] }, 3, "items.go:26", #[⟨1, .data⟩], none⟩) (v := ?_) rfl (by kernel_rfl) (by rfl) ?h ?_; case h => (intro W hSW; go_simp <;> with_reducible rfl))
     try simp only [lays]
     (refine pr 3 (oi := ⟨some 16, .binOp .lss 3 (.tmp 13) (.tmp 15) 3, 4, "items.go:26", #[⟨0, .data⟩, ⟨2, .data⟩], none⟩) (v := ?_) rfl (by kernel_rfl) (by rfl) ?h ?_; case h => (intro W hSW; go_simp <;> with_reducible rfl))
     try simp only [lays]
     (refine pr 4 (oi := ⟨some 17, .move (.tmp 16), 4, "items.go:26", #[⟨3, .data⟩], none⟩) (v := ?_) rfl (by kernel_rfl) (by rfl) ?h ?_; case h => (intro W hSW; go_simp <;> with_reducible rfl))
     try simp only [lays]
     refine plan_oi (i := 5) (oi := ⟨some 18, .move (.tmp 3), 23, "items.go:26", #[⟨4, .guard⟩], some (4, true)⟩) rfl (by kernel_rfl) (by kernel_rfl) ?_
     first | (refine ⟨?_, (fx_read (Or.inl ⟨by rfl, ?hy5_5⟩)), ?_⟩; case hy5_5 => (intro W hSW; go_simp <;> with_reducible rfl)) | (refine ⟨undef, fx_skip (by rfl), ?_⟩)
     try simp only [lays]
     refine plan_oi (i := 6) (oi := ⟨some 19, .move (.tmp 5), 3, "items.go:26", #[⟨4, .guard⟩], some (4, true)⟩) rfl (by kernel_rfl) (by kernel_rfl) ?_
     first | (refine ⟨?_, (fx_read (Or.inl ⟨by rfl, ?hy5_6⟩)), ?_⟩; case hy5_6 => (intro W hSW; go_simp <;> with_reducible rfl)) | (refine ⟨undef, fx_skip (by rfl), ?_⟩)
     try simp only [lays]
     refine plan_oi (i := 7) (oi := ⟨some 20, .indexAddr 23 (.tmp 18) (.tmp 19), 0, "items.go:26", #[⟨5, .data⟩, ⟨6, .data⟩, ⟨4, .guard⟩], some (4, true)⟩) rfl (by kernel_rfl) (by kernel_rfl) ?_
     first | (refine ⟨?_, (fx_read (Or.inl ⟨by rfl, ?hy5_7⟩)), ?_⟩; case hy5_7 => (intro W hSW; go_simp <;> with_reducible rfl)) | (refine ⟨undef, fx_skip (by rfl), ?_⟩)
     try simp only [lays]
     refine plan_oi (i := 8) (oi := ⟨some 21, .load 28 (.tmp 20), 28, "items.go:26", #[⟨7, .data⟩, ⟨4, .guard⟩], some (4, true)⟩) rfl (by kernel_rfl) (by kernel_rfl) ?_
     first | (refine ⟨?_, (fx_read (Or.inl ⟨by rfl, ?hy5_8⟩)), ?_⟩; case hy5_8 => (intro W hSW; go_simp <;> with_reducible rfl)) | (refine ⟨undef, fx_skip (by rfl), ?_⟩)
     try simp only [lays]
     refine plan_oi (i := 9) (oi := ⟨some 22, .convert 28 9 (.tmp 21), 9, "items.go:26", #[⟨8, .data⟩, ⟨4, .guard⟩], some (4, true)⟩) rfl (by kernel_rfl) (by kernel_rfl) ?_
     first | (refine ⟨?_, (fx_read (Or.inl ⟨by rfl, ?hy5_9⟩)), ?_⟩; case hy5_9 => (intro W hSW; go_simp <;> with_reducible rfl)) | (refine ⟨undef, fx_skip (by rfl), ?_⟩)
     try simp only [lays]
     refine plan_oi (i := 10) (oi := ⟨some 23, .move (.tmp 0), 23, "items.go:26", #[⟨4, .guard⟩], some (4, true)⟩) rfl (by kernel_rfl) (by kernel_rfl) ?_
     first | (refine ⟨?_, (fx_read (Or.inl ⟨by rfl, ?hy5_10⟩)), ?_⟩; case hy5_10 => (intro W hSW; go_simp <;> with_reducible rfl)) | (refine ⟨undef, fx_skip (by rfl), ?_⟩)
     try simp only [lays]
     refine plan_oi (i := 11) (oi := ⟨some 24, .move (.tmp 4), 3, "items.go:26", #[⟨4, .guard⟩], some (4, true)⟩) rfl (by kernel_rfl) (by kernel_rfl) ?_
     first | (refine ⟨?_, (fx_read (Or.inl ⟨by rfl, ?hy5_11⟩)), ?_⟩; case hy5_11 => (intro W hSW; go_simp <;> with_reducible rfl)) | (refine ⟨undef, fx_skip (by rfl), ?_⟩)
     try simp only [lays]
     refine plan_oi (i := 12) (oi := ⟨some 25, .indexAddr 23 (.tmp 23) (.tmp 24), 0, "items.go:26", #[⟨10, .data⟩, ⟨11, .data⟩, ⟨4, .guard⟩], some (4, true)⟩) rfl (by kernel_rfl) (by kernel_rfl) ?_
     first | (refine ⟨?_, (fx_read (Or.inl ⟨by rfl, ?hy5_12⟩)), ?_⟩; case hy5_12 => (intro W hSW; go_simp <;> with_reducible rfl)) | (refine ⟨undef, fx_skip (by rfl), ?_⟩)
     try simp only [lays]
     refine plan_oi (i := 13) (oi := ⟨some 26, .load 28 (.tmp 25), 28, "items.go:26", #[⟨12, .data⟩, ⟨4, .guard⟩], some (4, true)⟩) rfl (by kernel_rfl) (by kernel_rfl) ?_
     first | (refine ⟨?_, (fx_read (Or.inl ⟨by rfl, ?hy5_13⟩)), ?_⟩; case hy5_13 => (intro W hSW; go_simp <;> with_reducible rfl)) | (refine ⟨undef, fx_skip (by rfl), ?_⟩)
     try simp only [lays]
     refine plan_oi (i := 14) (oi := ⟨some 27, .convert 28 9 (.tmp 26), 9, "items.go:26", #[⟨13, .data⟩, ⟨4, .guard⟩], some (4, true)⟩) rfl (by kernel_rfl) (by kernel_rfl) ?_
     first | (refine ⟨?_, (fx_read (Or.inl ⟨by rfl, ?hy5_14⟩)), ?_⟩; case hy5_14 => (intro W hSW; go_simp <;> with_reducible rfl)) | (refine ⟨undef, fx_skip (by rfl), ?_⟩)
     try simp only [lays]
     refine plan_oi (i := 15) (oi := ⟨some 28, .binOp .lss 9 (.tmp 22) (.tmp 27) 9, 4, "items.go:26", #[⟨9, .data⟩, ⟨14, .data⟩, ⟨4, .guard⟩], some (4, true)⟩) rfl (by kernel_rfl) (by kernel_rfl) ?_
     first | (refine ⟨?_, (fx_read (Or.inl ⟨by rfl, ?hy5_15⟩)), ?_⟩; case hy5_15 => (intro W hSW; go_simp <;> with_reducible rfl)) | (refine ⟨undef, fx_skip (by rfl), ?_⟩)
     try simp only [lays]
     (refine pr 16 (oi := ⟨some 29, .pick (.tmp 17) (.tmp 28) (.const (.bool false)), 4, "items.go:26", #[⟨4, .data⟩, ⟨15, .data⟩], none⟩) (v := ?_) rfl (by kernel_rfl) (by rfl) ?h ?_; case h => (intro W hSW; go_simp <;> with_reducible rfl))
     try simp only [lays]
     refine Plan.done (by kernel_rfl) (fun W hSW => ?_)
     have HZ2 := Lib.hid (HZ.out.trans hSW)
     clear HZ hSW
     have HZ := HZ2
     clear HZ2
     obtain ⟨wr, rfl⟩ : ∃ q, q = W := ⟨_, rfl⟩
     go_wp2_with fail
     refine wp_region_plan (S := fun W => Ext wr W) (by kernel_rfl) (by kernel_rfl) ((Ext.refl wr).drew') ?_
     (refine pr 0 (oi := ⟨some 32, .move (.tmp 5), 3, "items.go:29", #[], none⟩) (v := ?_) rfl (by kernel_rfl) (by rfl) ?h ?_; case h => (intro W hSW; go_simp <;> with_reducible rfl))
     try simp only [lays]
     (refine pr 1 (oi := ⟨some 33, .move (.tmp 3), 23, "items.go:29", #[], none⟩) (v := ?_) rfl (by kernel_rfl) (by rfl) ?h ?_; case h => (intro W hSW; go_simp <;> with_reducible rfl))
     try simp only [lays]
     (refine pr 2 (oi := ⟨some 34, .call { callee := .builtin .len, args := #[.tmp 33], argTypes := #[23] }, 3, "items.go:29", #[⟨1, .data⟩], none⟩) (v := ?_) rfl (by kernel_rfl) (by rfl) ?h ?_; case h => (intro W hSW; go_simp <;> with_reducible rfl))
     try simp only [lays]
     (refine pr 3 (oi := ⟨some 35, .binOp .lss 3 (.tmp 32) (.tmp 34) 3, 4, "items.go:29", #[⟨0, .data⟩, ⟨2, .data⟩], none⟩) (v := ?_) rfl (by kernel_rfl) (by rfl) ?h ?_; case h => (intro W hSW; go_simp <;> with_reducible rfl))
     try simp only [lays]
     (refine pr 4 (oi := ⟨some 36, .move (.tmp 35), 4, "items.go:29", #[⟨3, .data⟩], none⟩) (v := ?_) rfl (by kernel_rfl) (by rfl) ?h ?_; case h => (intro W hSW; go_simp <;> with_reducible rfl))
     try simp only [lays]
     refine plan_oi (i := 5) (oi := ⟨some 37, .move (.tmp 3), 23, "items.go:29", #[⟨4, .guard⟩], some (4, true)⟩) rfl (by kernel_rfl) (by kernel_rfl) ?_
     first | (refine ⟨?_, (fx_read (Or.inl ⟨by rfl, ?hy6_5⟩)), ?_⟩; case hy6_5 => (intro W hSW; go_simp <;> with_reducible rfl)) | (refine ⟨undef, fx_skip (by rfl), ?_⟩)
     try simp only [lays]
     refine plan_oi (i := 6) (oi := ⟨some 38, .move (.tmp 5), 3, "items.go:29", #[⟨4, .guard⟩], some (4, true)⟩) rfl (by kernel_rfl) (by kernel_rfl) ?_
     first | (refine ⟨?_, (fx_read (Or.inl ⟨by rfl, ?hy6_6⟩)), ?_⟩; case hy6_6 => (intro W hSW; go_simp <;> with_reducible rfl)) | (refine ⟨undef, fx_skip (by rfl), ?_⟩)
     try simp only [lays]
     refine plan_oi (i := 7) (oi := ⟨some 39, .indexAddr 23 (.tmp 37) (.tmp 38), 0, "items.go:29", #[⟨5, .data⟩, ⟨6, .data⟩, ⟨4, .guard⟩], some (4, true)⟩) rfl (by kernel_rfl) (by kernel_rfl) ?_
     first | (refine ⟨?_, (fx_read (Or.inl ⟨by rfl, ?hy6_7⟩)), ?_⟩; case hy6_7 => (intro W hSW; go_simp <;> with_reducible rfl)) | (refine ⟨undef, fx_skip (by rfl), ?_⟩)
     try simp only [lays]
     refine plan_oi (i := 8) (oi := ⟨some 40, .load 28 (.tmp 39), 28, "items.go:29", #[⟨7, .data⟩, ⟨4, .guard⟩], some (4, true)⟩) rfl (by kernel_rfl) (by kernel_rfl) ?_
     first | (refine ⟨?_, (fx_read (Or.inl ⟨by rfl, ?hy6_8⟩)), ?_⟩; case hy6_8 => (intro W hSW; go_simp <;> with_reducible rfl)) | (refine ⟨undef, fx_skip (by rfl), ?_⟩)
     try simp only [lays]
     refine plan_oi (i := 9) (oi := ⟨some 41, .convert 28 9 (.tmp 40), 9, "items.go:29", #[⟨8, .data⟩, ⟨4, .guard⟩], some (4, true)⟩) rfl (by kernel_rfl) (by kernel_rfl) ?_
     first | (refine ⟨?_, (fx_read (Or.inl ⟨by rfl, ?hy6_9⟩)), ?_⟩; case hy6_9 => (intro W hSW; go_simp <;> with_reducible rfl)) | (refine ⟨undef, fx_skip (by rfl), ?_⟩)
     try simp only [lays]
     refine plan_oi (i := 10) (oi := ⟨some 42, .move (.tmp 0), 23, "items.go:29", #[⟨4, .guard⟩], some (4, true)⟩) rfl (by kernel_rfl) (by kernel_rfl) ?_
     first | (refine ⟨?_, (fx_read (Or.inl ⟨by rfl, ?hy6_10⟩)), ?_⟩; case hy6_10 => (intro W hSW; go_simp <;> with_reducible rfl)) | (refine ⟨undef, fx_skip (by rfl), ?_⟩)
     try simp only [lays]
     refine plan_oi (i := 11) (oi := ⟨some 43, .move (.tmp 4), 3, "items.go:29", #[⟨4, .guard⟩], some (4, true)⟩) rfl (by kernel_rfl) (by kernel_rfl) ?_
     first | (refine ⟨?_, (fx_read (Or.inl ⟨by rfl, ?hy6_11⟩)), ?_⟩; case hy6_11 => (intro W hSW; go_simp <;> with_reducible rfl)) | (refine ⟨undef, fx_skip (by rfl), ?_⟩)
     try simp only [lays]
     refine plan_oi (i := 12) (oi := ⟨some 44, .indexAddr 23 (.tmp 42) (.tmp 43), 0, "items.go:29", #[⟨10, .data⟩, ⟨11, .data⟩, ⟨4, .guard⟩], some (4, true)⟩) rfl (by kernel_rfl) (by kernel_rfl) ?_
     first | (refine ⟨?_, (fx_read (Or.inl ⟨by rfl, ?hy6_12⟩)), ?_⟩; case hy6_12 => (intro W hSW; go_simp <;> with_reducible rfl)) | (refine ⟨undef, fx_skip (by rfl), ?_⟩)
     try simp only [lays]
     refine plan_oi (i := 13) (oi := ⟨some 45, .load 28 (.tmp 44), 28, "items.go:29", #[⟨12, .data⟩, ⟨4, .guard⟩], some (4, true)⟩) rfl (by kernel_rfl) (by kernel_rfl) ?_
     first | (refine ⟨?_, (fx_read (Or.inl ⟨by rfl, ?hy6_13⟩)), ?_⟩; case hy6_13 => (intro W hSW; go_simp <;> with_reducible rfl)) | (refine ⟨undef, fx_skip (by rfl), ?_⟩)
     try simp only [lays]
     refine plan_oi (i := 14) (oi := ⟨some 46, .convert 28 9 (.tmp 45), 9, "items.go:29", #[⟨13, .data⟩, ⟨4, .guard⟩], some (4, true)⟩) rfl (by kernel_rfl) (by kernel_rfl) ?_
     first | (refine ⟨?_, (fx_read (Or.inl ⟨by rfl, ?hy6_14⟩)), ?_⟩; case hy6_14 => (intro W hSW; go_simp <;> with_reducible rfl)) | (refine ⟨undef, fx_skip (by rfl), ?_⟩)
     try simp only [lays]
     refine plan_oi (i := 15) (oi := ⟨some 47, .binOp .eql 9 (.tmp 41) (.tmp 46) 9, 4, "items.go:29", #[⟨9, .data⟩, ⟨14, .data⟩, ⟨4, .guard⟩], some (4, true)⟩) rfl (by kernel_rfl) (by kernel_rfl) ?_
     first | (refine ⟨?_, (fx_read (Or.inl ⟨by rfl, ?hy6_15⟩)), ?_⟩; case hy6_15 => (intro W hSW; go_simp <;> with_reducible rfl)) | (refine ⟨undef, fx_skip (by rfl), ?_⟩)
     try simp only [lays]
     (refine pr 16 (oi := ⟨some 48, .pick (.tmp 36) (.tmp 47) (.const (.bool false)), 4, "items.go:29", #[⟨4, .data⟩, ⟨15, .data⟩], none⟩) (v := ?_) rfl (by kernel_rfl) (by rfl) ?h ?_; case h => (intro W hSW; go_simp <;> with_reducible rfl))
     try simp only [lays]
     refine Plan.done (by kernel_rfl) (fun W hSW => ?_)
     have HZW := Lib.hid (HZ.out.trans hSW)
     clear hSW HST
     have hkc : k ≤ c := Nat.le_trans hkn (HRW.out.sl).le
     have HWD := Lib.hid (HRW.out.ext HZW.out)
     have HEWW := Lib.hid (HEW.out.trans HZW.out)
     have hcapk := HRW.out.sl.cap
     clear HZ
     go_wp2_with (at_builtin; go_must (refine wpList_appGG teE rfl (.tmp 49) (.tmp 52) rfl W.heap.size (some ⟨W.heap.size, 0, none⟩) 0 0 [] rfl ?r0 A k c (gcs (D.take k)) rfl ?r1 ?l1 (gcs_cell _) (by omega) (by omega) ?b1 ?_))
     case r0 => exact own_zero W 28 1
     case r1 => exact ((HWD.out.sl.ext ((Ext.refl W).alloc' _)).upto (k := k) (c' := c) hkn hkc hcapk).rd
     case l1 => rw [gcs_length, List.length_take, HRW.out.len, Nat.min_eq_left hkn]; rfl
     case b1 => simp
     intro A9 c9 w9 ho9 hg9
     have HE9 := Lib.hid (show Ext W w9 from Below.grown ((Ext.refl W).alloc' (.cells #[] 28)) hg9 (by simp) (fun q hq => by simp [Value.ownBlock] at hq; omega))
     have HO9 := Lib.hid (show w9.ownsRow W.heap.size 28 1 (.slice A9 k c9) k (gcs (D.take k)) from by simpa only [Nat.zero_add, List.nil_append] using ho9)
     have cX : (w9.alloc (.cells #[] 5)).cell? ⟨b, o + i, none⟩ = some (.slice Ta Tn Tc) := HCX.out _ ((HEWW.out.trans HE9.out).alloc' _)
     have HSX9 := Lib.hid (HOK.out _ ((HEWW.out.trans HE9.out).alloc' (.cells #[] 5)))
     clear ho9 hg9
     go_wp2_with (at_builtin; go_must (refine wpList_appBG bytesE rfl (.tmp 55) (.tmp 59) rfl w9.heap.size (some ⟨w9.heap.size, 0, none⟩) 0 0 [] rfl ?r0 Ta Tn Tc Tl rfl HSX9.out (by omega) ?b1 ?_))
     case r0 => exact own_zero w9 5 1
     case b1 => simp
     intro A10 c10 w10 ho10 hg10
     have HE10 := Lib.hid (show Ext w9 w10 from Below.grown ((Ext.refl w9).alloc' (.cells #[] 5)) hg10 (by simp) (fun q hq => by simp [Value.ownBlock] at hq; omega))
     have HO10 := Lib.hid (show OwnB w10 w9.heap.size 5 A10 Tn c10 Tl from by simpa only [Nat.zero_add, List.nil_append] using ho10)
     clear ho10 hg10 cX HSX9
     go_wp2_with (at_builtin; go_must (refine wpList_appGG teE rfl (.tmp 54) (.tmp 61) rfl W.heap.size A9 k c9 (gcs (D.take k)) rfl ?r0 (some ⟨w10.heap.size, 0, none⟩) 1 1 [.slice A10 Tn c10] (by simp [Act.eval]) ?r1 (by rfl) (fun u hu => by rw [List.mem_singleton.1 hu]; rfl) (by omega) (by omega) ?b1 ?_))
     case r0 => exact own_ext HO9.out (HE10.out.alloc' _)
     case r1 => exact Rd.of_blk (Blk.new w10 28 #[.slice A10 Tn c10])
     case b1 => have := HE9.out.size; have := HE10.out.size; simp; omega
     intro A11 c11 w11 ho11 hg11
     have HO10A := Lib.hid (own_ext HO9.out (HE10.out.alloc' (.cells #[.slice A10 Tn c10] 28)))
     have HE11 := Lib.hid (show Ext W w11 from Below.grown ((HE9.out.trans HE10.out).alloc' (.cells #[.slice A10 Tn c10] 28)) hg11 (by have := HE9.out.size; have := HE10.out.size; simp; omega) (fun q hq => (World.ownsRow.lt HO10A.out q hq).1))
     have HT11 := Lib.hid (show OwnB w11 w.heap.size 5 A10 Tn c10 Tl from own_mono (World.ownsRow.kept (OwnB.alloc HO10.out (.cells #[.slice A10 Tn c10] 28)) hg11 (own_ne (OwnB.alloc HO10.out (.cells #[.slice A10 Tn c10] 28)) HO10A.out (by decide))) (Nat.le_trans HEWW.out.size HE9.out.size))
     clear hg11 HO9 HO10 HO10A
     have HD11 := Lib.hid (HWD.out.ext HE11.out)
     by_cases hck : c = k
     ·obtain rfl : k = n := by have := HRW.out.sl.le; omega
      subst hck
      go_wp2_with (at_builtin; go_must (refine wpList_appGG teE rfl (.tmp 63) (.tmp 66) rfl W.heap.size A11 (c + 1) c11 (gcs (D.take c) ++ [.slice A10 Tn c10]) rfl ho11 A (c - c) (c - c) [] (by simp [Act.eval]) .nil (by simp) (fun u hu => by cases hu) (by omega) (by omega) ?b1 ?_))
      case b1 => exact HE11.out.size
      intro A12 c12 w12 ho12 hg12
      have HO12 := Lib.hid (show w12.ownsRow W.heap.size 28 1 (.slice A12 (c + 1) c12) (c + 1) (gcs (D.take c ++ (⟨A10, Tn, c10, Tl⟩ : TeR) :: D.drop c)) from by
       have h1 : D.drop c = [] := List.drop_of_length_le (by rw [HRW.out.len]; exact Nat.le_refl _)
       have := ho12
       have h2 : RowT.enc (⟨A10, Tn, c10, Tl⟩ : TeR) = [.slice A10 Tn c10] := rfl
       rw [h1, gcs_append, gcs_one, h2]
       simpa using this)
      have HE12 := Lib.hid (show Ext W w12 from Below.grown HE11.out hg12 HE11.out.size (fun q hq => (World.ownsRow.lt ho11 q hq).1))
      have HT12 := Lib.hid (show OwnB w12 w.heap.size 5 A10 Tn c10 Tl from World.ownsRow.kept HT11.out hg12 (own_ne HT11.out ho11 (by decide)))
      have HRW2 := Lib.hid (show RwT w12 w.heap.size A12 (c + 1) c12 (D.take c ++ (⟨A10, Tn, c10, Tl⟩ : TeR) :: D.drop c) from ⟨own_mono HO12.out HEWW.out.size, fun Q hQ => by
       rcases List.mem_append.1 hQ with hQ | hQ
       ·exact OwnB.ext (HWD.out.tex Q (List.mem_of_mem_take hQ)) HE12.out
       ·rcases List.mem_cons.1 hQ with rfl | hQ
        ·exact HT12.out
        ·exact OwnB.ext (HWD.out.tex Q (List.mem_of_mem_drop hQ)) HE12.out⟩)
      have HCA2 := Lib.hid (show (D.take c ++ (⟨A10, Tn, c10, Tl⟩ : TeR) :: D.drop c).map TeR.l = canonO lexB ((X.take (i + 1)).map TeR.l) from by
       rw [HTK.out, canonO_snoc, ← HCA.out, insO_at Tl (D.map TeR.l) c (by rw [List.length_map, HRW.out.len]; first | exact hkn | exact Nat.le_refl _) (fun j hj hl => by rw [List.getElem_map, nthG_eq]; exact HBEF.out j hj) HAT.out]
       rw [List.map_append, List.map_cons, List.map_take, List.map_drop])
      have HEF := Lib.hid (HEWW.out.trans HE12.out)
      clear ho11 ho12 hg12 HO12 HT11 HT12 HD11 HE11 HE12
      go_wp2_with fail
      go_roundw
      case rel => exact ⟨i + 1, A12, c + 1, c12, _, by go_num, by first | rfl | (rw [hkn1]), hlt, by omega, HRW2, HCA2, HEF⟩
      case measure => simp [intOf]; omega
     ·have hck' : k < c := by omega
      have HCUT := Lib.hid (HD11.out.sl.cut (k := k) hkn hck')
      go_wp2_with (at_builtin; go_must (refine wpList_appGG teE rfl (.tmp 63) (.tmp 66) rfl W.heap.size A11 (k + 1) c11 (gcs (D.take k) ++ [.slice A10 Tn c10]) rfl ho11 (A.map (·.add k)) (n - k) (c - k) (gcs (D.drop k)) (by simp [Act.eval]) ?r1 ?l1 (gcs_cell _) (by omega) (by omega) ?b1 ?_))
      case r1 => have := HCUT.out.rd; rwa [show RowT.sz TeR = 1 from rfl, Nat.mul_one] at this
      case l1 => rw [gcs_length, List.length_drop, HRW.out.len]; rfl
      case b1 => exact HE11.out.size
      intro A12 c12 w12 ho12 hg12
      have HO12 := Lib.hid (show w12.ownsRow W.heap.size 28 1 (.slice A12 (n + 1) c12) (n + 1) (gcs (D.take k ++ (⟨A10, Tn, c10, Tl⟩ : TeR) :: D.drop k)) from by
       have := ho12
       have h2 : RowT.enc (⟨A10, Tn, c10, Tl⟩ : TeR) = [.slice A10 Tn c10] := rfl
       rw [gcs_append, gcs_cons, h2]
       rw [show k + 1 + (n - k) = n + 1 from by omega] at this
       simpa using this)
      have hkn1 : k + 1 + (n - k) = n + 1 := by omega
      have HE12 := Lib.hid (show Ext W w12 from Below.grown HE11.out hg12 HE11.out.size (fun q hq => (World.ownsRow.lt ho11 q hq).1))
      have HT12 := Lib.hid (show OwnB w12 w.heap.size 5 A10 Tn c10 Tl from World.ownsRow.kept HT11.out hg12 (own_ne HT11.out ho11 (by decide)))
      have HRW2 := Lib.hid (show RwT w12 w.heap.size A12 (n + 1) c12 (D.take k ++ (⟨A10, Tn, c10, Tl⟩ : TeR) :: D.drop k) from ⟨own_mono HO12.out HEWW.out.size, fun Q hQ => by
       rcases List.mem_append.1 hQ with hQ | hQ
       ·exact OwnB.ext (HWD.out.tex Q (List.mem_of_mem_take hQ)) HE12.out
       ·rcases List.mem_cons.1 hQ with rfl | hQ
        ·exact HT12.out
        ·exact OwnB.ext (HWD.out.tex Q (List.mem_of_mem_drop hQ)) HE12.out⟩)
      have HCA2 := Lib.hid (show (D.take k ++ (⟨A10, Tn, c10, Tl⟩ : TeR) :: D.drop k).map TeR.l = canonO lexB ((X.take (i + 1)).map TeR.l) from by
       rw [HTK.out, canonO_snoc, ← HCA.out, insO_at Tl (D.map TeR.l) k (by rw [List.length_map, HRW.out.len]; first | exact hkn | exact Nat.le_refl _) (fun j hj hl => by rw [List.getElem_map, nthG_eq]; exact HBEF.out j hj) HAT.out]
       rw [List.map_append, List.map_cons, List.map_take, List.map_drop])
      have HEF := Lib.hid (HEWW.out.trans HE12.out)
      clear ho11 ho12 hg12 HO12 HT11 HT12 HD11 HE11 HE12
      go_wp2_with fail
      go_roundw
      case rel => exact ⟨i + 1, A12, n + 1, c12, _, by go_num, by first | rfl | (rw [hkn1]), hlt, by omega, HRW2, HCA2, HEF⟩
      case measure => simp [intOf]; omega
  ·obtain rfl : i = m := by omega
   have i1 : ¬ (i : Int) < (i : Int) := by omega
   have HCF := Lib.hid (show D.map TeR.l = canonO lexB (X.map TeR.l) from by have := HCA.out; rwa [List.take_of_length_le (by rw [HX.out.len]; exact Nat.le_refl _)] at this)
   clear HXA
   go_wp2_with fail
   go_ret
   exact ⟨A, n, c, D, rfl, HRW.out, HCF.out, hn, HEW.out⟩
end Go.Proofs.YtbfepgjeecndiaaGreat
