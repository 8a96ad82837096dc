/- The bytes of a view (the reference's EncodeView). -/
import Derived.Test.YtbfepgjeecndiaaGreatJ32
namespace Go.Proofs.YtbfepgjeecndiaaGreat
set_option maxRecDepth 100000
set_option maxHeartbeats 16000000
open Go.RowKit
set_option linter.unusedVariables false
set_option linter.unusedSimpArgs false
attribute [local go_sem ↓] Go.wp_at_zero Go.wp_at_succ
theorem rApp4 (A : Option Addr) (n c : Nat) (l : List UInt8) (z : Int) (w : World) (h : SlB w A n c l) (hn : n ≤ 140737488351232) : Calls Tryz.prog 42 #[.slice A n c, .int .u64 (un (uI z)), .int .i64 4] w fun e w' => ∃ A' c', e = .returned (.slice A' (n + 4) c') ∧ OwnB w' w.heap.size 5 A' (n + 4) c' (l ++ beI 4 z) ∧ Ext w w' :=
 refAppendUI_any A n c l z 4 (by omega) (by omega) w h hn
theorem rAppB_no (A : Option Addr) (n c : Nat) (P : Option Addr) (m d : Nat) (w : World) (hm : 65535 < m) : Calls Tryz.prog 44 #[.slice A n c, .slice P m d] w fun e w' => e = .returned (.tuple #[.slice none 0 0, .bool false]) ∧ w = w' := by
 have i1 : (65535 : Int) < (m : Int) := by omega
 have d1 : decide (65535 < (m : Int)) = true := decide_eq_true (by omega)
 go_enter Tryz.func44, Tryz.ntmps44
 go_wp2_with fail
 go_ret2
 exact ⟨rfl, rfl⟩
theorem rSgEnc_no (S : SgR) (w : World) (hS : S.ok w) (h : vldSg S = false) : Calls Tryz.prog 43 #[.agg (sgA S)] w fun e w' => e = .returned (.tuple #[.slice none 0 0, .bool false]) ∧ Ext w w' := by
 unfold vldSg at h
 cases hv : vldVt S.v with
 | false => exact rSgEnc_no1 S w hS hv
 | true =>
  rw [hv, Bool.true_and] at h
  exact rSgEnc_no2 S w hS hv (of_decide_eq_false h)
theorem rSgEnc_ok (S : SgR) (w : World) (hS : S.ok w) (h : vldSg S = true) : Calls Tryz.prog 43 #[.agg (sgA S)] w fun e w' => ∃ A' c', e = .returned (.tuple #[.slice A' 393 c', .bool true]) ∧ OwnB w' w.heap.size 5 A' 393 c' (encSg S) ∧ Ext w w' := by
 unfold vldSg at h
 simp only [Bool.and_eq_true, decide_eq_true_eq] at h
 exact rSgEnc_yes S w hS h.1 h.2
theorem rEnv_any (A : Option Addr) (n c : Nat) (L : List SgR) (B : Option Addr) (m d : Nat) (X : List TeR) (w : World) (hS : SlG w A n c L) (hX : SlG w B m d X) (hn : n ≤ 100000) (hm : m ≤ 1000000)
  (hsz : ∀ k, k ≤ m → (∀ j, j < k → okTe (nthG X j) = true) → (encTes (X.take k)).length ≤ 900000000) :
  Calls Tryz.prog 23 #[.agg (vwA A n c B m d)] w (VwEnc w L X) := by
 have hcap := hS.cap
 have hle := hS.le
 have hcap2 := hX.cap
 have hle2 := hX.le
 have hE := (Ext.refl w).alloc' (.cells (vwA A n c B m d) 25)
 have HB := Lib.hid (Blk.new w 25 (vwA A n c B m d))
 have HE := Lib.hid hE
 have HS := Lib.hid (hS.ext hE)
 have HX := Lib.hid (hX.ext hE)
 have HL := Lib.hid hS.len
 have HM := Lib.hid hX.len
 have HSZ := Lib.hid hsz
 obtain ⟨W0, hW0⟩ : ∃ W0, w.alloc (.cells (vwA A n c B m d) 25) = W0 := ⟨_, rfl⟩
 rw [hW0] at HB HE HS HX
 have HC := Lib.hid (fun (W : World) (h : Ext W0 W) => vw_facts (HB.out.ext h))
 have HSA := Lib.hid (fun (h : 0 < n) => HS.out.at h)
 have HXA := Lib.hid (fun (h : 0 < m) => HX.out.at h)
 have uz1 := uI_un (n : Int)
 have uz2 := uI_un (m : Int)
 clear hS hX hE hsz
 obtain ⟨c0, c1⟩ := HC.out W0 (Ext.refl _)
 go_enter Tryz.func23, Tryz.ntmps23
 go_wp2_with fail
 refine (rApp4 none 0 0 [] (n : Int) W0 (SlB.nil W0) (by omega)).mono ?_
 rintro e w1 ⟨A1, k1, rfl, hO1, he1⟩
 have HO1 := Lib.hid hO1
 have HX1 := Lib.hid he1
 clear c0 c1 hO1 he1 uz1
 go_wp2_with fail
 go_loopw [5, 4] (fun i v wr => ∃ (k : Nat) (A4 : Option Addr) (n4 c4 : Nat), k ≤ n ∧ i = .int .i64 (k : Int) ∧ v = .slice A4 n4 c4 ∧ n4 ≤ 4 + 393 * k ∧ Hid (OwnB wr W0.heap.size 5 A4 n4 c4 (beI 4 (n : Int) ++ encSgs (L.take k))) ∧ Hid (Ext W0 wr) ∧ Hid (∀ j, j < k → vldSg (nthG L j) = true)) (fun i _ _ => n - (intOf i).toNat)
 case atStart => exact ⟨0, A1, _, k1, Nat.zero_le _, rfl, rfl, by omega, Lib.hid (by simpa [encSgs] using HO1.out), HX1, Lib.hid (fun j hj => by omega)⟩
 case round =>
  obtain ⟨k, A4, n4, c4, hk, rfl, rfl, hn4, HO, HZ, HP⟩ := hrel
  obtain ⟨c0, c1⟩ := HC.out wr HZ.out
  by_cases hlt : k < n
  ·obtain ⟨b, o, rfl, hr, hb⟩ := HSA.out (by omega)
   have hr1 : wr.rangeAt b (o + k * 23) (sgL (nthG L k)) := el_at (rangeAt_keep hr (HZ.out.block b hb)) (k := k) (by rw [HL.out]; exact hlt)
   have HOK := Lib.hid (fun (W : World) (h : Ext wr W) => show (nthG L k).ok W from (HS.out.ext (HZ.out.trans h)).nth (k := k) hlt)
   have HTK := Lib.hid (take_nthG (L := L) (k := k) (by rw [HL.out]; exact hlt))
   have HNO := Lib.hid (fun (hx : vldSg (nthG L k) = false) => show vwE L X = 1 by unfold vwE; rw [if_neg (fun h => by rw [allG_no (by rw [HL.out]; exact hlt) hx] at h; cases h.1)])
   have HY := Lib.hid (fun (hx : vldSg (nthG L k) = true) => show ∀ j, j < k + 1 → vldSg (nthG L j) = true from fun j hj => by
    rcases Nat.lt_or_ge j k with h | h
    ·exact HP.out j h
    ·obtain rfl : j = k := by omega
     exact hx)
   have i0 : (0 : Int) ≤ (k : Int) := by omega
   have i1 : (k : Int) < (n : Int) := by omega
   obtain ⟨R, hR⟩ : ∃ R, nthG L k = R := ⟨_, rfl⟩
   rw [hR] at hr1 HOK HTK HNO HY
   clear hR hr hb
   cases hv : vldSg R with
   | false =>
    go_wp2_with (first | (with_reducible refine wpList_loadSg rfl (.tmp 29) rfl b (o + k * 23) rfl R hr1 ?_))
    refine (rSgEnc_no R _ (HOK.out _ (Ext.refl _)) hv).mono ?_
    rintro e w2 ⟨rfl, he2⟩
    have HX2 := Lib.hid (HE.out.trans (HZ.out.trans he2))
    have HN := Lib.hid (HNO.out hv)
    clear hv he2 hr1 c0 c1
    go_wp2_with fail
    go_ret2
    exact ⟨.inl ⟨by rw [HN.out]; decide, by rw [HN.out]; rfl⟩, HX2.out⟩
   | true =>
    go_wp2_with (first | (with_reducible refine wpList_loadSg rfl (.tmp 29) rfl b (o + k * 23) rfl R hr1 ?_))
    refine (rSgEnc_ok R _ (HOK.out _ (Ext.refl _)) hv).mono ?_
    rintro e w2 ⟨A5, c5, rfl, hO5, he5⟩
    have HZ2 := Lib.hid (HZ.out.trans he5)
    have HOW := Lib.hid (HO.out.ext he5)
    have HSX := Lib.hid hO5.sl
    have HY2 := Lib.hid (HY.out hv)
    clear hv hO5 he5 hr1 c0 c1
    go_wp2_with (at_builtin; go_must (refine wpList_appB bytesE rfl (.tmp 36) (.tmp 37) rfl W0.heap.size _ _ _ _ rfl HOW.out _ _ _ _ rfl HSX.out (by omega) HZ2.out.size W0 HZ2.out ?_))
    intro A6 c6 w6 ho6 hw6 hs6
    have HO6 := Lib.hid (show OwnB w6 W0.heap.size 5 A6 (n4 + 393) c6 (beI 4 (n : Int) ++ encSgs (L.take (k + 1))) from by
     rw [HTK.out]; simpa [encSgs] using ho6)
    have HZ6 := Lib.hid (show Ext W0 w6 from hw6)
    clear ho6 hw6 hs6
    go_wp2_with fail
    go_roundw
    case rel => exact ⟨k + 1, A6, _, c6, by omega, by go_num, rfl, by omega, HO6, HZ6, HY2⟩
    case measure => simp [intOf]; omega
  ·obtain rfl : n = k := by omega
   have HAL := Lib.hid (show allG vldSg L = true from allG_yes (fun j hj => HP.out j (by rw [HL.out] at hj; exact hj)))
   have HO1 := Lib.hid (show OwnB wr W0.heap.size 5 A4 n4 c4 (beI 4 (L.length : Int) ++ encSgs L) from by
    have := HO.out; rw [List.take_of_length_le (Nat.le_of_eq HL.out)] at this; rw [HL.out]; exact this)
   have i1 : ¬ (n : Int) < (n : Int) := by omega
   clear HP HO
   go_wp2_with fail
   refine (rApp4 A4 n4 c4 _ (m : Int) wr HO1.out.sl (by omega)).mono ?_
   rintro e w2 ⟨A2, k2, rfl, hO2, he2⟩
   have HZ2 := Lib.hid (HZ.out.trans he2)
   have HO2 := Lib.hid (own_mono (base' := W0.heap.size) hO2 HZ.out.size)
   have HN4 := Lib.hid HO1.out.len
   clear c0 c1 hO2 he2 uz2 i1
   go_wp2_with fail
   go_loopw [8, 4] (fun i v wr => ∃ (k : Nat) (A4 : Option Addr) (n5 c4 : Nat), k ≤ m ∧ i = .int .i64 (k : Int) ∧ v = .slice A4 n5 c4 ∧ n5 ≤ n4 + 4 + 65537 * k ∧ Hid (OwnB wr W0.heap.size 5 A4 n5 c4 (beI 4 (L.length : Int) ++ encSgs L ++ (beI 4 (m : Int) ++ encTes (X.take k)))) ∧ Hid (Ext W0 wr) ∧ Hid (∀ j, j < k → okTe (nthG X j) = true)) (fun i _ _ => m - (intOf i).toNat)
   case atStart => exact ⟨0, A2, _, k2, Nat.zero_le _, rfl, rfl, by omega, Lib.hid (by rw [show encTes (X.take 0) = [] from by simp [encTes], List.append_nil]; exact HO2.out), HZ2, Lib.hid (fun j hj => by omega)⟩
   case round =>
    clear HO1 HO2 HZ HZ2
    obtain ⟨k, A5, n5, c5, hk, rfl, rfl, hn5, HO, HZ, HP⟩ := hrel
    obtain ⟨c0, c1⟩ := HC.out wr HZ.out
    by_cases hlt : k < m
    ·obtain ⟨b, o, rfl, hr, hb⟩ := HXA.out (by omega)
     have hr1 := te_at (rangeAt_keep hr (HZ.out.block b hb)) (k := k) (by rw [HM.out]; exact hlt)
     have HOK := Lib.hid (fun (W : World) (h : Ext wr W) => show SlB W (nthG X k).A (nthG X k).n (nthG X k).c (nthG X k).l from (HX.out.ext (HZ.out.trans h)).nth (k := k) hlt)
     have HTK := Lib.hid (take_nthG (L := X) (k := k) (by rw [HM.out]; exact hlt))
     have HNO := Lib.hid (fun (hx : okTe (nthG X k) = false) => show vwE L X = 1 by unfold vwE; rw [if_neg (fun h => by rw [allG_no (by rw [HM.out]; exact hlt) hx] at h; cases h.2)])
     have HY := Lib.hid (fun (hx : okTe (nthG X k) = true) => show ∀ j, j < k + 1 → okTe (nthG X j) = true from fun j hj => by
      rcases Nat.lt_or_ge j k with h | h
      ·exact HP.out j h
      ·obtain rfl : j = k := by omega
       exact hx)
     have hB5 : n5 ≤ 940000000 := by
      have h1 := HSZ.out k (by omega) HP.out
      have h2 := HO.out.len
      have h3 := HN4.out
      simp only [List.length_append, beI_length] at h2 h3
      omega
     have i0 : (0 : Int) ≤ (k : Int) := by omega
     have i1 : (k : Int) < (m : Int) := by omega
     obtain ⟨R, hR⟩ : ∃ R, nthG X k = R := ⟨_, rfl⟩
     rw [hR] at hr1 HOK HTK HNO HY
     clear hR hr hb
     obtain ⟨RA, Rn, Rc, Rl⟩ := R
     have hb1 := (HOK.out wr (Ext.refl _)).le
     have hb2 := (HOK.out wr (Ext.refl _)).cap
     by_cases hv : Rn ≤ 65535
     ·have HY2 := Lib.hid (HY.out (decide_eq_true hv))
      go_wp2_with fail
      refine (refAppendBytes_any A5 n5 c5 _ RA Rn Rc Rl wr HO.out.sl (HOK.out wr (Ext.refl _)) hv (by omega)).mono ?_
      rintro e w2 ⟨A7, n7, c7, rfl, hO7, he7⟩
      have HZ2 := Lib.hid (HZ.out.trans he7)
      have HO7 := Lib.hid (show OwnB w2 W0.heap.size 5 A7 n7 c7 (beI 4 (L.length : Int) ++ encSgs L ++ (beI 4 (m : Int) ++ encTes (X.take (k + 1)))) from by
       have := own_mono (base' := W0.heap.size) hO7 HZ.out.size
       rw [HTK.out, show encTes (X.take k ++ [(⟨RA, Rn, Rc, Rl⟩ : TeR)]) = encTes (X.take k) ++ blob Rl from by simp [encTes], ← List.append_assoc (beI 4 (m : Int)), ← List.append_assoc]
       exact this)
      have g7 : n7 = n5 + (2 + Rn) := by
       have h1 := hO7.len
       have h2 : Rl.length = Rn := (HOK.out wr (Ext.refl _)).len
       have h3 := HO.out.len
       simp only [List.length_append, beI_length, blob_length] at h1 h3
       omega
      have g8 : n7 ≤ n4 + 4 + 65537 * (k + 1) := by omega
      clear hO7 he7 hr1 c0 c1 g7
      go_wp2_with fail
      go_roundw
      case rel => exact ⟨k + 1, A7, n7, c7, by omega, by go_num, rfl, g8, HO7, HZ2, HY2⟩
      case measure => simp [intOf]; omega
     ·have HN := Lib.hid (HNO.out (decide_eq_false hv))
      go_wp2_with fail
      refine (rAppB_no A5 n5 c5 RA Rn Rc wr (by omega)).mono ?_
      rintro e w2 ⟨rfl, rfl⟩
      have HX2 := Lib.hid (HE.out.trans HZ.out)
      clear hr1 c0 c1
      go_wp2_with fail
      go_ret2
      exact ⟨.inl ⟨by rw [HN.out]; decide, by rw [HN.out]; rfl⟩, HX2.out⟩
    ·obtain rfl : m = k := by omega
     have HAX := Lib.hid (show allG okTe X = true from allG_yes (fun j hj => HP.out j (by rw [HM.out] at hj; exact hj)))
     have HO1 := Lib.hid (show OwnB wr W0.heap.size 5 A5 n5 c5 (encVw L X) from by
      have := HO.out; rw [List.take_of_length_le (Nat.le_of_eq HM.out)] at this; unfold encVw; rw [HM.out]; exact this)
     have HV1 := Lib.hid (show vwE L X = if ordV L X = true then 0 else 10 from by unfold vwE; rw [if_pos ⟨HAL.out, HAX.out⟩])
     have hN5 : n5 ≤ 8 + 393 * n + 65537 * m := by omega
     have i1 : ¬ (m : Int) < (m : Int) := by omega
     clear HP HO HAL HAX
     go_wp2_with fail
     clear c0 c1 i1
     obtain ⟨W3, rfl⟩ : ∃ W3, W3 = wr := ⟨_, rfl⟩
     go_loopw [11] (fun i wr => ∃ k : Nat, k ≤ n ∧ i = .int .i64 ((k : Int) + 1) ∧ Hid (∀ j, j < k → j + 1 < n → ltSg (nthG L j) (nthG L (j + 1)) = true) ∧ Hid (Ext W3 wr)) (fun i _ => n - (intOf i - 1).toNat)
     case atStart => exact ⟨0, Nat.zero_le _, rfl, Lib.hid (fun j hj => by omega), Lib.hid (Ext.refl _)⟩
     case round =>
      obtain ⟨k, hk, rfl, HP, HY3⟩ := hrel
      have HZW := Lib.hid (HZ.out.trans HY3.out)
      obtain ⟨c0, c1⟩ := HC.out wr HZW.out
      by_cases hlt : k + 1 < n
      ·obtain ⟨b, o, rfl, hr, hb⟩ := HSA.out (by omega)
       have HR := Lib.hid (fun (W : World) (h : Ext wr W) => (⟨el_at (rangeAt_keep hr ((HZW.out.trans h).block b hb)) (k := k) (by rw [HL.out]; omega), el_at (rangeAt_keep hr ((HZW.out.trans h).block b hb)) (k := k + 1) (by rw [HL.out]; exact hlt)⟩ : W.rangeAt b (o + k * 23) (sgL (nthG L k)) ∧ W.rangeAt b (o + (k + 1) * 23) (sgL (nthG L (k + 1)))))
       have HC2 := Lib.hid (fun (W : World) (h : Ext wr W) => show W.cell? ⟨w.heap.size, 0, none⟩ = some (.slice (some ⟨b, o, none⟩) n c) from (HC.out W (HZW.out.trans h)).1)
       have HK1 := Lib.hid (fun (W : World) (h : Ext wr W) => show (nthG L k).ok W from (HS.out.ext (HZW.out.trans h)).nth (k := k) (by omega))
       have HK2 := Lib.hid (fun (W : World) (h : Ext wr W) => show (nthG L (k + 1)).ok W from (HS.out.ext (HZW.out.trans h)).nth (k := k + 1) hlt)
       have HY := Lib.hid (fun (hx : ltSg (nthG L k) (nthG L (k + 1)) = true) => show ∀ j, j < k + 1 → j + 1 < n → ltSg (nthG L j) (nthG L (j + 1)) = true from fun j hj hjn => by
        rcases Nat.lt_or_ge j k with h | h
        ·exact HP.out j h hjn
        ·obtain rfl : j = k := by omega
         exact hx)
       have HN := Lib.hid (fun (hx : ltSg (nthG L k) (nthG L (k + 1)) = false) => show vwE L X = 10 by rw [HV1.out, if_neg (fun h => by unfold ordV at h; rw [ascG_no (by rw [HL.out]; exact hlt) hx] at h; cases h)])
       obtain ⟨R, hR⟩ : ∃ R, nthG L k = R := ⟨_, rfl⟩
       obtain ⟨Q, hQ⟩ : ∃ Q, nthG L (k + 1) = Q := ⟨_, rfl⟩
       rw [hR, hQ] at HY HN HR
       rw [hR] at HK1
       rw [hQ] at HK2
       clear hR hQ hr hb
       have i0 : (0 : Int) ≤ (k : Int) := by omega
       have i1 : (k : Int) < (n : Int) := by omega
       have i2 : (k : Int) + 1 < (n : Int) := by omega
       have i3 : (0 : Int) ≤ (k : Int) + 1 := by omega
       have i4 : ((k : Int) + 1).toNat = k + 1 := by omega
       have i5 : ((k : Int)).toNat = k := by omega
       have i6 : IntKind.i64.wrap ((k : Int) + 1 - 1) = (k : Int) := by rw [IntKind.wrap_i64]; omega
       have i7 : IntKind.i64.wrap (k : Int) = (k : Int) := by rw [IntKind.wrap_i64]; omega
       have i8 : (k : Int) + 1 - 1 = (k : Int) := by omega
       go_wp2_with fail
       clear c0 c1
       refine wp_region_plan (S := fun W => Ext wr W) (by kernel_rfl) (by kernel_rfl) ((Ext.refl wr).drew') ?_
       (refine pr 0 (oi := ⟨some 72, .fieldAddr 25 (.tmp 1) 0, 0, "snapshot.go:98", #[], none⟩) (v := ?_) rfl (by kernel_rfl) (by rfl) ?h ?_; case h => (intro W hSW; go_simp <;> with_reducible rfl))
       try simp only [lays]
       (refine pr 1 (oi := ⟨some 73, .load 22 (.tmp 72), 22, "snapshot.go:98", #[⟨0, .data⟩], none⟩) (v := ?_) rfl (by kernel_rfl) (by rfl) ?h ?_; case h => (intro W hSW; have c0 := HC2.out W hSW; go_simp <;> with_reducible rfl))
       try simp only [lays]
       (refine pr 2 (oi := ⟨some 74, .move (.tmp 11), 3, "snapshot.go:98", #[], none⟩) (v := ?_) rfl (by kernel_rfl) (by rfl) ?h ?_; case h => (intro W hSW; go_simp <;> with_reducible rfl))
       try simp only [lays]
       (refine pr 3 (oi := ⟨some 75, .binOp .sub 3 (.tmp 74) (.const (.int .i64 1)) 3, 3, "snapshot.go:98", #[⟨2, .data⟩], none⟩) (v := ?_) rfl (by kernel_rfl) (by rfl) ?h ?_; case h => (intro W hSW; go_simp <;> with_reducible rfl))
       try simp only [lays]
       (refine pr 4 (oi := ⟨some 76, .indexAddr 22 (.tmp 73) (.tmp 75), 0, "snapshot.go:98", #[⟨1, .data⟩, ⟨3, .data⟩], none⟩) (v := ?_) rfl (by kernel_rfl) (by rfl) ?h ?_; case h => (intro W hSW; go_simp <;> with_reducible rfl))
       try simp only [lays]
       (refine plan_take (i := 5) (oi := ⟨some 77, .load 48 (.tmp 76), 48, "snapshot.go:98", #[⟨4, .data⟩], none⟩) (v := .agg (sgA R)) rfl (by kernel_rfl) (by kernel_rfl) (fx_read ?hy1_5) ?_; case hy1_5 => (refine yields_loadSg ?hw (.tmp 76) rfl b (o + k * 23) ?hx R (fun W h => (HR.out W h).1); (case hw => rfl); (case hx => rfl)))
       try simp only [lays]
       (refine pr 6 (oi := ⟨some 78, .fieldAddr 25 (.tmp 1) 0, 0, "snapshot.go:98", #[], none⟩) (v := ?_) rfl (by kernel_rfl) (by rfl) ?h ?_; case h => (intro W hSW; go_simp <;> with_reducible rfl))
       try simp only [lays]
       (refine pr 7 (oi := ⟨some 79, .load 22 (.tmp 78), 22, "snapshot.go:98", #[⟨6, .data⟩], none⟩) (v := ?_) rfl (by kernel_rfl) (by rfl) ?h ?_; case h => (intro W hSW; have c0 := HC2.out W hSW; go_simp <;> with_reducible rfl))
       try simp only [lays]
       (refine pr 8 (oi := ⟨some 80, .move (.tmp 11), 3, "snapshot.go:98", #[], none⟩) (v := ?_) rfl (by kernel_rfl) (by rfl) ?h ?_; case h => (intro W hSW; go_simp <;> with_reducible rfl))
       try simp only [lays]
       (refine pr 9 (oi := ⟨some 81, .indexAddr 22 (.tmp 79) (.tmp 80), 0, "snapshot.go:98", #[⟨7, .data⟩, ⟨8, .data⟩], none⟩) (v := ?_) rfl (by kernel_rfl) (by rfl) ?h ?_; case h => (intro W hSW; go_simp <;> with_reducible rfl))
       try simp only [lays]
       (refine plan_take (i := 10) (oi := ⟨some 82, .load 48 (.tmp 81), 48, "snapshot.go:98", #[⟨9, .data⟩], none⟩) (v := .agg (sgA Q)) rfl (by kernel_rfl) (by kernel_rfl) (fx_read ?hy1_10) ?_; case hy1_10 => (refine yields_loadSg ?hw (.tmp 81) rfl b (o + (k + 1) * 23) ?hx Q (fun W h => (HR.out W h).2); (case hw => rfl); (case hx => rfl)))
       try simp only [lays]
       (refine plan_take (i := 11) (oi := ⟨some 83, .call { callee := .value (.func 45), args := #[.tmp 77, .tmp 82], argTypes := #[48, 48] }, 4, "snapshot.go:98", #[⟨5, .data⟩, ⟨10, .data⟩], none⟩) (v := ?_) rfl (by kernel_rfl) (by kernel_rfl) (fx_call (by rfl) (fun W hSW K hK => ?hy1_11)) ?_; case hy1_11 => (go_simp; go_at_call 45; (with_reducible refine (rSgLess_any R Q W (HK1.out W hSW) (HK2.out W hSW)).mono ?_); rintro e w1 ⟨rfl, he1⟩; exact hK.out _ (hSW.trans he1)))
       try simp only [lays]
       (refine pr 12 (oi := ⟨some 84, .unOp .not 4 (.tmp 83), 4, "snapshot.go:98", #[⟨11, .data⟩], none⟩) (v := ?_) rfl (by kernel_rfl) (by rfl) ?h ?_; case h => (intro W hSW; go_simp <;> with_reducible rfl))
       try simp only [lays]
       refine Plan.done (by kernel_rfl) (fun W hSW => ?_)
       have HY4 := Lib.hid (HY3.out.trans hSW)
       clear hSW i6 i7 i8 i4 i5
       cases hv : ltSg R Q with
       | true =>
        have HYY := Lib.hid (HY.out hv)
        clear hv
        go_wp2_with fail
        go_roundw
        case rel => exact ⟨k + 1, by omega, by go_num, HYY, HY4⟩
        case measure => simp [intOf]; omega
       | false =>
        have HN1 := Lib.hid (HN.out hv)
        clear hv
        go_wp2_with fail
        go_ret2
        exact ⟨.inl ⟨by rw [HN1.out]; decide, by rw [HN1.out]; rfl⟩, HE.out.trans (HZ.out.trans HY4.out)⟩
      ·have HV2 := Lib.hid (show ordV L X = ascG ltTe X by unfold ordV; rw [ascG_yes (f := ltSg) (L := L) (fun j hj => HP.out j (by rw [HL.out] at hj; omega) (by rw [HL.out] at hj; exact hj)), Bool.true_and])
       have i2 : ¬ (k : Int) + 1 < (n : Int) := by omega
       clear HP
       go_wp2_with fail
       clear c0 c1 i2
       obtain ⟨W4, rfl⟩ : ∃ W4, W4 = wr := ⟨_, rfl⟩
       go_loopw [12] (fun i wr => ∃ k : Nat, k ≤ m ∧ i = .int .i64 ((k : Int) + 1) ∧ Hid (∀ j, j < k → j + 1 < m → ltTe (nthG X j) (nthG X (j + 1)) = true) ∧ Hid (Ext W4 wr)) (fun i _ => m - (intOf i - 1).toNat)
       case atStart => exact ⟨0, Nat.zero_le _, rfl, Lib.hid (fun j hj => by omega), Lib.hid (Ext.refl _)⟩
       case round =>
        obtain ⟨k2, hk2, rfl, HP, HY5⟩ := hrel
        have HZV := Lib.hid (HZW.out.trans HY5.out)
        obtain ⟨c0, c1⟩ := HC.out wr HZV.out
        by_cases hlt : k2 + 1 < m
        ·obtain ⟨b, o, rfl, hr, hb⟩ := HXA.out (by omega)
         have HR := Lib.hid (fun (W : World) (h : Ext wr W) => (And.intro (te_at (rangeAt_keep hr ((HZV.out.trans h).block b hb)) (k := k2) (by rw [HM.out]; omega)) (te_at (rangeAt_keep hr ((HZV.out.trans h).block b hb)) (k := k2 + 1) (by rw [HM.out]; exact hlt))))
         have HC2 := Lib.hid (fun (W : World) (h : Ext wr W) => show W.cell? ⟨w.heap.size, 1, none⟩ = some (.slice (some ⟨b, o, none⟩) m d) from (HC.out W (HZV.out.trans h)).2)
         have HK1 := Lib.hid (fun (W : World) (h : Ext wr W) => show SlB W (nthG X k2).A (nthG X k2).n (nthG X k2).c (nthG X k2).l from (HX.out.ext (HZV.out.trans h)).nth (k := k2) (by omega))
         have HK2 := Lib.hid (fun (W : World) (h : Ext wr W) => show SlB W (nthG X (k2 + 1)).A (nthG X (k2 + 1)).n (nthG X (k2 + 1)).c (nthG X (k2 + 1)).l from (HX.out.ext (HZV.out.trans h)).nth (k := k2 + 1) hlt)
         have HY := Lib.hid (fun (hx : ltTe (nthG X k2) (nthG X (k2 + 1)) = true) => show ∀ j, j < k2 + 1 → j + 1 < m → ltTe (nthG X j) (nthG X (j + 1)) = true from fun j hj hjn => by
          rcases Nat.lt_or_ge j k2 with h | h
          ·exact HP.out j h hjn
          ·obtain rfl : j = k2 := by omega
           exact hx)
         have HN := Lib.hid (fun (hx : ltTe (nthG X k2) (nthG X (k2 + 1)) = false) => show vwE L X = 10 by rw [HV1.out, HV2.out, if_neg (fun h => by rw [ascG_no (by rw [HM.out]; exact hlt) hx] at h; cases h)])
         obtain ⟨R, hR⟩ : ∃ R, nthG X k2 = R := ⟨_, rfl⟩
         obtain ⟨Q, hQ⟩ : ∃ Q, nthG X (k2 + 1) = Q := ⟨_, rfl⟩
         rw [hR, hQ] at HY HN HR
         rw [hR] at HK1
         rw [hQ] at HK2
         clear hR hQ hr hb
         obtain ⟨RA, Rn, Rc, Rl⟩ := R
         obtain ⟨QA, Qn, Qc, Ql⟩ := Q
         obtain ⟨s1, hs1⟩ : ∃ s, strV Rl = s := ⟨_, rfl⟩
         obtain ⟨s2, hs2⟩ : ∃ s, strV Ql = s := ⟨_, rfl⟩
         have HS1 := Lib.hid (fun (W : World) (he : Ext wr W) => show (convert 28 9 (.slice RA Rn Rc)).run Tryz.prog W = .ok (.string s1) W from by rw [← hs1]; exact run_strV (HK1.out W he))
         have HS2 := Lib.hid (fun (W : World) (he : Ext wr W) => show (convert 28 9 (.slice QA Qn Qc)).run Tryz.prog W = .ok (.string s2) W from by rw [← hs2]; exact run_strV (HK2.out W he))
         have HEQ := Lib.hid (show Op.bytesLess s1.toList s2.toList = lexB Rl Ql from by rw [← hs1, ← hs2, strV_lt])
         clear hs1 hs2
         have i0 : (0 : Int) ≤ (k2 : Int) := by omega
         have i1 : (k2 : Int) < (m : Int) := by omega
         have i2 : (k2 : Int) + 1 < (m : Int) := by omega
         have i3 : (0 : Int) ≤ (k2 : Int) + 1 := by omega
         have i4 : ((k2 : Int) + 1).toNat = k2 + 1 := by omega
         have i5 : ((k2 : Int)).toNat = k2 := by omega
         have i6 : IntKind.i64.wrap ((k2 : Int) + 1 - 1) = (k2 : Int) := by rw [IntKind.wrap_i64]; omega
         have i7 : IntKind.i64.wrap (k2 : Int) = (k2 : Int) := by rw [IntKind.wrap_i64]; omega
         have i8 : (k2 : Int) + 1 - 1 = (k2 : Int) := by omega
         cases hv : lexB Rl Ql with
         | true =>
          have hl : Op.bytesLess s1.toList s2.toList = true := by rw [HEQ.out]; exact hv
          have HYY := Lib.hid (HY.out hv)
          clear hv
          go_wp2_with fail
          clear c0 c1
          refine wp_region_plan (S := fun W => Ext wr W) (by kernel_rfl) (by kernel_rfl) ((Ext.refl wr).drew') ?_
          (refine pr 0 (oi := ⟨some 92, .fieldAddr 25 (.tmp 1) 1, 0, "snapshot.go:103", #[], none⟩) (v := ?_) rfl (by kernel_rfl) (by rfl) ?h ?_; case h => (intro W hSW; go_simp <;> with_reducible rfl))
          try simp only [lays]
          (refine pr 1 (oi := ⟨some 93, .load 23 (.tmp 92), 23, "snapshot.go:103", #[⟨0, .data⟩], none⟩) (v := ?_) rfl (by kernel_rfl) (by rfl) ?h ?_; case h => (intro W hSW; have c1 := HC2.out W hSW; obtain ⟨x0, x1⟩ := HR.out W hSW; have f3 := HS1.out W hSW; have f4 := HS2.out W hSW; go_simp <;> with_reducible rfl))
          try simp only [lays]
          (refine pr 2 (oi := ⟨some 94, .move (.tmp 12), 3, "snapshot.go:103", #[], none⟩) (v := ?_) rfl (by kernel_rfl) (by rfl) ?h ?_; case h => (intro W hSW; go_simp <;> with_reducible rfl))
          try simp only [lays]
          (refine pr 3 (oi := ⟨some 95, .binOp .sub 3 (.tmp 94) (.const (.int .i64 1)) 3, 3, "snapshot.go:103", #[⟨2, .data⟩], none⟩) (v := ?_) rfl (by kernel_rfl) (by rfl) ?h ?_; case h => (intro W hSW; go_simp <;> with_reducible rfl))
          try simp only [lays]
          (refine pr 4 (oi := ⟨some 96, .indexAddr 23 (.tmp 93) (.tmp 95), 0, "snapshot.go:103", #[⟨1, .data⟩, ⟨3, .data⟩], none⟩) (v := ?_) rfl (by kernel_rfl) (by rfl) ?h ?_; case h => (intro W hSW; go_simp <;> with_reducible rfl))
          try simp only [lays]
          (refine pr 5 (oi := ⟨some 97, .load 28 (.tmp 96), 28, "snapshot.go:103", #[⟨4, .data⟩], none⟩) (v := ?_) rfl (by kernel_rfl) (by rfl) ?h ?_; case h => (intro W hSW; have c1 := HC2.out W hSW; obtain ⟨x0, x1⟩ := HR.out W hSW; have f3 := HS1.out W hSW; have f4 := HS2.out W hSW; go_simp <;> with_reducible rfl))
          try simp only [lays]
          (refine pr 6 (oi := ⟨some 98, .convert 28 9 (.tmp 97), 9, "snapshot.go:103", #[⟨5, .data⟩], none⟩) (v := ?_) rfl (by kernel_rfl) (by rfl) ?h ?_; case h => (intro W hSW; have c1 := HC2.out W hSW; obtain ⟨x0, x1⟩ := HR.out W hSW; have f3 := HS1.out W hSW; have f4 := HS2.out W hSW; go_simp <;> with_reducible rfl))
          try simp only [lays]
          (refine pr 7 (oi := ⟨some 99, .fieldAddr 25 (.tmp 1) 1, 0, "snapshot.go:103", #[], none⟩) (v := ?_) rfl (by kernel_rfl) (by rfl) ?h ?_; case h => (intro W hSW; go_simp <;> with_reducible rfl))
          try simp only [lays]
          (refine pr 8 (oi := ⟨some 100, .load 23 (.tmp 99), 23, "snapshot.go:103", #[⟨7, .data⟩], none⟩) (v := ?_) rfl (by kernel_rfl) (by rfl) ?h ?_; case h => (intro W hSW; have c1 := HC2.out W hSW; obtain ⟨x0, x1⟩ := HR.out W hSW; have f3 := HS1.out W hSW; have f4 := HS2.out W hSW; go_simp <;> with_reducible rfl))
          try simp only [lays]
          (refine pr 9 (oi := ⟨some 101, .move (.tmp 12), 3, "snapshot.go:103", #[], none⟩) (v := ?_) rfl (by kernel_rfl) (by rfl) ?h ?_; case h => (intro W hSW; go_simp <;> with_reducible rfl))
          try simp only [lays]
          (refine pr 10 (oi := ⟨some 102, .indexAddr 23 (.tmp 100) (.tmp 101), 0, "snapshot.go:103", #[⟨8, .data⟩, ⟨9, .data⟩], none⟩) (v := ?_) rfl (by kernel_rfl) (by rfl) ?h ?_; case h => (intro W hSW; go_simp <;> with_reducible rfl))
          try simp only [lays]
          (refine pr 11 (oi := ⟨some 103, .load 28 (.tmp 102), 28, "snapshot.go:103", #[⟨10, .data⟩], none⟩) (v := ?_) rfl (by kernel_rfl) (by rfl) ?h ?_; case h => (intro W hSW; have c1 := HC2.out W hSW; obtain ⟨x0, x1⟩ := HR.out W hSW; have f3 := HS1.out W hSW; have f4 := HS2.out W hSW; go_simp <;> with_reducible rfl))
          try simp only [lays]
          (refine pr 12 (oi := ⟨some 104, .convert 28 9 (.tmp 103), 9, "snapshot.go:103", #[⟨11, .data⟩], none⟩) (v := ?_) rfl (by kernel_rfl) (by rfl) ?h ?_; case h => (intro W hSW; have c1 := HC2.out W hSW; obtain ⟨x0, x1⟩ := HR.out W hSW; have f3 := HS1.out W hSW; have f4 := HS2.out W hSW; go_simp <;> with_reducible rfl))
          try simp only [lays]
          (refine pr 13 (oi := ⟨some 105, .binOp .geq 9 (.tmp 98) (.tmp 104) 9, 4, "snapshot.go:103", #[⟨6, .data⟩, ⟨12, .data⟩], none⟩) (v := ?_) rfl (by kernel_rfl) (by rfl) ?h ?_; case h => (intro W hSW; go_simp <;> with_reducible rfl))
          try simp only [lays]
          refine Plan.done (by kernel_rfl) (fun W hSW => ?_)
          have HY6 := Lib.hid (HY5.out.trans hSW)
          clear hSW i6 i7 i8 i4 i5 hl
          go_wp2_with fail
          go_roundw
          case rel => exact ⟨k2 + 1, by omega, by go_num, HYY, HY6⟩
          case measure => simp [intOf]; omega
         | false =>
          have hl : Op.bytesLess s1.toList s2.toList = false := by rw [HEQ.out]; exact hv
          have HN1 := Lib.hid (HN.out hv)
          clear hv
          go_wp2_with fail
          clear c0 c1
          refine wp_region_plan (S := fun W => Ext wr W) (by kernel_rfl) (by kernel_rfl) ((Ext.refl wr).drew') ?_
          (refine pr 0 (oi := ⟨some 92, .fieldAddr 25 (.tmp 1) 1, 0, "snapshot.go:103", #[], none⟩) (v := ?_) rfl (by kernel_rfl) (by rfl) ?h ?_; case h => (intro W hSW; go_simp <;> with_reducible rfl))
          try simp only [lays]
          (refine pr 1 (oi := ⟨some 93, .load 23 (.tmp 92), 23, "snapshot.go:103", #[⟨0, .data⟩], none⟩) (v := ?_) rfl (by kernel_rfl) (by rfl) ?h ?_; case h => (intro W hSW; have c1 := HC2.out W hSW; obtain ⟨x0, x1⟩ := HR.out W hSW; have f3 := HS1.out W hSW; have f4 := HS2.out W hSW; go_simp <;> with_reducible rfl))
          try simp only [lays]
          (refine pr 2 (oi := ⟨some 94, .move (.tmp 12), 3, "snapshot.go:103", #[], none⟩) (v := ?_) rfl (by kernel_rfl) (by rfl) ?h ?_; case h => (intro W hSW; go_simp <;> with_reducible rfl))
          try simp only [lays]
          (refine pr 3 (oi := ⟨some 95, .binOp .sub 3 (.tmp 94) (.const (.int .i64 1)) 3, 3, "snapshot.go:103", #[⟨2, .data⟩], none⟩) (v := ?_) rfl (by kernel_rfl) (by rfl) ?h ?_; case h => (intro W hSW; go_simp <;> with_reducible rfl))
          try simp only [lays]
          (refine pr 4 (oi := ⟨some 96, .indexAddr 23 (.tmp 93) (.tmp 95), 0, "snapshot.go:103", #[⟨1, .data⟩, ⟨3, .data⟩], none⟩) (v := ?_) rfl (by kernel_rfl) (by rfl) ?h ?_; case h => (intro W hSW; go_simp <;> with_reducible rfl))
          try simp only [lays]
          (refine pr 5 (oi := ⟨some 97, .load 28 (.tmp 96), 28, "snapshot.go:103", #[⟨4, .data⟩], none⟩) (v := ?_) rfl (by kernel_rfl) (by rfl) ?h ?_; case h => (intro W hSW; have c1 := HC2.out W hSW; obtain ⟨x0, x1⟩ := HR.out W hSW; have f3 := HS1.out W hSW; have f4 := HS2.out W hSW; go_simp <;> with_reducible rfl))
          try simp only [lays]
          (refine pr 6 (oi := ⟨some 98, .convert 28 9 (.tmp 97), 9, "snapshot.go:103", #[⟨5, .data⟩], none⟩) (v := ?_) rfl (by kernel_rfl) (by rfl) ?h ?_; case h => (intro W hSW; have c1 := HC2.out W hSW; obtain ⟨x0, x1⟩ := HR.out W hSW; have f3 := HS1.out W hSW; have f4 := HS2.out W hSW; go_simp <;> with_reducible rfl))
          try simp only [lays]
          (refine pr 7 (oi := ⟨some 99, .fieldAddr 25 (.tmp 1) 1, 0, "snapshot.go:103", #[], none⟩) (v := ?_) rfl (by kernel_rfl) (by rfl) ?h ?_; case h => (intro W hSW; go_simp <;> with_reducible rfl))
          try simp only [lays]
          (refine pr 8 (oi := ⟨some 100, .load 23 (.tmp 99), 23, "snapshot.go:103", #[⟨7, .data⟩], none⟩) (v := ?_) rfl (by kernel_rfl) (by rfl) ?h ?_; case h => (intro W hSW; have c1 := HC2.out W hSW; obtain ⟨x0, x1⟩ := HR.out W hSW; have f3 := HS1.out W hSW; have f4 := HS2.out W hSW; go_simp <;> with_reducible rfl))
          try simp only [lays]
          (refine pr 9 (oi := ⟨some 101, .move (.tmp 12), 3, "snapshot.go:103", #[], none⟩) (v := ?_) rfl (by kernel_rfl) (by rfl) ?h ?_; case h => (intro W hSW; go_simp <;> with_reducible rfl))
          try simp only [lays]
          (refine pr 10 (oi := ⟨some 102, .indexAddr 23 (.tmp 100) (.tmp 101), 0, "snapshot.go:103", #[⟨8, .data⟩, ⟨9, .data⟩], none⟩) (v := ?_) rfl (by kernel_rfl) (by rfl) ?h ?_; case h => (intro W hSW; go_simp <;> with_reducible rfl))
          try simp only [lays]
          (refine pr 11 (oi := ⟨some 103, .load 28 (.tmp 102), 28, "snapshot.go:103", #[⟨10, .data⟩], none⟩) (v := ?_) rfl (by kernel_rfl) (by rfl) ?h ?_; case h => (intro W hSW; have c1 := HC2.out W hSW; obtain ⟨x0, x1⟩ := HR.out W hSW; have f3 := HS1.out W hSW; have f4 := HS2.out W hSW; go_simp <;> with_reducible rfl))
          try simp only [lays]
          (refine pr 12 (oi := ⟨some 104, .convert 28 9 (.tmp 103), 9, "snapshot.go:103", #[⟨11, .data⟩], none⟩) (v := ?_) rfl (by kernel_rfl) (by rfl) ?h ?_; case h => (intro W hSW; have c1 := HC2.out W hSW; obtain ⟨x0, x1⟩ := HR.out W hSW; have f3 := HS1.out W hSW; have f4 := HS2.out W hSW; go_simp <;> with_reducible rfl))
          try simp only [lays]
          (refine pr 13 (oi := ⟨some 105, .binOp .geq 9 (.tmp 98) (.tmp 104) 9, 4, "snapshot.go:103", #[⟨6, .data⟩, ⟨12, .data⟩], none⟩) (v := ?_) rfl (by kernel_rfl) (by rfl) ?h ?_; case h => (intro W hSW; go_simp <;> with_reducible rfl))
          try simp only [lays]
          refine Plan.done (by kernel_rfl) (fun W hSW => ?_)
          have HY6 := Lib.hid (HY5.out.trans hSW)
          clear hSW i6 i7 i8 i4 i5 hl
          go_wp2_with fail
          go_ret2
          exact ⟨.inl ⟨by rw [HN1.out]; decide, by rw [HN1.out]; rfl⟩, HE.out.trans (HZW.out.trans HY6.out)⟩
        ·have HV3 := Lib.hid (show vwE L X = 0 by rw [HV1.out, HV2.out, if_pos (ascG_yes (fun j hj => HP.out j (by rw [HM.out] at hj; omega) (by rw [HM.out] at hj; exact hj)))])
         have i2 : ¬ (k2 : Int) + 1 < (m : Int) := by omega
         clear HP
         go_wp2_with fail
         go_ret2
         exact ⟨.inr ⟨HV3.out, A5, n5, c5, rfl, own_mono (OwnB.ext HO1.out (HY3.out.trans HY5.out)) HE.out.size, by rw [HL.out, HM.out]; omega⟩, HE.out.trans HZV.out⟩
end Go.Proofs.YtbfepgjeecndiaaGreat
