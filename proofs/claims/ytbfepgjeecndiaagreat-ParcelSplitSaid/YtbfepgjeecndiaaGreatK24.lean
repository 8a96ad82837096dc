/- The bytes of a view (snapshot.Encode). -/
import Derived.Test.YtbfepgjeecndiaaGreatK18
import Derived.Test.YtbfepgjeecndiaaGreatK21
namespace Go.Proofs.YtbfepgjeecndiaaGreat
set_option maxRecDepth 100000
set_option maxHeartbeats 8000000
open Go.RowKit
set_option linter.unusedVariables false
set_option linter.unusedSimpArgs false
attribute [local go_sem ↓] Go.wp_at_zero Go.wp_at_succ
def encSgs (L : List SgR) : List UInt8 := L.flatMap encSg
def encTes (X : List TeR) : List UInt8 := X.flatMap fun T => blob T.l
def encVw (L : List SgR) (X : List TeR) : List UInt8 := beI 4 (L.length : Int) ++ encSgs L ++ (beI 4 (X.length : Int) ++ encTes X)
def okTe (T : TeR) : Bool := decide (T.n ≤ 65535)
def allG {α : Type} [RowT α] (f : α → Bool) (L : List α) : Bool := decide (∀ k, k < L.length → f (nthG L k) = true)
theorem allG_no {α : Type} [RowT α] {f : α → Bool} {L : List α} {k : Nat} (hk : k < L.length) (h : f (nthG L k) = false) : allG f L = false := decide_eq_false (fun hh => by rw [hh k hk] at h; cases h)
theorem allG_yes {α : Type} [RowT α] {f : α → Bool} {L : List α} (h : ∀ k, k < L.length → f (nthG L k) = true) : allG f L = true := decide_eq_true h
theorem allG_of {α : Type} [RowT α] {f : α → Bool} {L : List α} (h : allG f L = true) {k : Nat} (hk : k < L.length) : f (nthG L k) = true := of_decide_eq_true h k hk
def vwE (L : List SgR) (X : List TeR) : Int := if allG vldSg L = true ∧ allG okTe X = true then (if ordV L X = true then 0 else 10) else 1
def VwEnc (w : World) (L : List SgR) (X : List TeR) (e : Ending) (w' : World) : Prop :=
 ((vwE L X ≠ 0 ∧ e = .returned (.tuple #[.slice none 0 0, .int .i64 (vwE L X)])) ∨ (vwE L X = 0 ∧ ∃ A' n' c', e = .returned (.tuple #[.slice A' n' c', .int .i64 0]) ∧ OwnB w' w.heap.size 5 A' n' c' (encVw L X) ∧ n' ≤ 8 + 393 * L.length + 65537 * X.length)) ∧ Ext w w'
theorem new_sg (w : World) (R : SgR) : (w.alloc (.cells (sgA R) 48)).rangeAt w.heap.size 0 (sgL R) := rangeAt_of_blk (Blk.new w 48 (sgA R))
theorem appV4 (A : Option Addr) (n c : Nat) (l : List UInt8) (z : Int) (w : World) (h : SlB w A n c l) (hn : n ≤ 140737488351232) : Calls Tryz.prog 37 #[.slice A n c, .int .u64 (un (uI z)), .int .i64 4] w fun e w' => ∃ A' c', e = .returned (.slice A' (n + 4) c') ∧ OwnB w' w.heap.size 5 A' (n + 4) c' (l ++ beI 4 z) ∧ Ext w w' :=
 appendUI_any A n c l z 4 (by omega) w h hn
theorem sgEnc_no (S : SgR) (w : World) (hS : S.ok w) (h : vldSg S = false) : Calls Tryz.prog 38 #[.agg (sgA S)] w fun e w' => e = .returned (.tuple #[.slice none 0 0, .bool false]) ∧ Ext w w' := by
 unfold vldSg at h
 cases hv : vldVt S.v with
 | false => exact sgEnc_no1 S w hS hv
 | true =>
  rw [hv, Bool.true_and] at h
  exact sgEnc_no2 S w hS hv (of_decide_eq_false h)
theorem sgEnc_ok (S : SgR) (w : World) (hS : S.ok w) (h : vldSg S = true) : Calls Tryz.prog 38 #[.agg (sgA S)] w fun e w' => ∃ A' c', e = .returned (.tuple #[.slice A' 393 c', .bool true]) ∧ OwnB w' w.heap.size 5 A' 393 c' (encSg S) ∧ Ext w w' := by
 unfold vldSg at h
 simp only [Bool.and_eq_true, decide_eq_true_eq] at h
 exact sgEnc_yes S w hS h.1 h.2
theorem snEnc_any (A : Option Addr) (n c : Nat) (L : List SgR) (B : Option Addr) (m d : Nat) (X : List TeR) (w : World) (hS : SlG w A n c L) (hX : SlG w B m d X) (hn : n ≤ 1000) (hm : m ≤ 1000) :
  Calls Tryz.prog 21 #[.agg (vwA A n c B m d)] w (VwEnc w L X) := by
 have hcap := hS.cap
 have hle := hS.le
 have hcap2 := hX.cap
 have hle2 := hX.le
 have hE := (Ext.refl w).alloc' (.cells (vwA A n c B m d) 25)
 have HB := Lib.hid (Blk.new w 25 (vwA A n c B m d))
 have HE := Lib.hid hE
 have HS := Lib.hid (hS.ext hE)
 have HX := Lib.hid (hX.ext hE)
 have HL := Lib.hid hS.len
 have HM := Lib.hid hX.len
 obtain ⟨W0, hW0⟩ : ∃ W0, w.alloc (.cells (vwA A n c B m d) 25) = W0 := ⟨_, rfl⟩
 rw [hW0] at HB HE HS HX
 have HC := Lib.hid (fun (W : World) (h : Ext W0 W) => vw_facts (HB.out.ext h))
 have HSA := Lib.hid (fun (h : 0 < n) => HS.out.at h)
 have HXA := Lib.hid (fun (h : 0 < m) => HX.out.at h)
 have uz1 := uI_un (n : Int)
 have uz2 := uI_un (m : Int)
 clear hS hX hE
 obtain ⟨c0, c1⟩ := HC.out W0 (Ext.refl _)
 go_enter Tryz.func21, Tryz.ntmps21
 go_wp2_with fail
 refine (appV4 none 0 0 [] (n : Int) W0 (SlB.nil W0) (by omega)).mono ?_
 rintro e w1 ⟨A1, k1, rfl, hO1, he1⟩
 have HO1 := Lib.hid hO1
 have HX1 := Lib.hid he1
 clear c0 c1 hO1 he1 uz1
 obtain ⟨c0, c1⟩ := HC.out w1 HX1.out
 go_wp2_with fail
 clear c0 c1
 go_loopw [21, 4] (fun i v wr => ∃ (k : Nat) (A4 : Option Addr) (n4 c4 : Nat), k ≤ n ∧ i = .int .i64 (k : Int) ∧ v = .slice A4 n4 c4 ∧ n4 ≤ 4 + 393 * k ∧ Hid (OwnB wr W0.heap.size 5 A4 n4 c4 (beI 4 (n : Int) ++ encSgs (L.take k))) ∧ Hid (Ext W0 wr) ∧ Hid (∀ j, j < k → vldSg (nthG L j) = true)) (fun i _ _ => n - (intOf i).toNat)
 case atStart => exact ⟨0, A1, _, k1, Nat.zero_le _, rfl, rfl, by omega, Lib.hid (by simpa [encSgs] using HO1.out), HX1, Lib.hid (fun j hj => by omega)⟩
 case round =>
  obtain ⟨k, A4, n4, c4, hk, rfl, rfl, hn4, HO, HZ, HP⟩ := hrel
  by_cases hlt : k < n
  ·obtain ⟨b, o, rfl, hr, hb⟩ := HSA.out (by omega)
   have hr1 : wr.rangeAt b (o + k * 23) (sgL (nthG L k)) := el_at (rangeAt_keep hr (HZ.out.block b hb)) (k := k) (by rw [HL.out]; exact hlt)
   have HOK := Lib.hid (fun (W : World) (h : Ext wr W) => show (nthG L k).ok W from (HS.out.ext (HZ.out.trans h)).nth (k := k) hlt)
   have HTK := Lib.hid (take_nthG (L := L) (k := k) (by rw [HL.out]; exact hlt))
   have HNO := Lib.hid (fun (hx : vldSg (nthG L k) = false) => show vwE L X = 1 by unfold vwE; rw [if_neg (fun h => by rw [allG_no (by rw [HL.out]; exact hlt) hx] at h; cases h.1)])
   have HY := Lib.hid (fun (hx : vldSg (nthG L k) = true) => show ∀ j, j < k + 1 → vldSg (nthG L j) = true from fun j hj => by
    rcases Nat.lt_or_ge j k with h | h
    ·exact HP.out j h
    ·obtain rfl : j = k := by omega
     exact hx)
   have i0 : (0 : Int) ≤ (k : Int) := by omega
   have i1 : (k : Int) < (n : Int) := by omega
   obtain ⟨R, hR⟩ : ∃ R, nthG L k = R := ⟨_, rfl⟩
   rw [hR] at hr1 HOK HTK HNO HY
   clear hR hr hb
   have hnew := new_sg wr R
   have HEX := Lib.hid ((Ext.refl wr).alloc' (.cells (sgA R) 48))
   cases hv : vldSg R with
   | false =>
    go_wp2_with (first | (with_reducible refine wpList_loadSg rfl (.tmp 23) rfl b (o + k * 23) rfl R hr1 ?_) | (with_reducible refine wpList_newSg rfl (.tmp 6) (.tmp 24) rfl _ rfl R rfl rfl ?_) | (with_reducible refine wpList_loadSg rfl (.tmp 6) rfl wr.heap.size 0 rfl R hnew ?_))
    refine (sgEnc_no R _ (HOK.out _ HEX.out) hv).mono ?_
    rintro e w2 ⟨rfl, he2⟩
    have HX2 := Lib.hid (HE.out.trans (HZ.out.trans (HEX.out.trans he2)))
    have HN := Lib.hid (HNO.out hv)
    clear hv he2 hnew hr1
    go_wp2_with fail
    go_ret2
    exact ⟨.inl ⟨by rw [HN.out]; decide, by rw [HN.out]; rfl⟩, HX2.out⟩
   | true =>
    go_wp2_with (first | (with_reducible refine wpList_loadSg rfl (.tmp 23) rfl b (o + k * 23) rfl R hr1 ?_) | (with_reducible refine wpList_newSg rfl (.tmp 6) (.tmp 24) rfl _ rfl R rfl rfl ?_) | (with_reducible refine wpList_loadSg rfl (.tmp 6) rfl wr.heap.size 0 rfl R hnew ?_))
    refine (sgEnc_ok R _ (HOK.out _ HEX.out) hv).mono ?_
    rintro e w2 ⟨A5, c5, rfl, hO5, he5⟩
    have HZ2 := Lib.hid (HZ.out.trans (HEX.out.trans he5))
    have HOW := Lib.hid (HO.out.ext (HEX.out.trans he5))
    have HSX := Lib.hid hO5.sl
    have HY2 := Lib.hid (HY.out hv)
    clear hv hO5 he5 hnew hr1
    go_wp2_with (at_builtin; go_must (refine wpList_appB bytesE rfl (.tmp 32) (.tmp 33) rfl W0.heap.size _ _ _ _ rfl HOW.out _ _ _ _ rfl HSX.out (by omega) HZ2.out.size W0 HZ2.out ?_))
    intro A6 c6 w6 ho6 hw6 hs6
    have HO6 := Lib.hid (show OwnB w6 W0.heap.size 5 A6 (n4 + 393) c6 (beI 4 (n : Int) ++ encSgs (L.take (k + 1))) from by
     rw [HTK.out]; simpa [encSgs] using ho6)
    have HZ6 := Lib.hid (show Ext W0 w6 from hw6)
    clear ho6 hw6 hs6
    go_wp2_with fail
    go_roundw
    case rel => exact ⟨k + 1, A6, _, c6, by omega, by go_num, rfl, by omega, HO6, HZ6, HY2⟩
    case measure => simp [intOf]; omega
  ·obtain rfl : n = k := by omega
   have HAL := Lib.hid (show allG vldSg L = true from allG_yes (fun j hj => HP.out j (by rw [HL.out] at hj; exact hj)))
   have HO1 := Lib.hid (show OwnB wr W0.heap.size 5 A4 n4 c4 (beI 4 (L.length : Int) ++ encSgs L) from by
    have := HO.out; rw [List.take_of_length_le (Nat.le_of_eq HL.out)] at this; rw [HL.out]; exact this)
   obtain ⟨c0, c1⟩ := HC.out wr HZ.out
   clear HP HO
   go_wp2_with fail
   refine (appV4 none 0 0 [] (m : Int) wr (SlB.nil wr) (by omega)).mono ?_
   rintro e w2 ⟨A2, k2, rfl, hO2, he2⟩
   have HZ2 := Lib.hid (HZ.out.trans he2)
   have HOW := Lib.hid (HO1.out.ext he2)
   have HSX := Lib.hid hO2.sl
   clear c0 c1 hO2 he2 uz2 HO1
   go_wp2_with (at_builtin; go_must (refine wpList_appB bytesE rfl (.tmp 36) (.tmp 41) rfl W0.heap.size _ _ _ _ rfl HOW.out _ _ _ _ rfl HSX.out (by omega) HZ2.out.size W0 HZ2.out ?_))
   intro A6 c6 w6 ho6 hw6 hs6
   have HO6 := Lib.hid (show OwnB w6 W0.heap.size 5 A6 (n4 + (0 + 4)) c6 ((beI 4 (L.length : Int) ++ encSgs L) ++ ([] ++ beI 4 (m : Int))) from ho6)
   have HZ6 := Lib.hid (show Ext W0 w6 from hw6)
   clear ho6 hw6 hs6 HOW HSX HZ2
   obtain ⟨c0, c1⟩ := HC.out w6 HZ6.out
   go_wp2_with fail
   clear c0 c1
   go_loopw [46, 4] (fun i v wr => ∃ (k : Nat) (A4 : Option Addr) (n5 c4 : Nat), k ≤ m ∧ i = .int .i64 (k : Int) ∧ v = .slice A4 n5 c4 ∧ n5 ≤ n4 + 4 + 65537 * k ∧ Hid (OwnB wr W0.heap.size 5 A4 n5 c4 (beI 4 (L.length : Int) ++ encSgs L ++ (beI 4 (m : Int) ++ encTes (X.take k)))) ∧ Hid (Ext W0 wr) ∧ Hid (∀ j, j < k → okTe (nthG X j) = true)) (fun i _ _ => m - (intOf i).toNat)
   case atStart => exact ⟨0, A6, _, c6, Nat.zero_le _, rfl, rfl, by omega, Lib.hid (by simpa [encTes] using HO6.out), HZ6, Lib.hid (fun j hj => by omega)⟩
   case round =>
    obtain ⟨k, A5, n5, c5, hk, rfl, rfl, hn5, HO, HZ, HP⟩ := hrel
    by_cases hlt : k < m
    ·obtain ⟨b, o, rfl, hr, hb⟩ := HXA.out (by omega)
     have hr1 := te_at (rangeAt_keep hr (HZ.out.block b hb)) (k := k) (by rw [HM.out]; exact hlt)
     have HOK := Lib.hid (fun (W : World) (h : Ext wr W) => show SlB W (nthG X k).A (nthG X k).n (nthG X k).c (nthG X k).l from (HX.out.ext (HZ.out.trans h)).nth (k := k) hlt)
     have HTK := Lib.hid (take_nthG (L := X) (k := k) (by rw [HM.out]; exact hlt))
     have HNO := Lib.hid (fun (hx : okTe (nthG X k) = false) => show vwE L X = 1 by unfold vwE; rw [if_neg (fun h => by rw [allG_no (by rw [HM.out]; exact hlt) hx] at h; cases h.2)])
     have HY := Lib.hid (fun (hx : okTe (nthG X k) = true) => show ∀ j, j < k + 1 → okTe (nthG X j) = true from fun j hj => by
      rcases Nat.lt_or_ge j k with h | h
      ·exact HP.out j h
      ·obtain rfl : j = k := by omega
       exact hx)
     have i0 : (0 : Int) ≤ (k : Int) := by omega
     have i1 : (k : Int) < (m : Int) := by omega
     obtain ⟨R, hR⟩ : ∃ R, nthG X k = R := ⟨_, rfl⟩
     rw [hR] at hr1 HOK HTK HNO HY
     clear hR hr hb
     obtain ⟨RA, Rn, Rc, Rl⟩ := R
     have hb1 := (HOK.out wr (Ext.refl _)).le
     have hb2 := (HOK.out wr (Ext.refl _)).cap
     by_cases hv : Rn ≤ 65535
     ·have HY2 := Lib.hid (HY.out (decide_eq_true hv))
      have i2 : ¬ (65535 : Int) < (Rn : Int) := by omega
      go_wp2_with fail
      refine (appendBytes_any none 0 0 [] RA Rn Rc Rl wr (SlB.nil wr) (HOK.out wr (Ext.refl _)) hv (by omega)).mono ?_
      rintro e w2 ⟨A7, n7, c7, rfl, hO7, he7⟩
      have HZ2 := Lib.hid (HZ.out.trans he7)
      have HOW := Lib.hid (HO.out.ext he7)
      have HSX := Lib.hid hO7.sl
      have H7 := Lib.hid (show n7 = 2 + Rn from by
       have h1 := hO7.len
       have h2 := (HOK.out wr (Ext.refl _)).len
       rw [← h1]; simp only [List.nil_append, blob, List.length_append, beI_length]; omega)
      have g7 : n7 ≤ 65537 := by have := H7.out; omega
      clear hO7 he7 hr1
      go_wp2_with (at_builtin; go_must (refine wpList_appB bytesE rfl (.tmp 58) (.tmp 59) rfl W0.heap.size _ _ _ _ rfl HOW.out _ _ _ _ rfl HSX.out (by omega) HZ2.out.size W0 HZ2.out ?_))
      intro A8 c8 w8 ho8 hw8 hs8
      have HO8 := Lib.hid (show OwnB w8 W0.heap.size 5 A8 (n5 + n7) c8 (beI 4 (L.length : Int) ++ encSgs L ++ (beI 4 (m : Int) ++ encTes (X.take (k + 1)))) from by
       rw [HTK.out]; simpa [encTes] using ho8)
      have HZ8 := Lib.hid (show Ext W0 w8 from hw8)
      clear ho8 hw8 hs8
      go_wp2_with fail
      go_roundw
      case rel => exact ⟨k + 1, A8, _, c8, by omega, by go_num, rfl, by omega, HO8, HZ8, HY2⟩
      case measure => simp [intOf]; omega
     ·have HN := Lib.hid (HNO.out (decide_eq_false hv))
      have i2 : (65535 : Int) < (Rn : Int) := by omega
      have HX2 := Lib.hid (HE.out.trans HZ.out)
      go_wp2_with fail
      go_ret2
      exact ⟨.inl ⟨by rw [HN.out]; decide, by rw [HN.out]; rfl⟩, HX2.out⟩
    ·obtain rfl : m = k := by omega
     have HAM := Lib.hid (show allG okTe X = true from allG_yes (fun j hj => HP.out j (by rw [HM.out] at hj; exact hj)))
     have HF := Lib.hid (show OwnB wr W0.heap.size 5 A5 n5 c5 (encVw L X) from by
      have := HO.out; rw [List.take_of_length_le (Nat.le_of_eq HM.out)] at this; unfold encVw; rw [HM.out]; exact this)
     have HEV := Lib.hid (show vwE L X = if ordV L X = true then 0 else 10 by unfold vwE; rw [if_pos ⟨HAL.out, HAM.out⟩])
     obtain ⟨c0, c1⟩ := HC.out wr HZ.out
     clear HP HO
     go_wp2_with fail
     refine (ordered_any A n c L B m d X wr (HS.out.ext HZ.out) (HX.out.ext HZ.out)).mono ?_
     rintro e w9 ⟨rfl, he9⟩
     have HX9 := Lib.hid (HE.out.trans (HZ.out.trans he9))
     have HF9 := Lib.hid (HF.out.ext he9)
     clear he9 c0 c1
     cases hv : ordV L X with
     | true =>
      have HN := Lib.hid (show vwE L X = 0 by rw [HEV.out, hv]; rfl)
      clear hv
      go_wp2_with fail
      go_ret2
      exact ⟨.inr ⟨HN.out, A5, n5, c5, rfl, own_mono HF9.out HE.out.size, by rw [HL.out, HM.out]; omega⟩, HX9.out⟩
     | false =>
      have HN := Lib.hid (show vwE L X = 10 by rw [HEV.out, hv]; rfl)
      clear hv
      go_wp2_with fail
      go_ret2
      exact ⟨.inl ⟨by rw [HN.out]; decide, by rw [HN.out]; rfl⟩, HX9.out⟩
end Go.Proofs.YtbfepgjeecndiaaGreat
