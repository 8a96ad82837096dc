/- The bytes of a view (snapshot.Encode). -/
import Derived.Test.YtbfepgjeecndiaaGreatJ20
import Derived.Test.YtbfepgjeecndiaaGreatJ21
namespace Go.Proofs.YtbfepgjeecndiaaGreat
set_option maxRecDepth 100000
set_option maxHeartbeats 8000000
open Go.RowKit
set_option linter.unusedVariables false
set_option linter.unusedSimpArgs false
attribute [local go_sem ↓] Go.wp_at_zero Go.wp_at_succ
def encSgs (L : List SgR) : List UInt8 := L.flatMap encSg
def encTes (X : List TeR) : List UInt8 := X.flatMap fun T => blob T.l
def encVw (L : List SgR) (X : List TeR) : List UInt8 := beI 4 (L.length : Int) ++ encSgs L ++ (beI 4 (X.length : Int) ++ encTes X)
def okTe (T : TeR) : Bool := decide (T.n ≤ 65535)
def allG {α : Type} [RowT α] (f : α → Bool) (L : List α) : Bool := decide (∀ k, k < L.length → f (nthG L k) = true)
theorem allG_no {α : Type} [RowT α] {f : α → Bool} {L : List α} {k : Nat} (hk : k < L.length) (h : f (nthG L k) = false) : allG f L = false := decide_eq_false (fun hh => by rw [hh k hk] at h; cases h)
theorem allG_yes {α : Type} [RowT α] {f : α → Bool} {L : List α} (h : ∀ k, k < L.length → f (nthG L k) = true) : allG f L = true := decide_eq_true h
theorem allG_of {α : Type} [RowT α] {f : α → Bool} {L : List α} (h : allG f L = true) {k : Nat} (hk : k < L.length) : f (nthG L k) = true := of_decide_eq_true h k hk
def vwE (L : List SgR) (X : List TeR) : Int := if allG vldSg L = true ∧ allG okTe X = true then (if ordV L X = true then 0 else 10) else 1
def VwEnc (w : World) (L : List SgR) (X : List TeR) (e : Ending) (w' : World) : Prop :=
 ((vwE L X ≠ 0 ∧ e = .returned (.tuple #[.slice none 0 0, .int .i64 (vwE L X)])) ∨ (vwE L X = 0 ∧ ∃ A' n' c', e = .returned (.tuple #[.slice A' n' c', .int .i64 0]) ∧ OwnB w' w.heap.size 5 A' n' c' (encVw L X) ∧ n' ≤ 8 + 393 * L.length + 65537 * X.length)) ∧ Ext w w'
theorem new_sg (w : World) (R : SgR) : (w.alloc (.cells (sgA R) 48)).rangeAt w.heap.size 0 (sgL R) := rangeAt_of_blk (Blk.new w 48 (sgA R))
theorem appV4 (A : Option Addr) (n c : Nat) (l : List UInt8) (z : Int) (w : World) (h : SlB w A n c l) (hn : n ≤ 140737488351232) : Calls Tryz.prog 37 #[.slice A n c, .int .u64 (un (uI z)), .int .i64 4] w fun e w' => ∃ A' c', e = .returned (.slice A' (n + 4) c') ∧ OwnB w' w.heap.size 5 A' (n + 4) c' (l ++ beI 4 z) ∧ Ext w w' :=
 appendUI_any A n c l z 4 (by omega) w h hn
theorem sgEnc_no (S : SgR) (w : World) (hS : S.ok w) (h : vldSg S = false) : Calls Tryz.prog 38 #[.agg (sgA S)] w fun e w' => e = .returned (.tuple #[.slice none 0 0, .bool false]) ∧ Ext w w' := by
 unfold vldSg at h
 cases hv : vldVt S.v with
 | false => exact sgEnc_no1 S w hS hv
 | true =>
  rw [hv, Bool.true_and] at h
  exact sgEnc_no2 S w hS hv (of_decide_eq_false h)
theorem sgEnc_ok (S : SgR) (w : World) (hS : S.ok w) (h : vldSg S = true) : Calls Tryz.prog 38 #[.agg (sgA S)] w fun e w' => ∃ A' c', e = .returned (.tuple #[.slice A' 393 c', .bool true]) ∧ OwnB w' w.heap.size 5 A' 393 c' (encSg S) ∧ Ext w w' := by
 unfold vldSg at h
 simp only [Bool.and_eq_true, decide_eq_true_eq] at h
 exact sgEnc_yes S w hS h.1 h.2
theorem snEnc_any (A : Option Addr) (n c : Nat) (L : List SgR) (B : Option Addr) (m d : Nat) (X : List TeR) (w : World) (hS : SlG w A n c L) (hX : SlG w B m d X) (hn : n ≤ 1000) (hm : m ≤ 1000) :
  Calls Tryz.prog 21 #[.agg (vwA A n c B m d)] w (VwEnc w L X) := by
 have hcap := hS.cap
 have hle := hS.le
 have hcap2 := hX.cap
 have hle2 := hX.le
 have hE := (Ext.refl w).alloc' (.cells (vwA A n c B m d) 25)
 have HB := Lib.hid (Blk.new w 25 (vwA A n c B m d))
 have HE := Lib.hid hE
 have HS := Lib.hid (hS.ext hE)
 have HX := Lib.hid (hX.ext hE)
 have HL := Lib.hid hS.len
 have HM := Lib.hid hX.len
 obtain ⟨W0, hW0⟩ : ∃ W0, w.alloc (.cells (vwA A n c B m d) 25) = W0 := ⟨_, rfl⟩
 rw [hW0] at HB HE HS HX
 have HC := Lib.hid (fun (W : World) (h : Ext W0 W) => vw_facts (HB.out.ext h))
 have HSA := Lib.hid (fun (h : 0 < n) => HS.out.at h)
 have HXA := Lib.hid (fun (h : 0 < m) => HX.out.at h)
 have uz1 := uI_un (n : Int)
 have uz2 := uI_un (m : Int)
 clear hS hX hE
 obtain ⟨c0, c1⟩ := HC.out W0 (Ext.refl _)
 go_enter Tryz.func21, Tryz.ntmps21
 go_wp2_with fail
 refine (appV4 none 0 0 [] (n : Int) W0 (SlB.nil W0) (by omega)).mono ?_
 rintro e w1 ⟨A1, k1, rfl, hO1, he1⟩
 have HO1 := Lib.hid hO1
 have HX1 := Lib.hid he1
 clear c0 c1 hO1 he1 uz1
 obtain ⟨c0, c1⟩ := HC.out w1 HX1.out
 go_wp2_with fail
 clear c0 c1
 go_loopw [21, 4] (fun i v wr => ∃ (k : Nat) (A4 : Option Addr) (n4 c4 : Nat), k ≤ n ∧ i = .int .i64 (k : Int) ∧ v = .slice A4 n4 c4 ∧ n4 ≤ 4 + 393 * k ∧ Hid (OwnB wr W0.heap.size 5 A4 n4 c4 (beI 4 (n : Int) ++ encSgs (L.take k))) ∧ Hid (Ext W0 wr) ∧ Hid (∀ j, j < k → vldSg (nthG L j) = true)) (fun i _ _ => n - (intOf i).toNat)
 case atStart => exact ⟨0, A1, _, k1, Nat.zero_le _, rfl, rfl, by omega, Lib.hid (by simpa [encSgs] using HO1.out), HX1, Lib.hid (fun j hj => by omega)⟩
 case round =>
  obtain ⟨k, A4, n4, c4, hk, rfl, rfl, hn4, HO, HZ, HP⟩ := hrel
  by_cases hlt : k < n
  ·obtain ⟨b, o, rfl, hr, hb⟩ := HSA.out (by omega)
   have hr1 : wr.rangeAt b (o + k * 23) (sgL (nthG L k)) := el_at (rangeAt_keep hr (HZ.out.block b hb)) (k := k) (by rw [HL.out]; exact hlt)
   have HOK := Lib.hid (fun (W : World) (h : Ext wr W) => show (nthG L k).ok W from (HS.out.ext (HZ.out.trans h)).nth (k := k) hlt)
   have HTK := Lib.hid (take_nthG (L := L) (k := k) (by rw [HL.out]; exact hlt))
   have HNO := Lib.hid (fun (hx : vldSg (nthG L k) = false) => show vwE L X = 1 by unfold vwE; rw [if_neg (fun h => by rw [allG_no (by rw [HL.out]; exact hlt) hx] at h; cases h.1)])
   have HY := Lib.hid (fun (hx : vldSg (nthG L k) = true) => show ∀ j, j < k + 1 → vldSg (nthG L j) = true from fun j hj => by
    rcases Nat.lt_or_ge j k with h | h
    ·exact HP.out j h
    ·obtain rfl : j = k := by omega
     exact hx)
   have i0 : (0 : Int) ≤ (k : Int) := by omega
   have i1 : (k : Int) < (n : Int) := by omega
   obtain ⟨R, hR⟩ : ∃ R, nthG L k = R := ⟨_, rfl⟩
   rw [hR] at hr1 HOK HTK HNO HY
   clear hR hr hb
   have hnew := new_sg wr R
   have HEX := Lib.hid ((Ext.refl wr).alloc' (.cells (sgA R) 48))
   cases hv : vldSg R with
   | false =>
    go_wp2_with (first | (with_reducible refine wpList_loadSg rfl (.tmp 23) rfl b (o + k * 23) rfl R hr1 ?_) | (with_reducible refine wpList_newSg rfl (.tmp 6) (.tmp 24) rfl _ rfl R rfl rfl ?_) | (with_reducible refine wpList_loadSg rfl (.tmp 6) rfl wr.heap.size 0 rfl R hnew ?_))
    refine (sgEnc_no R _ (HOK.out _ HEX.out) hv).mono ?_
    rintro e w2 ⟨rfl, he2⟩
    have HX2 := Lib.hid (HE.out.trans (HZ.out.trans (HEX.out.trans he2)))
    have HN := Lib.hid (HNO.out hv)
    clear hv he2 hnew hr1
    go_wp2_with fail
    go_ret2
    exact ⟨.inl ⟨by rw [HN.out]; decide, by rw [HN.out]; rfl⟩, HX2.out⟩
   | true =>
    go_wp2_with (first | (with_reducible refine wpList_loadSg rfl (.tmp 23) rfl b (o + k * 23) rfl R hr1 ?_) | (with_reducible refine wpList_newSg rfl (.tmp 6) (.tmp 24) rfl _ rfl R rfl rfl ?_) | (with_reducible refine wpList_loadSg rfl (.tmp 6) rfl wr.heap.size 0 rfl R hnew ?_))
    refine (sgEnc_ok R _ (HOK.out _ HEX.out) hv).mono ?_
    rintro e w2 ⟨A5, c5, rfl, hO5, he5⟩
    have HZ2 := Lib.hid (HZ.out.trans (HEX.out.trans he5))
    have HOW := Lib.hid (HO.out.ext (HEX.out.trans he5))
    have HSX := Lib.hid hO5.sl
    have HY2 := Lib.hid (HY.out hv)
    clear hv hO5 he5 hnew hr1
    go_wp2_with (at_builtin; go_must (refine wpList_appB bytesE rfl (.tmp 32) (.tmp 33) rfl W0.heap.size _ _ _ _ rfl HOW.out _ _ _ _ rfl HSX.out (by omega) HZ2.out.size W0 HZ2.out ?_))
    intro A6 c6 w6 ho6 hw6 hs6
    have HO6 := Lib.hid (show OwnB w6 W0.heap.size 5 A6 (n4 + 393) c6 (beI 4 (n : Int) ++ encSgs (L.take (k + 1))) from by
     rw [HTK.out]; simpa [encSgs] using ho6)
    have HZ6 := Lib.hid (show Ext W0 w6 from hw6)
    clear ho6 hw6 hs6
    go_wp2_with fail
    go_roundw
    case rel => exact ⟨k + 1, A6, _, c6, by omega, by go_num, rfl, by omega, HO6, HZ6, HY2⟩
    case measure => simp [intOf]; omega
  ·obtain rfl : n = k := by omega
   have HAL := Lib.hid (show allG vldSg L = true from allG_yes (fun j hj => HP.out j (by rw [HL.out] at hj; exact hj)))
   have HO1 := Lib.hid (show OwnB wr W0.heap.size 5 A4 n4 c4 (beI 4 (L.length : Int) ++ encSgs L) from by
    have := HO.out; rw [List.take_of_length_le (Nat.le_of_eq HL.out)] at this; rw [HL.out]; exact this)
   obtain ⟨c0, c1⟩ := HC.out wr HZ.out
   clear HP HO
   go_wp2_with fail
   refine (appV4 none 0 0 [] (m : Int) wr (SlB.nil wr) (by omega)).mono ?_
   rintro e w2 ⟨A2, k2, rfl, hO2, he2⟩
   have HZ2 := Lib.hid (HZ.out.trans he2)
   have HOW := Lib.hid (HO1.out.ext he2)
   have HSX := Lib.hid hO2.sl
   clear c0 c1 hO2 he2 uz2 HO1
   go_wp2_with (at_builtin; go_must (refine wpList_appB bytesE rfl (.tmp 36) (.tmp 41) rfl W0.heap.size _ _ _ _ rfl HOW.out _ _ _ _ rfl HSX.out (by omega) HZ2.out.size W0 HZ2.out ?_))
   intro A6 c6 w6 ho6 hw6 hs6
   have HO6 := Lib.hid (show OwnB w6 W0.heap.size 5 A6 (n4 + (0 + 4)) c6 ((beI 4 (L.length : Int) ++ encSgs L) ++ ([] ++ beI 4 (m : Int))) from ho6)
   have HZ6 := Lib.hid (show Ext W0 w6 from hw6)
   clear ho6 hw6 hs6 HOW HSX HZ2
   obtain ⟨c0, c1⟩ := HC.out w6 HZ6.out
   go_wp2_with fail
   clear c0 c1
   go_loopw [46, 4] (fun i v wr => ∃ (k : Nat) (A4 : Option Addr) (n5 c4 : Nat), k ≤ m ∧ i = .int .i64 (k : Int) ∧ v = .slice A4 n5 c4 ∧ n5 ≤ n4 + 4 + 65537 * k ∧ Hid (OwnB wr W0.heap.size 5 A4 n5 c4 (beI 4 (L.length : Int) ++ encSgs L ++ (beI 4 (m : Int) ++ encTes (X.take k)))) ∧ Hid (Ext W0 wr) ∧ Hid (∀ j, j < k → okTe (nthG X j) = true)) (fun i _ _ => m - (intOf i).toNat)
   case atStart => exact ⟨0, A6, _, c6, Nat.zero_le _, rfl, rfl, by omega, Lib.hid (by simpa [encTes] using HO6.out), HZ6, Lib.hid (fun j hj => by omega)⟩
   case round =>
    obtain ⟨k, A5, n5, c5, hk, rfl, rfl, hn5, HO, HZ, HP⟩ := hrel
    by_cases hlt : k < m
    ·obtain ⟨b, o, rfl, hr, hb⟩ := HXA.out (by omega)
     have hr1 := te_at (rangeAt_keep hr (HZ.out.block b hb)) (k := k) (by rw [HM.out]; exact hlt)
     have HOK := Lib.hid (fun (W : World) (h : Ext wr W) => show SlB W (nthG X k).A (nthG X k).n (nthG X k).c (nthG X k).l from (HX.out.ext (HZ.out.trans h)).nth (k := k) hlt)
     have HTK := Lib.hid (take_nthG (L := X) (k := k) (by rw [HM.out]; exact hlt))
     have HNO := Lib.hid (fun (hx : okTe (nthG X k) = false) => show vwE L X = 1 by unfold vwE; rw [if_neg (fun h => by rw [allG_no (by rw [HM.out]; exact hlt) hx] at h; cases h.2)])
     have HY := Lib.hid (fun (hx : okTe (nthG X k) = true) => show ∀ j, j < k + 1 → okTe (nthG X j) = true from fun j hj => by
      rcases Nat.lt_or_ge j k with h | h
      ·exact HP.out j h
      ·obtain rfl : j = k := by omega
       exact hx)
     have i0 : (0 : Int) ≤ (k : Int) := by omega
     have i1 : (k : Int) < (m : Int) := by omega
     obtain ⟨R, hR⟩ : ∃ R, nthG X k = R := ⟨_, rfl⟩
     rw [hR] at hr1 HOK HTK HNO HY
     clear hR hr hb
     obtain ⟨RA, Rn, Rc, Rl⟩ := R
     have hb1 := (HOK.out wr (Ext.refl _)).le
     have hb2 := (HOK.out wr (Ext.refl _)).cap
     by_cases hv : Rn ≤ 65535
     ·have HY2 := Lib.hid (HY.out (decide_eq_true hv))
      have i2 : ¬ (65535 : Int) < (Rn : Int) := by omega
      go_wp2_with fail
      refine (appendBytes_any none 0 0 [] RA Rn Rc Rl wr (SlB.nil wr) (HOK.out wr (Ext.refl _)) hv (by omega)).mono ?_
      rintro e w2 ⟨A7, n7, c7, rfl, hO7, he7⟩
      have HZ2 := Lib.hid (HZ.out.trans he7)
      have HOW := Lib.hid (HO.out.ext he7)
      have HSX := Lib.hid hO7.sl
      have H7 := Lib.hid (show n7 = 2 + Rn from by
       have h1 := hO7.len
       have h2 := (HOK.out wr (Ext.refl _)).len
       rw [← h1]; simp only [List.nil_append, blob, List.length_append, beI_length]; omega)
      have g7 : n7 ≤ 65537 := by have := H7.out; omega
      clear hO7 he7 hr1
      go_wp2_with (at_builtin; go_must (refine wpList_appB bytesE rfl (.tmp 58) (.tmp 59) rfl W0.heap.size _ _ _ _ rfl HOW.out _ _ _ _ rfl HSX.out (by omega) HZ2.out.size W0 HZ2.out ?_))
      intro A8 c8 w8 ho8 hw8 hs8
      have HO8 := Lib.hid (show OwnB w8 W0.heap.size 5 A8 (n5 + n7) c8 (beI 4 (L.length : Int) ++ encSgs L ++ (beI 4 (m : Int) ++ encTes (X.take (k + 1)))) from by
       rw [HTK.out]; simpa [encTes] using ho8)
      have HZ8 := Lib.hid (show Ext W0 w8 from hw8)
      clear ho8 hw8 hs8
      go_wp2_with fail
      go_roundw
      case rel => exact ⟨k + 1, A8, _, c8, by omega, by go_num, rfl, by omega, HO8, HZ8, HY2⟩
      case measure => simp [intOf]; omega
     ·have HN := Lib.hid (HNO.out (decide_eq_false hv))
      have i2 : (65535 : Int) < (Rn : Int) := by omega
      have HX2 := Lib.hid (HE.out.trans HZ.out)
      go_wp2_with fail
      go_ret2
      exact ⟨.inl ⟨by rw [HN.out]; decide, by rw [HN.out]; rfl⟩, HX2.out⟩
    ·obtain rfl : m = k := by omega
     have HAM := Lib.hid (show allG okTe X = true from allG_yes (fun j hj => HP.out j (by rw [HM.out] at hj; exact hj)))
     have HF := Lib.hid (show OwnB wr W0.heap.size 5 A5 n5 c5 (encVw L X) from by
      have := HO.out; rw [List.take_of_length_le (Nat.le_of_eq HM.out)] at this; unfold encVw; rw [HM.out]; exact this)
     have HEV := Lib.hid (show vwE L X = if ordV L X = true then 0 else 10 by unfold vwE; rw [if_pos ⟨HAL.out, HAM.out⟩])
     obtain ⟨c0, c1⟩ := HC.out wr HZ.out
     clear HP HO
     go_wp2_with fail
     refine (ordered_any A n c L B m d X wr (HS.out.ext HZ.out) (HX.out.ext HZ.out)).mono ?_
     rintro e w9 ⟨rfl, he9⟩
     have HX9 := Lib.hid (HE.out.trans (HZ.out.trans he9))
     have HF9 := Lib.hid (HF.out.ext he9)
     clear he9 c0 c1
     cases hv : ordV L X with
     | true =>
      have HN := Lib.hid (show vwE L X = 0 by rw [HEV.out, hv]; rfl)
      clear hv
      go_wp2_with fail
      go_ret2
      exact ⟨.inr ⟨HN.out, A5, n5, c5, rfl, own_mono HF9.out HE.out.size, by rw [HL.out, HM.out]; omega⟩, HX9.out⟩
     | false =>
      have HN := Lib.hid (show vwE L X = 10 by rw [HEV.out, hv]; rfl)
      clear hv
      go_wp2_with fail
      go_ret2
      exact ⟨.inl ⟨by rw [HN.out]; decide, by rw [HN.out]; rfl⟩, HX9.out⟩
end Go.Proofs.YtbfepgjeecndiaaGreat

/- The view that bytes tell: plain; and the state of snapshot.Decode. -/
namespace Go.Proofs.YtbfepgjeecndiaaGreat
open Go.RowKit
set_option linter.unusedVariables false
set_option linter.unusedSimpArgs false
attribute [local go_sem ↓] Go.wp_at_zero Go.wp_at_succ
def chunk (r : List UInt8) : Option (SgV × List UInt8) := if 393 ≤ r.length ∧ vldVt (decVt (r.take 23)) = true then some ((decVt (r.take 23), (r.take 393).drop 23), r.drop 393) else none
def dSg : Nat → List UInt8 → List SgV → Option (List SgV × List UInt8)
 | 0, r, acc => some (acc, r)
 | k + 1, r, acc => match chunk r with
  | none => none
  | some (v, r') => dSg k r' (acc ++ [v])
def dTe : Nat → List UInt8 → List (List UInt8) → Option (List (List UInt8) × List UInt8)
 | 0, r, acc => some (acc, r)
 | k + 1, r, acc => if blobOk r = true then dTe k (r.drop (2 + beNat (r.take 2))) (acc ++ [(r.drop 2).take (beNat (r.take 2))]) else none
def contT (M : Nat) (s : Option (List UInt8)) (P : List SgV) (Q : List (List UInt8)) : Option (List SgV × List (List UInt8)) := match s with
 | none => none
 | some r => match dTe M r Q with
  | none => none
  | some (Q', r') => if r' = [] then some (P, Q') else none
def contS (N : Nat) (s : Option (List UInt8)) (P : List SgV) : Option (List SgV × List (List UInt8)) := match s with
 | none => none
 | some r => match dSg N r P with
  | none => none
  | some (P', r') => contT (rNum 4 (some r')).toNat (rRest 4 (some r')) P' []
def rawVw (l : List UInt8) : Option (List SgV × List (List UInt8)) := contS (rNum 4 (some l)).toNat (rRest 4 (some l)) []
theorem contS_none (N : Nat) (P : List SgV) : contS N none P = none := rfl
theorem contS_zero (r : List UInt8) (P : List SgV) : contS 0 (some r) P = contT (rNum 4 (some r)).toNat (rRest 4 (some r)) P [] := rfl
theorem contS_yes {r : List UInt8} {v : SgV} {r' : List UInt8} (h : chunk r = some (v, r')) (k : Nat) (P : List SgV) : contS (k + 1) (some r) P = contS k (some r') (P ++ [v]) := by
 unfold contS; simp only [dSg, h]
theorem contS_no {r : List UInt8} (h : chunk r = none) (k : Nat) (P : List SgV) : contS (k + 1) (some r) P = none := by
 unfold contS; simp only [dSg, h]
theorem contT_none (M : Nat) (P : List SgV) (Q : List (List UInt8)) : contT M none P Q = none := rfl
theorem contT_zero (s : Option (List UInt8)) (P : List SgV) (Q : List (List UInt8)) : contT 0 s P Q = if s = some [] then some (P, Q) else none := by
 cases s with
 | none => rfl
 | some r => unfold contT; simp only [dTe]; simp
theorem contT_step (M : Nat) (s : Option (List UInt8)) (P : List SgV) (Q : List (List UInt8)) : contT (M + 1) s P Q = contT M (rAft s) P (Q ++ [rBlob s]) := by
 cases s with
 | none => rfl
 | some r =>
  unfold contT
  simp only [dTe, rAft, rBlob]
  by_cases h : blobOk r = true
  ·simp only [if_pos h]
  ·simp only [if_neg h]
structure VwO (w : World) (base : Nat) (A : Option Addr) (n c : Nat) (L : List SgR) (B : Option Addr) (m d : Nat) (X : List TeR) : Prop where
 own1 : w.ownsRow base 48 23 (.slice A n c) n (gcs L)
 own2 : w.ownsRow base 28 1 (.slice B m d) m (gcs X)
 sig : ∀ S, S ∈ L → OwnB w base 5 S.A S.n S.c S.sig ∧ S.v.wf
 tex : ∀ T, T ∈ X → OwnB w base 5 T.A T.n T.c T.l
theorem VwO.nil (w : World) (base : Nat) : VwO w base none 0 0 [] none 0 0 [] := ⟨World.ownsRow_nil _ _ _ _, World.ownsRow_nil _ _ _ _, (fun S hS => by cases hS), (fun T hT => by cases hT)⟩
def VwDec (w : World) (l : List UInt8) (e : Ending) (w' : World) : Prop :=
 Ext w w' ∧ ((∃ (A : Option Addr) (n c : Nat) (L : List SgR) (B : Option Addr) (m d : Nat) (X : List TeR), e = .returned (.tuple #[.agg (vwA A n c B m d), .int .i64 0]) ∧ VwO w' w.heap.size A n c L B m d X ∧ rawVw l = some (L.map SgR.V, X.map TeR.l) ∧ ordV L X = true ∧ ∀ S, S ∈ L → vldSg S = true) ∨
  (e = .returned (.tuple #[.agg (vwA none 0 0 none 0 0), .int .i64 4]) ∧ ∀ (L : List SgR) (X : List TeR), rawVw l = some (L.map SgR.V, X.map TeR.l) → ordV L X = false))
theorem gcs_len1 {w : World} {base : Nat} {A : Option Addr} {n c : Nat} {L : List SgR} (h : w.ownsRow base 48 23 (.slice A n c) n (gcs L)) : L.length = n := by
 have := h.1; rw [gcs_length, show RowT.sz SgR = 23 from rfl] at this; omega
theorem gcs_len2 {w : World} {base : Nat} {B : Option Addr} {m d : Nat} {X : List TeR} (h : w.ownsRow base 28 1 (.slice B m d) m (gcs X)) : X.length = m := by
 have := h.1; rw [gcs_length, show RowT.sz TeR = 1 from rfl] at this; omega
section
variable {w w' : World} {base base' : Nat} {A : Option Addr} {n c : Nat} {L : List SgR} {B : Option Addr} {m d : Nat} {X : List TeR}
theorem VwO.sl1 (h : VwO w base A n c L B m d X) : SlG w A n c L :=
 ⟨gcs_len1 h.own1, (own_cap h.own1).1, (own_cap h.own1).2, Rd.of_own h.own1, fun S hS => ⟨(h.sig S hS).2, (h.sig S hS).1.sl⟩⟩
theorem VwO.sl2 (h : VwO w base A n c L B m d X) : SlG w B m d X :=
 ⟨gcs_len2 h.own2, (own_cap h.own2).1, (own_cap h.own2).2, Rd.of_own h.own2, fun T hT => (h.tex T hT).sl⟩
theorem VwO.ext (h : VwO w base A n c L B m d X) (he : Ext w w') : VwO w' base A n c L B m d X := ⟨own_ext h.own1 he, own_ext h.own2 he, fun S hS => ⟨OwnB.ext (h.sig S hS).1 he, (h.sig S hS).2⟩, fun T hT => OwnB.ext (h.tex T hT) he⟩
theorem VwO.mono (h : VwO w base A n c L B m d X) (hb : base' ≤ base) : VwO w base' A n c L B m d X := ⟨own_mono h.own1 hb, own_mono h.own2 hb, fun S hS => ⟨own_mono (h.sig S hS).1 hb, (h.sig S hS).2⟩, fun T hT => own_mono (h.tex T hT) hb⟩
theorem VwO.set (h : VwO w base A n c L B m d X) {g : Nat} {cs : Array Value} (hb : Blk w g 25 cs) (vs : List Value) : VwO (w.setCells g 0 vs) base A n c L B m d X := by
 have hg := grown_setCells' w g vs 0
 have hB : ∀ {A0 : Option Addr} {n0 c0 : Nat} {l0 : List UInt8}, OwnB w base 5 A0 n0 c0 l0 → OwnB (w.setCells g 0 vs) base 5 A0 n0 c0 l0 := fun hQ => World.ownsRow.kept hQ hg (.inr (Ne.symm (own_other hQ hb (by decide))))
 exact ⟨h.own1.kept hg (.inr (Ne.symm (own_other h.own1 hb (by decide)))), h.own2.kept hg (.inr (Ne.symm (own_other h.own2 hb (by decide)))), fun S hS => ⟨hB (h.sig S hS).1, (h.sig S hS).2⟩, fun T hT => hB (h.tex T hT)⟩
end
structure VdS (w0 w : World) (CB VB : Nat) (A : Option Addr) (n c : Nat) (L : List SgR) (B : Option Addr) (m d : Nat) (X : List TeR) (s : Option (List UInt8)) : Prop where
 cur : CurAt 101 w0.heap.size w CB s
 blk : Blk w VB 25 (vwA A n c B m d)
 own1 : w.ownsRow w0.heap.size 48 23 (.slice A n c) n (gcs L)
 own2 : w.ownsRow w0.heap.size 28 1 (.slice B m d) m (gcs X)
 sig : ∀ S, S ∈ L → OwnB w w0.heap.size 5 S.A S.n S.c S.sig ∧ S.v.wf ∧ vldSg S = true
 tex : ∀ T, T ∈ X → OwnB w w0.heap.size 5 T.A T.n T.c T.l
 low : Ext w0 w
 hC : w0.heap.size ≤ CB
 hV : w0.heap.size < VB
 res : Blk w w0.heap.size 25 (vwA none 0 0 none 0 0)
section
variable {w0 w w' : World} {CB VB : Nat} {A : Option Addr} {n c : Nat} {L : List SgR} {B : Option Addr} {m d : Nat} {X : List TeR} {s s' : Option (List UInt8)}
theorem VdS.ne (h : VdS w0 w CB VB A n c L B m d X s) : VB ≠ CB := by
 obtain ⟨cs, hb⟩ := cur_blk h.cur
 exact blk_ne h.blk hb (by decide)
theorem VdS.ext (h : VdS w0 w CB VB A n c L B m d X s) (he : Ext w w') : VdS w0 w' CB VB A n c L B m d X s :=
 ⟨h.cur.ext he, h.blk.ext he, own_ext h.own1 he, own_ext h.own2 he, fun S hS => ⟨OwnB.ext (h.sig S hS).1 he, (h.sig S hS).2⟩, fun T hT => OwnB.ext (h.tex T hT) he, h.low.trans he, h.hC, h.hV, h.res.ext he⟩
theorem VdS.read (h : VdS w0 w CB VB A n c L B m d X s) (hc : CurAt 101 w0.heap.size w' CB s') (hg : w.grownBy w' (some CB)) : VdS w0 w' CB VB A n c L B m d X s' := by
 obtain ⟨cs, hb⟩ := cur_blk h.cur
 exact ⟨hc, h.blk.grown hg (fun e => h.ne (by injection e)), h.own1.kept hg (.inr (Ne.symm (own_other h.own1 hb (by decide)))), h.own2.kept hg (.inr (Ne.symm (own_other h.own2 hb (by decide)))),
  fun S hS => ⟨World.ownsRow.kept (h.sig S hS).1 hg (.inr (Ne.symm (own_other (h.sig S hS).1 hb (by decide)))), (h.sig S hS).2⟩, fun T hT => World.ownsRow.kept (h.tex T hT) hg (.inr (Ne.symm (own_other (h.tex T hT) hb (by decide)))), ext_grown h.low hg h.hC, h.hC, h.hV, h.res.grown hg (fun e => blk_ne h.res hb (by decide) (by injection e))⟩
theorem VdS.sl1 (h : VdS w0 w CB VB A n c L B m d X s) : SlG w A n c L :=
 ⟨gcs_len1 h.own1, (own_cap h.own1).1, (own_cap h.own1).2, Rd.of_own h.own1, fun S hS => ⟨(h.sig S hS).2.1, (h.sig S hS).1.sl⟩⟩
theorem VdS.sl2 (h : VdS w0 w CB VB A n c L B m d X s) : SlG w B m d X :=
 ⟨gcs_len2 h.own2, (own_cap h.own2).1, (own_cap h.own2).2, Rd.of_own h.own2, fun T hT => (h.tex T hT).sl⟩
theorem VdS.vwo (h : VdS w0 w CB VB A n c L B m d X s) : VwO w w0.heap.size A n c L B m d X := ⟨h.own1, h.own2, fun S hS => ⟨(h.sig S hS).1, (h.sig S hS).2.1⟩, h.tex⟩
theorem VdS.push1 (h : VdS w0 w CB VB A n c L B m d X s) {A' : Option Addr} {c' : Nat} {S : SgR} (hS : OwnB w w0.heap.size 5 S.A S.n S.c S.sig ∧ S.v.wf ∧ vldSg S = true) (hg : w.grownBy w' (Value.ownBlock (.slice A n c))) (ho : w'.ownsRow w0.heap.size 48 23 (.slice A' (n + 1) c') (n + 1) (gcs L ++ sgL S)) :
  VdS w0 (w'.setCell ⟨VB, 0, none⟩ (.slice A' (n + 1) c')) CB VB A' (n + 1) c' (L ++ [S]) B m d X s := by
 obtain ⟨cs, hb⟩ := cur_blk h.cur
 have h2 : Blk w' VB 25 (vwA A n c B m d) := h.blk.grown hg (own_other h.own1 h.blk (by decide))
 have h3 := grown_set w' VB 0 (.slice A' (n + 1) c')
 have h4 : Ext w0 w' := Below.grown h.low hg h.low.size (fun k hk => (World.ownsRow.lt h.own1 k hk).1)
 have h5 : Ext w0 (w'.setCell ⟨VB, 0, none⟩ (.slice A' (n + 1) c')) := h4.setCell (p := ⟨VB, 0, none⟩) (Nat.le_of_lt h.hV) _
 have hB1 : ∀ {A0 : Option Addr} {n0 c0 : Nat} {l0 : List UInt8}, OwnB w w0.heap.size 5 A0 n0 c0 l0 → OwnB (w'.setCell ⟨VB, 0, none⟩ (.slice A' (n + 1) c')) w0.heap.size 5 A0 n0 c0 l0 := fun hQ => by
  have hq : OwnB w' w0.heap.size 5 _ _ _ _ := World.ownsRow.kept hQ hg (own_ne hQ h.own1 (by decide))
  exact World.ownsRow.kept hq h3 (.inr (Ne.symm (own_other hq h2 (by decide))))
 refine ⟨h.cur.low ?_ (fun b hb => (h5.block b hb).trans (h.low.block b hb).symm), h2.set 0 _, ?_, ?_, ?_, fun T hT => hB1 (h.tex T hT), h5, h.hC, h.hV, (h.res.grown hg (own_other h.own1 h.res (by decide))).far (p := ⟨VB, 0, none⟩) (Nat.ne_of_lt h.hV) _⟩
 ·rw [Below.heap_setCell _ _ _ _ (Ne.symm h.ne)]
  exact hg.block CB hb.lt (own_other h.own1 hb (by decide))
 ·have := ho.kept h3 (.inr (Ne.symm (own_other ho h2 (by decide))))
  rw [gcs_append, gcs_one]
  exact this
 ·have hq := World.ownsRow.kept h.own2 hg (own_ne h.own2 h.own1 (by decide))
  exact hq.kept h3 (.inr (Ne.symm (own_other hq h2 (by decide))))
 ·intro Q hQ
  rcases List.mem_append.1 hQ with hQ | hQ
  ·exact ⟨hB1 (h.sig Q hQ).1, (h.sig Q hQ).2⟩
  ·rw [List.mem_singleton.1 hQ]; exact ⟨hB1 hS.1, hS.2⟩
theorem VdS.push2 (h : VdS w0 w CB VB A n c L B m d X s) {B' : Option Addr} {d' : Nat} {T : TeR} (hT : OwnB w w0.heap.size 5 T.A T.n T.c T.l) (hg : w.grownBy w' (Value.ownBlock (.slice B m d))) (ho : w'.ownsRow w0.heap.size 28 1 (.slice B' (m + 1) d') (m + 1) (gcs X ++ teL T)) :
  VdS w0 (w'.setCell ⟨VB, 1, none⟩ (.slice B' (m + 1) d')) CB VB A n c L B' (m + 1) d' (X ++ [T]) s := by
 obtain ⟨cs, hb⟩ := cur_blk h.cur
 have h2 : Blk w' VB 25 (vwA A n c B m d) := h.blk.grown hg (own_other h.own2 h.blk (by decide))
 have h3 := grown_set w' VB 1 (.slice B' (m + 1) d')
 have h4 : Ext w0 w' := Below.grown h.low hg h.low.size (fun k hk => (World.ownsRow.lt h.own2 k hk).1)
 have h5 : Ext w0 (w'.setCell ⟨VB, 1, none⟩ (.slice B' (m + 1) d')) := h4.setCell (p := ⟨VB, 1, none⟩) (Nat.le_of_lt h.hV) _
 have hB1 : ∀ {A0 : Option Addr} {n0 c0 : Nat} {l0 : List UInt8}, OwnB w w0.heap.size 5 A0 n0 c0 l0 → OwnB (w'.setCell ⟨VB, 1, none⟩ (.slice B' (m + 1) d')) w0.heap.size 5 A0 n0 c0 l0 := fun hQ => by
  have hq : OwnB w' w0.heap.size 5 _ _ _ _ := World.ownsRow.kept hQ hg (own_ne hQ h.own2 (by decide))
  exact World.ownsRow.kept hq h3 (.inr (Ne.symm (own_other hq h2 (by decide))))
 refine ⟨h.cur.low ?_ (fun b hb => (h5.block b hb).trans (h.low.block b hb).symm), h2.set 1 _, ?_, ?_, fun Q hQ => ⟨hB1 (h.sig Q hQ).1, (h.sig Q hQ).2⟩, ?_, h5, h.hC, h.hV, (h.res.grown hg (own_other h.own2 h.res (by decide))).far (p := ⟨VB, 1, none⟩) (Nat.ne_of_lt h.hV) _⟩
 ·rw [Below.heap_setCell _ _ _ _ (Ne.symm h.ne)]
  exact hg.block CB hb.lt (own_other h.own2 hb (by decide))
 ·have hq := World.ownsRow.kept h.own1 hg (own_ne h.own1 h.own2 (by decide))
  exact hq.kept h3 (.inr (Ne.symm (own_other hq h2 (by decide))))
 ·have := ho.kept h3 (.inr (Ne.symm (own_other ho h2 (by decide))))
  rw [gcs_append, gcs_one]
  exact this
 ·intro Q hQ
  rcases List.mem_append.1 hQ with hQ | hQ
  ·exact hB1 (h.tex Q hQ)
  ·rw [List.mem_singleton.1 hQ]; exact hB1 hT
end
end Go.Proofs.YtbfepgjeecndiaaGreat
