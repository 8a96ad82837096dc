/- The law ParcelDecode: its walk. -/
import Derived.Test.YtbfepgjeecndiaaGreatK50
import Derived.Test.YtbfepgjeecndiaaGreatK52
namespace Go.Proofs.YtbfepgjeecndiaaGreat
set_option maxRecDepth 100000
set_option maxHeartbeats 16000000
open Go.RowKit
set_option linter.unusedVariables false
set_option linter.unusedSimpArgs false
attribute [local go_sem ↓] Go.wp_at_zero Go.wp_at_succ
theorem rPcDec3_any (A : Option Addr) (n c : Nat) (l : List UInt8) (w : World) (hS : SlB w A n c l) (hbd : n ≤ 1000000) : Calls Tryz.prog 13 #[.slice A n c] w (PcDec3 w l) := (rPcDec_any A n c l w hS hbd).mono fun e w' h => h.to3
theorem parcelDecode_any (B : Option Addr) (m d : Nat) (l : List UInt8) (w : World) (hB : SlB w B m d l) :
  Calls Tryz.prog 4 #[.slice B m d] w fun e w' => e = .returned (.bool true) ∧ Ext w w' := by
 have hle := hB.le
 have hcap := hB.cap
 by_cases h5 : (m : Int) > 50000
 ·clear hB
  go_enter Tryz.func4, Tryz.ntmps4
  go_wp2_with fail
  refine (awake37_any _).mono ?_
  rintro e w9 ⟨rfl, he9⟩
  go_wp2_with fail
  go_ret
  exact ⟨rfl, he9⟩
 have HB := Lib.hid hB
 clear hB
 go_enter Tryz.func4, Tryz.ntmps4
 go_wp2_with fail
 refine (pcDec3_any B m d l w HB.out (by omega)).mono ?_
 rintro e w1 ⟨A1, n1, c1, L1, B1, m1, d1, X1, rfl, hv1, he1, hc1⟩
 obtain ⟨g2, hg2⟩ : ∃ q, w1.heap.size = q := ⟨_, rfl⟩
 obtain ⟨W2, hW2⟩ : ∃ W, w1.alloc (.cells (vwA A1 n1 c1 B1 m1 d1) 25) = W := ⟨_, rfl⟩
 have HN2 := Lib.hid (show Ext w1 W2 from by rw [← hW2]; exact (Ext.refl _).alloc' _)
 have HP2 := Lib.hid (show Blk W2 g2 25 (vwA A1 n1 c1 B1 m1 d1) from by rw [← hW2, ← hg2]; exact Blk.new _ _ _)
 have HE2 := Lib.hid (he1.trans HN2.out)
 have HV2 := Lib.hid (hv1.ext HN2.out)
 have HB2 := Lib.hid (HB.out.ext HE2.out)
 have HD := Lib.hid (fun (W : World) (he : Ext W2 W) => rPcDec3_any B m d l W (HB2.out.ext he) (by omega))
 have HC1 := Lib.hid hc1
 have HEN := Lib.hid (fun (h : pcDecV l = some (L1.map SgR.V, X1.map TeR.l)) (ho : (∀ S ∈ L1, S.sig.length = S.n) ∧ ∀ T ∈ X1, T.l.length = T.n) => show pcE L1 X1 = 0 ∧ encPc L1 X1 = l from by
  obtain ⟨h1, h2, -⟩ := encPcV_dec h
  exact ⟨by rw [pcE_V ho.1 ho.2]; exact h1, by rw [encPc_V]; exact h2⟩)
 have HCD := Lib.hid (fun (q : List SgV × List (List UInt8)) (h : pcDecV l = some q) => pcCd_zero h)
 obtain ⟨z, hz⟩ : ∃ z, pcCd l = z := ⟨_, rfl⟩
 have HZ := Lib.hid hz
 rw [hz] at HC1 ⊢
 clear hc1 hv1 he1 hz
 go_wp2_with (first | (with_reducible refine wpList_newVw rfl (.tmp 3) (.tmp 16) rfl _ rfl A1 n1 c1 B1 m1 d1 rfl rfl ?_))
 clear hW2 hg2
 refine (HD.out W2 (Ext.refl _)).mono ?_
 rintro e w3 ⟨A3, n3, c3, L3, B3, m3, d3, X3, rfl, hv3, he3, hc3⟩
 rw [HZ.out] at hc3 ⊢
 have HEQ := Lib.hid (show eqVw L1 X1 L3 X3 = true from by
  rcases HC1.out with ⟨h0, rfl, rfl⟩ | ⟨h0, hd1, -, -⟩
  ·rcases hc3 with ⟨-, rfl, rfl⟩ | ⟨h1, -⟩
   ·exact eqVw_of rfl rfl
   ·exact absurd h1 h0
  ·rcases hc3 with ⟨h1, -⟩ | ⟨-, hd3, -, -⟩
   ·exact absurd h0 h1
   ·rw [hd1] at hd3
    injection hd3 with hd3
    injection hd3 with h1 h2
    exact eqVw_of h1 h2)
 obtain ⟨g4, hg4⟩ : ∃ q, w3.heap.size = q := ⟨_, rfl⟩
 obtain ⟨W4, hW4⟩ : ∃ W, w3.alloc (.cells (vwA A3 n3 c3 B3 m3 d3) 25) = W := ⟨_, rfl⟩
 have HN4 := Lib.hid (show Ext w3 W4 from by rw [← hW4]; exact (Ext.refl _).alloc' _)
 have HP4 := Lib.hid (show Blk W4 g4 25 (vwA A3 n3 c3 B3 m3 d3) from by rw [← hW4, ← hg4]; exact Blk.new _ _ _)
 have HE34 := Lib.hid (he3.trans HN4.out)
 have HE4 := Lib.hid (HE2.out.trans HE34.out)
 have HV4 := Lib.hid (hv3.ext HN4.out)
 have HV24 := Lib.hid (HV2.out.ext HE34.out)
 have HP24 := Lib.hid (HP2.out.ext HE34.out)
 have HB4 := Lib.hid (HB2.out.ext HE34.out)
 obtain ⟨x0, x1⟩ := vw_facts HP24.out
 obtain ⟨y0, y1⟩ := vw_facts HP4.out
 clear hv3 he3 hc3 HD
 go_wp2_with (first | (with_reducible refine wpList_newVw rfl (.tmp 5) (.tmp 21) rfl _ rfl A3 n3 c3 B3 m3 d3 rfl rfl ?_))
 clear hW4 hg4
 refine (sameView_any A1 n1 c1 L1 B1 m1 d1 X1 A3 n3 c3 L3 B3 m3 d3 X3 W4 HV24.out.sl1 HV24.out.sl2 HV4.out.sl1 HV4.out.sl2).mono ?_
 rw [HEQ.out]
 rintro e w5 ⟨rfl, he5⟩
 have HP25 := Lib.hid (HP24.out.ext he5)
 have HV25 := Lib.hid (HV24.out.ext he5)
 have HB5 := Lib.hid (HB4.out.ext he5)
 have HE5 := Lib.hid (HE4.out.trans he5)
 have HOK := Lib.hid (show (∀ S ∈ L1, S.sig.length = S.n) ∧ ∀ T ∈ X1, T.l.length = T.n from ⟨fun S hS => (HV25.out.sl1.ok S hS).sig.len, fun T hT => SlB.len (HV25.out.sl2.ok T hT)⟩)
 clear x0 x1 y0 y1 he5
 obtain ⟨x0, x1⟩ := vw_facts HP25.out
 rcases HC1.out with ⟨h0, hL, hX⟩ | ⟨h0, hd1, -, -⟩
 ·have z1 : (z != 0) = true := bne_iff_ne.2 h0
  have z2 : (z == 0) = false := beq_eq_false_iff_ne.2 h0
  clear hL hX h0 HEN
  go_wp2_with fail
  refine (pcEnc_any A1 n1 c1 L1 B1 m1 d1 X1 w5 HV25.out.sl1 HV25.out.sl2).mono ?_
  rintro e w6 ⟨hc6, he6⟩
  have HE6 := Lib.hid (HE5.out.trans he6)
  clear x0 x1
  rcases hc6 with ⟨-, rfl⟩ | ⟨-, A6, n6, c6, rfl, -, -⟩
  ·go_wp2_with fail
   refine (awake37_any _).mono ?_
   rintro e w9 ⟨rfl, he9⟩
   go_wp2_with fail
   go_ret
   exact ⟨rfl, HE6.out.trans he9⟩
  ·go_wp2_with fail
   refine (awake37_any _).mono ?_
   rintro e w9 ⟨rfl, he9⟩
   go_wp2_with fail
   go_ret
   exact ⟨rfl, HE6.out.trans he9⟩
 ·obtain ⟨hp0, hp1⟩ := HEN.out hd1 HOK.out
  subst h0
  have HPE := Lib.hid (show Calls Tryz.prog 9 #[.agg (vwA A1 n1 c1 B1 m1 d1)] w5 (PcEnc2 w5 0 l) from by
   have := pcEnc_any A1 n1 c1 L1 B1 m1 d1 X1 w5 HV25.out.sl1 HV25.out.sl2
   unfold PcEnc at this
   rw [hp0, hp1] at this
   exact this)
  clear hp0 hp1 hd1 HEN
  go_wp2_with fail
  refine HPE.out.mono ?_
  rintro e w6 ⟨hc6, he6⟩
  have HE6 := Lib.hid (HE5.out.trans he6)
  clear x0 x1
  rcases hc6 with ⟨h0, -⟩ | ⟨-, A6, n6, c6, rfl, ho6, -⟩
  ·exact absurd rfl h0
  obtain ⟨s0, hs0⟩ : ∃ s, strV l = s := ⟨_, rfl⟩
  have f1 : (convert 28 9 (.slice A6 n6 c6)).run Tryz.prog w6 = .ok (.string s0) w6 := by rw [← hs0]; exact run_strV ho6.sl
  have f1b : (convert 28 9 (.slice B m d)).run Tryz.prog w6 = .ok (.string s0) w6 := by rw [← hs0]; exact run_strV (HB5.out.ext he6)
  have f2 : (s0.toList == s0.toList) = true := beq_self_eq_true _
  clear hs0 ho6 he6
  go_wp2_with fail
  refine (awake37_any _).mono ?_
  rintro e w9 ⟨rfl, he9⟩
  go_wp2_with fail
  go_ret
  exact ⟨rfl, HE6.out.trans he9⟩
end Go.Proofs.YtbfepgjeecndiaaGreat
