/- The law ParcelEncode: its walk. -/
import Derived.Test.YtbfepgjeecndiaaGreatK11
import Derived.Test.YtbfepgjeecndiaaGreatK52
namespace Go.Proofs.YtbfepgjeecndiaaGreat
set_option maxRecDepth 100000
set_option maxHeartbeats 16000000
open Go.RowKit
set_option linter.unusedVariables false
set_option linter.unusedSimpArgs false
attribute [local go_sem ↓] Go.wp_at_zero Go.wp_at_succ
theorem parcelEncode_any (A : Option Addr) (n c : Nat) (L : List SgR) (B : Option Addr) (m d : Nat) (X : List TeR) (w : World) (hS : SlG w A n c L) (hX : SlG w B m d X) (z1 : VwZ n m L X) :
  Calls Tryz.prog 3 #[.agg (vwA A n c B m d)] w fun e w' => e = .returned (.bool true) ∧ Ext w w' := by
 obtain ⟨W2, hW2⟩ : ∃ W2, w.alloc (.cells (vwA A n c B m d) 25) = W2 := ⟨_, rfl⟩
 have HEW := Lib.hid (show Ext w W2 from by rw [← hW2]; exact (Ext.refl w).alloc' _)
 have HPA := Lib.hid (show Blk W2 w.heap.size 25 (vwA A n c B m d) from by rw [← hW2]; exact Blk.new _ _ _)
 have HS := Lib.hid (hS.ext HEW.out)
 have HX := Lib.hid (hX.ext HEW.out)
 have HZS := Lib.hid (show ∀ S ∈ L, S.n ≤ 140737488355328 from fun S h => Nat.le_trans (z1.s S h) (by omega))
 have HZT := Lib.hid (show ∀ S ∈ X, S.n ≤ 140737488355328 from fun S h => Nat.le_trans (z1.t S h) (by omega))
 have hz1 := z1.n
 have hz2 := z1.m
 obtain ⟨c0, c1⟩ := vw_facts HPA.out
 clear hS hX z1
 go_enter Tryz.func3, Tryz.ntmps3
 go_wp2_with fail
 clear hW2
 refine (heavy_any A n c L B m d X W2 HS.out HX.out (by omega) (by omega)).mono ?_
 rintro e w3 ⟨bh, rfl, hb, he3⟩
 have HEW := Lib.hid (HEW.out.trans he3)
 have HPA := Lib.hid (HPA.out.ext he3)
 have HS := Lib.hid (HS.out.ext he3)
 have HX := Lib.hid (HX.out.ext he3)
 clear c0 c1 he3
 obtain ⟨c0, c1⟩ := vw_facts HPA.out
 cases bh with
 | true =>
  go_wp2_with fail
  refine (awake37_any _).mono ?_
  rintro e w9 ⟨rfl, he9⟩
  go_wp2_with fail
  go_ret
  exact ⟨rfl, HEW.out.trans he9⟩
 | false =>
  have hb1 := hb rfl
  clear hb
  have HOKS := Lib.hid (show ∀ S ∈ L, S.sig.length = S.n from fun S hS => (HS.out.ok S hS).sig.len)
  have HOKX := Lib.hid (show ∀ T ∈ X, T.l.length = T.n from fun T hT => SlB.len (HX.out.ok T hT))
  have HWF := Lib.hid (show ∀ v ∈ L.map SgR.V, v.1.wf from fun v hv => by
   obtain ⟨S, hS, rfl⟩ := List.mem_map.1 hv
   exact (HS.out.ok S hS).v)
  have HPD := Lib.hid (fun (h : pcE L X = 0) => show pcDecV (encPc L X) = some (L.map SgR.V, X.map TeR.l) from by rw [encPc_V]; exact pcDecV_enc HWF.out (by rw [← pcE_V HOKS.out HOKX.out]; exact h))
  obtain ⟨z, hz⟩ : ∃ z, pcE L X = z := ⟨_, rfl⟩
  obtain ⟨l, hl⟩ : ∃ l, encPc L X = l := ⟨_, rfl⟩
  have HE1 := Lib.hid (show Calls Tryz.prog 9 #[.agg (vwA A n c B m d)] w3 (PcEnc2 w3 z l) from by rw [← hz, ← hl]; exact pcEnc_any A n c L B m d X w3 HS.out HX.out)
  have HE2 := Lib.hid (fun (W : World) (he : Ext w3 W) => show Calls Tryz.prog 10 #[.agg (vwA A n c B m d)] W (PcEnc2 W z l) from by rw [← hz, ← hl]; exact rPcEnc_any A n c L B m d X W (HS.out.ext he) (HX.out.ext he))
  rw [hz, hl] at HPD
  clear hz hl HWF HOKS HOKX
  go_wp2_with fail
  refine HE1.out.mono ?_
  rintro e w4 ⟨hc4, he4⟩
  have HPA := Lib.hid (HPA.out.ext he4)
  have HEW4 := Lib.hid (HEW.out.trans he4)
  clear c0 c1
  obtain ⟨c0, c1⟩ := vw_facts HPA.out
  rcases hc4 with ⟨hne, rfl⟩ | ⟨rfl, A4, n4, c4, rfl, ho4, hn4⟩
  ·go_wp2_with fail
   refine (HE2.out w4 he4).mono ?_
   rintro e w5 ⟨hc5, he5⟩
   rcases hc5 with ⟨-, rfl⟩ | ⟨h0, -⟩
   case inr => exact absurd h0 hne
   have HEW5 := Lib.hid (HEW4.out.trans he5)
   have z1 : (z != 0) = true := bne_iff_ne.2 hne
   have z2 : (z == 0) = false := beq_eq_false_iff_ne.2 hne
   clear hne c0 c1 HPD HE1 HE2
   go_wp2_with fail
   refine (pcDec3_any none 0 0 [] w5 (SlB.nil w5) (by omega)).mono ?_
   rintro e w6 ⟨A6, n6, c6, L6, B6, m6, d6, X6, rfl, hv6, he6, -⟩
   obtain ⟨g7, hg7⟩ : ∃ q, w6.heap.size = q := ⟨_, rfl⟩
   obtain ⟨W7, hW7⟩ : ∃ W, w6.alloc (.cells (vwA A6 n6 c6 B6 m6 d6) 25) = W := ⟨_, rfl⟩
   have HN7 := Lib.hid (show Ext w6 W7 from by rw [← hW7]; exact (Ext.refl _).alloc' _)
   have HP7 := Lib.hid (show Blk W7 g7 25 (vwA A6 n6 c6 B6 m6 d6) from by rw [← hW7, ← hg7]; exact Blk.new _ _ _)
   have HEW7 := Lib.hid (HEW5.out.trans (he6.trans HN7.out))
   have HS0 := Lib.hid (fun (W : World) => run_strV (SlB.nil W))
   obtain ⟨s0, hs0⟩ : ∃ s, strV [] = s := ⟨_, rfl⟩
   rw [hs0] at HS0
   have f1 := fun (W : World) => HS0.out W
   have f2 : (s0.toList == s0.toList) = true := beq_self_eq_true _
   clear hs0 HP7 hv6 he6
   go_wp2_with (first | (with_reducible refine wpList_newVw rfl (.tmp 7) (.tmp 25) rfl _ rfl A6 n6 c6 B6 m6 d6 rfl rfl ?_))
   refine (awake37_any _).mono ?_
   rintro e w9 ⟨rfl, he9⟩
   go_wp2_with fail
   go_ret
   exact ⟨rfl, HEW7.out.trans he9⟩
  ·have HD := Lib.hid (HPD.out rfl)
   have HO4 := Lib.hid ho4
   clear HPD ho4
   go_wp2_with fail
   refine (HE2.out w4 he4).mono ?_
   rintro e w5 ⟨hc5, he5⟩
   rcases hc5 with ⟨h0, -⟩ | ⟨-, A5, n5, c5, rfl, ho5, hn5⟩
   ·exact absurd rfl h0
   have HEW5 := Lib.hid (HEW4.out.trans he5)
   have HPA := Lib.hid (HPA.out.ext he5)
   have HO5 := Lib.hid ho5
   have HO45 := Lib.hid (HO4.out.ext he5)
   have HS5 := Lib.hid (HS.out.ext (he4.trans he5))
   have HX5 := Lib.hid (HX.out.ext (he4.trans he5))
   clear c0 c1 ho5 HE1 HE2 HS HX
   go_wp2_with fail
   refine (pcDec3_any A4 n4 c4 l w5 HO45.out.sl (by omega)).mono ?_
   rintro e w6 ⟨A6, n6, c6, L6, B6, m6, d6, X6, rfl, hv6, he6, hc6⟩
   have hcd : pcCd l = 0 := pcCd_zero HD.out
   rcases hc6 with ⟨h0, -⟩ | ⟨-, hdv, -, -⟩
   ·exact absurd hcd h0
   obtain ⟨g7, hg7⟩ : ∃ q, w6.heap.size = q := ⟨_, rfl⟩
   obtain ⟨W7, hW7⟩ : ∃ W, w6.alloc (.cells (vwA A6 n6 c6 B6 m6 d6) 25) = W := ⟨_, rfl⟩
   have HN7 := Lib.hid (show Ext w6 W7 from by rw [← hW7]; exact (Ext.refl _).alloc' _)
   have HP7 := Lib.hid (show Blk W7 g7 25 (vwA A6 n6 c6 B6 m6 d6) from by rw [← hW7, ← hg7]; exact Blk.new _ _ _)
   have HEQ := Lib.hid (show eqVw L6 X6 L X = true from by
    rw [HD.out] at hdv
    injection hdv with hdv
    injection hdv with h1 h2
    exact eqVw_of h1.symm h2.symm)
   have HE67 := Lib.hid (he6.trans HN7.out)
   have HEW7 := Lib.hid (HEW5.out.trans HE67.out)
   have HPA7 := Lib.hid (HPA.out.ext HE67.out)
   have HV7 := Lib.hid (hv6.ext HN7.out)
   have HS7 := Lib.hid (HS5.out.ext HE67.out)
   have HX7 := Lib.hid (HX5.out.ext HE67.out)
   obtain ⟨s0, hs0⟩ : ∃ s, strV l = s := ⟨_, rfl⟩
   have f1 : (convert 28 9 (.slice A4 n4 c4)).run Tryz.prog W7 = .ok (.string s0) W7 := by rw [← hs0]; exact run_strV (HO45.out.ext HE67.out).sl
   have f1b : (convert 28 9 (.slice A5 n5 c5)).run Tryz.prog W7 = .ok (.string s0) W7 := by rw [← hs0]; exact run_strV (HO5.out.ext HE67.out).sl
   have f2 : (s0.toList == s0.toList) = true := beq_self_eq_true _
   obtain ⟨x0, x1⟩ := vw_facts HPA7.out
   obtain ⟨y0, y1⟩ := vw_facts HP7.out
   rw [hcd]
   clear hs0 hdv hv6 he6 hcd he5
   go_wp2_with (first | (with_reducible refine wpList_newVw rfl (.tmp 7) (.tmp 25) rfl _ rfl A6 n6 c6 B6 m6 d6 rfl rfl ?_))
   refine (sameView_any A6 n6 c6 L6 B6 m6 d6 X6 A n c L B m d X W7 HV7.out.sl1 HV7.out.sl2 HS7.out HX7.out).mono ?_
   rw [HEQ.out]
   rintro e w8 ⟨rfl, he8⟩
   have HEW8 := Lib.hid (HEW7.out.trans he8)
   clear x0 x1 y0 y1 f1 f1b
   go_wp2_with fail
   refine (awake37_any _).mono ?_
   rintro e w9 ⟨rfl, he9⟩
   go_wp2_with fail
   go_ret
   exact ⟨rfl, HEW8.out.trans he9⟩
end Go.Proofs.YtbfepgjeecndiaaGreat
