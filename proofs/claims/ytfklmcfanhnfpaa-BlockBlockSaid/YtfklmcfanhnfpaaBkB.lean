/- The walk of BlockBlock. -/
import Derived.Test.YtfklmcfanhnfpaaRb3
import Derived.Test.YtfklmcfanhnfpaaPlB
namespace Go.Proofs.Ytfklmcfanhnfpaa
open Go.RowKit
set_option linter.unusedVariables false
set_option linter.unusedSimpArgs false
attribute [local go_sem ↓] Go.wp_at_zero Go.wp_at_succ

theorem decBlk_nil : decBlk [] = none := by simp [decBlk, openU, kindU, rRest, rNum, stC]
theorem blk_facts {w : World} {g : Nat} {t : TypeId} {p : UInt64} {A : Option Addr} {n c : Nat} (h : Blk w g t (blkC p A n c)) : (∀ i, i < 8 → w.cell? ⟨g, i, none⟩ = some (.int .u8 (nb8 p i))) ∧ w.cell? ⟨g, 8, none⟩ = some (.slice A n c) :=
  ⟨fun i hi => by have := cells8At (blkC_range h) i hi; rwa [Nat.zero_add] at this, h.cell 8⟩
set_option maxRecDepth 100000 in
set_option maxHeartbeats 4000000 in
theorem blockBlock_any (p : UInt64) (A : Option Addr) (n c : Nat) (L : List (Int × UInt64)) (w : World) (hS : SlC w A n c L) :
    Calls Try.prog 5 #[.agg (blkC p A n c)] w fun e w' => e = .returned (.bool true) ∧ Ext w w' := by
  have hlen := hS.len
  have hle := hS.le
  have hcap := hS.cap
  have hE := (Ext.refl w).alloc' (.cells (blkC p A n c) 41)
  have HB := Lib.hid (Blk.new w 41 (blkC p A n c))
  have HS := Lib.hid (hS.ext hE)
  have HE := Lib.hid hE
  have HLEN := Lib.hid hlen
  clear hS hE hlen
  by_cases hbig : 300 < n
  · have i1 : (300 : Int) < (n : Int) := by omega
    go_enter Try.func5, Try.ntmps5
    go_wp2_with fail
    refine (awake24_any _).mono ?_
    rintro e w1 ⟨rfl, he1⟩
    go_wp2_with fail
    go_ret
    exact ⟨rfl, HE.out.trans he1⟩
  · have i1 : decide ((300 : Int) < (n : Int)) = false := decide_eq_false (by omega)
    have i2 : (n : Int) ≤ 300 := by omega
    by_cases hv : vldBlk L = true
    · have HV := Lib.hid hv
      have HID := Lib.hid (fun k (hk : k < n) => WalkArith.wf_i64 (n := idN L k) (by have := vld_ids hv k (by rw [HLEN.out]; exact hk); omega))
      clear hv
      go_enter Try.func5, Try.ntmps5
      go_wp2_with fail
      refine (encBlock_yes p A n c L _ HS.out HV.out).mono ?_
      rintro e w1 ⟨A1, n1, c1, rfl, hS1, he1⟩
      have HS1 := Lib.hid hS1
      have HSv1 := Lib.hid (HS.out.ext he1)
      have HB1 := Lib.hid (HB.out.ext he1)
      have HE1 := Lib.hid (HE.out.trans he1)
      obtain ⟨q0, q1⟩ := blk_facts HB1.out
      clear hS1 he1 HS HB HE
      go_wp2_with fail
      refine (refEncBlock_yes p A n c L _ HSv1.out HV.out).mono ?_
      rintro e w2 ⟨A2, n2, c2, rfl, hS2, he2⟩
      have HS2 := Lib.hid hS2
      have HS12 := Lib.hid (HS1.out.ext he2)
      have HSv2 := Lib.hid (HSv1.out.ext he2)
      have HB2 := Lib.hid (HB1.out.ext he2)
      have HE2 := Lib.hid (HE1.out.trans he2)
      have HL1 := Lib.hid (show n1 ≤ 140737488355328 by have := HS12.out.len; rw [encBlk_length, HLEN.out] at this; omega)
      clear hS2 he2 HS1 HSv1 HB1 HE1 q0 q1
      go_wp2_with fail
      refine (decBlock_any A1 n1 c1 _ _ HS12.out HL1.out).mono ?_
      rintro e w3 ⟨he3, hout⟩
      rw [decBlk_enc p L HV.out] at hout
      obtain ⟨hh, _⟩ | ⟨p', L', A5, n5, c5, hpl, rfl, hS5⟩ := hout
      · cases hh
      · injection hpl with hpl
        injection hpl with hp hL
        subst hp; subst hL
        obtain rfl : n5 = n := by rw [← hS5.len, HLEN.out]
        have hA3 := (Ext.refl w3).alloc' (.cells (blkC p A5 n5 c5) 41)
        have HX3 := Lib.hid (he3.trans hA3)
        have HE3 := Lib.hid (HE2.out.trans HX3.out)
        have k1 := run_strV (HS12.out.ext HX3.out)
        have k2 := run_strV (HS2.out.ext HX3.out)
        obtain ⟨q0, q1⟩ := blk_facts (HB2.out.ext HX3.out)
        obtain ⟨r0, r1⟩ := blk_facts (Blk.new w3 41 (blkC p A5 n5 c5))
        have HSB := Lib.hid (sameBlock_yes p A5 A n5 c5 c L _ (hS5.ext hA3) (HSv2.out.ext HX3.out) (by omega) HID.out)
        have HK := Lib.hid (fun (W : World) (h : Ext (w3.alloc (.cells (blkC p A5 n5 c5) 41)) W) => show Calls Try.prog 12 #[.slice A1 n1 c1] W (fun e w' => e = .returned (.int .i64 3) ∧ W = w') from by
          have := kind_any A1 n1 c1 _ W ((HS12.out.ext HX3.out).ext h)
          rw [kindU_blk] at this; exact this)
        clear he3 hA3 HS12 HS2 HB2 HE2 HX3 HSv2 hS5
        go_wp2_with fail
        refine HSB.out.mono ?_
        rintro e w6 ⟨rfl, he6⟩
        clear q0 q1 r0 r1 k1 k2
        go_wp2_with fail
        refine (HK.out _ he6).mono ?_
        rintro e w7 ⟨rfl, rfl⟩
        go_wp2_with fail
        refine (awake24_any _).mono ?_
        rintro e w8 ⟨rfl, he8⟩
        go_wp2_with fail
        go_ret
        exact ⟨rfl, HE3.out.trans (he6.trans he8)⟩
    · have hv' : vldBlk L = false := by simpa using hv
      have HV := Lib.hid hv'
      clear hv hv'
      go_enter Try.func5, Try.ntmps5
      go_wp2_with fail
      refine (encBlock_no p A n c L _ HS.out (by omega) HV.out).mono ?_
      rintro e w1 ⟨rfl, he1⟩
      have HSv1 := Lib.hid (HS.out.ext he1)
      have HE1 := Lib.hid (HE.out.trans he1)
      obtain ⟨q0, q1⟩ := blk_facts (HB.out.ext he1)
      clear he1 HS HB HE
      go_wp2_with fail
      refine (refEncBlock_no p A n c L _ HSv1.out (by omega) HV.out).mono ?_
      rintro e w2 ⟨rfl, he2⟩
      have HE2 := Lib.hid (HE1.out.trans he2)
      clear he2 q0 q1 HSv1 HE1
      go_wp2_with fail
      refine (decBlock_any none 0 0 [] _ (SlB.nil _) (by omega)).mono ?_
      rintro e w3 ⟨he3, hout⟩
      rw [decBlk_nil] at hout
      obtain ⟨_, rfl⟩ | ⟨p', L', A5, n5, c5, hpl, _, _⟩ := hout
      · have HE3 := Lib.hid (HE2.out.trans (he3.trans ((Ext.refl w3).alloc' (.cells zero9 41))))
        have k1 := run_strV (SlB.nil (w3.alloc (.cells zero9 41)))
        clear he3 HE2
        go_wp2_with fail
        refine (awake24_any _).mono ?_
        rintro e w8 ⟨rfl, he8⟩
        go_wp2_with fail
        go_ret
        exact ⟨rfl, HE3.out.trans he8⟩
      · cases hpl
end Go.Proofs.Ytfklmcfanhnfpaa
