/- The walk of BlockGenesis. -/
import Derived.Test.YtfklmcfanhnfpaaGs
import Derived.Test.YtfklmcfanhnfpaaPlG
namespace Go.Proofs.Ytfklmcfanhnfpaa
open Go.RowKit
set_option linter.unusedVariables false
set_option linter.unusedSimpArgs false
attribute [local go_sem ↓] Go.wp_at_zero Go.wp_at_succ

theorem gen_facts {w : World} {g : Nat} {t : TypeId} {N Z : Int} {A1 : Option Addr} {n1 c1 : Nat} {A2 : Option Addr} {n2 c2 : Nat} {A3 : Option Addr} {n3 c3 : Nat} (h : Blk w g t (genC N Z A1 n1 c1 A2 n2 c2 A3 n3 c3)) : w.cell? ⟨g, 0, none⟩ = some (.int .i64 N) ∧ w.cell? ⟨g, 1, none⟩ = some (.int .i64 Z) ∧ w.cell? ⟨g, 2, none⟩ = some (.slice A1 n1 c1) ∧ w.cell? ⟨g, 3, none⟩ = some (.slice A2 n2 c2) ∧ w.cell? ⟨g, 4, none⟩ = some (.slice A3 n3 c3) :=
  ⟨h.cell 0, h.cell 1, h.cell 2, h.cell 3, h.cell 4⟩
set_option maxRecDepth 100000 in
set_option maxHeartbeats 4000000 in
theorem blockGenesis_any (N Z : Int) (A1 : Option Addr) (n1 c1 : Nat) (A2 : Option Addr) (n2 c2 : Nat) (A3 : Option Addr) (n3 c3 : Nat) (V Ac : List UInt64) (Bl : List Int) (w : World) (h1 : SlN w A1 n1 c1 V) (h2 : SlN w A2 n2 c2 Ac) (h3 : SlZ w A3 n3 c3 Bl) :
    Calls Try.prog 6 #[.agg (genC N Z A1 n1 c1 A2 n2 c2 A3 n3 c3)] w fun e w' => e = .returned (.bool true) ∧ Ext w w' := by
  have m1 := h1.le
  have m2 := h1.cap
  have m3 := h2.le
  have m4 := h2.cap
  have m5 := h3.le
  have m6 := h3.cap
  have HL1 := Lib.hid h1.len
  have HL2 := Lib.hid h2.len
  have HL3 := Lib.hid h3.len
  have hE := (Ext.refl w).alloc' (.cells (genC N Z A1 n1 c1 A2 n2 c2 A3 n3 c3) 50)
  have HB := Lib.hid (Blk.new w 50 (genC N Z A1 n1 c1 A2 n2 c2 A3 n3 c3))
  have HS1 := Lib.hid (h1.ext hE)
  have HS2 := Lib.hid (h2.ext hE)
  have HS3 := Lib.hid (h3.ext hE)
  have HE := Lib.hid hE
  clear h1 h2 h3 hE
  by_cases hbig : n1 ≤ 300 ∧ n2 ≤ 300 ∧ n3 ≤ 300
  · obtain ⟨g1, g2, g3⟩ := hbig
    have d1 : decide ((300 : Int) < (n1 : Int)) = false := decide_eq_false (by omega)
    have d2 : decide ((300 : Int) < (n2 : Int)) = false := decide_eq_false (by omega)
    have d3 : decide ((300 : Int) < (n3 : Int)) = false := decide_eq_false (by omega)
    by_cases hv : vldG N Z n1 n2 n3 Bl = true
    · have HV := Lib.hid hv
      have HDE := Lib.hid (decG_enc N Z V Ac Bl (by rw [HL1.out, HL2.out, HL3.out]; exact hv))
      clear hv
      go_enter Try.func6, Try.ntmps6
      go_wp2_with fail
      refine (encGenesis_yes N Z A1 n1 c1 A2 n2 c2 A3 n3 c3 V Ac Bl _ HS1.out HS2.out HS3.out HV.out).mono ?_
      rintro e w1 ⟨E1, l1, k1, rfl, hT1, he1⟩
      have HT1 := Lib.hid hT1
      have HX1 := Lib.hid he1
      obtain ⟨q0, q1, q2, q3, q4⟩ := gen_facts (HB.out.ext he1)
      clear hT1 he1
      go_wp2_with fail
      refine (refEncGenesis_yes N Z A1 n1 c1 A2 n2 c2 A3 n3 c3 V Ac Bl _ (HS1.out.ext HX1.out) (HS2.out.ext HX1.out) (HS3.out.ext HX1.out) HV.out).mono ?_
      rintro e w2 ⟨E2, l2, k2, rfl, hT2, he2⟩
      have HT2 := Lib.hid hT2
      have HT12 := Lib.hid (HT1.out.ext he2)
      have HX2 := Lib.hid (HX1.out.trans he2)
      have HLL := Lib.hid (show l1 ≤ 140737488355328 by have := HT12.out.len; rw [encG_length, HL1.out, HL2.out] at this; omega)
      clear hT2 he2 HT1 HX1 q0 q1 q2 q3 q4
      go_wp2_with fail
      refine (decGenesis_any E1 l1 k1 _ _ HT12.out HLL.out).mono ?_
      rintro e w3 ⟨he3, hout⟩
      rw [HDE.out] at hout
      obtain ⟨hh, _⟩ | ⟨g, B1, b1, f1, B2, b2, f2, B3, b3, f3, hg, rfl, s1, s2, s3⟩ := hout
      · cases hh
      · injection hg with hg
        subst hg
        simp only at s1 s2 s3
        obtain rfl : b1 = n1 := by rw [← s1.len, HL1.out]
        obtain rfl : b2 = n2 := by rw [← s2.len, HL2.out]
        obtain rfl : b3 = n3 := by rw [← s3.len, HL3.out]
        have hA3 := (Ext.refl w3).alloc' (.cells (genC N Z B1 b1 f1 B2 b2 f2 B3 b3 f3) 50)
        have HX3 := Lib.hid (HX2.out.trans (he3.trans hA3))
        have HY3 := Lib.hid (he3.trans hA3)
        have r1 := run_strV (HT12.out.ext HY3.out)
        have r2 := run_strV (HT2.out.ext HY3.out)
        obtain ⟨q0, q1, q2, q3, q4⟩ := gen_facts (HB.out.ext HX3.out)
        obtain ⟨p0, p1, p2, p3, p4⟩ := gen_facts (Blk.new w3 50 (genC N Z B1 b1 f1 B2 b2 f2 B3 b3 f3))
        have HSB := Lib.hid (sameGenesis_yes N Z B1 b1 f1 B2 b2 f2 B3 b3 f3 A1 c1 A2 c2 A3 c3 V Ac Bl _ (s1.ext hA3) (s2.ext hA3) (s3.ext hA3) (HS1.out.ext HX3.out) (HS2.out.ext HX3.out) (HS3.out.ext HX3.out))
        have HK := Lib.hid (fun (W : World) (h : Ext (w3.alloc (.cells (genC N Z B1 b1 f1 B2 b2 f2 B3 b3 f3) 50)) W) => show Calls Try.prog 12 #[.slice E1 l1 k1] W (fun e w' => e = .returned (.int .i64 1) ∧ W = w') from by
          have := kind_any E1 l1 k1 _ W ((HT12.out.ext HY3.out).ext h)
          rw [kindU_encG] at this; exact this)
        have HE3 := Lib.hid (HE.out.trans HX3.out)
        clear he3 hA3 HT12 HT2 HX2 HX3 HY3 s1 s2 s3
        go_wp2_with fail
        refine HSB.out.mono ?_
        rintro e w6 ⟨rfl, he6⟩
        clear q0 q1 q2 q3 q4 p0 p1 p2 p3 p4 r1 r2
        go_wp2_with fail
        refine (HK.out _ he6).mono ?_
        rintro e w7 ⟨rfl, rfl⟩
        go_wp2_with fail
        refine (awake24_any _).mono ?_
        rintro e w8 ⟨rfl, he8⟩
        go_wp2_with fail
        go_ret
        exact ⟨rfl, HE3.out.trans (he6.trans he8)⟩
    · have hv' : vldG N Z n1 n2 n3 Bl = false := by simpa using hv
      have HV := Lib.hid hv'
      clear hv hv'
      go_enter Try.func6, Try.ntmps6
      go_wp2_with fail
      refine (encGenesis_no N Z A1 n1 c1 A2 n2 c2 A3 n3 c3 Bl _ HS3.out (by omega) (by omega) HV.out).mono ?_
      rintro e w1 ⟨rfl, he1⟩
      have HX1 := Lib.hid he1
      obtain ⟨q0, q1, q2, q3, q4⟩ := gen_facts (HB.out.ext he1)
      clear he1
      go_wp2_with fail
      refine (refEncGenesis_no N Z A1 n1 c1 A2 n2 c2 A3 n3 c3 Bl _ (HS3.out.ext HX1.out) (by omega) (by omega) HV.out).mono ?_
      rintro e w2 ⟨rfl, he2⟩
      have HE2 := Lib.hid (HE.out.trans (HX1.out.trans he2))
      clear he2 q0 q1 q2 q3 q4
      go_wp2_with fail
      refine (decGenesis_any none 0 0 [] _ (SlB.nil _) (by omega)).mono ?_
      rintro e w3 ⟨he3, hout⟩
      rw [decG_nil] at hout
      obtain ⟨_, rfl⟩ | ⟨g, B1, b1, f1, B2, b2, f2, B3, b3, f3, hg, _, _, _, _⟩ := hout
      · have HE3 := Lib.hid (HE2.out.trans (he3.trans ((Ext.refl w3).alloc' (.cells zeroG 50))))
        have r1 := run_strV (SlB.nil (w3.alloc (.cells zeroG 50)))
        clear he3 HE2
        go_wp2_with fail
        refine (awake24_any _).mono ?_
        rintro e w8 ⟨rfl, he8⟩
        go_wp2_with fail
        go_ret
        exact ⟨rfl, HE3.out.trans he8⟩
      · cases hg
  · have hc : (300 : Int) < (n1 : Int) ∨ (decide ((300 : Int) < (n1 : Int)) = false ∧ (300 : Int) < (n2 : Int)) ∨ (decide ((300 : Int) < (n1 : Int)) = false ∧ decide ((300 : Int) < (n2 : Int)) = false ∧ (300 : Int) < (n3 : Int)) := by
      by_cases t1 : 300 < n1
      · exact .inl (by omega)
      · by_cases t2 : 300 < n2
        · exact .inr (.inl ⟨decide_eq_false (by omega), by omega⟩)
        · exact .inr (.inr ⟨decide_eq_false (by omega), decide_eq_false (by omega), by omega⟩)
    clear hbig
    rcases hc with d1 | ⟨d1, d2⟩ | ⟨d1, d2, d3⟩
    all_goals (
      go_enter Try.func6, Try.ntmps6
      go_wp2_with fail
      refine (awake24_any _).mono ?_
      rintro e w1 ⟨rfl, he1⟩
      go_wp2_with fail
      go_ret
      exact ⟨rfl, HE.out.trans he1⟩)
end Go.Proofs.Ytfklmcfanhnfpaa
