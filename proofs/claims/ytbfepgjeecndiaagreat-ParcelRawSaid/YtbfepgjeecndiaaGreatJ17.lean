/- Valid votes (the reference's). -/
import Derived.Test.YtbfepgjeecndiaaGreatJ12
namespace Go.Proofs.YtbfepgjeecndiaaGreat
set_option maxRecDepth 100000
set_option maxHeartbeats 4000000
open Go.RowKit
set_option linter.unusedVariables false
set_option linter.unusedSimpArgs false
attribute [local go_sem ↓] Go.wp_at_zero Go.wp_at_succ
theorem agr_any (k : Int) (w : World) : Calls Tryz.prog 116 #[.int .i64 k] w fun e w' => e = .returned (.bool (inI k 1 4)) ∧ w = w' := by
 by_cases h1 : k ≥ 1
 ·by_cases h2 : k ≤ 4
  ·have HV := Lib.hid (show inI k 1 4 = true from decide_eq_true ⟨h1, h2⟩)
   go_enter Tryz.func116, Tryz.ntmps116
   go_wp2_with fail
   go_ret
   exact ⟨by rw [HV.out]; rfl, rfl⟩
  ·have HV := Lib.hid (show inI k 1 4 = false from decide_eq_false (fun h => h2 h.2))
   go_enter Tryz.func116, Tryz.ntmps116
   go_wp2_with fail
   go_ret
   exact ⟨by rw [HV.out]; rfl, rfl⟩
 ·have HV := Lib.hid (show inI k 1 4 = false from decide_eq_false (fun h => h1 h.1))
  go_enter Tryz.func116, Tryz.ntmps116
  go_wp2_with fail
  go_ret
  exact ⟨by rw [HV.out]; rfl, rfl⟩
theorem rVtV_k1 (v : VtR) (c0 : v.k < 1) (w : World) :
  Calls Tryz.prog 98 #[.agg (vtA v)] w fun e w' => e = .returned (.bool false) ∧ Ext w w' := by
 have HE := Lib.hid ((Ext.refl w).alloc' (.cells (vtA v) 46))
 obtain ⟨a0, a1, a2, a3, a4, a5, a6, a7⟩ := vt_facts (Blk.new w 46 (vtA v))
 have HB0 := Lib.hid (Blk.new w 46 (vtA v))
 go_enter Tryz.func98, Tryz.ntmps98
 go_wp2_with (fail)
 go_ret
 exact ⟨rfl, HE.out⟩
theorem rVtV_k7 (v : VtR) (c0 : ¬ v.k < 1) (c1 : v.k > 7) (w : World) :
  Calls Tryz.prog 98 #[.agg (vtA v)] w fun e w' => e = .returned (.bool false) ∧ Ext w w' := by
 have HE := Lib.hid ((Ext.refl w).alloc' (.cells (vtA v) 46))
 obtain ⟨a0, a1, a2, a3, a4, a5, a6, a7⟩ := vt_facts (Blk.new w 46 (vtA v))
 have HB0 := Lib.hid (Blk.new w 46 (vtA v))
 go_enter Tryz.func98, Tryz.ntmps98
 go_wp2_with (fail)
 go_ret
 exact ⟨rfl, HE.out⟩
theorem rVtV_s0 (v : VtR) (c0 : ¬ v.k < 1) (c1 : ¬ v.k > 7) (c2 : v.si < 0) (w : World) :
  Calls Tryz.prog 98 #[.agg (vtA v)] w fun e w' => e = .returned (.bool false) ∧ Ext w w' := by
 have HE := Lib.hid ((Ext.refl w).alloc' (.cells (vtA v) 46))
 obtain ⟨a0, a1, a2, a3, a4, a5, a6, a7⟩ := vt_facts (Blk.new w 46 (vtA v))
 have HB0 := Lib.hid (Blk.new w 46 (vtA v))
 go_enter Tryz.func98, Tryz.ntmps98
 go_wp2_with (fail)
 go_ret
 exact ⟨rfl, HE.out⟩
theorem rVtV_s9 (v : VtR) (c0 : ¬ v.k < 1) (c1 : ¬ v.k > 7) (c2 : ¬ v.si < 0) (c3 : v.si ≥ 10) (w : World) :
  Calls Tryz.prog 98 #[.agg (vtA v)] w fun e w' => e = .returned (.bool false) ∧ Ext w w' := by
 have HE := Lib.hid ((Ext.refl w).alloc' (.cells (vtA v) 46))
 obtain ⟨a0, a1, a2, a3, a4, a5, a6, a7⟩ := vt_facts (Blk.new w 46 (vtA v))
 have HB0 := Lib.hid (Blk.new w 46 (vtA v))
 go_enter Tryz.func98, Tryz.ntmps98
 go_wp2_with (fail)
 go_ret
 exact ⟨rfl, HE.out⟩
theorem rVtV_u (v : VtR) (c0 : ¬ v.k < 1) (c1 : ¬ v.k > 7) (c2 : ¬ v.si < 0) (c3 : ¬ v.si ≥ 10) (c4 : bits .andNot .i64 v.su 1023 ≠ 0) (c5 : (bits .andNot .i64 v.su 1023 != 0) = true) (w : World) :
  Calls Tryz.prog 98 #[.agg (vtA v)] w fun e w' => e = .returned (.bool false) ∧ Ext w w' := by
 have HE := Lib.hid ((Ext.refl w).alloc' (.cells (vtA v) 46))
 obtain ⟨a0, a1, a2, a3, a4, a5, a6, a7⟩ := vt_facts (Blk.new w 46 (vtA v))
 have HB0 := Lib.hid (Blk.new w 46 (vtA v))
 go_enter Tryz.func98, Tryz.ntmps98
 go_wp2_with (fail)
 go_ret
 exact ⟨rfl, HE.out⟩
theorem rVtV_l0 (v : VtR) (c0 : ¬ v.k < 1) (c1 : ¬ v.k > 7) (c2 : ¬ v.si < 0) (c3 : ¬ v.si ≥ 10) (c4 : bits .andNot .i64 v.su 1023 = 0) (c5 : v.sl < 0) (hag : inI v.k 1 4 = true) (w : World) :
  Calls Tryz.prog 98 #[.agg (vtA v)] w fun e w' => e = .returned (.bool false) ∧ Ext w w' := by
 have HE := Lib.hid ((Ext.refl w).alloc' (.cells (vtA v) 46))
 obtain ⟨a0, a1, a2, a3, a4, a5, a6, a7⟩ := vt_facts (Blk.new w 46 (vtA v))
 have HB0 := Lib.hid (Blk.new w 46 (vtA v))
 have HA := Lib.hid (fun W => agr_any v.k W)
 rw [hag] at HA
 clear hag
 go_enter Tryz.func98, Tryz.ntmps98
 go_wp2_with (go_at_call 116; (with_reducible refine (HA.out _).mono ?_); rintro e wv ⟨rfl, rfl⟩)
 go_ret
 exact ⟨rfl, HE.out⟩
theorem rVtV_l9 (v : VtR) (c0 : ¬ v.k < 1) (c1 : ¬ v.k > 7) (c2 : ¬ v.si < 0) (c3 : ¬ v.si ≥ 10) (c4 : bits .andNot .i64 v.su 1023 = 0) (c5 : ¬ v.sl < 0) (c6 : v.sl ≥ 10) (hag : inI v.k 1 4 = true) (w : World) :
  Calls Tryz.prog 98 #[.agg (vtA v)] w fun e w' => e = .returned (.bool false) ∧ Ext w w' := by
 have HE := Lib.hid ((Ext.refl w).alloc' (.cells (vtA v) 46))
 obtain ⟨a0, a1, a2, a3, a4, a5, a6, a7⟩ := vt_facts (Blk.new w 46 (vtA v))
 have HB0 := Lib.hid (Blk.new w 46 (vtA v))
 have HA := Lib.hid (fun W => agr_any v.k W)
 rw [hag] at HA
 clear hag
 go_enter Tryz.func98, Tryz.ntmps98
 go_wp2_with (go_at_call 116; (with_reducible refine (HA.out _).mono ?_); rintro e wv ⟨rfl, rfl⟩)
 go_ret
 exact ⟨rfl, HE.out⟩
theorem rVtV_l (v : VtR) (c0 : ¬ v.k < 1) (c1 : ¬ v.k > 7) (c2 : ¬ v.si < 0) (c3 : ¬ v.si ≥ 10) (c4 : bits .andNot .i64 v.su 1023 = 0) (c5 : v.sl ≠ 0) (hag : inI v.k 1 4 = false) (w : World) :
  Calls Tryz.prog 98 #[.agg (vtA v)] w fun e w' => e = .returned (.bool false) ∧ Ext w w' := by
 have HE := Lib.hid ((Ext.refl w).alloc' (.cells (vtA v) 46))
 obtain ⟨a0, a1, a2, a3, a4, a5, a6, a7⟩ := vt_facts (Blk.new w 46 (vtA v))
 have HB0 := Lib.hid (Blk.new w 46 (vtA v))
 have HA := Lib.hid (fun W => agr_any v.k W)
 rw [hag] at HA
 clear hag
 have b5 : (v.sl == 0) = false := by simp; omega
 have n5 : (v.sl != 0) = true := by simp; omega
 have d5x : decide (v.sl = 0) = false := by simp; omega
 go_enter Tryz.func98, Tryz.ntmps98
 go_wp2_with (go_at_call 116; (with_reducible refine (HA.out _).mono ?_); rintro e wv ⟨rfl, rfl⟩)
 go_ret
 exact ⟨rfl, HE.out⟩
theorem rVtV_cv1a (v : VtR) (hch : v.ch = 1) (c0 : ¬ v.k < 1) (c1 : ¬ v.k > 7) (c2 : ¬ v.si < 0) (c3 : ¬ v.si ≥ 10) (c4 : bits .andNot .i64 v.su 1023 = 0) (c5 : ¬ v.sl < 0) (c6 : ¬ v.sl ≥ 10) (hag : inI v.k 1 4 = true) (hva : decide (v.va = 0) = true) (w : World) :
  Calls Tryz.prog 98 #[.agg (vtA v)] w fun e w' => e = .returned (.bool false) ∧ Ext w w' := by
 have HE := Lib.hid ((Ext.refl w).alloc' (.cells (vtA v) 46))
 obtain ⟨a0, a1, a2, a3, a4, a5, a6, a7⟩ := vt_facts (Blk.new w 46 (vtA v))
 have HB0 := Lib.hid (Blk.new w 46 (vtA v))
 have HA := Lib.hid (fun W => agr_any v.k W)
 rw [hag] at HA
 clear hag
 rw [hch] at a3
 have Ech := Lib.hid hch
 clear hch
 have q7 := fun W => run_eqN v.va 0 W
 rw [nmc_zero_lit, hva] at q7
 clear hva
 go_enter Tryz.func98, Tryz.ntmps98
 go_wp2_with (go_at_call 116; (with_reducible refine (HA.out _).mono ?_); rintro e wv ⟨rfl, rfl⟩)
 go_quiet ((fail))
 have HB1 := Lib.hid (show Blk ((w.alloc (.cells (vtA v) 46)).drewN nq) w.heap.size 46 (vtA v) from HB0.out)
 have HE1 := Lib.hid (below_drewN HE.out nq)
 clear a0 a1 a2 a3 a4 a5 a6 a7 HB0 HE q7
 generalize (w.alloc (.cells (vtA v) 46)).drewN nq = W1 at HB1 HE1 ⊢
 obtain ⟨a0, a1, a2, a3, a4, a5, a6, a7⟩ := vt_facts HB1.out
 rw [Ech.out] at a3
 go_wp2_with fail
 go_ret
 exact ⟨rfl, HE1.out⟩
theorem rVtV_cv0a (v : VtR) (c0 : ¬ v.k < 1) (c1 : ¬ v.k > 7) (c2 : ¬ v.si < 0) (c3 : ¬ v.si ≥ 10) (c4 : bits .andNot .i64 v.su 1023 = 0) (c5 : ¬ v.sl < 0) (c6 : ¬ v.sl ≥ 10) (c7 : v.ch ≠ 1) (hag : inI v.k 1 4 = true) (hva : decide (v.va = 0) = false) (w : World) :
  Calls Tryz.prog 98 #[.agg (vtA v)] w fun e w' => e = .returned (.bool false) ∧ Ext w w' := by
 have HE := Lib.hid ((Ext.refl w).alloc' (.cells (vtA v) 46))
 obtain ⟨a0, a1, a2, a3, a4, a5, a6, a7⟩ := vt_facts (Blk.new w 46 (vtA v))
 have HB0 := Lib.hid (Blk.new w 46 (vtA v))
 have HA := Lib.hid (fun W => agr_any v.k W)
 rw [hag] at HA
 clear hag
 have q7 := fun W => run_eqN v.va 0 W
 rw [nmc_zero_lit, hva] at q7
 clear hva
 have x1 : (v.ch == 1) = false := by simp; omega
 have d1 : decide (v.ch = 1) = false := by simp; omega
 have b7 : (v.ch == 1) = false := by simp; omega
 have n7 : (v.ch != 1) = true := by simp; omega
 have d7x : decide (v.ch = 1) = false := by simp; omega
 go_enter Tryz.func98, Tryz.ntmps98
 go_wp2_with (go_at_call 116; (with_reducible refine (HA.out _).mono ?_); rintro e wv ⟨rfl, rfl⟩)
 go_quiet ((fail))
 have HB1 := Lib.hid (show Blk ((w.alloc (.cells (vtA v) 46)).drewN nq) w.heap.size 46 (vtA v) from HB0.out)
 have HE1 := Lib.hid (below_drewN HE.out nq)
 clear a0 a1 a2 a3 a4 a5 a6 a7 HB0 HE q7
 generalize (w.alloc (.cells (vtA v) 46)).drewN nq = W1 at HB1 HE1 ⊢
 obtain ⟨a0, a1, a2, a3, a4, a5, a6, a7⟩ := vt_facts HB1.out
 go_wp2_with fail
 go_ret
 exact ⟨rfl, HE1.out⟩
theorem rVtV_cv1b (v : VtR) (hsl : v.sl = 0) (hch : v.ch = 1) (c0 : ¬ v.k < 1) (c1 : ¬ v.k > 7) (c2 : ¬ v.si < 0) (c3 : ¬ v.si ≥ 10) (c4 : bits .andNot .i64 v.su 1023 = 0) (hag : inI v.k 1 4 = false) (hva : decide (v.va = 0) = true) (w : World) :
  Calls Tryz.prog 98 #[.agg (vtA v)] w fun e w' => e = .returned (.bool false) ∧ Ext w w' := by
 have HE := Lib.hid ((Ext.refl w).alloc' (.cells (vtA v) 46))
 obtain ⟨a0, a1, a2, a3, a4, a5, a6, a7⟩ := vt_facts (Blk.new w 46 (vtA v))
 have HB0 := Lib.hid (Blk.new w 46 (vtA v))
 have HA := Lib.hid (fun W => agr_any v.k W)
 rw [hag] at HA
 clear hag
 rw [hsl] at a1
 have Esl := Lib.hid hsl
 clear hsl
 rw [hch] at a3
 have Ech := Lib.hid hch
 clear hch
 have q7 := fun W => run_eqN v.va 0 W
 rw [nmc_zero_lit, hva] at q7
 clear hva
 go_enter Tryz.func98, Tryz.ntmps98
 go_wp2_with (go_at_call 116; (with_reducible refine (HA.out _).mono ?_); rintro e wv ⟨rfl, rfl⟩)
 go_quiet ((fail))
 have HB1 := Lib.hid (show Blk ((w.alloc (.cells (vtA v) 46)).drewN nq) w.heap.size 46 (vtA v) from HB0.out)
 have HE1 := Lib.hid (below_drewN HE.out nq)
 clear a0 a1 a2 a3 a4 a5 a6 a7 HB0 HE q7
 generalize (w.alloc (.cells (vtA v) 46)).drewN nq = W1 at HB1 HE1 ⊢
 obtain ⟨a0, a1, a2, a3, a4, a5, a6, a7⟩ := vt_facts HB1.out
 rw [Esl.out] at a1
 rw [Ech.out] at a3
 go_wp2_with fail
 go_ret
 exact ⟨rfl, HE1.out⟩
theorem rVtV_cv0b (v : VtR) (hsl : v.sl = 0) (c0 : ¬ v.k < 1) (c1 : ¬ v.k > 7) (c2 : ¬ v.si < 0) (c3 : ¬ v.si ≥ 10) (c4 : bits .andNot .i64 v.su 1023 = 0) (c5 : v.ch ≠ 1) (hag : inI v.k 1 4 = false) (hva : decide (v.va = 0) = false) (w : World) :
  Calls Tryz.prog 98 #[.agg (vtA v)] w fun e w' => e = .returned (.bool false) ∧ Ext w w' := by
 have HE := Lib.hid ((Ext.refl w).alloc' (.cells (vtA v) 46))
 obtain ⟨a0, a1, a2, a3, a4, a5, a6, a7⟩ := vt_facts (Blk.new w 46 (vtA v))
 have HB0 := Lib.hid (Blk.new w 46 (vtA v))
 have HA := Lib.hid (fun W => agr_any v.k W)
 rw [hag] at HA
 clear hag
 rw [hsl] at a1
 have Esl := Lib.hid hsl
 clear hsl
 have q7 := fun W => run_eqN v.va 0 W
 rw [nmc_zero_lit, hva] at q7
 clear hva
 have x1 : (v.ch == 1) = false := by simp; omega
 have d1 : decide (v.ch = 1) = false := by simp; omega
 have b5 : (v.ch == 1) = false := by simp; omega
 have n5 : (v.ch != 1) = true := by simp; omega
 have d5x : decide (v.ch = 1) = false := by simp; omega
 go_enter Tryz.func98, Tryz.ntmps98
 go_wp2_with (go_at_call 116; (with_reducible refine (HA.out _).mono ?_); rintro e wv ⟨rfl, rfl⟩)
 go_quiet ((fail))
 have HB1 := Lib.hid (show Blk ((w.alloc (.cells (vtA v) 46)).drewN nq) w.heap.size 46 (vtA v) from HB0.out)
 have HE1 := Lib.hid (below_drewN HE.out nq)
 clear a0 a1 a2 a3 a4 a5 a6 a7 HB0 HE q7
 generalize (w.alloc (.cells (vtA v) 46)).drewN nq = W1 at HB1 HE1 ⊢
 obtain ⟨a0, a1, a2, a3, a4, a5, a6, a7⟩ := vt_facts HB1.out
 rw [Esl.out] at a1
 go_wp2_with fail
 go_ret
 exact ⟨rfl, HE1.out⟩
theorem rVtV_3r0c1 (v : VtR) (hk : v.k = 3) (hch : v.ch = 1) (c0 : ¬ v.si < 0) (c1 : ¬ v.si ≥ 10) (c2 : bits .andNot .i64 v.su 1023 = 0) (c3 : ¬ v.sl < 0) (c4 : ¬ v.sl ≥ 10) (c5 : ¬ v.ro ≥ 1) (hag : inI v.k 1 4 = true) (hva : decide (v.va = 0) = false) (w : World) :
  Calls Tryz.prog 98 #[.agg (vtA v)] w fun e w' => e = .returned (.bool false) ∧ Ext w w' := by
 have HE := Lib.hid ((Ext.refl w).alloc' (.cells (vtA v) 46))
 obtain ⟨a0, a1, a2, a3, a4, a5, a6, a7⟩ := vt_facts (Blk.new w 46 (vtA v))
 have HB0 := Lib.hid (Blk.new w 46 (vtA v))
 have HA := Lib.hid (fun W => agr_any v.k W)
 rw [hag] at HA
 clear hag
 rw [hk] at HA
 rw [hk] at a0
 have Ek := Lib.hid hk
 clear hk
 rw [hch] at a3
 have Ech := Lib.hid hch
 clear hch
 have q7 := fun W => run_eqN v.va 0 W
 rw [nmc_zero_lit, hva] at q7
 clear hva
 go_enter Tryz.func98, Tryz.ntmps98
 go_wp2_with (go_at_call 116; (with_reducible refine (HA.out _).mono ?_); rintro e wv ⟨rfl, rfl⟩)
 go_quiet ((fail))
 have HB1 := Lib.hid (show Blk ((w.alloc (.cells (vtA v) 46)).drewN nq) w.heap.size 46 (vtA v) from HB0.out)
 have HE1 := Lib.hid (below_drewN HE.out nq)
 clear a0 a1 a2 a3 a4 a5 a6 a7 HB0 HE q7
 generalize (w.alloc (.cells (vtA v) 46)).drewN nq = W1 at HB1 HE1 ⊢
 obtain ⟨a0, a1, a2, a3, a4, a5, a6, a7⟩ := vt_facts HB1.out
 rw [Ek.out] at a0
 rw [Ech.out] at a3
 go_wp2_with fail
 go_ret
 exact ⟨rfl, HE1.out⟩
theorem rVtV_3r0c0 (v : VtR) (hk : v.k = 3) (c0 : ¬ v.si < 0) (c1 : ¬ v.si ≥ 10) (c2 : bits .andNot .i64 v.su 1023 = 0) (c3 : ¬ v.sl < 0) (c4 : ¬ v.sl ≥ 10) (c5 : ¬ v.ro ≥ 1) (c6 : v.ch ≠ 1) (hag : inI v.k 1 4 = true) (hva : decide (v.va = 0) = true) (w : World) :
  Calls Tryz.prog 98 #[.agg (vtA v)] w fun e w' => e = .returned (.bool false) ∧ Ext w w' := by
 have HE := Lib.hid ((Ext.refl w).alloc' (.cells (vtA v) 46))
 obtain ⟨a0, a1, a2, a3, a4, a5, a6, a7⟩ := vt_facts (Blk.new w 46 (vtA v))
 have HB0 := Lib.hid (Blk.new w 46 (vtA v))
 have HA := Lib.hid (fun W => agr_any v.k W)
 rw [hag] at HA
 clear hag
 rw [hk] at HA
 rw [hk] at a0
 have Ek := Lib.hid hk
 clear hk
 have q7 := fun W => run_eqN v.va 0 W
 rw [nmc_zero_lit, hva] at q7
 clear hva
 have x1 : (v.ch == 1) = false := by simp; omega
 have d1 : decide (v.ch = 1) = false := by simp; omega
 have b6 : (v.ch == 1) = false := by simp; omega
 have n6 : (v.ch != 1) = true := by simp; omega
 have d6x : decide (v.ch = 1) = false := by simp; omega
 go_enter Tryz.func98, Tryz.ntmps98
 go_wp2_with (go_at_call 116; (with_reducible refine (HA.out _).mono ?_); rintro e wv ⟨rfl, rfl⟩)
 go_quiet ((fail))
 have HB1 := Lib.hid (show Blk ((w.alloc (.cells (vtA v) 46)).drewN nq) w.heap.size 46 (vtA v) from HB0.out)
 have HE1 := Lib.hid (below_drewN HE.out nq)
 clear a0 a1 a2 a3 a4 a5 a6 a7 HB0 HE q7
 generalize (w.alloc (.cells (vtA v) 46)).drewN nq = W1 at HB1 HE1 ⊢
 obtain ⟨a0, a1, a2, a3, a4, a5, a6, a7⟩ := vt_facts HB1.out
 rw [Ek.out] at a0
 go_wp2_with fail
 go_ret
 exact ⟨rfl, HE1.out⟩
theorem rVtV_3r9c1 (v : VtR) (hk : v.k = 3) (hch : v.ch = 1) (c0 : ¬ v.si < 0) (c1 : ¬ v.si ≥ 10) (c2 : bits .andNot .i64 v.su 1023 = 0) (c3 : ¬ v.sl < 0) (c4 : ¬ v.sl ≥ 10) (c5 : v.ro ≥ 1) (c6 : ¬ v.ro ≤ 12) (hag : inI v.k 1 4 = true) (hva : decide (v.va = 0) = false) (w : World) :
  Calls Tryz.prog 98 #[.agg (vtA v)] w fun e w' => e = .returned (.bool false) ∧ Ext w w' := by
 have HE := Lib.hid ((Ext.refl w).alloc' (.cells (vtA v) 46))
 obtain ⟨a0, a1, a2, a3, a4, a5, a6, a7⟩ := vt_facts (Blk.new w 46 (vtA v))
 have HB0 := Lib.hid (Blk.new w 46 (vtA v))
 have HA := Lib.hid (fun W => agr_any v.k W)
 rw [hag] at HA
 clear hag
 rw [hk] at HA
 rw [hk] at a0
 have Ek := Lib.hid hk
 clear hk
 rw [hch] at a3
 have Ech := Lib.hid hch
 clear hch
 have q7 := fun W => run_eqN v.va 0 W
 rw [nmc_zero_lit, hva] at q7
 clear hva
 go_enter Tryz.func98, Tryz.ntmps98
 go_wp2_with (go_at_call 116; (with_reducible refine (HA.out _).mono ?_); rintro e wv ⟨rfl, rfl⟩)
 go_quiet ((fail))
 have HB1 := Lib.hid (show Blk ((w.alloc (.cells (vtA v) 46)).drewN nq) w.heap.size 46 (vtA v) from HB0.out)
 have HE1 := Lib.hid (below_drewN HE.out nq)
 clear a0 a1 a2 a3 a4 a5 a6 a7 HB0 HE q7
 generalize (w.alloc (.cells (vtA v) 46)).drewN nq = W1 at HB1 HE1 ⊢
 obtain ⟨a0, a1, a2, a3, a4, a5, a6, a7⟩ := vt_facts HB1.out
 rw [Ek.out] at a0
 rw [Ech.out] at a3
 go_wp2_with fail
 go_ret
 exact ⟨rfl, HE1.out⟩
theorem rVtV_3r9c0 (v : VtR) (hk : v.k = 3) (c0 : ¬ v.si < 0) (c1 : ¬ v.si ≥ 10) (c2 : bits .andNot .i64 v.su 1023 = 0) (c3 : ¬ v.sl < 0) (c4 : ¬ v.sl ≥ 10) (c5 : v.ro ≥ 1) (c6 : ¬ v.ro ≤ 12) (c7 : v.ch ≠ 1) (hag : inI v.k 1 4 = true) (hva : decide (v.va = 0) = true) (w : World) :
  Calls Tryz.prog 98 #[.agg (vtA v)] w fun e w' => e = .returned (.bool false) ∧ Ext w w' := by
 have HE := Lib.hid ((Ext.refl w).alloc' (.cells (vtA v) 46))
 obtain ⟨a0, a1, a2, a3, a4, a5, a6, a7⟩ := vt_facts (Blk.new w 46 (vtA v))
 have HB0 := Lib.hid (Blk.new w 46 (vtA v))
 have HA := Lib.hid (fun W => agr_any v.k W)
 rw [hag] at HA
 clear hag
 rw [hk] at HA
 rw [hk] at a0
 have Ek := Lib.hid hk
 clear hk
 have q7 := fun W => run_eqN v.va 0 W
 rw [nmc_zero_lit, hva] at q7
 clear hva
 have x1 : (v.ch == 1) = false := by simp; omega
 have d1 : decide (v.ch = 1) = false := by simp; omega
 have b7 : (v.ch == 1) = false := by simp; omega
 have n7 : (v.ch != 1) = true := by simp; omega
 have d7x : decide (v.ch = 1) = false := by simp; omega
 go_enter Tryz.func98, Tryz.ntmps98
 go_wp2_with (go_at_call 116; (with_reducible refine (HA.out _).mono ?_); rintro e wv ⟨rfl, rfl⟩)
 go_quiet ((fail))
 have HB1 := Lib.hid (show Blk ((w.alloc (.cells (vtA v) 46)).drewN nq) w.heap.size 46 (vtA v) from HB0.out)
 have HE1 := Lib.hid (below_drewN HE.out nq)
 clear a0 a1 a2 a3 a4 a5 a6 a7 HB0 HE q7
 generalize (w.alloc (.cells (vtA v) 46)).drewN nq = W1 at HB1 HE1 ⊢
 obtain ⟨a0, a1, a2, a3, a4, a5, a6, a7⟩ := vt_facts HB1.out
 rw [Ek.out] at a0
 go_wp2_with fail
 go_ret
 exact ⟨rfl, HE1.out⟩
theorem rVtV_4r0c1 (v : VtR) (hk : v.k = 4) (hch : v.ch = 1) (c0 : ¬ v.si < 0) (c1 : ¬ v.si ≥ 10) (c2 : bits .andNot .i64 v.su 1023 = 0) (c3 : ¬ v.sl < 0) (c4 : ¬ v.sl ≥ 10) (c5 : ¬ v.ro ≥ 1) (hag : inI v.k 1 4 = true) (hva : decide (v.va = 0) = false) (w : World) :
  Calls Tryz.prog 98 #[.agg (vtA v)] w fun e w' => e = .returned (.bool false) ∧ Ext w w' := by
 have HE := Lib.hid ((Ext.refl w).alloc' (.cells (vtA v) 46))
 obtain ⟨a0, a1, a2, a3, a4, a5, a6, a7⟩ := vt_facts (Blk.new w 46 (vtA v))
 have HB0 := Lib.hid (Blk.new w 46 (vtA v))
 have HA := Lib.hid (fun W => agr_any v.k W)
 rw [hag] at HA
 clear hag
 rw [hk] at HA
 rw [hk] at a0
 have Ek := Lib.hid hk
 clear hk
 rw [hch] at a3
 have Ech := Lib.hid hch
 clear hch
 have q7 := fun W => run_eqN v.va 0 W
 rw [nmc_zero_lit, hva] at q7
 clear hva
 go_enter Tryz.func98, Tryz.ntmps98
 go_wp2_with (go_at_call 116; (with_reducible refine (HA.out _).mono ?_); rintro e wv ⟨rfl, rfl⟩)
 go_quiet ((fail))
 have HB1 := Lib.hid (show Blk ((w.alloc (.cells (vtA v) 46)).drewN nq) w.heap.size 46 (vtA v) from HB0.out)
 have HE1 := Lib.hid (below_drewN HE.out nq)
 clear a0 a1 a2 a3 a4 a5 a6 a7 HB0 HE q7
 generalize (w.alloc (.cells (vtA v) 46)).drewN nq = W1 at HB1 HE1 ⊢
 obtain ⟨a0, a1, a2, a3, a4, a5, a6, a7⟩ := vt_facts HB1.out
 rw [Ek.out] at a0
 rw [Ech.out] at a3
 go_wp2_with fail
 go_ret
 exact ⟨rfl, HE1.out⟩
theorem rVtV_4r0c0 (v : VtR) (hk : v.k = 4) (c0 : ¬ v.si < 0) (c1 : ¬ v.si ≥ 10) (c2 : bits .andNot .i64 v.su 1023 = 0) (c3 : ¬ v.sl < 0) (c4 : ¬ v.sl ≥ 10) (c5 : ¬ v.ro ≥ 1) (c6 : v.ch ≠ 1) (hag : inI v.k 1 4 = true) (hva : decide (v.va = 0) = true) (w : World) :
  Calls Tryz.prog 98 #[.agg (vtA v)] w fun e w' => e = .returned (.bool false) ∧ Ext w w' := by
 have HE := Lib.hid ((Ext.refl w).alloc' (.cells (vtA v) 46))
 obtain ⟨a0, a1, a2, a3, a4, a5, a6, a7⟩ := vt_facts (Blk.new w 46 (vtA v))
 have HB0 := Lib.hid (Blk.new w 46 (vtA v))
 have HA := Lib.hid (fun W => agr_any v.k W)
 rw [hag] at HA
 clear hag
 rw [hk] at HA
 rw [hk] at a0
 have Ek := Lib.hid hk
 clear hk
 have q7 := fun W => run_eqN v.va 0 W
 rw [nmc_zero_lit, hva] at q7
 clear hva
 have x1 : (v.ch == 1) = false := by simp; omega
 have d1 : decide (v.ch = 1) = false := by simp; omega
 have b6 : (v.ch == 1) = false := by simp; omega
 have n6 : (v.ch != 1) = true := by simp; omega
 have d6x : decide (v.ch = 1) = false := by simp; omega
 go_enter Tryz.func98, Tryz.ntmps98
 go_wp2_with (go_at_call 116; (with_reducible refine (HA.out _).mono ?_); rintro e wv ⟨rfl, rfl⟩)
 go_quiet ((fail))
 have HB1 := Lib.hid (show Blk ((w.alloc (.cells (vtA v) 46)).drewN nq) w.heap.size 46 (vtA v) from HB0.out)
 have HE1 := Lib.hid (below_drewN HE.out nq)
 clear a0 a1 a2 a3 a4 a5 a6 a7 HB0 HE q7
 generalize (w.alloc (.cells (vtA v) 46)).drewN nq = W1 at HB1 HE1 ⊢
 obtain ⟨a0, a1, a2, a3, a4, a5, a6, a7⟩ := vt_facts HB1.out
 rw [Ek.out] at a0
 go_wp2_with fail
 go_ret
 exact ⟨rfl, HE1.out⟩
theorem rVtV_4r9c1 (v : VtR) (hk : v.k = 4) (hch : v.ch = 1) (c0 : ¬ v.si < 0) (c1 : ¬ v.si ≥ 10) (c2 : bits .andNot .i64 v.su 1023 = 0) (c3 : ¬ v.sl < 0) (c4 : ¬ v.sl ≥ 10) (c5 : v.ro ≥ 1) (c6 : ¬ v.ro ≤ 12) (hag : inI v.k 1 4 = true) (hva : decide (v.va = 0) = false) (w : World) :
  Calls Tryz.prog 98 #[.agg (vtA v)] w fun e w' => e = .returned (.bool false) ∧ Ext w w' := by
 have HE := Lib.hid ((Ext.refl w).alloc' (.cells (vtA v) 46))
 obtain ⟨a0, a1, a2, a3, a4, a5, a6, a7⟩ := vt_facts (Blk.new w 46 (vtA v))
 have HB0 := Lib.hid (Blk.new w 46 (vtA v))
 have HA := Lib.hid (fun W => agr_any v.k W)
 rw [hag] at HA
 clear hag
 rw [hk] at HA
 rw [hk] at a0
 have Ek := Lib.hid hk
 clear hk
 rw [hch] at a3
 have Ech := Lib.hid hch
 clear hch
 have q7 := fun W => run_eqN v.va 0 W
 rw [nmc_zero_lit, hva] at q7
 clear hva
 go_enter Tryz.func98, Tryz.ntmps98
 go_wp2_with (go_at_call 116; (with_reducible refine (HA.out _).mono ?_); rintro e wv ⟨rfl, rfl⟩)
 go_quiet ((fail))
 have HB1 := Lib.hid (show Blk ((w.alloc (.cells (vtA v) 46)).drewN nq) w.heap.size 46 (vtA v) from HB0.out)
 have HE1 := Lib.hid (below_drewN HE.out nq)
 clear a0 a1 a2 a3 a4 a5 a6 a7 HB0 HE q7
 generalize (w.alloc (.cells (vtA v) 46)).drewN nq = W1 at HB1 HE1 ⊢
 obtain ⟨a0, a1, a2, a3, a4, a5, a6, a7⟩ := vt_facts HB1.out
 rw [Ek.out] at a0
 rw [Ech.out] at a3
 go_wp2_with fail
 go_ret
 exact ⟨rfl, HE1.out⟩
theorem rVtV_4r9c0 (v : VtR) (hk : v.k = 4) (c0 : ¬ v.si < 0) (c1 : ¬ v.si ≥ 10) (c2 : bits .andNot .i64 v.su 1023 = 0) (c3 : ¬ v.sl < 0) (c4 : ¬ v.sl ≥ 10) (c5 : v.ro ≥ 1) (c6 : ¬ v.ro ≤ 12) (c7 : v.ch ≠ 1) (hag : inI v.k 1 4 = true) (hva : decide (v.va = 0) = true) (w : World) :
  Calls Tryz.prog 98 #[.agg (vtA v)] w fun e w' => e = .returned (.bool false) ∧ Ext w w' := by
 have HE := Lib.hid ((Ext.refl w).alloc' (.cells (vtA v) 46))
 obtain ⟨a0, a1, a2, a3, a4, a5, a6, a7⟩ := vt_facts (Blk.new w 46 (vtA v))
 have HB0 := Lib.hid (Blk.new w 46 (vtA v))
 have HA := Lib.hid (fun W => agr_any v.k W)
 rw [hag] at HA
 clear hag
 rw [hk] at HA
 rw [hk] at a0
 have Ek := Lib.hid hk
 clear hk
 have q7 := fun W => run_eqN v.va 0 W
 rw [nmc_zero_lit, hva] at q7
 clear hva
 have x1 : (v.ch == 1) = false := by simp; omega
 have d1 : decide (v.ch = 1) = false := by simp; omega
 have b7 : (v.ch == 1) = false := by simp; omega
 have n7 : (v.ch != 1) = true := by simp; omega
 have d7x : decide (v.ch = 1) = false := by simp; omega
 go_enter Tryz.func98, Tryz.ntmps98
 go_wp2_with (go_at_call 116; (with_reducible refine (HA.out _).mono ?_); rintro e wv ⟨rfl, rfl⟩)
 go_quiet ((fail))
 have HB1 := Lib.hid (show Blk ((w.alloc (.cells (vtA v) 46)).drewN nq) w.heap.size 46 (vtA v) from HB0.out)
 have HE1 := Lib.hid (below_drewN HE.out nq)
 clear a0 a1 a2 a3 a4 a5 a6 a7 HB0 HE q7
 generalize (w.alloc (.cells (vtA v) 46)).drewN nq = W1 at HB1 HE1 ⊢
 obtain ⟨a0, a1, a2, a3, a4, a5, a6, a7⟩ := vt_facts HB1.out
 rw [Ek.out] at a0
 go_wp2_with fail
 go_ret
 exact ⟨rfl, HE1.out⟩
theorem rVtV_3c1n (v : VtR) (hk : v.k = 3) (hch : v.ch = 1) (c0 : ¬ v.si < 0) (c1 : ¬ v.si ≥ 10) (c2 : bits .andNot .i64 v.su 1023 = 0) (c3 : ¬ v.sl < 0) (c4 : ¬ v.sl ≥ 10) (c5 : v.ro ≥ 1) (c6 : v.ro ≤ 12) (c7 : v.ro ≠ 1) (hag : inI v.k 1 4 = true) (hva : decide (v.va = 0) = false) (w : World) :
  Calls Tryz.prog 98 #[.agg (vtA v)] w fun e w' => e = .returned (.bool true) ∧ Ext w w' := by
 have HE := Lib.hid ((Ext.refl w).alloc' (.cells (vtA v) 46))
 obtain ⟨a0, a1, a2, a3, a4, a5, a6, a7⟩ := vt_facts (Blk.new w 46 (vtA v))
 have HB0 := Lib.hid (Blk.new w 46 (vtA v))
 have HA := Lib.hid (fun W => agr_any v.k W)
 rw [hag] at HA
 clear hag
 rw [hk] at HA
 rw [hk] at a0
 have Ek := Lib.hid hk
 clear hk
 rw [hch] at a3
 have Ech := Lib.hid hch
 clear hch
 have q7 := fun W => run_eqN v.va 0 W
 rw [nmc_zero_lit, hva] at q7
 clear hva
 have b7 : (v.ro == 1) = false := by simp; omega
 have n7 : (v.ro != 1) = true := by simp; omega
 have d7x : decide (v.ro = 1) = false := by simp; omega
 go_enter Tryz.func98, Tryz.ntmps98
 go_wp2_with (go_at_call 116; (with_reducible refine (HA.out _).mono ?_); rintro e wv ⟨rfl, rfl⟩)
 go_quiet ((fail))
 have HB1 := Lib.hid (show Blk ((w.alloc (.cells (vtA v) 46)).drewN nq) w.heap.size 46 (vtA v) from HB0.out)
 have HE1 := Lib.hid (below_drewN HE.out nq)
 clear a0 a1 a2 a3 a4 a5 a6 a7 HB0 HE q7
 generalize (w.alloc (.cells (vtA v) 46)).drewN nq = W1 at HB1 HE1 ⊢
 obtain ⟨a0, a1, a2, a3, a4, a5, a6, a7⟩ := vt_facts HB1.out
 rw [Ek.out] at a0
 rw [Ech.out] at a3
 go_wp2_with fail
 go_ret
 exact ⟨rfl, HE1.out⟩
theorem rVtV_3c1e (v : VtR) (hk : v.k = 3) (hch : v.ch = 1) (hro : v.ro = 1) (c0 : ¬ v.si < 0) (c1 : ¬ v.si ≥ 10) (c2 : bits .andNot .i64 v.su 1023 = 0) (c3 : ¬ v.sl < 0) (c4 : ¬ v.sl ≥ 10) (hag : inI v.k 1 4 = true) (hva : decide (v.va = 0) = false) (w : World) :
  Calls Tryz.prog 98 #[.agg (vtA v)] w fun e w' => e = .returned (.bool true) ∧ Ext w w' := by
 have HE := Lib.hid ((Ext.refl w).alloc' (.cells (vtA v) 46))
 obtain ⟨a0, a1, a2, a3, a4, a5, a6, a7⟩ := vt_facts (Blk.new w 46 (vtA v))
 have HB0 := Lib.hid (Blk.new w 46 (vtA v))
 have HA := Lib.hid (fun W => agr_any v.k W)
 rw [hag] at HA
 clear hag
 rw [hk] at HA
 rw [hk] at a0
 have Ek := Lib.hid hk
 clear hk
 rw [hch] at a3
 have Ech := Lib.hid hch
 clear hch
 rw [hro] at a2
 have Ero := Lib.hid hro
 clear hro
 have q7 := fun W => run_eqN v.va 0 W
 rw [nmc_zero_lit, hva] at q7
 clear hva
 go_enter Tryz.func98, Tryz.ntmps98
 go_wp2_with (go_at_call 116; (with_reducible refine (HA.out _).mono ?_); rintro e wv ⟨rfl, rfl⟩)
 go_quiet ((fail))
 have HB1 := Lib.hid (show Blk ((w.alloc (.cells (vtA v) 46)).drewN nq) w.heap.size 46 (vtA v) from HB0.out)
 have HE1 := Lib.hid (below_drewN HE.out nq)
 clear a0 a1 a2 a3 a4 a5 a6 a7 HB0 HE q7
 generalize (w.alloc (.cells (vtA v) 46)).drewN nq = W1 at HB1 HE1 ⊢
 obtain ⟨a0, a1, a2, a3, a4, a5, a6, a7⟩ := vt_facts HB1.out
 rw [Ek.out] at a0
 rw [Ech.out] at a3
 rw [Ero.out] at a2
 go_wp2_with fail
 go_ret
 exact ⟨rfl, HE1.out⟩
theorem rVtV_3c0n (v : VtR) (hk : v.k = 3) (hch : v.ch = 0) (c0 : ¬ v.si < 0) (c1 : ¬ v.si ≥ 10) (c2 : bits .andNot .i64 v.su 1023 = 0) (c3 : ¬ v.sl < 0) (c4 : ¬ v.sl ≥ 10) (c5 : v.ro ≥ 1) (c6 : v.ro ≤ 12) (c7 : v.ro ≠ 1) (hag : inI v.k 1 4 = true) (hva : decide (v.va = 0) = true) (w : World) :
  Calls Tryz.prog 98 #[.agg (vtA v)] w fun e w' => e = .returned (.bool true) ∧ Ext w w' := by
 have HE := Lib.hid ((Ext.refl w).alloc' (.cells (vtA v) 46))
 obtain ⟨a0, a1, a2, a3, a4, a5, a6, a7⟩ := vt_facts (Blk.new w 46 (vtA v))
 have HB0 := Lib.hid (Blk.new w 46 (vtA v))
 have HA := Lib.hid (fun W => agr_any v.k W)
 rw [hag] at HA
 clear hag
 rw [hk] at HA
 rw [hk] at a0
 have Ek := Lib.hid hk
 clear hk
 rw [hch] at a3
 have Ech := Lib.hid hch
 clear hch
 have q7 := fun W => run_eqN v.va 0 W
 rw [nmc_zero_lit, hva] at q7
 clear hva
 have b7 : (v.ro == 1) = false := by simp; omega
 have n7 : (v.ro != 1) = true := by simp; omega
 have d7x : decide (v.ro = 1) = false := by simp; omega
 go_enter Tryz.func98, Tryz.ntmps98
 go_wp2_with (go_at_call 116; (with_reducible refine (HA.out _).mono ?_); rintro e wv ⟨rfl, rfl⟩)
 go_quiet ((fail))
 have HB1 := Lib.hid (show Blk ((w.alloc (.cells (vtA v) 46)).drewN nq) w.heap.size 46 (vtA v) from HB0.out)
 have HE1 := Lib.hid (below_drewN HE.out nq)
 clear a0 a1 a2 a3 a4 a5 a6 a7 HB0 HE q7
 generalize (w.alloc (.cells (vtA v) 46)).drewN nq = W1 at HB1 HE1 ⊢
 obtain ⟨a0, a1, a2, a3, a4, a5, a6, a7⟩ := vt_facts HB1.out
 rw [Ek.out] at a0
 rw [Ech.out] at a3
 go_wp2_with fail
 go_ret
 exact ⟨rfl, HE1.out⟩
theorem rVtV_3c0e (v : VtR) (hk : v.k = 3) (hch : v.ch = 0) (hro : v.ro = 1) (hsu : v.su = 0) (c0 : ¬ v.si < 0) (c1 : ¬ v.si ≥ 10) (c2 : ¬ v.sl < 0) (c3 : ¬ v.sl ≥ 10) (hag : inI v.k 1 4 = true) (hva : decide (v.va = 0) = true) (w : World) :
  Calls Tryz.prog 98 #[.agg (vtA v)] w fun e w' => e = .returned (.bool true) ∧ Ext w w' := by
 have HE := Lib.hid ((Ext.refl w).alloc' (.cells (vtA v) 46))
 obtain ⟨a0, a1, a2, a3, a4, a5, a6, a7⟩ := vt_facts (Blk.new w 46 (vtA v))
 have HB0 := Lib.hid (Blk.new w 46 (vtA v))
 have HA := Lib.hid (fun W => agr_any v.k W)
 rw [hag] at HA
 clear hag
 rw [hk] at HA
 rw [hk] at a0
 have Ek := Lib.hid hk
 clear hk
 rw [hch] at a3
 have Ech := Lib.hid hch
 clear hch
 rw [hro] at a2
 have Ero := Lib.hid hro
 clear hro
 rw [hsu] at a5
 have Esu := Lib.hid hsu
 clear hsu
 have y5 : bits .andNot .i64 0 1023 = 0 := by decide
 have q7 := fun W => run_eqN v.va 0 W
 rw [nmc_zero_lit, hva] at q7
 clear hva
 go_enter Tryz.func98, Tryz.ntmps98
 go_wp2_with (go_at_call 116; (with_reducible refine (HA.out _).mono ?_); rintro e wv ⟨rfl, rfl⟩)
 go_quiet ((fail))
 have HB1 := Lib.hid (show Blk ((w.alloc (.cells (vtA v) 46)).drewN nq) w.heap.size 46 (vtA v) from HB0.out)
 have HE1 := Lib.hid (below_drewN HE.out nq)
 clear a0 a1 a2 a3 a4 a5 a6 a7 HB0 HE q7
 generalize (w.alloc (.cells (vtA v) 46)).drewN nq = W1 at HB1 HE1 ⊢
 obtain ⟨a0, a1, a2, a3, a4, a5, a6, a7⟩ := vt_facts HB1.out
 rw [Ek.out] at a0
 rw [Ech.out] at a3
 rw [Ero.out] at a2
 rw [Esu.out] at a5
 go_wp2_with fail
 go_ret
 exact ⟨rfl, HE1.out⟩
theorem rVtV_3c0u (v : VtR) (hk : v.k = 3) (hch : v.ch = 0) (hro : v.ro = 1) (c0 : ¬ v.si < 0) (c1 : ¬ v.si ≥ 10) (c2 : bits .andNot .i64 v.su 1023 = 0) (c3 : ¬ v.sl < 0) (c4 : ¬ v.sl ≥ 10) (c5 : v.su ≠ 0) (hag : inI v.k 1 4 = true) (hva : decide (v.va = 0) = true) (w : World) :
  Calls Tryz.prog 98 #[.agg (vtA v)] w fun e w' => e = .returned (.bool false) ∧ Ext w w' := by
 have HE := Lib.hid ((Ext.refl w).alloc' (.cells (vtA v) 46))
 obtain ⟨a0, a1, a2, a3, a4, a5, a6, a7⟩ := vt_facts (Blk.new w 46 (vtA v))
 have HB0 := Lib.hid (Blk.new w 46 (vtA v))
 have HA := Lib.hid (fun W => agr_any v.k W)
 rw [hag] at HA
 clear hag
 rw [hk] at HA
 rw [hk] at a0
 have Ek := Lib.hid hk
 clear hk
 rw [hch] at a3
 have Ech := Lib.hid hch
 clear hch
 rw [hro] at a2
 have Ero := Lib.hid hro
 clear hro
 have q7 := fun W => run_eqN v.va 0 W
 rw [nmc_zero_lit, hva] at q7
 clear hva
 have b5 : (v.su == 0) = false := by simp; omega
 have n5 : (v.su != 0) = true := by simp; omega
 have d5x : decide (v.su = 0) = false := by simp; omega
 go_enter Tryz.func98, Tryz.ntmps98
 go_wp2_with (go_at_call 116; (with_reducible refine (HA.out _).mono ?_); rintro e wv ⟨rfl, rfl⟩)
 go_quiet ((fail))
 have HB1 := Lib.hid (show Blk ((w.alloc (.cells (vtA v) 46)).drewN nq) w.heap.size 46 (vtA v) from HB0.out)
 have HE1 := Lib.hid (below_drewN HE.out nq)
 clear a0 a1 a2 a3 a4 a5 a6 a7 HB0 HE q7
 generalize (w.alloc (.cells (vtA v) 46)).drewN nq = W1 at HB1 HE1 ⊢
 obtain ⟨a0, a1, a2, a3, a4, a5, a6, a7⟩ := vt_facts HB1.out
 rw [Ek.out] at a0
 rw [Ech.out] at a3
 rw [Ero.out] at a2
 go_wp2_with fail
 go_ret
 exact ⟨rfl, HE1.out⟩
theorem rVtV_3cx (v : VtR) (hk : v.k = 3) (c0 : ¬ v.si < 0) (c1 : ¬ v.si ≥ 10) (c2 : bits .andNot .i64 v.su 1023 = 0) (c3 : ¬ v.sl < 0) (c4 : ¬ v.sl ≥ 10) (c5 : v.ro ≥ 1) (c6 : v.ro ≤ 12) (c7 : v.ch ≠ 1) (c8 : v.ch ≠ 0) (hag : inI v.k 1 4 = true) (hva : decide (v.va = 0) = true) (w : World) :
  Calls Tryz.prog 98 #[.agg (vtA v)] w fun e w' => e = .returned (.bool false) ∧ Ext w w' := by
 have HE := Lib.hid ((Ext.refl w).alloc' (.cells (vtA v) 46))
 obtain ⟨a0, a1, a2, a3, a4, a5, a6, a7⟩ := vt_facts (Blk.new w 46 (vtA v))
 have HB0 := Lib.hid (Blk.new w 46 (vtA v))
 have HA := Lib.hid (fun W => agr_any v.k W)
 rw [hag] at HA
 clear hag
 rw [hk] at HA
 rw [hk] at a0
 have Ek := Lib.hid hk
 clear hk
 have q7 := fun W => run_eqN v.va 0 W
 rw [nmc_zero_lit, hva] at q7
 clear hva
 have x1 : (v.ch == 1) = false := by simp; omega
 have d1 : decide (v.ch = 1) = false := by simp; omega
 have b7 : (v.ch == 1) = false := by simp; omega
 have n7 : (v.ch != 1) = true := by simp; omega
 have d7x : decide (v.ch = 1) = false := by simp; omega
 have b8 : (v.ch == 0) = false := by simp; omega
 have n8 : (v.ch != 0) = true := by simp; omega
 have d8x : decide (v.ch = 0) = false := by simp; omega
 go_enter Tryz.func98, Tryz.ntmps98
 go_wp2_with (go_at_call 116; (with_reducible refine (HA.out _).mono ?_); rintro e wv ⟨rfl, rfl⟩)
 go_quiet ((fail))
 have HB1 := Lib.hid (show Blk ((w.alloc (.cells (vtA v) 46)).drewN nq) w.heap.size 46 (vtA v) from HB0.out)
 have HE1 := Lib.hid (below_drewN HE.out nq)
 clear a0 a1 a2 a3 a4 a5 a6 a7 HB0 HE q7
 generalize (w.alloc (.cells (vtA v) 46)).drewN nq = W1 at HB1 HE1 ⊢
 obtain ⟨a0, a1, a2, a3, a4, a5, a6, a7⟩ := vt_facts HB1.out
 rw [Ek.out] at a0
 go_wp2_with fail
 go_ret
 exact ⟨rfl, HE1.out⟩
theorem rVtV_4cl (v : VtR) (hk : v.k = 4) (c0 : ¬ v.si < 0) (c1 : ¬ v.si ≥ 10) (c2 : bits .andNot .i64 v.su 1023 = 0) (c3 : ¬ v.sl < 0) (c4 : ¬ v.sl ≥ 10) (c5 : v.ro ≥ 1) (c6 : v.ro ≤ 12) (c7 : v.ch ≠ 1) (c8 : ¬ v.ch ≥ 0) (hag : inI v.k 1 4 = true) (hva : decide (v.va = 0) = true) (w : World) :
  Calls Tryz.prog 98 #[.agg (vtA v)] w fun e w' => e = .returned (.bool false) ∧ Ext w w' := by
 have HE := Lib.hid ((Ext.refl w).alloc' (.cells (vtA v) 46))
 obtain ⟨a0, a1, a2, a3, a4, a5, a6, a7⟩ := vt_facts (Blk.new w 46 (vtA v))
 have HB0 := Lib.hid (Blk.new w 46 (vtA v))
 have HA := Lib.hid (fun W => agr_any v.k W)
 rw [hag] at HA
 clear hag
 rw [hk] at HA
 rw [hk] at a0
 have Ek := Lib.hid hk
 clear hk
 have q7 := fun W => run_eqN v.va 0 W
 rw [nmc_zero_lit, hva] at q7
 clear hva
 have x1 : (v.ch == 1) = false := by simp; omega
 have d1 : decide (v.ch = 1) = false := by simp; omega
 have b7 : (v.ch == 1) = false := by simp; omega
 have n7 : (v.ch != 1) = true := by simp; omega
 have d7x : decide (v.ch = 1) = false := by simp; omega
 go_enter Tryz.func98, Tryz.ntmps98
 go_wp2_with (go_at_call 116; (with_reducible refine (HA.out _).mono ?_); rintro e wv ⟨rfl, rfl⟩)
 go_quiet ((fail))
 have HB1 := Lib.hid (show Blk ((w.alloc (.cells (vtA v) 46)).drewN nq) w.heap.size 46 (vtA v) from HB0.out)
 have HE1 := Lib.hid (below_drewN HE.out nq)
 clear a0 a1 a2 a3 a4 a5 a6 a7 HB0 HE q7
 generalize (w.alloc (.cells (vtA v) 46)).drewN nq = W1 at HB1 HE1 ⊢
 obtain ⟨a0, a1, a2, a3, a4, a5, a6, a7⟩ := vt_facts HB1.out
 rw [Ek.out] at a0
 go_wp2_with fail
 go_ret
 exact ⟨rfl, HE1.out⟩
theorem rVtV_4ch (v : VtR) (hk : v.k = 4) (c0 : ¬ v.si < 0) (c1 : ¬ v.si ≥ 10) (c2 : bits .andNot .i64 v.su 1023 = 0) (c3 : ¬ v.sl < 0) (c4 : ¬ v.sl ≥ 10) (c5 : v.ro ≥ 1) (c6 : v.ro ≤ 12) (c7 : v.ch ≠ 1) (c8 : v.ch ≥ 0) (c9 : ¬ v.ch ≤ 2) (hag : inI v.k 1 4 = true) (hva : decide (v.va = 0) = true) (w : World) :
  Calls Tryz.prog 98 #[.agg (vtA v)] w fun e w' => e = .returned (.bool false) ∧ Ext w w' := by
 have HE := Lib.hid ((Ext.refl w).alloc' (.cells (vtA v) 46))
 obtain ⟨a0, a1, a2, a3, a4, a5, a6, a7⟩ := vt_facts (Blk.new w 46 (vtA v))
 have HB0 := Lib.hid (Blk.new w 46 (vtA v))
 have HA := Lib.hid (fun W => agr_any v.k W)
 rw [hag] at HA
 clear hag
 rw [hk] at HA
 rw [hk] at a0
 have Ek := Lib.hid hk
 clear hk
 have q7 := fun W => run_eqN v.va 0 W
 rw [nmc_zero_lit, hva] at q7
 clear hva
 have x1 : (v.ch == 1) = false := by simp; omega
 have d1 : decide (v.ch = 1) = false := by simp; omega
 have b7 : (v.ch == 1) = false := by simp; omega
 have n7 : (v.ch != 1) = true := by simp; omega
 have d7x : decide (v.ch = 1) = false := by simp; omega
 go_enter Tryz.func98, Tryz.ntmps98
 go_wp2_with (go_at_call 116; (with_reducible refine (HA.out _).mono ?_); rintro e wv ⟨rfl, rfl⟩)
 go_quiet ((fail))
 have HB1 := Lib.hid (show Blk ((w.alloc (.cells (vtA v) 46)).drewN nq) w.heap.size 46 (vtA v) from HB0.out)
 have HE1 := Lib.hid (below_drewN HE.out nq)
 clear a0 a1 a2 a3 a4 a5 a6 a7 HB0 HE q7
 generalize (w.alloc (.cells (vtA v) 46)).drewN nq = W1 at HB1 HE1 ⊢
 obtain ⟨a0, a1, a2, a3, a4, a5, a6, a7⟩ := vt_facts HB1.out
 rw [Ek.out] at a0
 go_wp2_with fail
 go_ret
 exact ⟨by show Ending.returned (.bool (decide (v.ch ≤ 2))) = _; rw [decide_eq_false (p := v.ch ≤ 2) (by omega)], HE1.out⟩
theorem rVtV_4ok (v : VtR) (hk : v.k = 4) (c0 : ¬ v.si < 0) (c1 : ¬ v.si ≥ 10) (c2 : bits .andNot .i64 v.su 1023 = 0) (c3 : ¬ v.sl < 0) (c4 : ¬ v.sl ≥ 10) (c5 : v.ro ≥ 1) (c6 : v.ro ≤ 12) (c7 : v.ch ≠ 1) (c8 : v.ch ≥ 0) (c9 : v.ch ≤ 2) (hag : inI v.k 1 4 = true) (hva : decide (v.va = 0) = true) (w : World) :
  Calls Tryz.prog 98 #[.agg (vtA v)] w fun e w' => e = .returned (.bool true) ∧ Ext w w' := by
 have HE := Lib.hid ((Ext.refl w).alloc' (.cells (vtA v) 46))
 obtain ⟨a0, a1, a2, a3, a4, a5, a6, a7⟩ := vt_facts (Blk.new w 46 (vtA v))
 have HB0 := Lib.hid (Blk.new w 46 (vtA v))
 have HA := Lib.hid (fun W => agr_any v.k W)
 rw [hag] at HA
 clear hag
 rw [hk] at HA
 rw [hk] at a0
 have Ek := Lib.hid hk
 clear hk
 have q7 := fun W => run_eqN v.va 0 W
 rw [nmc_zero_lit, hva] at q7
 clear hva
 have x1 : (v.ch == 1) = false := by simp; omega
 have d1 : decide (v.ch = 1) = false := by simp; omega
 have b7 : (v.ch == 1) = false := by simp; omega
 have n7 : (v.ch != 1) = true := by simp; omega
 have d7x : decide (v.ch = 1) = false := by simp; omega
 go_enter Tryz.func98, Tryz.ntmps98
 go_wp2_with (go_at_call 116; (with_reducible refine (HA.out _).mono ?_); rintro e wv ⟨rfl, rfl⟩)
 go_quiet ((fail))
 have HB1 := Lib.hid (show Blk ((w.alloc (.cells (vtA v) 46)).drewN nq) w.heap.size 46 (vtA v) from HB0.out)
 have HE1 := Lib.hid (below_drewN HE.out nq)
 clear a0 a1 a2 a3 a4 a5 a6 a7 HB0 HE q7
 generalize (w.alloc (.cells (vtA v) 46)).drewN nq = W1 at HB1 HE1 ⊢
 obtain ⟨a0, a1, a2, a3, a4, a5, a6, a7⟩ := vt_facts HB1.out
 rw [Ek.out] at a0
 go_wp2_with fail
 go_ret
 exact ⟨rfl, HE1.out⟩
theorem rVtV_4c1 (v : VtR) (hk : v.k = 4) (hch : v.ch = 1) (c0 : ¬ v.si < 0) (c1 : ¬ v.si ≥ 10) (c2 : bits .andNot .i64 v.su 1023 = 0) (c3 : ¬ v.sl < 0) (c4 : ¬ v.sl ≥ 10) (c5 : v.ro ≥ 1) (c6 : v.ro ≤ 12) (hag : inI v.k 1 4 = true) (hva : decide (v.va = 0) = false) (w : World) :
  Calls Tryz.prog 98 #[.agg (vtA v)] w fun e w' => e = .returned (.bool true) ∧ Ext w w' := by
 have HE := Lib.hid ((Ext.refl w).alloc' (.cells (vtA v) 46))
 obtain ⟨a0, a1, a2, a3, a4, a5, a6, a7⟩ := vt_facts (Blk.new w 46 (vtA v))
 have HB0 := Lib.hid (Blk.new w 46 (vtA v))
 have HA := Lib.hid (fun W => agr_any v.k W)
 rw [hag] at HA
 clear hag
 rw [hk] at HA
 rw [hk] at a0
 have Ek := Lib.hid hk
 clear hk
 rw [hch] at a3
 have Ech := Lib.hid hch
 clear hch
 have q7 := fun W => run_eqN v.va 0 W
 rw [nmc_zero_lit, hva] at q7
 clear hva
 go_enter Tryz.func98, Tryz.ntmps98
 go_wp2_with (go_at_call 116; (with_reducible refine (HA.out _).mono ?_); rintro e wv ⟨rfl, rfl⟩)
 go_quiet ((fail))
 have HB1 := Lib.hid (show Blk ((w.alloc (.cells (vtA v) 46)).drewN nq) w.heap.size 46 (vtA v) from HB0.out)
 have HE1 := Lib.hid (below_drewN HE.out nq)
 clear a0 a1 a2 a3 a4 a5 a6 a7 HB0 HE q7
 generalize (w.alloc (.cells (vtA v) 46)).drewN nq = W1 at HB1 HE1 ⊢
 obtain ⟨a0, a1, a2, a3, a4, a5, a6, a7⟩ := vt_facts HB1.out
 rw [Ek.out] at a0
 rw [Ech.out] at a3
 go_wp2_with fail
 go_ret
 exact ⟨rfl, HE1.out⟩
theorem rVtV_prc1 (v : VtR) (hch : v.ch = 1) (c0 : ¬ v.k < 1) (c1 : ¬ v.k > 7) (c2 : ¬ v.si < 0) (c3 : ¬ v.si ≥ 10) (c4 : bits .andNot .i64 v.su 1023 = 0) (c5 : ¬ v.sl < 0) (c6 : ¬ v.sl ≥ 10) (c7 : v.k ≠ 3) (c8 : v.k ≠ 4) (c9 : v.ro ≠ 0) (hag : inI v.k 1 4 = true) (hva : decide (v.va = 0) = false) (w : World) :
  Calls Tryz.prog 98 #[.agg (vtA v)] w fun e w' => e = .returned (.bool false) ∧ Ext w w' := by
 have HE := Lib.hid ((Ext.refl w).alloc' (.cells (vtA v) 46))
 obtain ⟨a0, a1, a2, a3, a4, a5, a6, a7⟩ := vt_facts (Blk.new w 46 (vtA v))
 have HB0 := Lib.hid (Blk.new w 46 (vtA v))
 have HA := Lib.hid (fun W => agr_any v.k W)
 rw [hag] at HA
 clear hag
 rw [hch] at a3
 have Ech := Lib.hid hch
 clear hch
 have q7 := fun W => run_eqN v.va 0 W
 rw [nmc_zero_lit, hva] at q7
 clear hva
 have b7 : (v.k == 3) = false := by simp; omega
 have n7 : (v.k != 3) = true := by simp; omega
 have d7x : decide (v.k = 3) = false := by simp; omega
 have b8 : (v.k == 4) = false := by simp; omega
 have n8 : (v.k != 4) = true := by simp; omega
 have d8x : decide (v.k = 4) = false := by simp; omega
 have b9 : (v.ro == 0) = false := by simp; omega
 have n9 : (v.ro != 0) = true := by simp; omega
 have d9x : decide (v.ro = 0) = false := by simp; omega
 go_enter Tryz.func98, Tryz.ntmps98
 go_wp2_with (go_at_call 116; (with_reducible refine (HA.out _).mono ?_); rintro e wv ⟨rfl, rfl⟩)
 go_quiet ((fail))
 have HB1 := Lib.hid (show Blk ((w.alloc (.cells (vtA v) 46)).drewN nq) w.heap.size 46 (vtA v) from HB0.out)
 have HE1 := Lib.hid (below_drewN HE.out nq)
 clear a0 a1 a2 a3 a4 a5 a6 a7 HB0 HE q7
 generalize (w.alloc (.cells (vtA v) 46)).drewN nq = W1 at HB1 HE1 ⊢
 obtain ⟨a0, a1, a2, a3, a4, a5, a6, a7⟩ := vt_facts HB1.out
 rw [Ech.out] at a3
 go_wp2_with fail
 go_ret
 exact ⟨rfl, HE1.out⟩
theorem rVtV_prc0 (v : VtR) (c0 : ¬ v.k < 1) (c1 : ¬ v.k > 7) (c2 : ¬ v.si < 0) (c3 : ¬ v.si ≥ 10) (c4 : bits .andNot .i64 v.su 1023 = 0) (c5 : ¬ v.sl < 0) (c6 : ¬ v.sl ≥ 10) (c7 : v.k ≠ 3) (c8 : v.k ≠ 4) (c9 : v.ro ≠ 0) (c10 : v.ch ≠ 1) (hag : inI v.k 1 4 = true) (hva : decide (v.va = 0) = true) (w : World) :
  Calls Tryz.prog 98 #[.agg (vtA v)] w fun e w' => e = .returned (.bool false) ∧ Ext w w' := by
 have HE := Lib.hid ((Ext.refl w).alloc' (.cells (vtA v) 46))
 obtain ⟨a0, a1, a2, a3, a4, a5, a6, a7⟩ := vt_facts (Blk.new w 46 (vtA v))
 have HB0 := Lib.hid (Blk.new w 46 (vtA v))
 have HA := Lib.hid (fun W => agr_any v.k W)
 rw [hag] at HA
 clear hag
 have q7 := fun W => run_eqN v.va 0 W
 rw [nmc_zero_lit, hva] at q7
 clear hva
 have x1 : (v.ch == 1) = false := by simp; omega
 have d1 : decide (v.ch = 1) = false := by simp; omega
 have b7 : (v.k == 3) = false := by simp; omega
 have n7 : (v.k != 3) = true := by simp; omega
 have d7x : decide (v.k = 3) = false := by simp; omega
 have b8 : (v.k == 4) = false := by simp; omega
 have n8 : (v.k != 4) = true := by simp; omega
 have d8x : decide (v.k = 4) = false := by simp; omega
 have b9 : (v.ro == 0) = false := by simp; omega
 have n9 : (v.ro != 0) = true := by simp; omega
 have d9x : decide (v.ro = 0) = false := by simp; omega
 have b10 : (v.ch == 1) = false := by simp; omega
 have n10 : (v.ch != 1) = true := by simp; omega
 have d10x : decide (v.ch = 1) = false := by simp; omega
 go_enter Tryz.func98, Tryz.ntmps98
 go_wp2_with (go_at_call 116; (with_reducible refine (HA.out _).mono ?_); rintro e wv ⟨rfl, rfl⟩)
 go_quiet ((fail))
 have HB1 := Lib.hid (show Blk ((w.alloc (.cells (vtA v) 46)).drewN nq) w.heap.size 46 (vtA v) from HB0.out)
 have HE1 := Lib.hid (below_drewN HE.out nq)
 clear a0 a1 a2 a3 a4 a5 a6 a7 HB0 HE q7
 generalize (w.alloc (.cells (vtA v) 46)).drewN nq = W1 at HB1 HE1 ⊢
 obtain ⟨a0, a1, a2, a3, a4, a5, a6, a7⟩ := vt_facts HB1.out
 go_wp2_with fail
 go_ret
 exact ⟨rfl, HE1.out⟩
theorem rVtV_pc (v : VtR) (hro : v.ro = 0) (c0 : ¬ v.k < 1) (c1 : ¬ v.k > 7) (c2 : ¬ v.si < 0) (c3 : ¬ v.si ≥ 10) (c4 : bits .andNot .i64 v.su 1023 = 0) (c5 : ¬ v.sl < 0) (c6 : ¬ v.sl ≥ 10) (c7 : v.k ≠ 3) (c8 : v.k ≠ 4) (c9 : v.ch ≠ 1) (hag : inI v.k 1 4 = true) (hva : decide (v.va = 0) = true) (w : World) :
  Calls Tryz.prog 98 #[.agg (vtA v)] w fun e w' => e = .returned (.bool false) ∧ Ext w w' := by
 have HE := Lib.hid ((Ext.refl w).alloc' (.cells (vtA v) 46))
 obtain ⟨a0, a1, a2, a3, a4, a5, a6, a7⟩ := vt_facts (Blk.new w 46 (vtA v))
 have HB0 := Lib.hid (Blk.new w 46 (vtA v))
 have HA := Lib.hid (fun W => agr_any v.k W)
 rw [hag] at HA
 clear hag
 rw [hro] at a2
 have Ero := Lib.hid hro
 clear hro
 have q7 := fun W => run_eqN v.va 0 W
 rw [nmc_zero_lit, hva] at q7
 clear hva
 have x1 : (v.ch == 1) = false := by simp; omega
 have d1 : decide (v.ch = 1) = false := by simp; omega
 have b7 : (v.k == 3) = false := by simp; omega
 have n7 : (v.k != 3) = true := by simp; omega
 have d7x : decide (v.k = 3) = false := by simp; omega
 have b8 : (v.k == 4) = false := by simp; omega
 have n8 : (v.k != 4) = true := by simp; omega
 have d8x : decide (v.k = 4) = false := by simp; omega
 have b9 : (v.ch == 1) = false := by simp; omega
 have n9 : (v.ch != 1) = true := by simp; omega
 have d9x : decide (v.ch = 1) = false := by simp; omega
 go_enter Tryz.func98, Tryz.ntmps98
 go_wp2_with (go_at_call 116; (with_reducible refine (HA.out _).mono ?_); rintro e wv ⟨rfl, rfl⟩)
 go_quiet ((fail))
 have HB1 := Lib.hid (show Blk ((w.alloc (.cells (vtA v) 46)).drewN nq) w.heap.size 46 (vtA v) from HB0.out)
 have HE1 := Lib.hid (below_drewN HE.out nq)
 clear a0 a1 a2 a3 a4 a5 a6 a7 HB0 HE q7
 generalize (w.alloc (.cells (vtA v) 46)).drewN nq = W1 at HB1 HE1 ⊢
 obtain ⟨a0, a1, a2, a3, a4, a5, a6, a7⟩ := vt_facts HB1.out
 rw [Ero.out] at a2
 go_wp2_with fail
 go_ret
 exact ⟨rfl, HE1.out⟩
theorem rVtV_pu (v : VtR) (hro : v.ro = 0) (hch : v.ch = 1) (c0 : ¬ v.k < 1) (c1 : ¬ v.k > 7) (c2 : ¬ v.si < 0) (c3 : ¬ v.si ≥ 10) (c4 : bits .andNot .i64 v.su 1023 = 0) (c5 : ¬ v.sl < 0) (c6 : ¬ v.sl ≥ 10) (c7 : v.k ≠ 3) (c8 : v.k ≠ 4) (c9 : v.su ≠ 0) (hag : inI v.k 1 4 = true) (hva : decide (v.va = 0) = false) (w : World) :
  Calls Tryz.prog 98 #[.agg (vtA v)] w fun e w' => e = .returned (.bool false) ∧ Ext w w' := by
 have HE := Lib.hid ((Ext.refl w).alloc' (.cells (vtA v) 46))
 obtain ⟨a0, a1, a2, a3, a4, a5, a6, a7⟩ := vt_facts (Blk.new w 46 (vtA v))
 have HB0 := Lib.hid (Blk.new w 46 (vtA v))
 have HA := Lib.hid (fun W => agr_any v.k W)
 rw [hag] at HA
 clear hag
 rw [hro] at a2
 have Ero := Lib.hid hro
 clear hro
 rw [hch] at a3
 have Ech := Lib.hid hch
 clear hch
 have q7 := fun W => run_eqN v.va 0 W
 rw [nmc_zero_lit, hva] at q7
 clear hva
 have b7 : (v.k == 3) = false := by simp; omega
 have n7 : (v.k != 3) = true := by simp; omega
 have d7x : decide (v.k = 3) = false := by simp; omega
 have b8 : (v.k == 4) = false := by simp; omega
 have n8 : (v.k != 4) = true := by simp; omega
 have d8x : decide (v.k = 4) = false := by simp; omega
 have b9 : (v.su == 0) = false := by simp; omega
 have n9 : (v.su != 0) = true := by simp; omega
 have d9x : decide (v.su = 0) = false := by simp; omega
 go_enter Tryz.func98, Tryz.ntmps98
 go_wp2_with (go_at_call 116; (with_reducible refine (HA.out _).mono ?_); rintro e wv ⟨rfl, rfl⟩)
 go_quiet ((fail))
 have HB1 := Lib.hid (show Blk ((w.alloc (.cells (vtA v) 46)).drewN nq) w.heap.size 46 (vtA v) from HB0.out)
 have HE1 := Lib.hid (below_drewN HE.out nq)
 clear a0 a1 a2 a3 a4 a5 a6 a7 HB0 HE q7
 generalize (w.alloc (.cells (vtA v) 46)).drewN nq = W1 at HB1 HE1 ⊢
 obtain ⟨a0, a1, a2, a3, a4, a5, a6, a7⟩ := vt_facts HB1.out
 rw [Ero.out] at a2
 rw [Ech.out] at a3
 go_wp2_with fail
 go_ret
 exact ⟨rfl, HE1.out⟩
theorem rVtV_py (v : VtR) (hro : v.ro = 0) (hch : v.ch = 1) (hsu : v.su = 0) (c0 : ¬ v.k < 1) (c1 : ¬ v.k > 7) (c2 : ¬ v.si < 0) (c3 : ¬ v.si ≥ 10) (c4 : ¬ v.sl < 0) (c5 : ¬ v.sl ≥ 10) (c6 : v.k ≠ 3) (c7 : v.k ≠ 4) (hag : inI v.k 1 4 = true) (hva : decide (v.va = 0) = false) (w : World) :
  Calls Tryz.prog 98 #[.agg (vtA v)] w fun e w' => e = .returned (.bool true) ∧ Ext w w' := by
 have HE := Lib.hid ((Ext.refl w).alloc' (.cells (vtA v) 46))
 obtain ⟨a0, a1, a2, a3, a4, a5, a6, a7⟩ := vt_facts (Blk.new w 46 (vtA v))
 have HB0 := Lib.hid (Blk.new w 46 (vtA v))
 have HA := Lib.hid (fun W => agr_any v.k W)
 rw [hag] at HA
 clear hag
 rw [hro] at a2
 have Ero := Lib.hid hro
 clear hro
 rw [hch] at a3
 have Ech := Lib.hid hch
 clear hch
 rw [hsu] at a5
 have Esu := Lib.hid hsu
 clear hsu
 have y5 : bits .andNot .i64 0 1023 = 0 := by decide
 have q7 := fun W => run_eqN v.va 0 W
 rw [nmc_zero_lit, hva] at q7
 clear hva
 have b6 : (v.k == 3) = false := by simp; omega
 have n6 : (v.k != 3) = true := by simp; omega
 have d6x : decide (v.k = 3) = false := by simp; omega
 have b7 : (v.k == 4) = false := by simp; omega
 have n7 : (v.k != 4) = true := by simp; omega
 have d7x : decide (v.k = 4) = false := by simp; omega
 go_enter Tryz.func98, Tryz.ntmps98
 go_wp2_with (go_at_call 116; (with_reducible refine (HA.out _).mono ?_); rintro e wv ⟨rfl, rfl⟩)
 go_quiet ((fail))
 have HB1 := Lib.hid (show Blk ((w.alloc (.cells (vtA v) 46)).drewN nq) w.heap.size 46 (vtA v) from HB0.out)
 have HE1 := Lib.hid (below_drewN HE.out nq)
 clear a0 a1 a2 a3 a4 a5 a6 a7 HB0 HE q7
 generalize (w.alloc (.cells (vtA v) 46)).drewN nq = W1 at HB1 HE1 ⊢
 obtain ⟨a0, a1, a2, a3, a4, a5, a6, a7⟩ := vt_facts HB1.out
 rw [Ero.out] at a2
 rw [Ech.out] at a3
 rw [Esu.out] at a5
 go_wp2_with fail
 go_ret
 exact ⟨rfl, HE1.out⟩
theorem rVtV_qrc1 (v : VtR) (hsl : v.sl = 0) (hch : v.ch = 1) (c0 : ¬ v.k < 1) (c1 : ¬ v.k > 7) (c2 : ¬ v.si < 0) (c3 : ¬ v.si ≥ 10) (c4 : bits .andNot .i64 v.su 1023 = 0) (c5 : v.k ≠ 3) (c6 : v.k ≠ 4) (c7 : v.ro ≠ 0) (hag : inI v.k 1 4 = false) (hva : decide (v.va = 0) = false) (w : World) :
  Calls Tryz.prog 98 #[.agg (vtA v)] w fun e w' => e = .returned (.bool false) ∧ Ext w w' := by
 have HE := Lib.hid ((Ext.refl w).alloc' (.cells (vtA v) 46))
 obtain ⟨a0, a1, a2, a3, a4, a5, a6, a7⟩ := vt_facts (Blk.new w 46 (vtA v))
 have HB0 := Lib.hid (Blk.new w 46 (vtA v))
 have HA := Lib.hid (fun W => agr_any v.k W)
 rw [hag] at HA
 clear hag
 rw [hsl] at a1
 have Esl := Lib.hid hsl
 clear hsl
 rw [hch] at a3
 have Ech := Lib.hid hch
 clear hch
 have q7 := fun W => run_eqN v.va 0 W
 rw [nmc_zero_lit, hva] at q7
 clear hva
 have b5 : (v.k == 3) = false := by simp; omega
 have n5 : (v.k != 3) = true := by simp; omega
 have d5x : decide (v.k = 3) = false := by simp; omega
 have b6 : (v.k == 4) = false := by simp; omega
 have n6 : (v.k != 4) = true := by simp; omega
 have d6x : decide (v.k = 4) = false := by simp; omega
 have b7 : (v.ro == 0) = false := by simp; omega
 have n7 : (v.ro != 0) = true := by simp; omega
 have d7x : decide (v.ro = 0) = false := by simp; omega
 go_enter Tryz.func98, Tryz.ntmps98
 go_wp2_with (go_at_call 116; (with_reducible refine (HA.out _).mono ?_); rintro e wv ⟨rfl, rfl⟩)
 go_quiet ((fail))
 have HB1 := Lib.hid (show Blk ((w.alloc (.cells (vtA v) 46)).drewN nq) w.heap.size 46 (vtA v) from HB0.out)
 have HE1 := Lib.hid (below_drewN HE.out nq)
 clear a0 a1 a2 a3 a4 a5 a6 a7 HB0 HE q7
 generalize (w.alloc (.cells (vtA v) 46)).drewN nq = W1 at HB1 HE1 ⊢
 obtain ⟨a0, a1, a2, a3, a4, a5, a6, a7⟩ := vt_facts HB1.out
 rw [Esl.out] at a1
 rw [Ech.out] at a3
 go_wp2_with fail
 go_ret
 exact ⟨rfl, HE1.out⟩
theorem rVtV_qrc0 (v : VtR) (hsl : v.sl = 0) (c0 : ¬ v.k < 1) (c1 : ¬ v.k > 7) (c2 : ¬ v.si < 0) (c3 : ¬ v.si ≥ 10) (c4 : bits .andNot .i64 v.su 1023 = 0) (c5 : v.k ≠ 3) (c6 : v.k ≠ 4) (c7 : v.ro ≠ 0) (c8 : v.ch ≠ 1) (hag : inI v.k 1 4 = false) (hva : decide (v.va = 0) = true) (w : World) :
  Calls Tryz.prog 98 #[.agg (vtA v)] w fun e w' => e = .returned (.bool false) ∧ Ext w w' := by
 have HE := Lib.hid ((Ext.refl w).alloc' (.cells (vtA v) 46))
 obtain ⟨a0, a1, a2, a3, a4, a5, a6, a7⟩ := vt_facts (Blk.new w 46 (vtA v))
 have HB0 := Lib.hid (Blk.new w 46 (vtA v))
 have HA := Lib.hid (fun W => agr_any v.k W)
 rw [hag] at HA
 clear hag
 rw [hsl] at a1
 have Esl := Lib.hid hsl
 clear hsl
 have q7 := fun W => run_eqN v.va 0 W
 rw [nmc_zero_lit, hva] at q7
 clear hva
 have x1 : (v.ch == 1) = false := by simp; omega
 have d1 : decide (v.ch = 1) = false := by simp; omega
 have b5 : (v.k == 3) = false := by simp; omega
 have n5 : (v.k != 3) = true := by simp; omega
 have d5x : decide (v.k = 3) = false := by simp; omega
 have b6 : (v.k == 4) = false := by simp; omega
 have n6 : (v.k != 4) = true := by simp; omega
 have d6x : decide (v.k = 4) = false := by simp; omega
 have b7 : (v.ro == 0) = false := by simp; omega
 have n7 : (v.ro != 0) = true := by simp; omega
 have d7x : decide (v.ro = 0) = false := by simp; omega
 have b8 : (v.ch == 1) = false := by simp; omega
 have n8 : (v.ch != 1) = true := by simp; omega
 have d8x : decide (v.ch = 1) = false := by simp; omega
 go_enter Tryz.func98, Tryz.ntmps98
 go_wp2_with (go_at_call 116; (with_reducible refine (HA.out _).mono ?_); rintro e wv ⟨rfl, rfl⟩)
 go_quiet ((fail))
 have HB1 := Lib.hid (show Blk ((w.alloc (.cells (vtA v) 46)).drewN nq) w.heap.size 46 (vtA v) from HB0.out)
 have HE1 := Lib.hid (below_drewN HE.out nq)
 clear a0 a1 a2 a3 a4 a5 a6 a7 HB0 HE q7
 generalize (w.alloc (.cells (vtA v) 46)).drewN nq = W1 at HB1 HE1 ⊢
 obtain ⟨a0, a1, a2, a3, a4, a5, a6, a7⟩ := vt_facts HB1.out
 rw [Esl.out] at a1
 go_wp2_with fail
 go_ret
 exact ⟨rfl, HE1.out⟩
theorem rVtV_qc (v : VtR) (hsl : v.sl = 0) (hro : v.ro = 0) (c0 : ¬ v.k < 1) (c1 : ¬ v.k > 7) (c2 : ¬ v.si < 0) (c3 : ¬ v.si ≥ 10) (c4 : bits .andNot .i64 v.su 1023 = 0) (c5 : v.k ≠ 3) (c6 : v.k ≠ 4) (c7 : v.ch ≠ 1) (hag : inI v.k 1 4 = false) (hva : decide (v.va = 0) = true) (w : World) :
  Calls Tryz.prog 98 #[.agg (vtA v)] w fun e w' => e = .returned (.bool false) ∧ Ext w w' := by
 have HE := Lib.hid ((Ext.refl w).alloc' (.cells (vtA v) 46))
 obtain ⟨a0, a1, a2, a3, a4, a5, a6, a7⟩ := vt_facts (Blk.new w 46 (vtA v))
 have HB0 := Lib.hid (Blk.new w 46 (vtA v))
 have HA := Lib.hid (fun W => agr_any v.k W)
 rw [hag] at HA
 clear hag
 rw [hsl] at a1
 have Esl := Lib.hid hsl
 clear hsl
 rw [hro] at a2
 have Ero := Lib.hid hro
 clear hro
 have q7 := fun W => run_eqN v.va 0 W
 rw [nmc_zero_lit, hva] at q7
 clear hva
 have x1 : (v.ch == 1) = false := by simp; omega
 have d1 : decide (v.ch = 1) = false := by simp; omega
 have b5 : (v.k == 3) = false := by simp; omega
 have n5 : (v.k != 3) = true := by simp; omega
 have d5x : decide (v.k = 3) = false := by simp; omega
 have b6 : (v.k == 4) = false := by simp; omega
 have n6 : (v.k != 4) = true := by simp; omega
 have d6x : decide (v.k = 4) = false := by simp; omega
 have b7 : (v.ch == 1) = false := by simp; omega
 have n7 : (v.ch != 1) = true := by simp; omega
 have d7x : decide (v.ch = 1) = false := by simp; omega
 go_enter Tryz.func98, Tryz.ntmps98
 go_wp2_with (go_at_call 116; (with_reducible refine (HA.out _).mono ?_); rintro e wv ⟨rfl, rfl⟩)
 go_quiet ((fail))
 have HB1 := Lib.hid (show Blk ((w.alloc (.cells (vtA v) 46)).drewN nq) w.heap.size 46 (vtA v) from HB0.out)
 have HE1 := Lib.hid (below_drewN HE.out nq)
 clear a0 a1 a2 a3 a4 a5 a6 a7 HB0 HE q7
 generalize (w.alloc (.cells (vtA v) 46)).drewN nq = W1 at HB1 HE1 ⊢
 obtain ⟨a0, a1, a2, a3, a4, a5, a6, a7⟩ := vt_facts HB1.out
 rw [Esl.out] at a1
 rw [Ero.out] at a2
 go_wp2_with fail
 go_ret
 exact ⟨rfl, HE1.out⟩
theorem rVtV_qu (v : VtR) (hsl : v.sl = 0) (hro : v.ro = 0) (hch : v.ch = 1) (c0 : ¬ v.k < 1) (c1 : ¬ v.k > 7) (c2 : ¬ v.si < 0) (c3 : ¬ v.si ≥ 10) (c4 : bits .andNot .i64 v.su 1023 = 0) (c5 : v.k ≠ 3) (c6 : v.k ≠ 4) (c7 : v.su ≠ 0) (hag : inI v.k 1 4 = false) (hva : decide (v.va = 0) = false) (w : World) :
  Calls Tryz.prog 98 #[.agg (vtA v)] w fun e w' => e = .returned (.bool false) ∧ Ext w w' := by
 have HE := Lib.hid ((Ext.refl w).alloc' (.cells (vtA v) 46))
 obtain ⟨a0, a1, a2, a3, a4, a5, a6, a7⟩ := vt_facts (Blk.new w 46 (vtA v))
 have HB0 := Lib.hid (Blk.new w 46 (vtA v))
 have HA := Lib.hid (fun W => agr_any v.k W)
 rw [hag] at HA
 clear hag
 rw [hsl] at a1
 have Esl := Lib.hid hsl
 clear hsl
 rw [hro] at a2
 have Ero := Lib.hid hro
 clear hro
 rw [hch] at a3
 have Ech := Lib.hid hch
 clear hch
 have q7 := fun W => run_eqN v.va 0 W
 rw [nmc_zero_lit, hva] at q7
 clear hva
 have b5 : (v.k == 3) = false := by simp; omega
 have n5 : (v.k != 3) = true := by simp; omega
 have d5x : decide (v.k = 3) = false := by simp; omega
 have b6 : (v.k == 4) = false := by simp; omega
 have n6 : (v.k != 4) = true := by simp; omega
 have d6x : decide (v.k = 4) = false := by simp; omega
 have b7 : (v.su == 0) = false := by simp; omega
 have n7 : (v.su != 0) = true := by simp; omega
 have d7x : decide (v.su = 0) = false := by simp; omega
 go_enter Tryz.func98, Tryz.ntmps98
 go_wp2_with (go_at_call 116; (with_reducible refine (HA.out _).mono ?_); rintro e wv ⟨rfl, rfl⟩)
 go_quiet ((fail))
 have HB1 := Lib.hid (show Blk ((w.alloc (.cells (vtA v) 46)).drewN nq) w.heap.size 46 (vtA v) from HB0.out)
 have HE1 := Lib.hid (below_drewN HE.out nq)
 clear a0 a1 a2 a3 a4 a5 a6 a7 HB0 HE q7
 generalize (w.alloc (.cells (vtA v) 46)).drewN nq = W1 at HB1 HE1 ⊢
 obtain ⟨a0, a1, a2, a3, a4, a5, a6, a7⟩ := vt_facts HB1.out
 rw [Esl.out] at a1
 rw [Ero.out] at a2
 rw [Ech.out] at a3
 go_wp2_with fail
 go_ret
 exact ⟨rfl, HE1.out⟩
theorem rVtV_qy (v : VtR) (hsl : v.sl = 0) (hro : v.ro = 0) (hch : v.ch = 1) (hsu : v.su = 0) (c0 : ¬ v.k < 1) (c1 : ¬ v.k > 7) (c2 : ¬ v.si < 0) (c3 : ¬ v.si ≥ 10) (c4 : v.k ≠ 3) (c5 : v.k ≠ 4) (hag : inI v.k 1 4 = false) (hva : decide (v.va = 0) = false) (w : World) :
  Calls Tryz.prog 98 #[.agg (vtA v)] w fun e w' => e = .returned (.bool true) ∧ Ext w w' := by
 have HE := Lib.hid ((Ext.refl w).alloc' (.cells (vtA v) 46))
 obtain ⟨a0, a1, a2, a3, a4, a5, a6, a7⟩ := vt_facts (Blk.new w 46 (vtA v))
 have HB0 := Lib.hid (Blk.new w 46 (vtA v))
 have HA := Lib.hid (fun W => agr_any v.k W)
 rw [hag] at HA
 clear hag
 rw [hsl] at a1
 have Esl := Lib.hid hsl
 clear hsl
 rw [hro] at a2
 have Ero := Lib.hid hro
 clear hro
 rw [hch] at a3
 have Ech := Lib.hid hch
 clear hch
 rw [hsu] at a5
 have Esu := Lib.hid hsu
 clear hsu
 have y5 : bits .andNot .i64 0 1023 = 0 := by decide
 have q7 := fun W => run_eqN v.va 0 W
 rw [nmc_zero_lit, hva] at q7
 clear hva
 have b4 : (v.k == 3) = false := by simp; omega
 have n4 : (v.k != 3) = true := by simp; omega
 have d4x : decide (v.k = 3) = false := by simp; omega
 have b5 : (v.k == 4) = false := by simp; omega
 have n5 : (v.k != 4) = true := by simp; omega
 have d5x : decide (v.k = 4) = false := by simp; omega
 go_enter Tryz.func98, Tryz.ntmps98
 go_wp2_with (go_at_call 116; (with_reducible refine (HA.out _).mono ?_); rintro e wv ⟨rfl, rfl⟩)
 go_quiet ((fail))
 have HB1 := Lib.hid (show Blk ((w.alloc (.cells (vtA v) 46)).drewN nq) w.heap.size 46 (vtA v) from HB0.out)
 have HE1 := Lib.hid (below_drewN HE.out nq)
 clear a0 a1 a2 a3 a4 a5 a6 a7 HB0 HE q7
 generalize (w.alloc (.cells (vtA v) 46)).drewN nq = W1 at HB1 HE1 ⊢
 obtain ⟨a0, a1, a2, a3, a4, a5, a6, a7⟩ := vt_facts HB1.out
 rw [Esl.out] at a1
 rw [Ero.out] at a2
 rw [Ech.out] at a3
 rw [Esu.out] at a5
 go_wp2_with fail
 go_ret
 exact ⟨rfl, HE1.out⟩
end Go.Proofs.YtbfepgjeecndiaaGreat
