/- Verify (the program's), where it climbs. -/
import Derived.Test.YtcfmlgbocdjabaaGreatVer3
namespace Go.Proofs.YtcfmlgbocdjabaaGreat
open Go.RowKit
set_option linter.unusedVariables false
set_option linter.unusedSimpArgs false

theorem run_storeOver {w : World} {g : Nat} {t : TypeId} {n : UInt64} (h : Blk w g t (nmc n)) (r : UInt64) : (storeCells ⟨g, 0, none⟩ (nmc r).toList).run Tryz.prog w = .ok () (w.setCells g 0 (nmc r).toList) := by
  have hl : (nmc r).toList.length = 8 := by rw [nmc_toList, bcs_length, nmb_length]
  have := run_storeCells_cells (P := Tryz.prog) g 0 (nmc r).toList 0 w (fun j hj => by rw [Nat.add_zero, Nat.zero_add, h.cell j, Array.getElem?_eq_getElem (by rw [nmc_size]; omega)]; rfl) (fun j hj => h.frozen _) (by rw [nmc_toList]; exact bcs_one _)
  exact this
set_option maxRecDepth 100000 in
set_option maxHeartbeats 1000000 in
theorem verify_one (pub m : UInt64) (A : Option Addr) (n c : Nat) (l : List UInt8) (w : World) (h : SlB w A n c l) (hn : n = 186) (hlf : numAt l 0 2 < 32) :
    Calls Tryz.prog 31 #[.agg (nmc pub), .int .i64 1, .agg (nmc m), .slice A n c] w fun e w' => e = .returned (.bool (decide (climbU l 2 (numAt l 0 2 % 32) m = pub))) ∧ Ext w w' := by
  subst hn
  have hE := ((Ext.refl w).alloc' (.cells (nmc pub) 23)).alloc' (.cells (nmc m) 23)
  have hbp := (Blk.new w 23 (nmc pub)).alloc (.cells (nmc m) 23)
  have hbm : Blk ((w.alloc (.cells (nmc pub) 23)).alloc (.cells (nmc m) 23)) (w.heap.size + 1) 23 (nmc m) := Blk.newAt _ _ _ _ (by simp)
  have HE := Lib.hid hE
  have HP := Lib.hid hbp
  have hrm := rangeN hbm
  have HL := Lib.hid (leaf_yes A 186 c l _ (h.ext HE.out) (by omega))
  have HH := Lib.hid (h.ext HE.out)
  have hcap := h.cap
  clear h hE hbp hbm
  generalize hx : numAt l 0 2 = x at *
  clear hx
  have hq := fun w => run_eqN (climbU l 2 (x % 32) m) pub w
  go_enter Tryz.func31, Tryz.ntmps31
  go_wp2_with fail
  refine HL.out.mono ?_
  rintro e w1 ⟨rfl, rfl⟩
  go_wp2_with (first | (go_at_call 48; refine (size_any 1 _).mono ?_; rintro e w1 ⟨rfl, rfl⟩; rw [show sizeZ 1 = 186 from rfl]) | (go_at_call 74; refine (capacity_any 1 _).mono ?_; rintro e w1 ⟨rfl, rfl⟩; rw [show capZ 1 = 32 from rfl]) | (with_reducible refine wpList_loadN rfl (.tmp 6) rfl (w.heap.size + 1) 0 rfl m hrm ?_))
  refine (climbed_at A 186 c l 2 (x % 32) _ _ rfl (by omega) m _ HH.out (by omega) (by omega) (by omega)).mono ?_
  rintro e w2 ⟨rfl, he2⟩
  have HP2 := Lib.hid (HP.out.ext he2)
  have HE2 := Lib.hid (HE.out.trans he2)
  clear hrm he2
  generalize hr0 : climbU l 2 (x % 32) m = r at *
  have HR0 := Lib.hid hr0
  clear hr0
  have hst := run_storeNewN w2 w2.heap.size rfl r
  have hr := rangeN (Blk.new w2 23 (nmc r))
  have hp := rangeN (HP2.out.alloc (.cells (nmc r) 23))
  go_wp2_with (first | (with_reducible refine wpList_loadN rfl (.tmp 11) rfl w2.heap.size 0 rfl r hr ?_) | (with_reducible refine wpList_loadN rfl (.tmp 4) rfl w.heap.size 0 rfl pub hp ?_))
  go_ret
  exact ⟨by rw [HR0.out]; rfl, HE2.out.alloc' _⟩
set_option maxRecDepth 100000 in
set_option maxHeartbeats 1000000 in
theorem verify_two (pub m : UInt64) (A : Option Addr) (n c : Nat) (l : List UInt8) (w : World) (h : SlB w A n c l) (hn : n = 370) (hlf : numAt l 0 2 < 1024) :
    Calls Tryz.prog 31 #[.agg (nmc pub), .int .i64 2, .agg (nmc m), .slice A n c] w fun e w' => e = .returned (.bool (decide (climbU l 186 (numAt l 0 2 / 32) (climbU l 2 (numAt l 0 2 % 32) m) = pub))) ∧ Ext w w' := by
  subst hn
  have hE := ((Ext.refl w).alloc' (.cells (nmc pub) 23)).alloc' (.cells (nmc m) 23)
  have hbp := (Blk.new w 23 (nmc pub)).alloc (.cells (nmc m) 23)
  have hbm : Blk ((w.alloc (.cells (nmc pub) 23)).alloc (.cells (nmc m) 23)) (w.heap.size + 1) 23 (nmc m) := Blk.newAt _ _ _ _ (by simp)
  have HE := Lib.hid hE
  have HP := Lib.hid hbp
  have hrm := rangeN hbm
  have HL := Lib.hid (leaf_yes A 370 c l _ (h.ext HE.out) (by omega))
  have HH := Lib.hid (h.ext HE.out)
  have hcap := h.cap
  clear h hE hbp hbm
  generalize hx : numAt l 0 2 = x at *
  clear hx
  go_enter Tryz.func31, Tryz.ntmps31
  go_wp2_with fail
  refine HL.out.mono ?_
  rintro e w1 ⟨rfl, rfl⟩
  go_wp2_with (first | (go_at_call 48; refine (size_any 2 _).mono ?_; rintro e w1 ⟨rfl, rfl⟩; rw [show sizeZ 2 = 370 from rfl]) | (go_at_call 74; refine (capacity_any 2 _).mono ?_; rintro e w1 ⟨rfl, rfl⟩; rw [show capZ 2 = 1024 from rfl]) | (with_reducible refine wpList_loadN rfl (.tmp 6) rfl (w.heap.size + 1) 0 rfl m hrm ?_))
  refine (climbed_at A 370 c l 2 (x % 32) _ _ rfl (by omega) m _ HH.out (by omega) (by omega) (by omega)).mono ?_
  rintro e w2 ⟨rfl, he2⟩
  have HP2 := Lib.hid (HP.out.ext he2)
  have HE2 := Lib.hid (HE.out.trans he2)
  have HH2 := Lib.hid (HH.out.ext he2)
  clear hrm he2
  generalize hr0 : climbU l 2 (x % 32) m = r at *
  have HR0 := Lib.hid hr0
  clear hr0
  have hst := run_storeNewN w2 w2.heap.size rfl r
  have hA := (Ext.refl w2).alloc' (.cells (nmc r) 23)
  have HB := Lib.hid (Blk.new w2 23 (nmc r))
  have hr := rangeN HB.out
  have HH3 := Lib.hid (HH2.out.ext hA)
  have HP3 := Lib.hid (HP2.out.ext hA)
  have HE3 := Lib.hid (HE2.out.trans hA)
  clear hA
  go_wp2_with (with_reducible refine wpList_loadN rfl (.tmp 11) rfl w2.heap.size 0 rfl r hr ?_)
  clear hr hst
  generalize w2.alloc (.cells (nmc r) 23) = W2 at *
  refine (climbed_at A 370 c l 186 (x / 32) _ _ rfl (by omega) r _ HH3.out (by omega) (by omega) (by omega)).mono ?_
  rintro e w3 ⟨rfl, he3⟩
  have HB3 := Lib.hid (HB.out.ext he3)
  have HP4 := Lib.hid (HP3.out.ext he3)
  have HE4 := Lib.hid (HE3.out.trans he3)
  have hlt := HP.out.lt
  have hne : w.heap.size ≠ w2.heap.size := by have := HE2.out.size; have := HP2.out.lt; omega
  clear he3
  generalize hr1 : climbU l 186 (x / 32) r = r2 at *
  have HR1 := Lib.hid hr1
  clear hr1
  have hq := fun w => run_eqN r2 pub w
  have hst := run_storeOver HB3.out r2
  have hr2 := rangeN (blkN' HB3.out r2)
  have hp2 := rangeN (HP4.out.setCells_far hne (nmc r2).toList 0)
  go_wp2_with (first | (with_reducible refine wpList_loadN rfl (.tmp 11) rfl w2.heap.size 0 rfl r2 hr2 ?_) | (with_reducible refine wpList_loadN rfl (.tmp 4) rfl w.heap.size 0 rfl pub hp2 ?_))
  go_ret
  exact ⟨by rw [HR0.out, HR1.out]; rfl, Below.setCells' HE4.out HE2.out.size _ _⟩
theorem verify_any (pub m : UInt64) (lv : Int) (A : Option Addr) (n c : Nat) (l : List UInt8) (w : World) (h : SlB w A n c l) :
    Calls Tryz.prog 31 #[.agg (nmc pub), .int .i64 lv, .agg (nmc m), .slice A n c] w fun e w' => e = .returned (.bool (verU pub lv m l)) ∧ Ext w w' := by
  have hlen := h.len
  by_cases hs : sizeZ lv = (n : Int)
  · by_cases hc : capZ lv ≤ (numAt l 0 2 : Int)
    · rw [verU_far pub lv m l hc]
      exact verify_no pub m lv A n c l w h (.inr (.inr hc))
    · by_cases h1 : lv = 1
      · subst h1
        have hn : n = 186 := by have : (186 : Int) = (n : Int) := hs; omega
        have hlf : numAt l 0 2 < 32 := by have : ¬ (32 : Int) ≤ (numAt l 0 2 : Int) := hc; omega
        have hv : verU pub 1 m l = decide (climbU l 2 (numAt l 0 2 % 32) m = pub) := by
          unfold verU; rw [if_pos rfl, decide_eq_true (show l.length = 186 by omega), decide_eq_true hlf]; rfl
        rw [hv]
        exact verify_one pub m A n c l w h hn hlf
      · by_cases h2 : lv = 2
        · subst h2
          have hn : n = 370 := by have : (370 : Int) = (n : Int) := hs; omega
          have hlf : numAt l 0 2 < 1024 := by have : ¬ (1024 : Int) ≤ (numAt l 0 2 : Int) := hc; omega
          have hv : verU pub 2 m l = decide (climbU l 186 (numAt l 0 2 / 32) (climbU l 2 (numAt l 0 2 % 32) m) = pub) := by
            unfold verU; rw [if_neg (by decide), if_pos rfl, decide_eq_true (show l.length = 370 by omega), decide_eq_true hlf]; rfl
          rw [hv]
          exact verify_two pub m A n c l w h hn hlf
        · exact absurd (show capZ lv ≤ (numAt l 0 2 : Int) by rw [show capZ lv = 0 from by simp [capZ, h1, h2]]; omega) hc
  · rw [verU_short pub lv m l (by rw [hlen]; exact hs)]
    exact verify_no pub m lv A n c l w h (.inr (.inl hs))
end Go.Proofs.YtcfmlgbocdjabaaGreat
