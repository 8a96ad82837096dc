/- Verify (the program's). -/
import Derived.Test.YtengpfpeeihaoaaVer4
namespace Go.Proofs.Ytengpfpeeihaoaa
open Go.RowKit
set_option linter.unusedVariables false
set_option linter.unusedSimpArgs false

theorem climbed_at (A : Option Addr) (len c : Nat) (l : List UInt8) (at_ j : Nat) (z q : Int) (hz : z = (at_ : Int)) (hq : q = (j : Int)) (m : UInt64) (w : World) (h : SlB w A len c l) (hf : at_ + 184 ≤ len) (hat : at_ ≤ 500) (hj : j < 32) :
    Calls Try.prog 60 #[.slice A len c, .int .i64 z, .int .i64 q, .agg (nmc m)] w fun e w' => e = .returned (.agg (nmc (climbU l at_ j m))) ∧ Ext w w' := by
  subst hz; subst hq; exact climbed_any A len c l at_ j m w h hf hat hj
theorem verU_short (pub : UInt64) (lv : Int) (m : UInt64) (l : List UInt8) (h : sizeZ lv ≠ (l.length : Int)) : verU pub lv m l = false := by
  unfold verU
  by_cases h1 : lv = 1
  · subst h1; rw [if_pos rfl, decide_eq_false (show ¬ l.length = 186 from fun e => h (by rw [e]; rfl))]; rfl
  · rw [if_neg h1]
    by_cases h2 : lv = 2
    · subst h2; rw [if_pos rfl, decide_eq_false (show ¬ l.length = 370 from fun e => h (by rw [e]; rfl))]; rfl
    · rw [if_neg h2]
theorem verU_far (pub : UInt64) (lv : Int) (m : UInt64) (l : List UInt8) (h : capZ lv ≤ (numAt l 0 2 : Int)) : verU pub lv m l = false := by
  unfold verU
  by_cases h1 : lv = 1
  · subst h1; rw [if_pos rfl, decide_eq_false (show ¬ numAt l 0 2 < 32 from by have : (32 : Int) ≤ (numAt l 0 2 : Int) := h; omega)]; simp
  · rw [if_neg h1]
    by_cases h2 : lv = 2
    · subst h2; rw [if_pos rfl, decide_eq_false (show ¬ numAt l 0 2 < 1024 from by have : (1024 : Int) ≤ (numAt l 0 2 : Int) := h; omega)]; simp
    · rw [if_neg h2]
set_option maxRecDepth 100000 in
set_option maxHeartbeats 2000000 in
theorem verify_no (pub m : UInt64) (lv : Int) (A : Option Addr) (n c : Nat) (l : List UInt8) (w : World) (h : SlB w A n c l) (hno : n < 2 ∨ sizeZ lv ≠ (n : Int) ∨ capZ lv ≤ (numAt l 0 2 : Int)) :
    Calls Try.prog 38 #[.agg (nmc pub), .int .i64 lv, .agg (nmc m), .slice A n c] w fun e w' => e = .returned (.bool false) ∧ Ext w w' := by
  have hE := ((Ext.refl w).alloc' (.cells (nmc pub) 61)).alloc' (.cells (nmc m) 61)
  have HE := Lib.hid hE
  have hcap := h.cap
  have hle := h.le
  by_cases h2 : n < 2
  · clear hno
    go_enter Try.func38, Try.ntmps38
    go_wp2_with (go_at_call 12; refine (leaf_no A n c _ h2).mono ?_; rintro e w1 ⟨rfl, rfl⟩)
    go_ret
    exact ⟨rfl, HE.out⟩
  · have HL := Lib.hid (leaf_yes A n c l _ (h.ext HE.out) (by omega))
    have HH := Lib.hid h
    clear h hE
    by_cases hs : sizeZ lv = (n : Int)
    · have hc : capZ lv ≤ (numAt l 0 2 : Int) := by
        rcases hno with h | h | h
        · omega
        · exact absurd hs h
        · exact h
      have b1 : ((n : Int) != sizeZ lv) = false := by rw [hs]; simp
      clear hno hs
      generalize hx : numAt l 0 2 = x at *
      generalize hcz : capZ lv = cz at *
      generalize hsz : sizeZ lv = sz at *
      have HC := Lib.hid hcz
      have HS := Lib.hid hsz
      clear hx hcz hsz
      go_enter Try.func38, Try.ntmps38
      go_wp2_with fail
      refine HL.out.mono ?_
      rintro e w1 ⟨rfl, rfl⟩
      go_wp2_with (first | (go_at_call 15; refine (size_any lv _).mono ?_; rintro e w1 ⟨rfl, rfl⟩; rw [HS.out]) | (go_at_call 13; refine (capacity_any lv _).mono ?_; rintro e w1 ⟨rfl, rfl⟩; rw [HC.out]))
      go_ret
      exact ⟨rfl, HE.out⟩
    · have b1 : ((n : Int) != sizeZ lv) = true := by rw [bne_iff_ne]; exact fun e => hs e.symm
      clear hno hs
      generalize hx : numAt l 0 2 = x at *
      generalize hsz : sizeZ lv = sz at *
      have HS := Lib.hid hsz
      clear hx hsz
      go_enter Try.func38, Try.ntmps38
      go_wp2_with fail
      refine HL.out.mono ?_
      rintro e w1 ⟨rfl, rfl⟩
      go_wp2_with (first | (go_at_call 15; refine (size_any lv _).mono ?_; rintro e w1 ⟨rfl, rfl⟩; rw [HS.out]) | (go_at_call 13; refine (capacity_any lv _).mono ?_; rintro e w1 ⟨rfl, rfl⟩))
      go_ret
      exact ⟨rfl, HE.out⟩
end Go.Proofs.Ytengpfpeeihaoaa
