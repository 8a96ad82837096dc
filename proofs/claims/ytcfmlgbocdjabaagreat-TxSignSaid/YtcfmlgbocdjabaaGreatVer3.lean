/- list (the reference's); Verify (the program's). -/
import Derived.Test.YtcfmlgbocdjabaaGreatVer1
import Derived.Test.YtcfmlgbocdjabaaGreatA
import Derived.Test.YtcfmlgbocdjabaaGreatEqN
namespace Go.Proofs.YtcfmlgbocdjabaaGreat
open Go.RowKit
set_option linter.unusedVariables false
set_option linter.unusedSimpArgs false

theorem un_nmAt (l : List UInt8) (at_ k : Nat) (h : at_ + k * 8 + 8 ≤ l.length) : ((numAt l (at_ + k * 8) 8 : Nat) : Int) = un (nmAt l at_ k) := by
  have := beNat_nmb (nmAt l at_ k)
  rw [nmb_nmAt l at_ k h] at this
  unfold un numAt; rw [this]
theorem refUint8 (A : Option Addr) (n c : Nat) (l : List UInt8) (at_ k : Nat) (z : Int) (hz : z = ((at_ + k * 8 : Nat) : Int)) (w : World) (h : SlB w A n c l) (hf : at_ + k * 8 + 8 ≤ n) (hn : n ≤ 140737488355328) :
    Calls Tryz.prog 122 #[.slice A n c, .int .i64 z, .int .i64 8] w fun e w' => e = .returned (.tuple #[.int .u64 (un (nmAt l at_ k)), .bool true]) ∧ w = w' := by
  subst hz
  rw [← un_nmAt l at_ k (by have := h.len; omega)]
  exact refUint_yes A n c l (at_ + k * 8) 8 w h (by omega) (by omega) hf hn
set_option maxRecDepth 100000 in
set_option maxHeartbeats 2000000 in
theorem refList_any (A : Option Addr) (len c : Nat) (l : List UInt8) (at_ n : Nat) (w : World) (h : SlB w A len c l) (hn : n ≤ 1000) (hf : at_ + n * 8 ≤ len) (hat : at_ ≤ 1000) (hl : len ≤ 140737488355328) :
    Calls Tryz.prog 83 #[.slice A len c, .int .i64 (at_ : Int), .int .i64 (n : Int)] w fun e w' => ∃ A' c', e = .returned (.slice A' n c') ∧ SlN w' A' n c' (namesU l at_ n) ∧ Ext w w' := by
  have HS := Lib.hid h
  clear h
  go_enter Tryz.func83, Tryz.ntmps83
  go_wp2_with fail
  go_loopw [7, 8] (fun v i wr => ∃ (k : Nat) (A1 : Option Addr) (c1 : Nat), k ≤ n ∧ i = .int .i64 (k : Int) ∧ v = .slice A1 k c1 ∧ wr.ownsRow w.heap.size 23 8 (.slice A1 k c1) k (ncs ((List.range k).map (nmAt l at_))) ∧ Ext w wr) (fun _ i _ => n - (intOf i).toNat)
  case atStart => exact ⟨0, _, _, by omega, rfl, rfl, World.ownsRow_nil _ _ _ _, Ext.refl _⟩
  case round =>
    obtain ⟨k, A1, c1, hk, rfl, rfl, hO, hE⟩ := hrel
    have HO := Lib.hid hO
    have HE := Lib.hid hE
    clear hO hE
    by_cases hlt : k < n
    · have HZ := Lib.hid (show (at_ : Int) + 8 * (k : Int) = ((at_ + k * 8 : Nat) : Int) by omega)
      have HF := Lib.hid (show at_ + k * 8 + 8 ≤ len by omega)
      have HR := Lib.hid (show (List.range (k + 1)).map (nmAt l at_) = (List.range k).map (nmAt l at_) ++ [nmAt l at_ k] by rw [List.range_succ, List.map_append]; rfl)
      have j1 : (k : Int) < (n : Int) := by omega
      go_wp2_with fail
      refine (refUint8 A len c l at_ k _ HZ.out _ (HS.out.ext HE.out) HF.out hl).mono ?_
      rintro e w1 ⟨rfl, rfl⟩
      go_wp2_with fail
      refine (refOf_any _ _).mono ?_
      rintro e w2 ⟨rfl, he2⟩
      have HE2 := Lib.hid (HE.out.trans he2)
      have HO2 := Lib.hid (own_ext HO.out he2)
      clear he2
      go_wp2_with (at_builtin; go_must (refine wpList_app namesE rfl (.tmp 25) (.tmp 28) rfl w.heap.size A1 k c1 (ncs ((List.range k).map (nmAt l at_))) rfl (own_ext HO2.out ((Ext.refl _).alloc' _)) (some ⟨w2.heap.size, 0, none⟩) 1 1 (ncs [nmAt l at_ k]) rfl (Rd.newN _ _ _ _ rfl) (by rw [ncs_length]; rfl) (ncs_one _) (by omega) (by omega) ?z1 w ?z2 ?_))
      case z1 => exact (HE2.out.alloc' _).size
      case z2 => exact HE2.out.alloc' _
      intro A4 c4 w4 hO4 hE4 hs4
      go_wp2_with fail
      go_roundw
      case rel => exact ⟨k + 1, A4, c4, by omega, by go_num, rfl, by rw [HR.out, ncs_append]; exact hO4, hE4⟩
      case measure => simp [intOf]; omega
    · obtain rfl : k = n := by omega
      go_wp2_with fail
      go_ret
      exact ⟨A1, c1, rfl, SlN.of_own HO.out, HE.out⟩
/-- what Verify answers -/
def verU (pub : UInt64) (levels : Int) (m : UInt64) (l : List UInt8) : Bool :=
  if levels = 1 then decide (l.length = 186) && (decide (numAt l 0 2 < 32) && decide (climbU l 2 (numAt l 0 2 % 32) m = pub))
  else if levels = 2 then decide (l.length = 370) && (decide (numAt l 0 2 < 1024) && decide (climbU l 186 (numAt l 0 2 / 32) (climbU l 2 (numAt l 0 2 % 32) m) = pub))
  else false
end Go.Proofs.YtcfmlgbocdjabaaGreat
/- Two names held against each other. -/
namespace Go.Proofs.YtcfmlgbocdjabaaGreat
open Go.RowKit
set_option linter.unusedVariables false
set_option linter.unusedSimpArgs false

end Go.Proofs.YtcfmlgbocdjabaaGreat
/- Verify (the program's). -/
namespace Go.Proofs.YtcfmlgbocdjabaaGreat
open Go.RowKit
set_option linter.unusedVariables false
set_option linter.unusedSimpArgs false

theorem climbed_at (A : Option Addr) (len c : Nat) (l : List UInt8) (at_ j : Nat) (z q : Int) (hz : z = (at_ : Int)) (hq : q = (j : Int)) (m : UInt64) (w : World) (h : SlB w A len c l) (hf : at_ + 184 ≤ len) (hat : at_ ≤ 500) (hj : j < 32) :
    Calls Tryz.prog 75 #[.slice A len c, .int .i64 z, .int .i64 q, .agg (nmc m)] w fun e w' => e = .returned (.agg (nmc (climbU l at_ j m))) ∧ Ext w w' := by
  subst hz; subst hq; exact climbed_any A len c l at_ j m w h hf hat hj
theorem verU_short (pub : UInt64) (lv : Int) (m : UInt64) (l : List UInt8) (h : sizeZ lv ≠ (l.length : Int)) : verU pub lv m l = false := by
  unfold verU
  by_cases h1 : lv = 1
  · subst h1; rw [if_pos rfl, decide_eq_false (show ¬ l.length = 186 from fun e => h (by rw [e]; rfl))]; rfl
  · rw [if_neg h1]
    by_cases h2 : lv = 2
    · subst h2; rw [if_pos rfl, decide_eq_false (show ¬ l.length = 370 from fun e => h (by rw [e]; rfl))]; rfl
    · rw [if_neg h2]
theorem verU_far (pub : UInt64) (lv : Int) (m : UInt64) (l : List UInt8) (h : capZ lv ≤ (numAt l 0 2 : Int)) : verU pub lv m l = false := by
  unfold verU
  by_cases h1 : lv = 1
  · subst h1; rw [if_pos rfl, decide_eq_false (show ¬ numAt l 0 2 < 32 from by have : (32 : Int) ≤ (numAt l 0 2 : Int) := h; omega)]; simp
  · rw [if_neg h1]
    by_cases h2 : lv = 2
    · subst h2; rw [if_pos rfl, decide_eq_false (show ¬ numAt l 0 2 < 1024 from by have : (1024 : Int) ≤ (numAt l 0 2 : Int) := h; omega)]; simp
    · rw [if_neg h2]
set_option maxRecDepth 100000 in
set_option maxHeartbeats 2000000 in
theorem verify_no (pub m : UInt64) (lv : Int) (A : Option Addr) (n c : Nat) (l : List UInt8) (w : World) (h : SlB w A n c l) (hno : n < 2 ∨ sizeZ lv ≠ (n : Int) ∨ capZ lv ≤ (numAt l 0 2 : Int)) :
    Calls Tryz.prog 31 #[.agg (nmc pub), .int .i64 lv, .agg (nmc m), .slice A n c] w fun e w' => e = .returned (.bool false) ∧ Ext w w' := by
  have hE := ((Ext.refl w).alloc' (.cells (nmc pub) 23)).alloc' (.cells (nmc m) 23)
  have HE := Lib.hid hE
  have hcap := h.cap
  have hle := h.le
  by_cases h2 : n < 2
  · clear hno
    go_enter Tryz.func31, Tryz.ntmps31
    go_wp2_with (go_at_call 32; refine (leaf_no A n c _ h2).mono ?_; rintro e w1 ⟨rfl, rfl⟩)
    go_ret
    exact ⟨rfl, HE.out⟩
  · have HL := Lib.hid (leaf_yes A n c l _ (h.ext HE.out) (by omega))
    have HH := Lib.hid h
    clear h hE
    by_cases hs : sizeZ lv = (n : Int)
    · have hc : capZ lv ≤ (numAt l 0 2 : Int) := by
        rcases hno with h | h | h
        · omega
        · exact absurd hs h
        · exact h
      have b1 : ((n : Int) != sizeZ lv) = false := by rw [hs]; simp
      clear hno hs
      generalize hx : numAt l 0 2 = x at *
      generalize hcz : capZ lv = cz at *
      generalize hsz : sizeZ lv = sz at *
      have HC := Lib.hid hcz
      have HS := Lib.hid hsz
      clear hx hcz hsz
      go_enter Tryz.func31, Tryz.ntmps31
      go_wp2_with fail
      refine HL.out.mono ?_
      rintro e w1 ⟨rfl, rfl⟩
      go_wp2_with (first | (go_at_call 48; refine (size_any lv _).mono ?_; rintro e w1 ⟨rfl, rfl⟩; rw [HS.out]) | (go_at_call 74; refine (capacity_any lv _).mono ?_; rintro e w1 ⟨rfl, rfl⟩; rw [HC.out]))
      go_ret
      exact ⟨rfl, HE.out⟩
    · have b1 : ((n : Int) != sizeZ lv) = true := by rw [bne_iff_ne]; exact fun e => hs e.symm
      clear hno hs
      generalize hx : numAt l 0 2 = x at *
      generalize hsz : sizeZ lv = sz at *
      have HS := Lib.hid hsz
      clear hx hsz
      go_enter Tryz.func31, Tryz.ntmps31
      go_wp2_with fail
      refine HL.out.mono ?_
      rintro e w1 ⟨rfl, rfl⟩
      go_wp2_with (first | (go_at_call 48; refine (size_any lv _).mono ?_; rintro e w1 ⟨rfl, rfl⟩; rw [HS.out]) | (go_at_call 74; refine (capacity_any lv _).mono ?_; rintro e w1 ⟨rfl, rfl⟩))
      go_ret
      exact ⟨rfl, HE.out⟩
end Go.Proofs.YtcfmlgbocdjabaaGreat
