/- list (the reference's); Verify (the program's). -/
import Derived.Test.YtengpfpeeihaoaaVer2
import Derived.Test.YtengpfpeeihaoaaMSizes
namespace Go.Proofs.Ytengpfpeeihaoaa
open Go.RowKit
set_option linter.unusedVariables false
set_option linter.unusedSimpArgs false

theorem un_nmAt (l : List UInt8) (at_ k : Nat) (h : at_ + k * 8 + 8 ≤ l.length) : ((numAt l (at_ + k * 8) 8 : Nat) : Int) = un (nmAt l at_ k) := by
  have := beNat_nmb (nmAt l at_ k)
  rw [nmb_nmAt l at_ k h] at this
  unfold un numAt; rw [this]
theorem refUint8 (A : Option Addr) (n c : Nat) (l : List UInt8) (at_ k : Nat) (z : Int) (hz : z = ((at_ + k * 8 : Nat) : Int)) (w : World) (h : SlB w A n c l) (hf : at_ + k * 8 + 8 ≤ n) (hn : n ≤ 140737488355328) :
    Calls Try.prog 83 #[.slice A n c, .int .i64 z, .int .i64 8] w fun e w' => e = .returned (.tuple #[.int .u64 (un (nmAt l at_ k)), .bool true]) ∧ w = w' := by
  subst hz
  rw [← un_nmAt l at_ k (by have := h.len; omega)]
  exact refUint_yes A n c l (at_ + k * 8) 8 w h (by omega) (by omega) hf hn
set_option maxRecDepth 100000 in
set_option maxHeartbeats 2000000 in
theorem refList_any (A : Option Addr) (len c : Nat) (l : List UInt8) (at_ n : Nat) (w : World) (h : SlB w A len c l) (hn : n ≤ 1000) (hf : at_ + n * 8 ≤ len) (hat : at_ ≤ 1000) (hl : len ≤ 140737488355328) :
    Calls Try.prog 62 #[.slice A len c, .int .i64 (at_ : Int), .int .i64 (n : Int)] w fun e w' => ∃ A' c', e = .returned (.slice A' n c') ∧ SlN w' A' n c' (namesU l at_ n) ∧ Ext w w' := by
  have HS := Lib.hid h
  clear h
  go_enter Try.func62, Try.ntmps62
  go_wp2_with fail
  go_loopw [7, 8] (fun v i wr => ∃ (k : Nat) (A1 : Option Addr) (c1 : Nat), k ≤ n ∧ i = .int .i64 (k : Int) ∧ v = .slice A1 k c1 ∧ wr.ownsRow w.heap.size 61 8 (.slice A1 k c1) k (ncs ((List.range k).map (nmAt l at_))) ∧ Ext w wr) (fun _ i _ => n - (intOf i).toNat)
  case atStart => exact ⟨0, _, _, by omega, rfl, rfl, World.ownsRow_nil _ _ _ _, Ext.refl _⟩
  case round =>
    obtain ⟨k, A1, c1, hk, rfl, rfl, hO, hE⟩ := hrel
    have HO := Lib.hid hO
    have HE := Lib.hid hE
    clear hO hE
    by_cases hlt : k < n
    · have HZ := Lib.hid (show (at_ : Int) + 8 * (k : Int) = ((at_ + k * 8 : Nat) : Int) by omega)
      have HF := Lib.hid (show at_ + k * 8 + 8 ≤ len by omega)
      have HR := Lib.hid (show (List.range (k + 1)).map (nmAt l at_) = (List.range k).map (nmAt l at_) ++ [nmAt l at_ k] by rw [List.range_succ, List.map_append]; rfl)
      have j1 : (k : Int) < (n : Int) := by omega
      go_wp2_with fail
      refine (refUint8 A len c l at_ k _ HZ.out _ (HS.out.ext HE.out) HF.out hl).mono ?_
      rintro e w1 ⟨rfl, rfl⟩
      go_wp2_with fail
      refine (refOf_any _ _).mono ?_
      rintro e w2 ⟨rfl, he2⟩
      have HE2 := Lib.hid (HE.out.trans he2)
      have HO2 := Lib.hid (own_ext HO.out he2)
      clear he2
      go_wp2_with (at_builtin; go_must (refine wpList_app namesE rfl (.tmp 25) (.tmp 28) rfl w.heap.size A1 k c1 (ncs ((List.range k).map (nmAt l at_))) rfl (own_ext HO2.out ((Ext.refl _).alloc' _)) (some ⟨w2.heap.size, 0, none⟩) 1 1 (ncs [nmAt l at_ k]) rfl (Rd.newN _ _ _ _ rfl) (by rw [ncs_length]; rfl) (ncs_one _) (by omega) (by omega) ?z1 w ?z2 ?_))
      case z1 => exact (HE2.out.alloc' _).size
      case z2 => exact HE2.out.alloc' _
      intro A4 c4 w4 hO4 hE4 hs4
      go_wp2_with fail
      go_roundw
      case rel => exact ⟨k + 1, A4, c4, by omega, by go_num, rfl, by rw [HR.out, ncs_append]; exact hO4, hE4⟩
      case measure => simp [intOf]; omega
    · obtain rfl : k = n := by omega
      go_wp2_with fail
      go_ret
      exact ⟨A1, c1, rfl, SlN.of_own HO.out, HE.out⟩
/-- what Verify answers -/
def verU (pub : UInt64) (levels : Int) (m : UInt64) (l : List UInt8) : Bool :=
  if levels = 1 then decide (l.length = 186) && (decide (numAt l 0 2 < 32) && decide (climbU l 2 (numAt l 0 2 % 32) m = pub))
  else if levels = 2 then decide (l.length = 370) && (decide (numAt l 0 2 < 1024) && decide (climbU l 186 (numAt l 0 2 / 32) (climbU l 2 (numAt l 0 2 % 32) m) = pub))
  else false
end Go.Proofs.Ytengpfpeeihaoaa
