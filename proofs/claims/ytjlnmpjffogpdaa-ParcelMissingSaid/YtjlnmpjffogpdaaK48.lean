/- A part of a row (parcel.part). -/
import Derived.Test.YtjlnmpjffogpdaaK46
namespace Go.Proofs.Ytjlnmpjffogpdaa
open Go.RowKit
set_option linter.unusedVariables false
set_option linter.unusedSimpArgs false
attribute [local go_sem ↓] Go.wp_at_zero Go.wp_at_succ

theorem SlG.part {α : Type} [RowT α] {w : World} {A : Option Addr} {n c i t : Nat} {L : List α} (h : SlG w A n c L) (hi : i * 64 < n) (ht : t = min (i * 64 + 64) n) : SlG w (A.map (·.add (i * 64 * RowT.sz α))) (t - i * 64) (t - i * 64) ((L.drop (i * 64)).take 64) := by
  have hle := h.le
  have hcap := h.cap
  have h2 := (h.cut (k := i * 64) (by omega) (by omega)).upto (k := t - i * 64) (c' := t - i * 64) (by omega) (Nat.le_refl _) (by omega)
  have hl : (L.drop (i * 64)).length = n - i * 64 := by rw [List.length_drop, h.len]
  have e : (L.drop (i * 64)).take (t - i * 64) = (L.drop (i * 64)).take 64 := by
    by_cases h3 : i * 64 + 64 ≤ n
    · rw [show t - i * 64 = 64 from by omega]
    · rw [List.take_of_length_le (by omega), List.take_of_length_le (by omega)]
  rwa [e] at h2
set_option maxRecDepth 100000 in
set_option maxHeartbeats 4000000 in
theorem partSg_any (A : Option Addr) (n c : Nat) (L : List SgR) (i : Nat) (w0 w : World) (h : SlG w0 A n c L) (hi : i ≤ 1000000000) (hn : n ≤ 1000000000) :
    Calls Try.prog 62 #[.slice A n c, .int .i64 (i : Int)] w fun e w' => ∃ A' n', e = .returned (.slice A' n' n') ∧ n' ≤ n ∧ SlG w0 A' n' n' ((L.drop (i * 64)).take 64) ∧ w = w' := by
  have hcap := h.cap
  have hle := h.le
  have H := Lib.hid h
  clear h
  have wz : IntKind.i64.wrap ((i : Int) * 64) = (i : Int) * 64 := by rw [IntKind.wrap_i64]; omega
  by_cases h1 : i * 64 < n
  · have j1 : (i : Int) * 64 < (n : Int) := by omega
    go_enter Try.func62, Try.ntmps62
    go_wp2_with fail
    go_ret
    have hf : (min ((i : Int) * 64) (n : Int)).toNat = i * 64 := by omega
    obtain ⟨t, ht⟩ : ∃ t, t = min (i * 64 + 64) n := ⟨_, rfl⟩
    have ht2 : (min (min ((i : Int) * 64) (n : Int) + 64) (n : Int)).toNat = t := by omega
    refine ⟨_, _, rfl, by omega, ?_, rfl⟩
    rw [hf, ht2]
    exact H.out.part h1 ht
  · have j1 : ¬ (i : Int) * 64 < (n : Int) := by omega
    have j2 : min ((i : Int) * 64) (n : Int) = (n : Int) := by omega
    have j3 : min ((n : Int) + 64) (n : Int) = (n : Int) := by omega
    go_enter Try.func62, Try.ntmps62
    go_wp2_with fail
    go_ret
    refine ⟨_, _, rfl, by omega, ?_, rfl⟩
    rw [List.drop_of_length_le (by rw [H.out.len]; omega), List.take_nil]
    first | exact SlG.empty _ _ _ (by omega) | (simp; exact SlG.empty _ _ _ (by omega))
set_option maxRecDepth 100000 in
set_option maxHeartbeats 4000000 in
theorem partTe_any (A : Option Addr) (n c : Nat) (L : List TeR) (i : Nat) (w0 w : World) (h : SlG w0 A n c L) (hi : i ≤ 1000000000) (hn : n ≤ 1000000000) :
    Calls Try.prog 63 #[.slice A n c, .int .i64 (i : Int)] w fun e w' => ∃ A' n', e = .returned (.slice A' n' n') ∧ n' ≤ n ∧ SlG w0 A' n' n' ((L.drop (i * 64)).take 64) ∧ w = w' := by
  have hcap := h.cap
  have hle := h.le
  have H := Lib.hid h
  clear h
  have wz : IntKind.i64.wrap ((i : Int) * 64) = (i : Int) * 64 := by rw [IntKind.wrap_i64]; omega
  by_cases h1 : i * 64 < n
  · have j1 : (i : Int) * 64 < (n : Int) := by omega
    go_enter Try.func63, Try.ntmps63
    go_wp2_with fail
    go_ret
    have hf : (min ((i : Int) * 64) (n : Int)).toNat = i * 64 := by omega
    obtain ⟨t, ht⟩ : ∃ t, t = min (i * 64 + 64) n := ⟨_, rfl⟩
    have ht2 : (min (min ((i : Int) * 64) (n : Int) + 64) (n : Int)).toNat = t := by omega
    refine ⟨_, _, rfl, by omega, ?_, rfl⟩
    rw [hf, ht2]
    exact show SlG w0 (A.map (·.add (i * 64))) _ _ _ from by have := H.out.part h1 ht; rwa [show RowT.sz TeR = 1 from rfl, Nat.mul_one] at this
  · have j1 : ¬ (i : Int) * 64 < (n : Int) := by omega
    have j2 : min ((i : Int) * 64) (n : Int) = (n : Int) := by omega
    have j3 : min ((n : Int) + 64) (n : Int) = (n : Int) := by omega
    go_enter Try.func63, Try.ntmps63
    go_wp2_with fail
    go_ret
    refine ⟨_, _, rfl, by omega, ?_, rfl⟩
    rw [List.drop_of_length_le (by rw [H.out.len]; omega), List.take_nil]
    first | exact SlG.empty _ _ _ (by omega) | (simp; exact SlG.empty _ _ _ (by omega))
end Go.Proofs.Ytjlnmpjffogpdaa
