/- The reference's codec: Uint, Bytes. -/
import Derived.Test.YtcfmlgbocdjabaaTe1
namespace Go.Proofs.Ytcfmlgbocdjabaa
open Go.RowKit
set_option linter.unusedVariables false
set_option linter.unusedSimpArgs false
attribute [local go_sem ↓] Go.wp_at_zero Go.wp_at_succ

set_option maxRecDepth 100000 in
set_option maxHeartbeats 1000000 in
theorem refUint_yes (A : Option Addr) (n c : Nat) (l : List UInt8) (at_ width : Nat) (w : World) (h : SlB w A n c l) (h1 : 1 ≤ width) (h8 : width ≤ 8) (hf : at_ + width ≤ n) (hn : n ≤ 140737488355328) :
    Calls Try.prog 124 #[.slice A n c, .int .i64 (at_ : Int), .int .i64 (width : Int)] w fun e w' => e = .returned (.tuple #[.int .u64 (numAt l at_ width : Int), .bool true]) ∧ w = w' := by
  have hle := h.le
  have hcap := h.cap
  have hlen := h.len
  have e1 : decide ((width : Int) < 1) = false := decide_eq_false (by omega)
  have e2 : decide ((8 : Int) < (width : Int)) = false := decide_eq_false (by omega)
  have e3 : decide ((at_ : Int) < 0) = false := decide_eq_false (by omega)
  have e4 : decide ((n : Int) - (width : Int) < (at_ : Int)) = false := decide_eq_false (by omega)
  have e5 : (0 : Int) ≤ (at_ : Int) := by omega
  obtain ⟨b, o, rfl, hra, hbl⟩ := h.at (by omega)
  go_enter Try.func124, Try.ntmps124
  go_wp2_with fail
  go_loop [8, 9] (fun v i => ∃ k : Nat, k ≤ width ∧ i = .int .i64 (k : Int) ∧ v = .int .u64 ((numAt l at_ k : Nat) : Int)) (fun _ i => width - (intOf i).toNat)
  case atStart => exact ⟨0, by omega, rfl, by simp [numAt, beNat]⟩
  case round =>
    obtain ⟨k, hk, rfl, rfl⟩ := hrel
    by_cases hlt : k < width
    · have hcell := byte_at hra (at_ + k) (by omega)
      rw [← Nat.add_assoc] at hcell
      have hd : (l.drop at_)[k]'(by simp; omega) = l[at_ + k]'(by omega) := by simp
      have HS := Lib.hid (show numAt l at_ (k + 1) = numAt l at_ k * 256 + (l[at_ + k]'(by omega)).toNat by unfold numAt; rw [take_at _ _ (by simp; omega), beNat_snoc, hd])
      have hor := or_byte' (numAt l at_ k) (l[at_ + k]'(by omega)) (pow_le7 _ k (beNat_take_lt _ _ (by simp; omega)) (by omega))
      clear hd
      generalize numAt l at_ k = a at *
      generalize (l[at_ + k]'(by omega)) = x at *
      have hcell' : w.cell? ⟨b, o + (at_ + k), none⟩ = some (.int .u8 (x.toNat : Int)) := by rw [← Nat.add_assoc]; exact hcell
      have i1 : (at_ : Int) + (k : Int) < (n : Int) := by omega
      have i2 : (0 : Int) ≤ (at_ : Int) + (k : Int) := by omega
      go_wp2_with fail
      go_round
      case rel => exact ⟨k + 1, by omega, by go_num, by rw [HS.out]; go_num⟩
      case measure => simp [intOf]; omega
    · obtain rfl : k = width := by omega
      go_wp2_with fail
      go_ret2
      exact ⟨rfl, rfl⟩
set_option maxRecDepth 100000 in
set_option maxHeartbeats 1000000 in
theorem refUint_no (A : Option Addr) (n c : Nat) (at_ width : Nat) (w : World) (hn : n ≤ 140737488355328) (h1 : 1 ≤ width) (h8 : width ≤ 8) (hk : at_ ≤ n) (hf : ¬ at_ + width ≤ n) :
    Calls Try.prog 124 #[.slice A n c, .int .i64 (at_ : Int), .int .i64 (width : Int)] w fun e w' => e = .returned (.tuple #[.int .u64 0, .bool false]) ∧ w = w' := by
  have e1 : decide ((width : Int) < 1) = false := decide_eq_false (by omega)
  have e2 : decide ((8 : Int) < (width : Int)) = false := decide_eq_false (by omega)
  have e3 : decide ((at_ : Int) < 0) = false := decide_eq_false (by omega)
  have e4 : decide ((n : Int) - (width : Int) < (at_ : Int)) = true := decide_eq_true (by omega)
  go_enter Try.func124, Try.ntmps124
  go_wp2_with fail
  go_ret2
  exact ⟨rfl, rfl⟩
set_option maxRecDepth 100000 in
set_option maxHeartbeats 1000000 in
theorem refBytes_no1 (A : Option Addr) (n c : Nat) (k : Nat) (w : World) (hn : n ≤ 140737488355328) (hk : k ≤ n) (hf : ¬ k + 2 ≤ n) :
    Calls Try.prog 126 #[.slice A n c, .int .i64 (k : Int)] w (BytesNo w) := by
  have HU := Lib.hid (refUint_no A n c k 2 w hn (by omega) (by omega) hk hf)
  go_enter Try.func126, Try.ntmps126
  go_wp2_with fail
  refine HU.out.mono ?_
  rintro e w1 ⟨rfl, rfl⟩
  go_wp2_with fail
  go_ret3
  exact ⟨rfl, rfl⟩
set_option maxRecDepth 100000 in
set_option maxHeartbeats 1000000 in
theorem refBytes_no2 (A : Option Addr) (n c : Nat) (l : List UInt8) (k : Nat) (w : World) (h : SlB w A n c l) (hn : n ≤ 140737488355328) (hf : k + 2 ≤ n) (hg : ¬ k + 2 + numAt l k 2 ≤ n) :
    Calls Try.prog 126 #[.slice A n c, .int .i64 (k : Int)] w (BytesNo w) := by
  have HU := Lib.hid (refUint_yes A n c l k 2 w h (by omega) (by omega) hf hn)
  have hv := numAt_small l k 2 (by omega)
  obtain ⟨v, hve⟩ : ∃ v, numAt l k 2 = v := ⟨_, rfl⟩
  rw [hve] at HU hg hv
  have e1 : decide ((n : Int) - (k : Int) - 2 < (v : Int)) = true := decide_eq_true (by omega)
  have hvw : IntKind.i64.wrap (v : Int) = (v : Int) := by rw [IntKind.wrap_i64]; omega
  clear hve h hg
  go_enter Try.func126, Try.ntmps126
  go_wp2_with fail
  refine HU.out.mono ?_
  rintro e w1 ⟨rfl, rfl⟩
  go_wp2_with fail
  go_ret3
  exact ⟨rfl, rfl⟩
end Go.Proofs.Ytcfmlgbocdjabaa
/- The reference's codec: Bytes that succeeds. -/
namespace Go.Proofs.Ytcfmlgbocdjabaa
open Go.RowKit
set_option linter.unusedVariables false
set_option linter.unusedSimpArgs false
attribute [local go_sem ↓] Go.wp_at_zero Go.wp_at_succ

theorem run_buildB0 (w : World) : (Instr.buildSlice 28 0 #[]).run Try.prog w = .ok (.slice (some ⟨w.heap.size, 0, none⟩) 0 0) (w.alloc (.cells #[] 5)) := by kernel_rfl
attribute [local go_sem] run_buildB0 in
set_option maxRecDepth 100000 in
set_option maxHeartbeats 2000000 in
theorem refBytes_yes (A : Option Addr) (n c : Nat) (l : List UInt8) (k : Nat) (w : World) (h : SlB w A n c l) (hn : n ≤ 140737488355328) (hf : k + 2 ≤ n) (hg : k + 2 + numAt l k 2 ≤ n) :
    Calls Try.prog 126 #[.slice A n c, .int .i64 (k : Int)] w (BytesYes w (numAt l k 2) (k + 2 + numAt l k 2) ((l.drop (k + 2)).take (numAt l k 2))) := by
  have HU := Lib.hid (refUint_yes A n c l k 2 w h (by omega) (by omega) hf hn)
  have hle := h.le
  have hcap := h.cap
  have hlen := h.len
  obtain ⟨v, hve⟩ : ∃ v, numAt l k 2 = v := ⟨_, rfl⟩
  obtain ⟨K, hK⟩ : ∃ K, k + 2 = K := ⟨_, rfl⟩
  rw [hve] at HU hg ⊢
  rw [hK] at hg ⊢
  obtain ⟨E, hE⟩ : ∃ E, K + v = E := ⟨_, rfl⟩
  rw [hE] at hg ⊢
  have hKi : (k : Int) + 2 = (K : Int) := by omega
  have hEi : (K : Int) + (v : Int) = (E : Int) := by omega
  have hvb : 0 + v ≤ 140737488355328 := by omega
  have hKE : (K : Int) ≤ (E : Int) := by omega
  have hEc : (E : Int) ≤ (c : Int) := by omega
  have hEK : (E : Int) - (K : Int) = (v : Int) := by omega
  have hEKn : E - K = v := by omega
  have e1 : decide ((n : Int) - (k : Int) - 2 < (v : Int)) = false := decide_eq_false (by omega)
  have hvw : IntKind.i64.wrap (v : Int) = (v : Int) := by rw [IntKind.wrap_i64]; omega
  obtain ⟨b, o, rfl, hra, hbl⟩ := h.at (by omega)
  have hn0 : OwnB (w.alloc (.cells #[] 5)) w.heap.size 5 (some ⟨w.heap.size, 0, none⟩) 0 0 [] := OwnB.made w w.heap.size #[] 0 w.heap.size rfl (Nat.le_refl _) (by omega) rfl
  have hB0 := (Ext.refl w).alloc' (.cells #[] 5)
  by_cases hc : c = K
  · have hv0 : v = 0 := by omega
    subst hv0
    subst hc
    obtain rfl : E = c := by omega
    clear hve h hg hK hE hra hlen hEi hEK hEKn hKE hEc
    rw [show ((0 : Nat) : Int) = 0 from rfl] at HU e1
    clear hvw
    go_enter Try.func126, Try.ntmps126
    go_wp2_with fail
    refine HU.out.mono ?_
    rintro e w1 ⟨rfl, rfl⟩
    go_wp2_with (at_builtin; go_must (refine wpList_appB bytesE rfl (.tmp 33) (.tmp 38) rfl w.heap.size _ 0 0 [] rfl hn0 _ 0 0 [] rfl (SlB.empty _ _ 0 (by omega)) (by omega) (by simp) w hB0 ?_))
    intro A2 c2 w2 hO2 hE2 hs2
    have HO2 := Lib.hid hO2
    clear hO2
    go_wp2_with fail
    go_ret3
    exact ⟨A2, c2, by simp, by simpa using HO2.out, hE2⟩
  · have hs0 := (h.cut (k := K) (by omega) (by omega)).upto (k := v) (by omega)
    simp only [Option.map_some, Addr.add_mid] at hs0
    have HS := Lib.hid (hs0.ext hB0)
    clear hve h hg hK hE hra hlen hs0
    go_enter Try.func126, Try.ntmps126
    go_wp2_with fail
    refine HU.out.mono ?_
    rintro e w1 ⟨rfl, rfl⟩
    go_wp2_with (at_builtin; go_must (refine wpList_appB bytesE rfl (.tmp 33) (.tmp 38) rfl w.heap.size _ 0 0 [] rfl hn0 (some ⟨b, o + K, none⟩) v (c - K) ((l.drop K).take v) rfl HS.out hvb (by simp) w hB0 ?_))
    intro A2 c2 w2 hO2 hE2 hs2
    have HO2 := Lib.hid hO2
    clear hO2
    go_wp2_with fail
    go_ret3
    exact ⟨A2, c2, by simp, by simpa using HO2.out, hE2⟩
end Go.Proofs.Ytcfmlgbocdjabaa
/- The reference's cursor: num, str, done. -/
namespace Go.Proofs.Ytcfmlgbocdjabaa
open Go.RowKit
set_option linter.unusedVariables false
set_option linter.unusedSimpArgs false
attribute [local go_sem ↓] Go.wp_at_zero Go.wp_at_succ

variable {D : Nat}
set_option maxRecDepth 100000 in
set_option maxHeartbeats 2000000 in
theorem rcnum_any (wd : Nat) (h1 : 1 ≤ wd) (h6 : wd ≤ 6) (B : Nat) (s : Option (List UInt8)) (w : World) (h : CurAt 126 D w B s) :
    Calls Try.prog 77 #[.pointer (some ⟨B, 0, none⟩), .int .i64 (wd : Int)] w fun e w' => e = .returned (.int .i64 (rNum wd s)) ∧ CurAt 126 D w' B (rRest wd s) ∧ w.grownBy w' (some B) := by
  obtain ⟨A, n, c, l, k, hB, hS, hk, hn, hr, hD⟩ := h
  have hlen := hS.len
  have hc0 : w.cell? ⟨B, 0, none⟩ = some (.slice A n c) := hB.cell 0
  have hc1 : w.cell? ⟨B, 1, none⟩ = some (.int .i64 (k : Int)) := hB.cell 1
  have hc2 : w.cell? ⟨B, 2, none⟩ = some (.bool s.isNone) := hB.cell 2
  have hf1 := hB.frozen 1
  have hf2 := hB.frozen 2
  have HB := Lib.hid hB
  have HS := Lib.hid hS
  have HR := Lib.hid hr
  have hS' := hS.ext (Ext.refl w).drew'
  have k0 : (0 : Int) ≤ (k : Int) := by omega
  have w0 : (0 : Int) ≤ (wd : Int) := by omega
  by_cases hfit : k + wd ≤ n
  · have HU := Lib.hid (refUint_yes A n c l k wd w.drew hS' h1 (by omega) hfit hn)
    have hsm := numAt_small l k wd h6
    have HV := Lib.hid (numAt_eq l k wd)
    obtain ⟨v, hv⟩ : ∃ v, v = numAt l k wd := ⟨_, rfl⟩
    rw [← hv] at HU hsm HV
    clear hv hB hS hr hS' hlen
    cases s with
    | none =>
      have hc2 : w.cell? ⟨B, 2, none⟩ = some (.bool true) := hc2
      go_enter Try.func77, Try.ntmps77
      go_wp2_with fail
      go_region_held3 (fun w' => w'.cell? ⟨B, 0, none⟩ = some (.slice A n c) ∧ w'.cell? ⟨B, 1, none⟩ = some (.int .i64 (k : Int))) (first | exact ⟨hc0, hc1⟩ | fail "CELLS") (first | (go_at_call 124; (with_reducible refine HU.out.mono ?_); rintro e wv ⟨rfl, rfl⟩) | fail "ARM")
      go_wp2_with fail
      go_ret
      exact ⟨rfl, cur_store A n c k l true true none HB.out HS.out hk hn rfl (fun _ h => by cases h) hD, grown_drew (grown_set w B 2 _)⟩
    | some r =>
      have hc2 : w.cell? ⟨B, 2, none⟩ = some (.bool false) := hc2
      have hvw : IntKind.i64.wrap (v : Int) = (v : Int) := by rw [IntKind.wrap_i64]; omega
      have HL := Lib.hid (show ¬ r.length < wd by rw [HR.out r rfl, List.length_drop, HS.out.len]; omega)
      go_enter Try.func77, Try.ntmps77
      go_wp2_with fail
      go_region_held3 (fun w' => w'.cell? ⟨B, 0, none⟩ = some (.slice A n c) ∧ w'.cell? ⟨B, 1, none⟩ = some (.int .i64 (k : Int))) (first | exact ⟨hc0, hc1⟩ | fail "CELLS") (first | (go_at_call 124; (with_reducible refine HU.out.mono ?_); rintro e wv ⟨rfl, rfl⟩) | fail "ARM")
      go_wp2_with fail
      go_ret
      refine ⟨?_, ?_, grown_drew (grown_set w B 1 _)⟩
      · show _ = Ending.returned (Value.int .i64 (if r.length < wd then 0 else (beNat (r.take wd) : Int)))
        rw [if_neg HL.out, HR.out r rfl, ← HV.out]; rfl
      · show CurAt _ _ _ _ (if r.length < wd then none else some (r.drop wd))
        rw [if_neg HL.out]
        exact cur_move A n c k (k + wd) l _ HB.out HS.out hfit hn (by rw [HR.out r rfl, List.drop_drop]) _ (by omega) hD
  · have HU := Lib.hid (refUint_no A n c k wd w.drew hn h1 (by omega) hk hfit)
    have HN := Lib.hid (show rNum wd s = 0 ∧ rRest wd s = none by
      cases s with
      | none => exact ⟨rfl, rfl⟩
      | some r =>
        have : r.length < wd := by rw [hr r rfl, List.length_drop, hlen]; omega
        simp [rNum, rRest, this])
    clear hB hS hr hS' hlen
    cases s with
    | none =>
      have hc2 : w.cell? ⟨B, 2, none⟩ = some (.bool true) := hc2
      go_enter Try.func77, Try.ntmps77
      go_wp2_with fail
      go_region_held3 (fun w' => w'.cell? ⟨B, 0, none⟩ = some (.slice A n c) ∧ w'.cell? ⟨B, 1, none⟩ = some (.int .i64 (k : Int))) (first | exact ⟨hc0, hc1⟩ | fail "CELLS") (first | (go_at_call 124; (with_reducible refine HU.out.mono ?_); rintro e wv ⟨rfl, rfl⟩) | fail "ARM")
      go_wp2_with fail
      go_ret
      exact ⟨rfl, cur_store A n c k l true true none HB.out HS.out hk hn rfl (fun _ h => by cases h) hD, grown_drew (grown_set w B 2 _)⟩
    | some r =>
      have hc2 : w.cell? ⟨B, 2, none⟩ = some (.bool false) := hc2
      go_enter Try.func77, Try.ntmps77
      go_wp2_with fail
      go_region_held3 (fun w' => w'.cell? ⟨B, 0, none⟩ = some (.slice A n c) ∧ w'.cell? ⟨B, 1, none⟩ = some (.int .i64 (k : Int))) (first | exact ⟨hc0, hc1⟩ | fail "CELLS") (first | (go_at_call 124; (with_reducible refine HU.out.mono ?_); rintro e wv ⟨rfl, rfl⟩) | fail "ARM")
      go_wp2_with fail
      go_ret
      refine ⟨by rw [HN.out.1]; rfl, ?_, grown_drew (grown_set w B 2 _)⟩
      rw [HN.out.2]
      exact cur_store A n c k l false true none HB.out HS.out hk hn rfl (fun _ h => by cases h) hD
set_option maxRecDepth 100000 in
set_option maxHeartbeats 1000000 in
theorem rcdone_any (B : Nat) (s : Option (List UInt8)) (w : World) (h : CurAt 126 D w B s) :
    Calls Try.prog 80 #[.pointer (some ⟨B, 0, none⟩)] w fun e w' => e = .returned (.bool (decide (s = some []))) ∧ ∃ n, w' = w.drewN n := by
  obtain ⟨A, n, c, l, k, hB, hS, hk, hn, hr, hD⟩ := h
  have hlen := hS.len
  have hc0 : w.cell? ⟨B, 0, none⟩ = some (.slice A n c) := hB.cell 0
  have hc1 : w.cell? ⟨B, 1, none⟩ = some (.int .i64 (k : Int)) := hB.cell 1
  have hc2 : w.cell? ⟨B, 2, none⟩ = some (.bool s.isNone) := hB.cell 2
  cases s with
  | none =>
    have hc2 : w.cell? ⟨B, 2, none⟩ = some (.bool true) := hc2
    clear hB hS hr hlen
    go_enter Try.func80, Try.ntmps80
    go_wp2_with fail
    go_quiet (fail)
    go_wp2_with fail
    go_ret
    exact ⟨rfl, _, rfl⟩
  | some r =>
    have hc2 : w.cell? ⟨B, 2, none⟩ = some (.bool false) := hc2
    have hrr : r.length = n - k := by rw [hr r rfl, List.length_drop, hlen]
    by_cases hd : k = n
    · have HR := Lib.hid (show decide (some r = some ([] : List UInt8)) = true by
        rw [decide_eq_true_eq]; rw [List.eq_nil_of_length_eq_zero (l := r) (by omega)])
      subst hd
      clear hB hS hr hlen hrr
      go_enter Try.func80, Try.ntmps80
      go_wp2_with fail
      go_quiet (fail)
      go_wp2_with fail
      go_ret
      exact ⟨by rw [HR.out]; rfl, _, rfl⟩
    · have HR := Lib.hid (show decide (some r = some ([] : List UInt8)) = false by
        rw [decide_eq_false_iff_not]; intro e; injection e with e; rw [e] at hrr; simp at hrr; omega)
      have d1 : ((k : Int) == (n : Int)) = false := by simp; omega
      have d2 : decide ((k : Int) = (n : Int)) = false := by simp; omega
      clear hB hS hr hlen hrr
      go_enter Try.func80, Try.ntmps80
      go_wp2_with fail
      go_quiet (fail)
      go_wp2_with fail
      go_ret
      exact ⟨by rw [HR.out]; rfl, _, rfl⟩
def RBlobOut (D : Nat) (B : Nat) (w : World) (s : Option (List UInt8)) (e : Ending) (w' : World) : Prop :=
  ∃ A' n' c', e = .returned (.slice A' n' c') ∧ OwnB w' w.heap.size 5 A' n' c' (rBlob s) ∧ CurAt 126 D w' B (rAft s) ∧ w.grownBy w' (some B)
set_option maxRecDepth 100000 in
set_option maxHeartbeats 4000000 in
theorem rcstr_any (D B : Nat) (s : Option (List UInt8)) (w : World) (h : CurAt 126 D w B s) :
    Calls Try.prog 79 #[.pointer (some ⟨B, 0, none⟩)] w (RBlobOut D B w s) := by
  obtain ⟨A, n, c, l, k, hB, hS, hk, hn, hr, hD⟩ := h
  have hlen := hS.len
  have hc0 : w.cell? ⟨B, 0, none⟩ = some (.slice A n c) := hB.cell 0
  have hc1 : w.cell? ⟨B, 1, none⟩ = some (.int .i64 (k : Int)) := hB.cell 1
  have hc2 : w.cell? ⟨B, 2, none⟩ = some (.bool s.isNone) := hB.cell 2
  have HQ := Lib.hid (fun (W : World) (h : Ext w W) => show W.cell? ⟨B, 0, none⟩ = some (.slice A n c) ∧ W.cell? ⟨B, 1, none⟩ = some (.int .i64 (k : Int)) from ⟨(hB.ext h).cell 0, (hB.ext h).cell 1⟩)
  have HQ2 := Lib.hid (fun (W : World) (h : Ext w W) => show W.cell? ⟨B, 2, none⟩ = some (.bool s.isNone) ∧ W.frozen? ⟨B, 1, none⟩ = false ∧ W.frozen? ⟨B, 2, none⟩ = false from ⟨(hB.ext h).cell 2, (hB.ext h).frozen 1, (hB.ext h).frozen 2⟩)
  have HB := Lib.hid hB
  have HS := Lib.hid hS
  have HR := Lib.hid hr
  have hS' := hS.ext (Ext.refl w).drew'
  have hXd := (Ext.refl w).drew'
  have HOKA := Lib.hid (blobOk_at hlen hk)
  clear hB hS hr hlen
  by_cases hok : k + 2 ≤ n ∧ k + 2 + numAt l k 2 ≤ n
  · have HU := Lib.hid (refBytes_yes A n c l k _ hS' hn hok.1 hok.2)
    obtain ⟨v, hv⟩ : ∃ v, numAt l k 2 = v := ⟨_, rfl⟩
    have HV := Lib.hid (show beNat ((l.drop k).take 2) = v from hv)
    have HOK := Lib.hid (show blobOk (l.drop k) = true by rw [HOKA.out]; exact decide_eq_true hok)
    rw [hv] at HU hok
    obtain ⟨j, hj⟩ : ∃ j, k + 2 + v = j := ⟨_, rfl⟩
    rw [hj] at HU hok
    have HJ := Lib.hid hj
    have HJN := Lib.hid hok.2
    clear hv hj hok hS'
    cases s with
    | none =>
      clear HR
      go_enter Try.func79, Try.ntmps79
      go_wp2_with fail
      go_region_held3 (fun w' => w'.cell? ⟨B, 0, none⟩ = some (.slice A n c) ∧ w'.cell? ⟨B, 1, none⟩ = some (.int .i64 (k : Int))) (first | (with_reducible exact HQ.out _ hXd) | (with_reducible exact HQ.out _ hX4) | fail "CELLS") (first | (go_at_call 126; (with_reducible refine HU.out.mono ?_); rintro e w4 ⟨A4, c4, rfl, hO4, he4⟩; have hX4 := hXd.trans he4) | fail "ARM")
      clear hc0 hc1 hc2
      obtain ⟨hc2, hf1, hf2⟩ := HQ2.out _ hX4
      have hc2 : w4.cell? ⟨B, 2, none⟩ = some (.bool true) := hc2
      have HF := Lib.hid (cur_bad HB.out HS.out hX4 hk hn hD)
      clear hXd hX4 he4 hO4
      go_wp2_with fail
      go_ret
      exact ⟨none, 0, 0, rfl, OwnB.nil _ _ _, HF.out.1, HF.out.2⟩
    | some r =>
      have HRr := Lib.hid (show r = l.drop k from HR.out r rfl)
      clear HR
      go_enter Try.func79, Try.ntmps79
      go_wp2_with fail
      go_region_held3 (fun w' => w'.cell? ⟨B, 0, none⟩ = some (.slice A n c) ∧ w'.cell? ⟨B, 1, none⟩ = some (.int .i64 (k : Int))) (first | (with_reducible exact HQ.out _ hXd) | (with_reducible exact HQ.out _ hX4) | fail "CELLS") (first | (go_at_call 126; (with_reducible refine HU.out.mono ?_); rintro e w4 ⟨A4, c4, rfl, hO4, he4⟩; have hX4 := hXd.trans he4) | fail "ARM")
      clear hc0 hc1 hc2
      obtain ⟨hc2, hf1, hf2⟩ := HQ2.out _ hX4
      have hc2 : w4.cell? ⟨B, 2, none⟩ = some (.bool false) := hc2
      have HF := Lib.hid (cur_good HB.out HS.out hX4 HJN.out hn hD)
      have HX4 := Lib.hid hX4
      have HO4 := Lib.hid hO4
      clear hXd hX4 he4 hO4
      go_wp2_with fail
      go_ret
      refine ⟨A4, v, c4, rfl, ?_, ?_, HF.out.2⟩
      · refine World.ownsRow.kept ?_ (grown_set w4 B 1 _) (.inr (Ne.symm (own_other HO4.out (HB.out.ext HX4.out) (by decide))))
        have := HO4.out
        rw [HRr.out]
        show OwnB w4 w.heap.size _ A4 v c4 (if blobOk (l.drop k) then ((l.drop k).drop 2).take (beNat ((l.drop k).take 2)) else [])
        rw [HOK.out, if_pos rfl, HV.out, List.drop_drop]; exact this
      · rw [HRr.out]
        show CurAt _ _ _ _ (if blobOk (l.drop k) then some ((l.drop k).drop (2 + beNat ((l.drop k).take 2))) else none)
        rw [HOK.out, if_pos rfl, HV.out, List.drop_drop, show k + (2 + v) = j by rw [← HJ.out]; omega]
        exact HF.out.1
  · have HU := Lib.hid (show Calls Try.prog 126 #[.slice A n c, .int .i64 (k : Int)] w.drew (BytesNo w.drew) from by
      by_cases h1 : k + 2 ≤ n
      · exact refBytes_no2 A n c l k _ hS' hn h1 (fun h2 => hok ⟨h1, h2⟩)
      · exact refBytes_no1 A n c k _ hn hk h1)
    have HOK := Lib.hid (show blobOk (l.drop k) = false by rw [HOKA.out]; exact decide_eq_false hok)
    clear hok hS'
    have HN := Lib.hid (show rBlob s = [] ∧ rAft s = none from by
      cases s with
      | none => exact ⟨rfl, rfl⟩
      | some r =>
        rw [HR.out r rfl]
        constructor
        · show (if blobOk (l.drop k) then _ else _) = _
          rw [HOK.out]; rfl
        · show (if blobOk (l.drop k) then _ else _) = _
          rw [HOK.out]; rfl)
    have HF := Lib.hid (cur_bad HB.out HS.out hXd hk hn hD)
    cases s with
    | none =>
      have hc2 : w.cell? ⟨B, 2, none⟩ = some (.bool true) := hc2
      obtain ⟨_, hf1, hf2⟩ := HQ2.out _ hXd
      clear HR
      go_enter Try.func79, Try.ntmps79
      go_wp2_with fail
      go_region_held3 (fun w' => w'.cell? ⟨B, 0, none⟩ = some (.slice A n c) ∧ w'.cell? ⟨B, 1, none⟩ = some (.int .i64 (k : Int))) (first | (with_reducible exact HQ.out _ hXd) | fail "CELLS") (first | (go_at_call 126; (with_reducible refine HU.out.mono ?_); rintro e w4 ⟨rfl, rfl⟩) | fail "ARM")
      clear hc0 hc1
      go_wp2_with fail
      go_ret
      exact ⟨none, 0, 0, rfl, by rw [HN.out.1]; exact OwnB.nil _ _ _, by rw [HN.out.2]; exact HF.out.1, HF.out.2⟩
    | some r =>
      have hc2 : w.cell? ⟨B, 2, none⟩ = some (.bool false) := hc2
      obtain ⟨_, hf1, hf2⟩ := HQ2.out _ hXd
      clear HR
      go_enter Try.func79, Try.ntmps79
      go_wp2_with fail
      go_region_held3 (fun w' => w'.cell? ⟨B, 0, none⟩ = some (.slice A n c) ∧ w'.cell? ⟨B, 1, none⟩ = some (.int .i64 (k : Int))) (first | (with_reducible exact HQ.out _ hXd) | fail "CELLS") (first | (go_at_call 126; (with_reducible refine HU.out.mono ?_); rintro e w4 ⟨rfl, rfl⟩) | fail "ARM")
      clear hc0 hc1
      go_wp2_with fail
      go_ret
      exact ⟨none, 0, 0, rfl, by rw [HN.out.1]; exact OwnB.nil _ _ _, by rw [HN.out.2]; exact HF.out.1, HF.out.2⟩
end Go.Proofs.Ytcfmlgbocdjabaa
/- The reference's cursor: name. -/
namespace Go.Proofs.Ytcfmlgbocdjabaa
open Go.RowKit
set_option linter.unusedVariables false
set_option linter.unusedSimpArgs false
attribute [local go_sem ↓] Go.wp_at_zero Go.wp_at_succ

variable {D : Nat}
set_option maxRecDepth 100000 in
set_option maxHeartbeats 2000000 in
theorem rcname_no (B : Nat) (s : Option (List UInt8)) (hs : ∀ r, s = some r → r.length < 8) (w : World) (h : CurAt 126 D w B s) :
    Calls Try.prog 125 #[.pointer (some ⟨B, 0, none⟩)] w fun e w' => e = .returned (.agg (nmc 0)) ∧ CurAt 126 D w' B none ∧ w.grownBy w' (some B) := by
  obtain ⟨A, n, c, l, k, hB, hS, hk, hn, hr, hD⟩ := h
  have hlt := hB.lt
  have hlen := hS.len
  have hA := ((Ext.refl w).alloc' (.cells zcs.toArray 23)).alloc' (.cells zcs.toArray 23)
  have hB1 := hB.ext hA
  have hc0 : ((w.alloc (.cells zcs.toArray 23)).alloc (.cells zcs.toArray 23)).cell? ⟨B, 0, none⟩ = some (.slice A n c) := hB1.cell 0
  have hc1 : ((w.alloc (.cells zcs.toArray 23)).alloc (.cells zcs.toArray 23)).cell? ⟨B, 1, none⟩ = some (.int .i64 (k : Int)) := hB1.cell 1
  have hc2 : ((w.alloc (.cells zcs.toArray 23)).alloc (.cells zcs.toArray 23)).cell? ⟨B, 2, none⟩ = some (.bool s.isNone) := hB1.cell 2
  have hf2 := hB1.frozen 2
  have hN1 : Blk ((w.alloc (.cells zcs.toArray 23)).alloc (.cells zcs.toArray 23)) w.heap.size 23 zcs.toArray := (Blk.new w 23 zcs.toArray).alloc _
  have hN2 : Blk ((w.alloc (.cells zcs.toArray 23)).alloc (.cells zcs.toArray 23)) (w.heap.size + 1) 23 zcs.toArray := Blk.newAt _ _ _ _ (by simp)
  have HFIN := Lib.hid (fun (W : World) (hW : Ext ((w.alloc (.cells zcs.toArray 23)).alloc (.cells zcs.toArray 23)) W) => show CurAt 126 D ((W.setCell ⟨B, 2, none⟩ (.bool true)).setCells w.heap.size 0 (nmc 0).toList) B none ∧ w.grownBy ((W.setCell ⟨B, 2, none⟩ (.bool true)).setCells w.heap.size 0 (nmc 0).toList) (some B) ∧ Blk ((W.setCell ⟨B, 2, none⟩ (.bool true)).setCells w.heap.size 0 (nmc 0).toList) w.heap.size 23 (nmc 0) ∧ (W.setCell ⟨B, 2, none⟩ (.bool true)).rangeAt (w.heap.size + 1) 0 (bcs (nmb 0)) ∧ (W.setCell ⟨B, 2, none⟩ (.bool true)).there w.heap.size 0 8 from by
    have hg : w.grownBy ((W.setCell ⟨B, 2, none⟩ (.bool true)).setCells w.heap.size 0 (nmc 0).toList) (some B) :=
      grown_new (World.grownBy.trans (grown_ext (hA.trans hW) _) (grown_set W B 2 _)) (Nat.le_refl _) _ _
    have g1 : Blk (W.setCell ⟨B, 2, none⟩ (.bool true)) w.heap.size 23 zcs.toArray := (hN1.ext hW).far (p := ⟨B, 2, none⟩) (by simp; omega) _
    have g2 : Blk (W.setCell ⟨B, 2, none⟩ (.bool true)) (w.heap.size + 1) 23 zcs.toArray := (hN2.ext hW).far (p := ⟨B, 2, none⟩) (by simp; omega) _
    rw [zcs_nmc] at g1 g2
    refine ⟨cur_close hB hS hg _ ?_ rfl hk hn (fun r h => by cases h) hD, hg, ?_, rangeNm g2, ?_⟩
    · exact Blk.setCells_far (((hB1.ext hW).set 2 (.bool true))) (by omega) _ 0
    · exact blkN' g1 _
    · have := thereN' g1 0; rwa [nmc_size] at this)
  clear hN1 hN2
  cases s with
  | none =>
    have hc2 : ((w.alloc (.cells zcs.toArray 23)).alloc (.cells zcs.toArray 23)).cell? ⟨B, 2, none⟩ = some (.bool true) := hc2
    clear hB hB1 hS hr hlen hs
    go_enter Try.func125, Try.ntmps125
    go_wp2_with fail
    go_quiet (fail)
    obtain ⟨f1, f2, f3, hrg, hth⟩ := HFIN.out _ (drewN_ext _ nq)
    go_wp2_with (first | (with_reducible refine wpList_loadN rfl (.tmp 3) rfl (w.heap.size + 1) 0 rfl 0 hrg ?_) | (with_reducible refine wpList_storeN rfl (.tmp 2) (.tmp 24) rfl w.heap.size 0 0 rfl rfl hth ?_))
    exact bodyPost_ret (v := .agg (nmc 0)) (retN rfl _ _ w.heap.size 0 rfl f3) rfl ⟨rfl, f1, f2⟩
  | some r =>
    have hc2 : ((w.alloc (.cells zcs.toArray 23)).alloc (.cells zcs.toArray 23)).cell? ⟨B, 2, none⟩ = some (.bool false) := hc2
    have hsh : (n : Int) - (k : Int) < 8 := by have h1 := hs r rfl; rw [hr r rfl, List.length_drop, hlen] at h1; omega
    have k0 : (0 : Int) ≤ (k : Int) := by omega
    have k1 : (k : Int) ≤ (n : Int) := by omega
    clear hB hB1 hS hr hlen hs
    go_enter Try.func125, Try.ntmps125
    go_wp2_with fail
    go_quiet (fail)
    obtain ⟨f1, f2, f3, hrg, hth⟩ := HFIN.out _ (drewN_ext _ nq)
    go_wp2_with (first | (with_reducible refine wpList_loadN rfl (.tmp 3) rfl (w.heap.size + 1) 0 rfl 0 hrg ?_) | (with_reducible refine wpList_storeN rfl (.tmp 2) (.tmp 24) rfl w.heap.size 0 0 rfl rfl hth ?_))
    exact bodyPost_ret (v := .agg (nmc 0)) (retN rfl _ _ w.heap.size 0 rfl f3) rfl ⟨rfl, f1, f2⟩
set_option maxRecDepth 100000 in
set_option maxHeartbeats 4000000 in
theorem rcname_yes (B : Nat) (r : List UInt8) (hr8 : 8 ≤ r.length) (w : World) (h : CurAt 126 D w B (some r)) :
    Calls Try.prog 125 #[.pointer (some ⟨B, 0, none⟩)] w fun e w' => e = .returned (.agg (nmc (ofNm (r.take 8)))) ∧ CurAt 126 D w' B (some (r.drop 8)) ∧ w.grownBy w' (some B) := by
  obtain ⟨A, n, c, l, k, hB, hS, hk, hn, hr, hD⟩ := h
  have hlt := hB.lt
  have hlen := hS.len
  have hle := hS.le
  have hcap := hS.cap
  have hrl : r = l.drop k := hr r rfl
  have h8 : k + 8 ≤ n := by rw [hrl, List.length_drop, hlen] at hr8; omega
  have hA0 := (Ext.refl w).alloc' (.cells zcs.toArray 23)
  have hA1 := (Ext.refl (w.alloc (.cells zcs.toArray 23))).alloc' (.cells zcs.toArray 23)
  have hA := hA0.trans hA1
  have hB1 := hB.ext hA
  obtain ⟨b, o, rfl, hra, hbl⟩ := hS.at (by omega)
  have hc0 : ((w.alloc (.cells zcs.toArray 23)).alloc (.cells zcs.toArray 23)).cell? ⟨B, 0, none⟩ = some (.slice (some ⟨b, o, none⟩) n c) := hB1.cell 0
  have hc1 : ((w.alloc (.cells zcs.toArray 23)).alloc (.cells zcs.toArray 23)).cell? ⟨B, 1, none⟩ = some (.int .i64 (k : Int)) := hB1.cell 1
  have hc2 : ((w.alloc (.cells zcs.toArray 23)).alloc (.cells zcs.toArray 23)).cell? ⟨B, 2, none⟩ = some (.bool false) := hB1.cell 2
  have hf1 := hB1.frozen 1
  have HB := Lib.hid hB
  have HB1 := Lib.hid hB1
  have HS := Lib.hid hS
  have HN := Lib.hid (show Blk ((w.alloc (.cells zcs.toArray 23)).alloc (.cells zcs.toArray 23)) (w.heap.size + 1) 23 zcs.toArray from Blk.newAt _ _ _ _ (by simp))
  have HN1 := Lib.hid (Blk.new w 23 zcs.toArray)
  obtain ⟨cs, hcs⟩ : ∃ cs, cs = bcs ((l.drop k).take 8) := ⟨_, rfl⟩
  have hl8 : cs.length = 8 := by rw [hcs, bcs_length, List.length_take, List.length_drop, hlen]; omega
  have HONE := Lib.hid (show ∀ u ∈ cs, u.oneCell' = true by rw [hcs]; exact bcs_one _)
  have HSRC := Lib.hid (fun (W : World) (hW : Ext w W) => show ∀ j v, cs[j]? = some v → W.cell? ((⟨b, o + k, none⟩ : Addr).add j) = some v from by
    intro j v hv
    have hx := rangeAt_keep hra (hW.block b hbl)
    have hy := rangeAt_take (k := 8) (rangeAt_drop (k := k) hx)
    rw [Addr.add_mid]
    refine hy j v ?_
    rw [← hv, hcs]
    simp [bcs])
  have HMIN := Lib.hid (show cs.length = Nat.min (n - k) 8 by rw [hl8]; exact (Nat.min_eq_right (by omega)).symm)
  have HFIT := Lib.hid (show 0 + cs.length ≤ zcs.length by rw [hl8]; decide)
  have HCS := Lib.hid (show cs.toArray = nmc (ofNm (r.take 8)) by rw [hcs, ← hrl]; exact nmc_of _ (by rw [List.length_take]; omega))
  have HL8 := Lib.hid hl8
  have hnsh : decide ((n : Int) - (k : Int) < 8) = false := decide_eq_false (by omega)
  have k0 : (0 : Int) ≤ (k : Int) := by omega
  have k1 : (k : Int) ≤ (n : Int) := by omega
  have k2 : (n : Int) ≤ (c : Int) := by omega
  have hck : ¬ c = k := by omega
  have HA := Lib.hid hA
  have HA0 := Lib.hid hA0
  have HA1 := Lib.hid hA1
  have HRL := Lib.hid hrl
  clear hB hB1 hS hr hlen hra hbl hcs hA hA0 hA1 hrl hr8
  go_enter Try.func125, Try.ntmps125
  go_wp2_with fail
  go_quiet (fail)
  go_wp2_with fail
  go_region_law ((refine step_copy_splice rfl (.tmp 25) (.tmp 34) _ _ rfl 5 Try.underlying28 (by kernel_rfl) (some ⟨w.heap.size + 1, 0, none⟩) (some ⟨b, o + k, none⟩) 8 8 (n - k) (c - k) (by rfl) (by rfl) (w.heap.size + 1) 0 zcs 23 HN.out cs HMIN.out (fun _ => ⟨rfl, _, rfl, HSRC.out _ (HA.out.trans (drewN_ext _ _).drew')⟩) HFIT.out HONE.out (w.alloc (.cells zcs.toArray 23)).heap.size (w.alloc (.cells zcs.toArray 23)) (HA1.out.trans (drewN_ext _ _).drew') (by simp) ?_; intro w1 hb1 he1; have q0 := (HB.out.ext (HA0.out.trans he1)).cell 0; have q1 := (HB.out.ext (HA0.out.trans he1)).cell 1; have q2 := (HB.out.ext (HA0.out.trans he1)).frozen 1))
  all_goals (
    have hBN : Blk w1 (w.heap.size + 1) 23 (nmc (ofNm (r.take 8))) := by have := hb1.out; rwa [splice_whole _ HL8.out, HCS.out] at this
    have hkw : IntKind.i64.wrap ((k : Int) + 8) = (k : Int) + 8 := by rw [IntKind.wrap_i64]; omega
    have g1 : Blk (w1.setCell ⟨B, 1, none⟩ (.int .i64 ((k : Int) + 8))) w.heap.size 23 zcs.toArray := (HN1.out.ext he1).far (p := ⟨B, 1, none⟩) (by simp; omega) _
    rw [zcs_nmc] at g1
    have hBN2 : Blk (w1.setCell ⟨B, 1, none⟩ (.int .i64 ((k : Int) + 8))) (w.heap.size + 1) 23 (nmc (ofNm (r.take 8))) := hBN.far (p := ⟨B, 1, none⟩) (by simp; omega) _
    have hrg := rangeNm hBN2
    have hth : (w1.setCell ⟨B, 1, none⟩ (.int .i64 ((k : Int) + 8))).there w.heap.size 0 8 := by have := thereN' g1 0; rwa [nmc_size] at this
    have HFIN := Lib.hid (cname_fin (r := r) HB.out HS.out (HA0.out.trans he1) h8 hn HRL.out hD (nmc (ofNm (r.take 8))).toList)
    have HBN := Lib.hid g1
    clear hBN hBN2 g1 hb1 he1 hc0 hc1 hc2 hf1
    go_wp2_with (first | (with_reducible refine wpList_loadN rfl (.tmp 3) rfl (w.heap.size + 1) 0 rfl (ofNm (r.take 8)) hrg ?_) | (with_reducible refine wpList_storeN rfl (.tmp 2) (.tmp 44) rfl w.heap.size 0 (ofNm (r.take 8)) rfl rfl hth ?_))
    exact bodyPost_ret (v := .agg (nmc (ofNm (r.take 8)))) (retN rfl _ _ w.heap.size _ rfl (blkN' HBN.out _)) rfl ⟨rfl, HFIN.out.1, HFIN.out.2⟩)
theorem rcname_any (B : Nat) (s : Option (List UInt8)) (w : World) (h : CurAt 126 D w B s) :
    Calls Try.prog 125 #[.pointer (some ⟨B, 0, none⟩)] w fun e w' => e = .returned (.agg (nmc (rName s))) ∧ CurAt 126 D w' B (rRest 8 s) ∧ w.grownBy w' (some B) := by
  cases s with
  | none => exact rcname_no B none (fun r h => by cases h) w h
  | some r =>
    by_cases h8 : r.length < 8
    · simp only [rName, rRest, if_pos h8]; exact rcname_no B (some r) (fun r' h => by injection h with h; rw [← h]; exact h8) w h
    · simp only [rName, rRest, if_neg h8]; exact rcname_yes B r (by omega) w h
end Go.Proofs.Ytcfmlgbocdjabaa
/- The state of the reference's cursor.op. -/
namespace Go.Proofs.Ytcfmlgbocdjabaa
open Go.RowKit
set_option linter.unusedVariables false
set_option linter.unusedSimpArgs false
attribute [local go_sem ↓] Go.wp_at_zero Go.wp_at_succ

/-- the state of the reference's op: the cursor in B, the operation's variable in X, the result's in G -/
structure RcS (w0 w : World) (D B X G : Nat) (R : OpR) (s : Option (List UInt8)) : Prop where
  cur : CurAt 126 D w B s
  box : Blk w X 114 (opA R)
  res : Blk w G 114 zeroO
  own1 : OwnB w w0.heap.size 5 R.A1 R.n1 R.c1 R.pre
  own2 : OwnB w w0.heap.size 5 R.A2 R.n2 R.c2 R.prf
  gr : w0.grownBy w (some B)
  hX : w0.heap.size ≤ X
  hG : w0.heap.size ≤ G
  hGX : G ≠ X
  hD : D ≤ w0.heap.size
section
variable {w0 w w' : World} {D B X G : Nat} {R R' : OpR} {s s' : Option (List UInt8)}
theorem RcS.read (h : RcS w0 w D B X G R s) (hc : CurAt 126 D w' B s') (hg : w.grownBy w' (some B)) : RcS w0 w' D B X G R s' := by
  obtain ⟨cs, hb⟩ := cur_blk h.cur
  exact ⟨hc, h.box.grown hg (fun e => blk_ne h.box hb (by decide) (by injection e)), h.res.grown hg (fun e => blk_ne h.res hb (by decide) (by injection e)),
    World.ownsRow.kept h.own1 hg (.inr (Ne.symm (own_other h.own1 hb (by decide)))), World.ownsRow.kept h.own2 hg (.inr (Ne.symm (own_other h.own2 hb (by decide)))), World.grownBy.trans h.gr hg, h.hX, h.hG, h.hGX, h.hD⟩
theorem RcS.put (h : RcS w0 w D B X G R s) (vs : List Value) (o : Nat) (hb' : Blk (w.setCells X o vs) X 114 (opA R')) (o1 : OwnB w w0.heap.size 5 R'.A1 R'.n1 R'.c1 R'.pre) (o2 : OwnB w w0.heap.size 5 R'.A2 R'.n2 R'.c2 R'.prf) : RcS w0 (w.setCells X o vs) D B X G R' s := by
  obtain ⟨cs, hb⟩ := cur_blk h.cur
  have hne := blk_ne h.box hb (by decide)
  have hg := grown_setCells' w X vs o
  refine ⟨h.cur.low ?_ ?_, hb', Blk.setCells_far h.res h.hGX vs o, World.ownsRow.kept o1 hg (.inr (Ne.symm (own_other o1 h.box (by decide)))), World.ownsRow.kept o2 hg (.inr (Ne.symm (own_other o2 h.box (by decide)))), ?_, h.hX, h.hG, h.hGX, h.hD⟩
  · exact hg.block B hb.lt (fun e => hne (by injection e with e; exact e.symm))
  · intro b hb2
    have hlt : b < w.heap.size := Nat.lt_of_lt_of_le hb2 (Nat.le_trans h.hD h.gr.size)
    exact hg.block b hlt (fun e => by injection e with e; have := h.hX; have := h.hD; omega)
  · exact grown_new h.gr h.hX vs o
theorem RcS.set (h : RcS w0 w D B X G R s) (i : Nat) (v : Value) (hcs : (opA R).setIfInBounds i v = opA R') (o1 : OwnB w w0.heap.size 5 R'.A1 R'.n1 R'.c1 R'.pre) (o2 : OwnB w w0.heap.size 5 R'.A2 R'.n2 R'.c2 R'.prf) : RcS w0 (w.setCell ⟨X, i, none⟩ v) D B X G R' s := by
  have := h.put (R' := R') [v] i (by have := h.box.set i v; rw [hcs] at this; exact this) o1 o2
  exact this
theorem RcS.hs (h : RcS w0 w D B X G R s) (n : UInt64) : RcS w0 (w.setCells X 13 (nmc n).toList) D B X G { R with hs := n } s := by
  refine h.put _ _ ?_ h.own1 h.own2
  have := blk_setCells (o := 13) (vs := (nmc n).toList) h.box
  rwa [fold_name] at this
theorem RcS.lk (h : RcS w0 w D B X G R s) (n : UInt64) : RcS w0 (w.setCells X 5 (nmc n).toList) D B X G { R with lk := n } s := by
  refine h.put _ _ ?_ h.own1 h.own2
  have := blk_setCells (o := 5) (vs := (nmc n).toList) h.box
  rwa [fold_lock] at this
theorem RcS.thereAt (h : RcS w0 w D B X G R s) (o : Nat) (ho : o + 8 ≤ 23) : w.there X o 8 := fun j hj => by
  have h1 := there_of_blk h.box (o + j) (by show o + j < 23; omega)
  rwa [Nat.zero_add] at h1
theorem RcS.start {w1 : World} {k : Int} (hc : CurAt 126 D w1 B s) (hg : (w0.alloc (.cells zeroO 114)).grownBy w1 (some B)) (hB : B < w0.heap.size) (hD : D ≤ w0.heap.size) : RcS w0 (w1.alloc (.cells (opA (opK k)) 114)) D B w1.heap.size w0.heap.size (opK k) s := by
  have hr := (Blk.new w0 114 zeroO).grown hg (fun e => by injection e with e; omega)
  have hs : w0.heap.size ≤ w1.heap.size := by have := hg.size; simp at this; omega
  exact ⟨hc.ext ((Ext.refl w1).alloc' _), Blk.new _ _ _, hr.alloc _, OwnB.nil _ _ _, OwnB.nil _ _ _, World.grownBy.trans (World.grownBy.trans (grown_alloc w0 _ _) hg) (grown_alloc w1 _ _), hs, Nat.le_refl _, Nat.ne_of_lt hr.lt, hD⟩
end
/-- what the reference's op leaves -/
def RcOut (D B : Nat) (w : World) (r : OpV × Option (List UInt8)) (e : Ending) (w' : World) : Prop :=
  ∃ R : OpR, e = .returned (.agg (opA R)) ∧ R.v = r.1 ∧ OwnB w' w.heap.size 5 R.A1 R.n1 R.c1 R.pre ∧ OwnB w' w.heap.size 5 R.A2 R.n2 R.c2 R.prf ∧ CurAt 126 D w' B r.2 ∧ w.grownBy w' (some B)
theorem RcS.fin {w0 w : World} {D B X G : Nat} {R : OpR} {s : Option (List UInt8)} (h : RcS w0 w D B X G R s) (r : OpV × Option (List UInt8)) (h1 : R.v = r.1) (h2 : s = r.2) : RcOut D B w0 r (.returned (.agg (opA R))) (w.setCells G 0 (opA R).toList) := by
  subst h2
  obtain ⟨cs, hb⟩ := cur_blk h.cur
  have hne := blk_ne h.res hb (by decide)
  have hg := grown_setCells' w G (opA R).toList 0
  refine ⟨R, rfl, h1, World.ownsRow.kept h.own1 hg (.inr (Ne.symm (own_other h.own1 h.res (by decide)))), World.ownsRow.kept h.own2 hg (.inr (Ne.symm (own_other h.own2 h.res (by decide)))), h.cur.low ?_ ?_, grown_new h.gr h.hG _ _⟩
  · exact hg.block B hb.lt (fun e => hne (by injection e with e; exact e.symm))
  · intro b hb2
    have hlt : b < w.heap.size := Nat.lt_of_lt_of_le hb2 (Nat.le_trans h.hD h.gr.size)
    exact hg.block b hlt (fun e => by injection e with e; have := h.hG; have := h.hD; omega)
theorem RcS.ret {w0 w : World} {D B X G : Nat} {R : OpR} {s : Option (List UInt8)} (h : RcS w0 w D B X G R s) : (loadVar 114 ⟨G, 0, none⟩).run Try.prog (w.setCells G 0 (opA R).toList) = .ok (.agg (opA R)) (w.setCells G 0 (opA R).toList) :=
  run_loadVar_row _ _ _ _ _ (0, 0) _ (blk_whole h.res rfl) Try.underlying114 rfl (by kernel_rfl)
end Go.Proofs.Ytcfmlgbocdjabaa
