/- The reference's reader of a configuration: num, bytes, whole. -/
import Derived.Test.YtcfmlgbocdjabaaSc4
import Derived.Test.YtcfmlgbocdjabaaTe5
namespace Go.Proofs.Ytcfmlgbocdjabaa
open Go.RowKit
set_option linter.unusedVariables false
set_option linter.unusedSimpArgs false
attribute [local go_sem ↓] Go.wp_at_zero Go.wp_at_succ

variable {D : Nat}
set_option maxRecDepth 100000 in
set_option maxHeartbeats 2000000 in
theorem rnum38_any (wd : Nat) (h1 : 1 ≤ wd) (h8 : wd ≤ 8) (B : Nat) (s : Option (List UInt8)) (w : World) (h : CurAt 141 D w B s) :
    Calls Try.prog 94 #[.pointer (some ⟨B, 0, none⟩), .int .i64 (wd : Int)] w fun e w' => ∃ z, e = .returned (.int .i64 z) ∧ (s.isSome = true → z = rI wd s) ∧ CurAt 141 D w' B (rRest wd s) ∧ w.grownBy w' (some B) := by
  obtain ⟨A, n, c, l, k, hB, hS, hk, hn, hr, hD⟩ := h
  have hlen := hS.len
  have hc0 : w.cell? ⟨B, 0, none⟩ = some (.slice A n c) := hB.cell 0
  have hc1 : w.cell? ⟨B, 1, none⟩ = some (.int .i64 (k : Int)) := hB.cell 1
  have hc2 : w.cell? ⟨B, 2, none⟩ = some (.bool s.isNone) := hB.cell 2
  have hf1 := hB.frozen 1
  have hf2 := hB.frozen 2
  have HB := Lib.hid hB
  have HS := Lib.hid hS
  have HR := Lib.hid hr
  have hS' := hS.ext (Ext.refl w).drew'
  have k0 : (0 : Int) ≤ (k : Int) := by omega
  have w0 : (0 : Int) ≤ (wd : Int) := by omega
  by_cases hfit : k + wd ≤ n
  · have HU := Lib.hid (refUint_yes A n c l k wd w.drew hS' h1 h8 hfit hn)
    have HV := Lib.hid (numAt_eq l k wd)
    obtain ⟨v, hv⟩ : ∃ v, v = numAt l k wd := ⟨_, rfl⟩
    rw [← hv] at HU HV
    clear hv hB hS hr hS' hlen
    cases s with
    | none =>
      have hc2 : w.cell? ⟨B, 2, none⟩ = some (.bool true) := hc2
      have HC := Lib.hid (cur_store2 (w := w.drew) A n c k l true true none (HB.out.drew) (HS.out.ext (Ext.refl w).drew') hk hn rfl (fun _ h => by cases h) hD)
      have e2 : (w.drew.setCell ⟨B, 2, none⟩ (.bool true)).cell? ⟨B, 2, none⟩ = some (.bool true) := (HB.out.drew.set 2 (.bool true)).cell 2
      go_enter Try.func94, Try.ntmps94
      go_wp2_with fail
      go_region_held3 (fun w' => w'.cell? ⟨B, 0, none⟩ = some (.slice A n c) ∧ w'.cell? ⟨B, 1, none⟩ = some (.int .i64 (k : Int))) (first | exact ⟨hc0, hc1⟩ | fail "CELLS") (first | (go_at_call 124; (with_reducible refine HU.out.mono ?_); rintro e wv ⟨rfl, rfl⟩) | fail "ARM")
      go_wp2_with fail
      go_ret
      exact ⟨_, rfl, (fun h => by cases h), HC.out, World.grownBy.trans (grown_ext (Ext.refl w).drew' _) (grown_set w.drew B 2 _)⟩
    | some r =>
      have hc2 : w.cell? ⟨B, 2, none⟩ = some (.bool false) := hc2
      have hbl := HB.out.drew.set 2 (.bool false)
      have hsl := slb_kept (HS.out.ext (Ext.refl w).drew') HB.out.drew (grown_set w.drew B 2 (.bool false))
      have HL := Lib.hid (show ¬ r.length < wd by rw [HR.out r rfl, List.length_drop, HS.out.len]; omega)
      have hwk : IntKind.i64.wrap ((k : Int) + (wd : Int)) = (k : Int) + (wd : Int) := by rw [IntKind.wrap_i64]; omega
      have HC := Lib.hid (cur_move2 (w := w.drew.setCell ⟨B, 2, none⟩ (.bool false)) A n c k (k + wd) l (r.drop wd) hbl hsl hfit hn (by rw [HR.out r rfl, List.drop_drop]) ((k : Int) + (wd : Int)) (by omega) hD)
      have HQ := Lib.hid (show rI wd (some r) = IntKind.i64.wrap (v : Int) ∧ rRest wd (some r) = some (r.drop wd) by
        have := HL.out
        unfold rI
        simp only [rNum, rRest, if_neg this]
        rw [HR.out r rfl, ← HV.out]; exact ⟨rfl, trivial⟩)
      have e2 : (w.drew.setCell ⟨B, 2, none⟩ (.bool false)).cell? ⟨B, 2, none⟩ = some (.bool false) := hbl.cell 2
      have e1 : (w.drew.setCell ⟨B, 2, none⟩ (.bool false)).cell? ⟨B, 1, none⟩ = some (.int .i64 (k : Int)) := hbl.cell 1
      have f1 := hbl.frozen 1
      clear hbl hsl
      go_enter Try.func94, Try.ntmps94
      go_wp2_with fail
      go_region_held3 (fun w' => w'.cell? ⟨B, 0, none⟩ = some (.slice A n c) ∧ w'.cell? ⟨B, 1, none⟩ = some (.int .i64 (k : Int))) (first | exact ⟨hc0, hc1⟩ | fail "CELLS") (first | (go_at_call 124; (with_reducible refine HU.out.mono ?_); rintro e wv ⟨rfl, rfl⟩) | fail "ARM")
      go_wp2_with fail
      go_ret
      refine ⟨_, rfl, (fun _ => ?_), ?_, World.grownBy.trans (World.grownBy.trans (grown_ext (Ext.refl w).drew' _) (grown_set w.drew B 2 _)) (grown_set _ B 1 _)⟩
      · rw [HQ.out.1]; first | rfl | exact (Go.IntWalk.i64_left _).symm
      · rw [HQ.out.2]; exact HC.out
  · have HU := Lib.hid (refUint_no A n c k wd w.drew hn h1 h8 hk hfit)
    have HN := Lib.hid (show (s.isSome = true → (0 : Int) = rI wd s) ∧ rRest wd s = none by
      cases s with
      | none => exact ⟨fun h => by (cases h), rfl⟩
      | some r =>
        have : r.length < wd := by rw [hr r rfl, List.length_drop, hlen]; omega
        exact ⟨fun _ => by unfold rI; rw [show rNum wd (some r) = 0 by simp [rNum, this]]; rfl, by simp [rRest, this]⟩)
    have HC := Lib.hid (cur_store2 (w := w.drew) A n c k l s.isNone true none (HB.out.drew) (HS.out.ext (Ext.refl w).drew') hk hn rfl (fun _ h => by cases h) hD)
    have e2 : (w.drew.setCell ⟨B, 2, none⟩ (.bool true)).cell? ⟨B, 2, none⟩ = some (.bool true) := (HB.out.drew.set 2 (.bool true)).cell 2
    clear hB hS hr hS' hlen
    have hcs : ∃ bb, s.isNone = bb := ⟨_, rfl⟩
    obtain ⟨bb, hbb⟩ := hcs
    rw [hbb] at hc2
    clear hbb
    cases bb with
    | true =>
      go_enter Try.func94, Try.ntmps94
      go_wp2_with fail
      go_region_held3 (fun w' => w'.cell? ⟨B, 0, none⟩ = some (.slice A n c) ∧ w'.cell? ⟨B, 1, none⟩ = some (.int .i64 (k : Int))) (first | exact ⟨hc0, hc1⟩ | fail "CELLS") (first | (go_at_call 124; (with_reducible refine HU.out.mono ?_); rintro e wv ⟨rfl, rfl⟩) | fail "ARM")
      go_wp2_with fail
      go_ret
      exact ⟨_, rfl, (fun h => by rw [← HN.out.1 h]), by rw [HN.out.2]; exact HC.out, World.grownBy.trans (grown_ext (Ext.refl w).drew' _) (grown_set w.drew B 2 _)⟩
    | false =>
      go_enter Try.func94, Try.ntmps94
      go_wp2_with fail
      go_region_held3 (fun w' => w'.cell? ⟨B, 0, none⟩ = some (.slice A n c) ∧ w'.cell? ⟨B, 1, none⟩ = some (.int .i64 (k : Int))) (first | exact ⟨hc0, hc1⟩ | fail "CELLS") (first | (go_at_call 124; (with_reducible refine HU.out.mono ?_); rintro e wv ⟨rfl, rfl⟩) | fail "ARM")
      go_wp2_with fail
      go_ret
      exact ⟨_, rfl, (fun h => by rw [← HN.out.1 h]), by rw [HN.out.2]; exact HC.out, World.grownBy.trans (grown_ext (Ext.refl w).drew' _) (grown_set w.drew B 2 _)⟩
theorem slb_cap {w : World} {A : Option Addr} {n c c' : Nat} {l : List UInt8} (h : SlB w A n c l) (h1 : n ≤ c') (h2 : c' ≤ 9223372036854775807) : SlB w A n c' l := ⟨h.len, h1, h2, h.rd⟩
set_option maxRecDepth 100000 in
set_option maxHeartbeats 2000000 in
theorem bytes38_any (j : Nat) (h1 : 1 ≤ j) (hj : j ≤ 1000) (B : Nat) (s : Option (List UInt8)) (w : World) (h : CurAt 141 D w B s) :
    Calls Try.prog 95 #[.pointer (some ⟨B, 0, none⟩), .int .i64 (j : Int)] w (TkOut 141 D B j s w) := by
  obtain ⟨A, n, c, l, k, hB, hS, hk, hn, hr, hD⟩ := h
  have hlen := hS.len
  have hle := hS.le
  have hcap := hS.cap
  have hc0 : w.cell? ⟨B, 0, none⟩ = some (.slice A n c) := hB.cell 0
  have hc1 : w.cell? ⟨B, 1, none⟩ = some (.int .i64 (k : Int)) := hB.cell 1
  have hc2 : w.cell? ⟨B, 2, none⟩ = some (.bool s.isNone) := hB.cell 2
  have hf1 := hB.frozen 1
  have hf2 := hB.frozen 2
  have HB := Lib.hid hB
  have HS := Lib.hid hS
  have HR := Lib.hid hr
  have k0 : (0 : Int) ≤ (k : Int) := by omega
  have j0 : ¬ (j : Int) < 0 := by omega
  have w1 : IntKind.i64.wrap ((n : Int) - (k : Int)) = (n : Int) - (k : Int) := by rw [IntKind.wrap_i64]; omega
  have w2 : IntKind.i64.wrap ((k : Int) + (j : Int)) = (k : Int) + (j : Int) := by rw [IntKind.wrap_i64]; omega
  have w3 : IntKind.i64.wrap ((k : Int) + (j : Int) - (j : Int)) = (k : Int) := by rw [IntKind.wrap_i64]; omega
  clear hB hS hr
  cases s with
  | none =>
    have hc2 : w.cell? ⟨B, 2, none⟩ = some (.bool true) := hc2
    go_enter Try.func95, Try.ntmps95
    go_wp2_with fail
    go_quiet (fail)
    go_wp2_with fail
    go_ret
    exact ⟨none, 0, 0, rfl, SlB.nil _, cur_store2 A n c k l true true none (HB.out.ext (drewN_ext _ _)) (HS.out.ext (drewN_ext _ _)) hk hn rfl (fun _ h => by cases h) hD, World.grownBy.trans (grown_ext (drewN_ext _ _) _) (grown_set _ B 2 _)⟩
  | some r =>
    have hc2 : w.cell? ⟨B, 2, none⟩ = some (.bool false) := hc2
    by_cases hfit : k + j ≤ n
    · have f1 : ¬ (n : Int) - (k : Int) < (j : Int) := by omega
      have HL := Lib.hid (show ¬ r.length < j by rw [HR.out r rfl, List.length_drop, HS.out.len]; omega)
      obtain ⟨b, o, rfl, _, hbl⟩ := HS.out.at (by omega)
      go_enter Try.func95, Try.ntmps95
      go_wp2_with fail
      go_quiet (fail)
      have HB1 := Lib.hid ((HB.out.ext (drewN_ext w nq)).set 1 (.int .i64 ((k : Int) + (j : Int))))
      have e0 : ((w.drewN nq).setCell ⟨B, 1, none⟩ (.int .i64 ((k : Int) + (j : Int)))).cell? ⟨B, 0, none⟩ = some (.slice (some ⟨b, o, none⟩) n c) := HB1.out.cell 0
      have e1 : ((w.drewN nq).setCell ⟨B, 1, none⟩ (.int .i64 ((k : Int) + (j : Int)))).cell? ⟨B, 1, none⟩ = some (.int .i64 ((k : Int) + (j : Int))) := HB1.out.cell 1
      have s1 : (k : Int) ≤ (k : Int) + (j : Int) := by omega
      have s2 : (k : Int) + (j : Int) ≤ (c : Int) := by omega
      have HW1 := Lib.hid (show CurAt 141 D ((w.drewN nq).setCell ⟨B, 1, none⟩ (.int .i64 ((k : Int) + (j : Int)))) B (some (r.drop j)) from cur_move2 (some ⟨b, o, none⟩) n c k (k + j) l _ (HB.out.ext (drewN_ext _ _)) (HS.out.ext (drewN_ext _ _)) hfit hn (by rw [HR.out r rfl, List.drop_drop]) _ (by omega) hD)
      have HG1 := Lib.hid (World.grownBy.trans (grown_ext (drewN_ext w nq) _) (grown_set (w.drewN nq) B 1 (.int .i64 ((k : Int) + (j : Int)))))
      have HS1 := Lib.hid (slb_part (k := k) (j := j) (slb_kept (HS.out.ext (drewN_ext w nq)) (HB.out.ext (drewN_ext w nq)) (grown_set (w.drewN nq) B 1 (.int .i64 ((k : Int) + (j : Int))))) hfit h1)
      have HN := Lib.hid (show rTk j (some r) = (l.drop k).take j ∧ rRest j (some r) = some (r.drop j) by
        have := HL.out
        simp only [rTk, rRest, if_neg this]
        rw [HR.out r rfl]; exact ⟨rfl, trivial⟩)
      have ej : k + j - k = j := by omega
      go_wp2_with fail
      clear e0 e1
      have HB2 := Lib.hid HB1.out
      generalize (w.drewN nq).setCell ⟨B, 1, none⟩ (.int .i64 ((k : Int) + (j : Int))) = W1 at *
      have hXd := (Ext.refl W1).drew'
      obtain ⟨e0, e1⟩ : W1.drew.cell? ⟨B, 0, none⟩ = some (.slice (some ⟨b, o, none⟩) n c) ∧ W1.drew.cell? ⟨B, 1, none⟩ = some (.int .i64 ((k : Int) + (j : Int))) := ⟨HB2.out.cell 0, HB2.out.cell 1⟩
      have w4 : IntKind.i64.wrap (k : Int) = (k : Int) := by rw [IntKind.wrap_i64]; omega
      have s0 : (0 : Int) ≤ (k : Int) + (j : Int) := by omega
      have s3 : ¬ c = k := by omega
      have s4 : max ((k : Int) + (j : Int)) 0 = (k : Int) + (j : Int) := by omega
      go_region_law (first | (refine step_appBG bytesE rfl (.const (.slice none 0 0)) (.tmp 53) rfl W1.drew.heap.size none 0 0 [] (by rfl) (OwnB.nil _ _ _) (some ⟨b, o + k, none⟩) (k + j - k) (c - k) ((l.drop k).take j) (by rfl) (by rw [ej]; exact slb_cap (HS1.out.ext hXd) (by omega) (by omega)) (by omega) (Nat.le_refl _) ?_; intro A5 c5 w5 hO5 hg5) | fail "ARM")
      all_goals (
        have HE5 := Lib.hid (show Ext W1 w5 from (hXd.trans (Below.grown (Ext.refl W1.drew) hg5 (Nat.le_refl _) (fun k hk => by simp [Value.ownBlock] at hk))))
        have HO5 := Lib.hid hO5
        clear hO5 hg5 e0 e1 hXd
        go_wp2_with fail
        go_ret
        refine ⟨A5, _, c5, rfl, ?_, ?_, World.grownBy.trans HG1.out (grown_ext HE5.out _)⟩
        · rw [HN.out.1]
          have := HO5.out.sl
          simpa using this
        · rw [HN.out.2]; exact HW1.out.ext HE5.out)
    · have f1 : (n : Int) - (k : Int) < (j : Int) := by omega
      go_enter Try.func95, Try.ntmps95
      go_wp2_with fail
      go_quiet (fail)
      go_wp2_with fail
      go_ret
      have HN := Lib.hid (show rTk j (some r) = [] ∧ rRest j (some r) = none by
        have : r.length < j := by rw [HR.out r rfl, List.length_drop, HS.out.len]; omega
        simp [rTk, rRest, this])
      refine ⟨none, 0, 0, rfl, ?_, ?_, World.grownBy.trans (grown_ext (drewN_ext _ _) _) (grown_set _ B 2 _)⟩
      · rw [HN.out.1]; exact SlB.nil _
      · rw [HN.out.2]
        exact cur_store2 A n c k l false true none (HB.out.ext (drewN_ext _ _)) (HS.out.ext (drewN_ext _ _)) hk hn rfl (fun _ h => by cases h) hD
set_option maxRecDepth 100000 in
set_option maxHeartbeats 2000000 in
theorem whole38_any (B : Nat) (s : Option (List UInt8)) (w : World) (h : CurAt 141 D w B s) :
    Calls Try.prog 96 #[.pointer (some ⟨B, 0, none⟩)] w fun e w' => e = .returned (.bool (decide (s = some []))) ∧ Ext w w' := by
  obtain ⟨A, n, c, l, k, hB, hS, hk, hn, hr, hD⟩ := h
  have hlen := hS.len
  have hc0 : w.cell? ⟨B, 0, none⟩ = some (.slice A n c) := hB.cell 0
  have hc1 : w.cell? ⟨B, 1, none⟩ = some (.int .i64 (k : Int)) := hB.cell 1
  have hc2 : w.cell? ⟨B, 2, none⟩ = some (.bool s.isNone) := hB.cell 2
  cases s with
  | none =>
    have hc2 : w.cell? ⟨B, 2, none⟩ = some (.bool true) := hc2
    clear hB hS hr
    go_enter Try.func96, Try.ntmps96
    go_wp2_with fail
    go_quiet (fail)
    go_wp2_with fail
    go_ret
    exact ⟨rfl, drewN_ext _ _⟩
  | some r =>
    have hc2 : w.cell? ⟨B, 2, none⟩ = some (.bool false) := hc2
    have he := hr r rfl
    have hd : decide (some r = some []) = decide ((k : Int) = (n : Int)) := by
      have : (some r = some []) ↔ ((k : Int) = (n : Int)) := by
        rw [Option.some_inj, he, List.drop_eq_nil_iff, hlen]; omega
      rw [decide_eq_decide.2 this]
    have HD := Lib.hid hd
    clear hB hS hr he hd
    go_enter Try.func96, Try.ntmps96
    go_wp2_with fail
    go_quiet (fail)
    go_wp2_with fail
    go_ret
    exact ⟨by rw [HD.out]; first | rfl | simp, drewN_ext _ _⟩
end Go.Proofs.Ytcfmlgbocdjabaa
