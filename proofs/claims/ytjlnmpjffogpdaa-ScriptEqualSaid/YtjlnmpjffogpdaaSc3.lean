/- The readers of a configuration: take and number (the program's). -/
import Derived.Test.YtjlnmpjffogpdaaSc2
import Derived.Test.YtjlnmpjffogpdaaTx7
namespace Go.Proofs.Ytjlnmpjffogpdaa
open Go.RowKit
set_option linter.unusedVariables false
set_option linter.unusedSimpArgs false
attribute [local go_sem ↓] Go.wp_at_zero Go.wp_at_succ

/-- the bytes that are taken -/
def rTk (k : Nat) (s : Option (List UInt8)) : List UInt8 := match s with
  | none => []
  | some r => if r.length < k then [] else r.take k
variable {D : Nat}
def TkOut (t : TypeId) (D B k : Nat) (s : Option (List UInt8)) (w : World) (e : Ending) (w' : World) : Prop :=
  ∃ A' m c', e = .returned (.slice A' m c') ∧ SlB w' A' m c' (rTk k s) ∧ CurAt t D w' B (rRest k s) ∧ w.grownBy w' (some B)
theorem slb_part {w : World} {b o n c : Nat} {l : List UInt8} {k j : Nat} (h : SlB w (some ⟨b, o, none⟩) n c l) (hj : k + j ≤ n) (h0 : 0 < j) : SlB w (some ⟨b, o + k, none⟩) j j ((l.drop k).take j) := by
  have h1 := (h.cut (k := k) (by omega) (by have := h.le; omega)).upto (k := j) (by omega)
  refine ⟨h1.len, Nat.le_refl _, by have := h1.cap; have := h1.le; omega, ?_⟩
  have h2 := h1.rd
  have e : (some (⟨b, o, none⟩ : Addr)).map (·.add k) = some ⟨b, o + k, none⟩ := by
    by_cases hk : k = 0
    · subst hk; simp [Addr.add]
    · simp [Addr.add, hk]
  rw [e] at h2; exact h2
theorem cur_store2 {t : TypeId} {w : World} {B : Nat} (A : Option Addr) (n c k : Nat) (l : List UInt8) (b b' : Bool) (s : Option (List UInt8)) (hB : Blk w B t #[.slice A n c, .int .i64 ((k : Nat) : Int), .bool b]) (hS : SlB w A n c l) (hk : k ≤ n) (hn : n ≤ 140737488355328) (hb : s.isNone = b') (hr : ∀ r, s = some r → r = l.drop k) (hD : LowB D A n) : CurAt t D (w.setCell ⟨B, 2, none⟩ (.bool b')) B s := by
  refine ⟨A, n, c, l, k, ?_, ?_, hk, hn, hr, hD⟩
  · rw [hb]; exact hB.set 2 _
  · exact slb_kept hS hB (grown_set w B 2 _)
theorem cur_move2 {t : TypeId} {w : World} {B : Nat} (A : Option Addr) (n c k j : Nat) (l : List UInt8) (r : List UInt8) (hB : Blk w B t #[.slice A n c, .int .i64 ((k : Nat) : Int), .bool false]) (hS : SlB w A n c l) (hk : j ≤ n) (hn : n ≤ 140737488355328) (hr : r = l.drop j) (z : Int) (hz : z = (j : Int)) (hD : LowB D A n) : CurAt t D (w.setCell ⟨B, 1, none⟩ (.int .i64 z)) B (some r) := by
  subst hz
  refine ⟨A, n, c, l, j, ?_, ?_, hk, hn, fun r' h => by injection h with h; rw [← h]; exact hr, hD⟩
  · exact hB.set 1 _
  · exact slb_kept hS hB (grown_set w B 1 _)
theorem curAt_drew {t : TypeId} {w : World} {B : Nat} {s : Option (List UInt8)} (h : CurAt t D w B s) : CurAt t D w.drew B s := h.ext (Ext.refl w).drew'
set_option maxRecDepth 100000 in
set_option maxHeartbeats 2000000 in
theorem take_any (j : Nat) (h1 : 1 ≤ j) (hj : j ≤ 1000) (B : Nat) (s : Option (List UInt8)) (w : World) (h : CurAt 91 D w B s) :
    Calls Try.prog 54 #[.pointer (some ⟨B, 0, none⟩), .int .i64 (j : Int)] w (TkOut 91 D B j s w) := by
  obtain ⟨A, n, c, l, k, hB, hS, hk, hn, hr, hD⟩ := h
  have hlen := hS.len
  have hle := hS.le
  have hcap := hS.cap
  have hc0 : w.cell? ⟨B, 0, none⟩ = some (.slice A n c) := hB.cell 0
  have hc1 : w.cell? ⟨B, 1, none⟩ = some (.int .i64 (k : Int)) := hB.cell 1
  have hc2 : w.cell? ⟨B, 2, none⟩ = some (.bool s.isNone) := hB.cell 2
  have hf1 := hB.frozen 1
  have hf2 := hB.frozen 2
  have HB := Lib.hid hB
  have HS := Lib.hid hS
  have HR := Lib.hid hr
  have k0 : (0 : Int) ≤ (k : Int) := by omega
  have j0 : ¬ (j : Int) < 0 := by omega
  have w1 : IntKind.i64.wrap ((n : Int) - (k : Int)) = (n : Int) - (k : Int) := by rw [IntKind.wrap_i64]; omega
  have w2 : IntKind.i64.wrap ((k : Int) + (j : Int)) = (k : Int) + (j : Int) := by rw [IntKind.wrap_i64]; omega
  have w3 : IntKind.i64.wrap ((k : Int) + (j : Int) - (j : Int)) = (k : Int) := by rw [IntKind.wrap_i64]; omega
  clear hB hS hr
  cases s with
  | none =>
    have hc2 : w.cell? ⟨B, 2, none⟩ = some (.bool true) := hc2
    go_enter Try.func54, Try.ntmps54
    go_wp2_with fail
    go_quiet (fail)
    go_wp2_with fail
    go_ret
    exact ⟨none, 0, 0, rfl, SlB.nil _, cur_store2 A n c k l true true none (HB.out.ext (drewN_ext _ _)) (HS.out.ext (drewN_ext _ _)) hk hn rfl (fun _ h => by cases h) hD, World.grownBy.trans (grown_ext (drewN_ext _ _) _) (grown_set _ B 2 _)⟩
  | some r =>
    have hc2 : w.cell? ⟨B, 2, none⟩ = some (.bool false) := hc2
    by_cases hfit : k + j ≤ n
    · have f1 : ¬ (n : Int) - (k : Int) < (j : Int) := by omega
      have HL := Lib.hid (show ¬ r.length < j by rw [HR.out r rfl, List.length_drop, HS.out.len]; omega)
      obtain ⟨b, o, rfl, _, hbl⟩ := HS.out.at (by omega)
      go_enter Try.func54, Try.ntmps54
      go_wp2_with fail
      go_quiet (fail)
      have HB1 := Lib.hid ((HB.out.ext (drewN_ext w nq)).set 1 (.int .i64 ((k : Int) + (j : Int))))
      have e0 : ((w.drewN nq).setCell ⟨B, 1, none⟩ (.int .i64 ((k : Int) + (j : Int)))).cell? ⟨B, 0, none⟩ = some (.slice (some ⟨b, o, none⟩) n c) := HB1.out.cell 0
      have e1 : ((w.drewN nq).setCell ⟨B, 1, none⟩ (.int .i64 ((k : Int) + (j : Int)))).cell? ⟨B, 1, none⟩ = some (.int .i64 ((k : Int) + (j : Int))) := HB1.out.cell 1
      have s1 : (k : Int) ≤ (k : Int) + (j : Int) := by omega
      have s2 : (k : Int) + (j : Int) ≤ (c : Int) := by omega
      go_wp2_with fail
      go_quiet (fail)
      go_wp2_with fail
      go_ret
      have HN := Lib.hid (show rTk j (some r) = (l.drop k).take j ∧ rRest j (some r) = some (r.drop j) by
        have := HL.out
        simp only [rTk, rRest, if_neg this]
        rw [HR.out r rfl]; exact ⟨rfl, trivial⟩)
      have ej : k + j - k = j := by omega
      rw [ej]
      refine ⟨some ⟨b, o + k, none⟩, j, j, rfl, ?_, ?_, World.grownBy.trans (World.grownBy.trans (grown_ext (drewN_ext _ _) _) (grown_set _ B 1 _)) (grown_ext (drewN_ext _ _) _)⟩
      · rw [HN.out.1]
        refine slb_part (c := c) ?_ hfit h1
        exact (slb_kept (HS.out.ext (drewN_ext _ _)) (HB.out.ext (drewN_ext _ _)) (grown_set _ B 1 _)).ext (drewN_ext _ _)
      · rw [HN.out.2]
        refine CurAt.ext ?_ (drewN_ext _ _)
        exact cur_move2 (some ⟨b, o, none⟩) n c k (k + j) l _ (HB.out.ext (drewN_ext _ _)) (HS.out.ext (drewN_ext _ _)) hfit hn (by rw [HR.out r rfl, List.drop_drop]) _ (by omega) hD
    · have f1 : (n : Int) - (k : Int) < (j : Int) := by omega
      go_enter Try.func54, Try.ntmps54
      go_wp2_with fail
      go_quiet (fail)
      go_wp2_with fail
      go_ret
      have HN := Lib.hid (show rTk j (some r) = [] ∧ rRest j (some r) = none by
        have : r.length < j := by rw [HR.out r rfl, List.length_drop, HS.out.len]; omega
        simp [rTk, rRest, this])
      refine ⟨none, 0, 0, rfl, ?_, ?_, World.grownBy.trans (grown_ext (drewN_ext _ _) _) (grown_set _ B 2 _)⟩
      · rw [HN.out.1]; exact SlB.nil _
      · rw [HN.out.2]
        exact cur_store2 A n c k l false true none (HB.out.ext (drewN_ext _ _)) (HS.out.ext (drewN_ext _ _)) hk hn rfl (fun _ h => by cases h) hD
/-- the number that is read: an int -/
def rI (k : Nat) (s : Option (List UInt8)) : Int := IntKind.i64.wrap (rNum k s)
theorem rTk_cases (k : Nat) (s : Option (List UInt8)) : (rTk k s = [] ∧ rNum k s = 0 ∧ rRest k s = none) ∨ ((rTk k s).length = k ∧ rNum k s = (beNat (rTk k s) : Int)) := by
  cases s with
  | none => exact .inl ⟨rfl, rfl, rfl⟩
  | some r =>
    by_cases h : r.length < k
    · exact .inl ⟨by simp [rTk, h], by simp [rNum, h], by simp [rRest, h]⟩
    · refine .inr ⟨by simp [rTk, h]; omega, by simp [rTk, rNum, h]⟩
set_option maxRecDepth 100000 in
set_option maxHeartbeats 2000000 in
theorem rdNumber_any (j : Nat) (h1 : 1 ≤ j) (hj : j ≤ 8) (B : Nat) (s : Option (List UInt8)) (w : World) (h : CurAt 91 D w B s) :
    Calls Try.prog 55 #[.pointer (some ⟨B, 0, none⟩), .int .i64 (j : Int)] w fun e w' => e = .returned (.int .i64 (rI j s)) ∧ CurAt 91 D w' B (rRest j s) ∧ w.grownBy w' (some B) := by
  have HT := Lib.hid (take_any j h1 (by omega) B s w h)
  clear h
  go_enter Try.func55, Try.ntmps55
  go_wp2_with fail
  refine HT.out.mono ?_
  rintro e w1 ⟨A1, m, c1, rfl, hs, hc, hg⟩
  have HC := Lib.hid hc
  have HG := Lib.hid hg
  have hl := hs.len
  rcases rTk_cases j s with ⟨ha, hb, _⟩ | ⟨ha, hb⟩
  · rw [ha] at hl
    obtain rfl : m = 0 := by simpa using hl.symm
    have HU := Lib.hid (uint_no A1 0 c1 0 (j : Int) w1 (by omega) (by omega) (by omega) (by unfold flw; simp only [decide_eq_false_iff_not]; omega))
    have HR := Lib.hid (show rI j s = 0 by unfold rI; rw [hb]; rfl)
    clear hs hc hg hl ha hb
    go_wp2_with fail
    refine HU.out.mono ?_
    rintro e wv ⟨rfl, rfl⟩
    go_wp2_with fail
    go_ret
    exact ⟨by rw [HR.out]; rfl, HC.out, HG.out⟩
  · have hmj : m = j := by rw [← hl, ha]
    subst hmj
    have HU := Lib.hid (show Calls Try.prog 81 #[.slice A1 m c1, .int .i64 0, .int .i64 (m : Int)] w1 (fun e w' => e = .returned (.tuple #[.int .u64 (numAt (rTk m s) 0 m : Int), .bool true]) ∧ w1 = w') from uint_yes A1 m c1 (rTk m s) 0 m w1 hs h1 hj (by omega))
    have HR := Lib.hid (show rI m s = IntKind.i64.wrap (numAt (rTk m s) 0 m : Int) by
      unfold rI numAt; rw [hb, List.drop_zero, List.take_of_length_le (by omega)])
    clear hs hc hg hl ha hb
    generalize numAt (rTk m s) 0 m = v at *
    go_wp2_with fail
    refine HU.out.mono ?_
    rintro e wv ⟨rfl, rfl⟩
    go_wp2_with fail
    go_ret
    exact ⟨by rw [HR.out]; simp; exact (Go.IntWalk.i64_left _).symm, HC.out, HG.out⟩
end Go.Proofs.Ytjlnmpjffogpdaa
