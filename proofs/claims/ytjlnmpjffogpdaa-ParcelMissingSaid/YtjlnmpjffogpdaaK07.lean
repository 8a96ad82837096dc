/- The cursors, the program's: New, Uint, Done. -/
import Derived.Test.YtjlnmpjffogpdaaK06
import Derived.Test.YtjlnmpjffogpdaaK05
import Derived.DeepKeys
namespace Go.Proofs.Ytjlnmpjffogpdaa
open Go.RowKit
set_option linter.unusedVariables false
set_option linter.unusedSimpArgs false
attribute [local go_sem ↓] Go.wp_at_zero Go.wp_at_succ

/-! what a cursor reads: 'some r': the bytes r are left; 'none': it has failed -/
def rNum (k : Nat) (s : Option (List UInt8)) : Int := match s with
  | none => 0
  | some r => if r.length < k then 0 else (beNat (r.take k) : Int)
def rRest (k : Nat) (s : Option (List UInt8)) : Option (List UInt8) := match s with
  | none => none
  | some r => if r.length < k then none else some (r.drop k)
theorem rNum_bd (k : Nat) (s : Option (List UInt8)) : 0 ≤ rNum k s ∧ rNum k s < 256 ^ k := by
  have hp : (0 : Int) < 256 ^ k := Int.pow_pos (by omega)
  unfold rNum
  split
  · exact ⟨Int.le_refl _, hp⟩
  · split
    · exact ⟨Int.le_refl _, hp⟩
    · rename_i r h
      have := beNat_lt (r.take k)
      rw [List.length_take, Nat.min_eq_left (by omega)] at this
      refine ⟨by omega, ?_⟩
      have h2 : ((256 ^ k : Nat) : Int) = (256 : Int) ^ k := by simp
      rw [← h2]; omega
/-- the bytes lie below the block D -/
def LowB (D : Nat) (A : Option Addr) (n : Nat) : Prop := n = 0 ∨ ∃ b o, A = some ⟨b, o, none⟩ ∧ b < D
/-- a cursor of the type t in the block B -/
def CurAt (t : TypeId) (D : Nat) (w : World) (B : Nat) (s : Option (List UInt8)) : Prop :=
  ∃ A n c l k, Blk w B t #[.slice A n c, .int .i64 ((k : Nat) : Int), .bool s.isNone] ∧ SlB w A n c l ∧ k ≤ n ∧ n ≤ 140737488355328 ∧ (∀ r, s = some r → r = l.drop k) ∧ LowB D A n
theorem low_kept {w w' : World} {D : Nat} {A : Option Addr} {n c : Nat} {l : List UInt8} (h : SlB w A n c l) (hD : LowB D A n) (hk : ∀ b, b < D → w'.heap[b]? = w.heap[b]?) : SlB w' A n c l := by
  refine ⟨h.len, h.le, h.cap, ?_⟩
  rcases hD with rfl | ⟨b, o, rfl, hb⟩
  · exact .inl (by rw [List.eq_nil_of_length_eq_zero h.len]; rfl)
  · by_cases hx : bcs l = []
    · exact .inl hx
    · obtain ⟨b', o', e, hr, _⟩ := h.rd.at hx
      injection e with e
      injection e with e1 e2
      subst e1; subst e2
      exact .inr ⟨b, o, rfl, rangeAt_keep hr (hk b hb)⟩
theorem grown_set (w : World) (B i : Nat) (u : Value) : w.grownBy (w.setCell ⟨B, i, none⟩ u) (some B) :=
  ⟨rfl, rfl, rfl, by simp [World.setCell], fun k _ hk => Below.heap_setCell _ _ _ _ (fun e => hk (by rw [e]))⟩
theorem grown_drew {w w' : World} {row : Option Nat} (h : w.grownBy w' row) : w.grownBy w'.drew row := ⟨h.os, h.tape, h.output, h.size, h.block⟩
theorem grown_refl (w : World) (row : Option Nat) : w.grownBy w row := ⟨rfl, rfl, rfl, Nat.le_refl _, fun _ _ _ => rfl⟩
theorem grown_ext {w w' : World} (h : Ext w w') (row : Option Nat) : w.grownBy w' row := ⟨h.os, h.tape, h.output, h.size, fun k hk _ => h.block k hk⟩
/-- bytes do not lie in a cursor's block -/
theorem slb_kept {w w' : World} {A : Option Addr} {n c : Nat} {l : List UInt8} {B : Nat} {t : TypeId} {A0 : Option Addr} {n0 c0 : Nat} {z : Int} {q : Bool} (h : SlB w A n c l) (hB : Blk w B t #[.slice A0 n0 c0, .int .i64 z, .bool q]) (hg : w.grownBy w' (some B)) : SlB w' A n c l := by
  refine ⟨h.len, h.le, h.cap, ?_⟩
  by_cases hx : bcs l = []
  · exact .inl hx
  · obtain ⟨b, o, rfl, hr, hb⟩ := h.rd.at hx
    refine .inr ⟨b, o, rfl, rangeAt_keep hr (hg.block b hb ?_)⟩
    intro e
    injection e with e
    subst e
    cases l with
    | nil => exact hx rfl
    | cons x r =>
      have h0 := hr 0 (bv x) rfl
      rw [Nat.add_zero, hB.cell o] at h0
      match o, h0 with
      | 0, h0 => simp [bv] at h0
      | 1, h0 => simp [bv] at h0
      | 2, h0 => simp [bv] at h0
      | o + 3, h0 => simp at h0
section
variable {t : TypeId} {D : Nat} {w w' : World} {B : Nat} {s : Option (List UInt8)}
theorem CurAt.lt (h : CurAt t D w B s) : B < w.heap.size := by
  obtain ⟨A, n, c, l, k, hB, _⟩ := h
  exact hB.lt
theorem CurAt.kept {row : Option Nat} (h : CurAt t D w B s) (hg : w.grownBy w' row) (hne : some B ≠ row) (hd : ∀ A n c l, SlB w A n c l → SlB w' A n c l) : CurAt t D w' B s := by
  obtain ⟨A, n, c, l, k, hB, hS, r⟩ := h
  exact ⟨A, n, c, l, k, hB.grown hg hne, hd _ _ _ _ hS, r⟩
theorem CurAt.low (h : CurAt t D w B s) (hb : w'.heap[B]? = w.heap[B]?) (hk : ∀ b, b < D → w'.heap[b]? = w.heap[b]?) : CurAt t D w' B s := by
  obtain ⟨A, n, c, l, k, hB, hS, h1, h2, h3, h4⟩ := h
  exact ⟨A, n, c, l, k, hb.trans hB, low_kept hS h4 hk, h1, h2, h3, h4⟩
theorem CurAt.ext (h : CurAt t D w B s) (he : Ext w w') : CurAt t D w' B s :=
  h.kept (grown_ext he none) (by simp) fun _ _ _ _ hs => hs.ext he
theorem cur_store (A : Option Addr) (n c k : Nat) (l : List UInt8) (b b' : Bool) (s : Option (List UInt8)) (hB : Blk w B t #[.slice A n c, .int .i64 ((k : Nat) : Int), .bool b]) (hS : SlB w A n c l) (hk : k ≤ n) (hn : n ≤ 140737488355328) (hb : s.isNone = b') (hr : ∀ r, s = some r → r = l.drop k) (hD : LowB D A n) : CurAt t D (w.setCell ⟨B, 2, none⟩ (.bool b')).drew B s := by
  refine ⟨A, n, c, l, k, ?_, ?_, hk, hn, hr, hD⟩
  · rw [hb]; exact hB.set 2 _
  · exact slb_kept hS hB (grown_drew (grown_set w B 2 _))
theorem cur_move (A : Option Addr) (n c k j : Nat) (l : List UInt8) (r : List UInt8) (hB : Blk w B t #[.slice A n c, .int .i64 ((k : Nat) : Int), .bool false]) (hS : SlB w A n c l) (hk : j ≤ n) (hn : n ≤ 140737488355328) (hr : r = l.drop j) (z : Int) (hz : z = (j : Int)) (hD : LowB D A n) : CurAt t D (w.setCell ⟨B, 1, none⟩ (.int .i64 z)).drew B (some r) := by
  subst hz
  refine ⟨A, n, c, l, j, ?_, ?_, hk, hn, fun r' h => by injection h with h; rw [← h]; exact hr, hD⟩
  · exact hB.set 1 _
  · exact slb_kept hS hB (grown_drew (grown_set w B 1 _))
end
variable {D : Nat}
set_option maxHeartbeats 1000000 in
theorem cnew_any (A : Option Addr) (n c : Nat) (l : List UInt8) (w : World) (h : SlB w A n c l) (hn : n ≤ 140737488355328) (hD : LowB D A n) :
    Calls Try.prog 88 #[.slice A n c] w fun e w' => ∃ B, e = .returned (.pointer (some ⟨B, 0, none⟩)) ∧ CurAt 156 D w' B (some l) ∧ w.heap.size ≤ B ∧ Ext w w' := by
  have HC := Lib.hid (show CurAt 156 D (w.alloc (.cells #[.slice A n c, .int .i64 0, .bool false] 156)) w.heap.size (some l) from
    ⟨A, n, c, l, 0, Blk.new _ _ _, h.ext ((Ext.refl w).alloc' _), Nat.zero_le _, hn, (fun r h => by injection h with h; rw [← h]; rfl), hD⟩)
  clear h
  go_enter Try.func88, Try.ntmps88
  go_wp2_with fail
  go_ret
  exact ⟨_, rfl, HC.out, Nat.le_refl _, (Ext.refl w).alloc' _⟩
theorem numAt_eq (l : List UInt8) (k wd : Nat) : numAt l k wd = beNat ((l.drop k).take wd) := rfl
theorem numAt_small (l : List UInt8) (k wd : Nat) (hw : wd ≤ 6) : numAt l k wd < 281474976710656 := by
  have h := beNat_lt ((l.drop k).take wd)
  have h2 : ((l.drop k).take wd).length ≤ wd := List.length_take_le _ _
  have h3 : 256 ^ ((l.drop k).take wd).length ≤ 256 ^ 6 := Nat.pow_le_pow_right (by omega) (by omega)
  rw [numAt_eq]; omega
set_option maxRecDepth 100000 in
set_option maxHeartbeats 2000000 in
theorem cuint_any (wd : Nat) (h1 : 1 ≤ wd) (h6 : wd ≤ 6) (B : Nat) (s : Option (List UInt8)) (w : World) (h : CurAt 156 D w B s) :
    Calls Try.prog 89 #[.pointer (some ⟨B, 0, none⟩), .int .i64 (wd : Int)] w fun e w' => e = .returned (.int .i64 (rNum wd s)) ∧ CurAt 156 D w' B (rRest wd s) ∧ w.grownBy w' (some B) := by
  obtain ⟨A, n, c, l, k, hB, hS, hk, hn, hr, hD⟩ := h
  have hlen := hS.len
  have hc0 : w.cell? ⟨B, 0, none⟩ = some (.slice A n c) := hB.cell 0
  have hc1 : w.cell? ⟨B, 1, none⟩ = some (.int .i64 (k : Int)) := hB.cell 1
  have hc2 : w.cell? ⟨B, 2, none⟩ = some (.bool s.isNone) := hB.cell 2
  have hf1 := hB.frozen 1
  have hf2 := hB.frozen 2
  have HB := Lib.hid hB
  have HS := Lib.hid hS
  have HR := Lib.hid hr
  have hS' := hS.ext (Ext.refl w).drew'
  have k0 : (0 : Int) ≤ (k : Int) := by omega
  have w0 : (0 : Int) ≤ (wd : Int) := by omega
  by_cases hfit : k + wd ≤ n
  · have HU := Lib.hid (uint_yes A n c l k wd w.drew hS' h1 (by omega) hfit)
    have hsm := numAt_small l k wd h6
    have HV := Lib.hid (numAt_eq l k wd)
    obtain ⟨v, hv⟩ : ∃ v, v = numAt l k wd := ⟨_, rfl⟩
    rw [← hv] at HU hsm HV
    clear hv hB hS hr hS' hlen
    cases s with
    | none =>
      have hc2 : w.cell? ⟨B, 2, none⟩ = some (.bool true) := hc2
      go_enter Try.func89, Try.ntmps89
      go_wp2_with fail
      go_region_held3 (fun w' => w'.cell? ⟨B, 0, none⟩ = some (.slice A n c) ∧ w'.cell? ⟨B, 1, none⟩ = some (.int .i64 (k : Int))) (first | exact ⟨hc0, hc1⟩ | fail "CELLS") (first | (go_at_call 81; (with_reducible refine HU.out.mono ?_); rintro e wv ⟨rfl, rfl⟩) | fail "ARM")
      go_wp2_with fail
      go_ret
      exact ⟨rfl, cur_store A n c k l true true none HB.out HS.out hk hn rfl (fun _ h => by cases h) hD, grown_drew (grown_set w B 2 _)⟩
    | some r =>
      have hc2 : w.cell? ⟨B, 2, none⟩ = some (.bool false) := hc2
      have hvw : IntKind.i64.wrap (v : Int) = (v : Int) := by rw [IntKind.wrap_i64]; omega
      have HL := Lib.hid (show ¬ r.length < wd by rw [HR.out r rfl, List.length_drop, HS.out.len]; omega)
      go_enter Try.func89, Try.ntmps89
      go_wp2_with fail
      go_region_held3 (fun w' => w'.cell? ⟨B, 0, none⟩ = some (.slice A n c) ∧ w'.cell? ⟨B, 1, none⟩ = some (.int .i64 (k : Int))) (first | exact ⟨hc0, hc1⟩ | fail "CELLS") (first | (go_at_call 81; (with_reducible refine HU.out.mono ?_); rintro e wv ⟨rfl, rfl⟩) | fail "ARM")
      go_wp2_with fail
      go_ret
      refine ⟨?_, ?_, grown_drew (grown_set w B 1 _)⟩
      · show _ = Ending.returned (Value.int .i64 (if r.length < wd then 0 else (beNat (r.take wd) : Int)))
        rw [if_neg HL.out, HR.out r rfl, ← HV.out]; rfl
      · show CurAt _ _ _ _ (if r.length < wd then none else some (r.drop wd))
        rw [if_neg HL.out]
        exact cur_move A n c k (k + wd) l _ HB.out HS.out hfit hn (by rw [HR.out r rfl, List.drop_drop]) _ (by omega) hD
  · have HU := Lib.hid (uint_no A n c (k : Int) (wd : Int) w.drew (by omega) (by omega) (by omega) (by unfold flw; simp only [decide_eq_false_iff_not]; omega))
    have HN := Lib.hid (show rNum wd s = 0 ∧ rRest wd s = none by
      cases s with
      | none => exact ⟨rfl, rfl⟩
      | some r =>
        have : r.length < wd := by rw [hr r rfl, List.length_drop, hlen]; omega
        simp [rNum, rRest, this])
    clear hB hS hr hS' hlen
    cases s with
    | none =>
      have hc2 : w.cell? ⟨B, 2, none⟩ = some (.bool true) := hc2
      go_enter Try.func89, Try.ntmps89
      go_wp2_with fail
      go_region_held3 (fun w' => w'.cell? ⟨B, 0, none⟩ = some (.slice A n c) ∧ w'.cell? ⟨B, 1, none⟩ = some (.int .i64 (k : Int))) (first | exact ⟨hc0, hc1⟩ | fail "CELLS") (first | (go_at_call 81; (with_reducible refine HU.out.mono ?_); rintro e wv ⟨rfl, rfl⟩) | fail "ARM")
      go_wp2_with fail
      go_ret
      exact ⟨rfl, cur_store A n c k l true true none HB.out HS.out hk hn rfl (fun _ h => by cases h) hD, grown_drew (grown_set w B 2 _)⟩
    | some r =>
      have hc2 : w.cell? ⟨B, 2, none⟩ = some (.bool false) := hc2
      go_enter Try.func89, Try.ntmps89
      go_wp2_with fail
      go_region_held3 (fun w' => w'.cell? ⟨B, 0, none⟩ = some (.slice A n c) ∧ w'.cell? ⟨B, 1, none⟩ = some (.int .i64 (k : Int))) (first | exact ⟨hc0, hc1⟩ | fail "CELLS") (first | (go_at_call 81; (with_reducible refine HU.out.mono ?_); rintro e wv ⟨rfl, rfl⟩) | fail "ARM")
      go_wp2_with fail
      go_ret
      refine ⟨by rw [HN.out.1]; rfl, ?_, grown_drew (grown_set w B 2 _)⟩
      rw [HN.out.2]
      exact cur_store A n c k l false true none HB.out HS.out hk hn rfl (fun _ h => by cases h) hD
set_option maxRecDepth 100000 in
set_option maxHeartbeats 1000000 in
theorem cdone_any (B : Nat) (s : Option (List UInt8)) (w : World) (h : CurAt 156 D w B s) :
    Calls Try.prog 94 #[.pointer (some ⟨B, 0, none⟩)] w fun e w' => e = .returned (.bool (decide (s = some []))) ∧ ∃ n, w' = w.drewN n := by
  obtain ⟨A, n, c, l, k, hB, hS, hk, hn, hr, hD⟩ := h
  have hlen := hS.len
  have hc0 : w.cell? ⟨B, 0, none⟩ = some (.slice A n c) := hB.cell 0
  have hc1 : w.cell? ⟨B, 1, none⟩ = some (.int .i64 (k : Int)) := hB.cell 1
  have hc2 : w.cell? ⟨B, 2, none⟩ = some (.bool s.isNone) := hB.cell 2
  cases s with
  | none =>
    have hc2 : w.cell? ⟨B, 2, none⟩ = some (.bool true) := hc2
    clear hB hS hr hlen
    go_enter Try.func94, Try.ntmps94
    go_wp2_with fail
    go_quiet (fail)
    go_wp2_with fail
    go_ret
    exact ⟨rfl, _, rfl⟩
  | some r =>
    have hc2 : w.cell? ⟨B, 2, none⟩ = some (.bool false) := hc2
    have hrr : r.length = n - k := by rw [hr r rfl, List.length_drop, hlen]
    by_cases hd : k = n
    · have HR := Lib.hid (show decide (some r = some ([] : List UInt8)) = true by
        rw [decide_eq_true_eq]; rw [List.eq_nil_of_length_eq_zero (l := r) (by omega)])
      subst hd
      clear hB hS hr hlen hrr
      go_enter Try.func94, Try.ntmps94
      go_wp2_with fail
      go_quiet (fail)
      go_wp2_with fail
      go_ret
      exact ⟨by rw [HR.out]; rfl, _, rfl⟩
    · have HR := Lib.hid (show decide (some r = some ([] : List UInt8)) = false by
        rw [decide_eq_false_iff_not]; intro e; injection e with e; rw [e] at hrr; simp at hrr; omega)
      have d1 : ((k : Int) == (n : Int)) = false := by simp; omega
      have d2 : decide ((k : Int) = (n : Int)) = false := by simp; omega
      clear hB hS hr hlen hrr
      go_enter Try.func94, Try.ntmps94
      go_wp2_with fail
      go_quiet (fail)
      go_wp2_with fail
      go_ret
      exact ⟨by rw [HR.out]; rfl, _, rfl⟩
end Go.Proofs.Ytjlnmpjffogpdaa

/- Two names held against each other. -/
namespace Go.Proofs.Ytjlnmpjffogpdaa
open Go.RowKit
set_option linter.unusedVariables false
set_option linter.unusedSimpArgs false
def litB (c : UInt8) : Lit := .int .u8 (c.toNat : Int)
theorem litB_wf (c : UInt8) : (Lit.int .u8 (c.toNat : Int)).wf = true := by
  have := c.toNat_lt
  simp [Lit.wf, IntKind.min, IntKind.max, IntKind.signed, IntKind.bits]; omega
theorem keyByte (c : UInt8) : Try.prog.keyLits 1 5 [.int .u8 (c.toNat : Int)] = some [litB c] := by
  unfold Program.keyLits
  rw [Try.underlying5]
  simp only
  rw [if_pos ⟨trivial, litB_wf c⟩]; rfl
theorem cellsU8' : Try.prog.cellsOf 5 = 1 := by kernel_rfl
theorem cellsN : Try.prog.cellsOf 26 = 8 := by kernel_rfl
theorem keyName (n : UInt64) : Try.prog.keyLits 2 26 (bcs (nmb n)) = some ((nmb n).map litB) := by
  unfold Program.keyLits
  rw [Try.underlying26]
  simp only
  rw [if_pos (by rw [bcs_length, nmb_length, cellsN]), cellsU8']
  rw [nmb_list n]
  generalize (nmb n).getD 0 0 = x0
  generalize (nmb n).getD 1 0 = x1
  generalize (nmb n).getD 2 0 = x2
  generalize (nmb n).getD 3 0 = x3
  generalize (nmb n).getD 4 0 = x4
  generalize (nmb n).getD 5 0 = x5
  generalize (nmb n).getD 6 0 = x6
  generalize (nmb n).getD 7 0 = x7
  rw [show List.range 8 = [0, 1, 2, 3, 4, 5, 6, 7] from rfl]
  simp only [bcs, bv, List.map_cons, List.map_nil, List.mapM_cons, List.mapM_nil, Nat.zero_mul, Nat.one_mul, Nat.mul_one, List.drop_zero, List.drop_succ_cons, List.take_succ_cons, List.take_zero, keyByte]
  rfl
theorem litB_inj {a b : UInt64} (h : (nmb a).map litB = (nmb b).map litB) : a = b := by
  refine nmb_inj ?_
  have hf : ∀ x y : UInt8, litB x = litB y → x = y := fun x y e => by
    unfold litB at e; injection e with _ e; exact UInt8.toNat_inj.1 (by omega)
  exact List.map_inj_right hf |>.1 h
theorem run_eqN (a b : UInt64) (w : World) : (binOp .eql 26 (.agg (nmc a)) (.agg (nmc b))).run Try.prog w = .ok (.bool (decide (a = b))) w := by
  have hE := run_equalIn_deep (P := Try.prog) 9998 2 26 (by kernel_rfl)
  have hfm : ∀ n : UInt64, (Value.agg (nmc n)).formed Try.prog 26 = true := fun n => by
    simp [Value.formed, Try.underlying26, nmc_size, cellsN]
  have hk : ∀ n : UInt64, Try.prog.keyLits 2 26 (Value.agg (nmc n)).cells.toList = some ((nmb n).map litB) := fun n => by
    show Try.prog.keyLits 2 _ (nmc n).toList = _
    rw [nmc_toList]; exact keyName n
  obtain ⟨r, hr, hiff⟩ := hE w 2 2 _ _ _ _ (hfm a) (hfm b) (hk a) (hk b)
  rw [run_eql_struct]
  have hr' : (Op.equalIn 10000 26 (.agg (nmc a)) (.agg (nmc b))).run Try.prog w = .ok r w := hr
  rw [hr']
  have : r = decide (a = b) := by
    by_cases h : a = b
    · subst h; simp [hiff.2 rfl]
    · have : r ≠ true := fun e => h (litB_inj (hiff.1 e))
      simp [h, this]
  rw [this]; rfl
end Go.Proofs.Ytjlnmpjffogpdaa

/- The program's cursor: Name. -/
namespace Go.Proofs.Ytjlnmpjffogpdaa
open Go.RowKit
set_option linter.unusedVariables false
set_option linter.unusedSimpArgs false
attribute [local go_sem ↓] Go.wp_at_zero Go.wp_at_succ

variable {D : Nat}
theorem zcs_nmc : zcs.toArray = nmc 0 := by
  unfold nmc; rw [nmb_zero]; rfl
theorem grown_setCells' (w : World) (g : Nat) : ∀ (vs : List Value) (o : Nat), w.grownBy (w.setCells g o vs) (some g) := by
  intro vs
  induction vs generalizing w with
  | nil => intro o; exact grown_refl w _
  | cons v r ih => intro o; exact World.grownBy.trans (grown_set w g o v) (ih _ (o + 1))
theorem drewN_ext (w : World) (n : Nat) : Ext w (w.drewN n) := ⟨rfl, rfl, rfl, Nat.le_refl _, fun _ _ => rfl⟩
/-- a cursor in a later world -/
theorem cur_close {t : TypeId} {w w' : World} {B : Nat} {A : Option Addr} {n c k j : Nat} {l : List UInt8} {q : Bool} {s : Option (List UInt8)} (hB : Blk w B t #[.slice A n c, .int .i64 ((k : Nat) : Int), .bool q]) (hS : SlB w A n c l) (hg : w.grownBy w' (some B)) (z : Int) (hB' : Blk w' B t #[.slice A n c, .int .i64 z, .bool s.isNone]) (hz : z = (j : Int)) (hk : j ≤ n) (hn : n ≤ 140737488355328) (hr : ∀ r, s = some r → r = l.drop j) (hD : LowB D A n) : CurAt t D w' B s := by
  subst hz; exact ⟨A, n, c, l, j, hB', slb_kept hS hB hg, hk, hn, hr, hD⟩
theorem rangeNm {w : World} {g : Nat} {t : TypeId} {n : UInt64} (h : Blk w g t (nmc n)) : w.rangeAt g 0 (bcs (nmb n)) := by have := rangeAt_of_blk h; rwa [nmc_toList] at this
end Go.Proofs.Ytjlnmpjffogpdaa

/- block.open: a cursor behind the kind of a text, or one that has failed. DecodePayload at a text of another kind. -/
namespace Go.Proofs.Ytjlnmpjffogpdaa
open Go.RowKit
set_option linter.unusedVariables false
set_option linter.unusedSimpArgs false
attribute [local go_sem ↓] Go.wp_at_zero Go.wp_at_succ

variable {D : Nat}
theorem ext_grown {w w1 w2 : World} {B : Nat} (h : Ext w w1) (hg : w1.grownBy w2 (some B)) (hB : w.heap.size ≤ B) : Ext w w2 :=
  Below.grown h hg h.size (fun k hk => by injection hk with hk; omega)
/-- two results: a struct in a variable, and a slot -/
theorem retCV {fn : Func} {p q : Tmp} {ty : TypeId} (hres : fn.results = #[.cell p ty, .tmp q]) (tmps : Array Value) (w1 : World) (g : Nat) (cs : Array Value) (v : Value) (hp : tmps.getD p undef = .pointer (some ⟨g, 0, none⟩)) (hq : tmps.getD q undef = v) (hl : (loadVar ty ⟨g, 0, none⟩).run Try.prog w1 = .ok (.agg cs) w1) :
    (results fn tmps).run Try.prog w1 = .ok (.tuple #[.agg cs, v]) w1 := by
  have hp' : tmps[p]?.getD undef = .pointer (some ⟨g, 0, none⟩) := by simpa using hp
  have hq' : tmps[q]?.getD undef = v := by simpa using hq
  simp [results, hres, hp', hq', asAddr, hl]
end Go.Proofs.Ytjlnmpjffogpdaa
/- ids in strictly ascending order: block.validators over a function value; validBlock and its reference. -/
namespace Go.Proofs.Ytjlnmpjffogpdaa
open Go.RowKit
set_option linter.unusedVariables false
set_option linter.unusedSimpArgs false
attribute [local go_sem ↓] Go.wp_at_zero Go.wp_at_succ

end Go.Proofs.Ytjlnmpjffogpdaa
/- A block as a value; validBlock. -/
namespace Go.Proofs.Ytjlnmpjffogpdaa
open Go.RowKit
set_option linter.unusedVariables false
set_option linter.unusedSimpArgs false
attribute [local go_sem ↓] Go.wp_at_zero Go.wp_at_succ

/-! a list of pairs of an id and a name (slots of a block, heads of a record): nine cells each -/
theorem bcs_nb8 (n : UInt64) : bcs (nmb n) = [.int .u8 (nb8 n 0), .int .u8 (nb8 n 1), .int .u8 (nb8 n 2), .int .u8 (nb8 n 3), .int .u8 (nb8 n 4), .int .u8 (nb8 n 5), .int .u8 (nb8 n 6), .int .u8 (nb8 n 7)] := by
  rw [← nmc_toList, ← nmc_nb8]
end Go.Proofs.Ytjlnmpjffogpdaa

/- EncodeBlock. -/
namespace Go.Proofs.Ytjlnmpjffogpdaa
open Go.RowKit
set_option linter.unusedVariables false
set_option linter.unusedSimpArgs false
attribute [local go_sem ↓] Go.wp_at_zero Go.wp_at_succ

/-- append to bytes of one's own at a step of a drawn region: what became of the world, whole -/
theorem step_appBG {P : Program} {t e : TypeId} {ops : Array Oper} {o : Oper} {a : Act} {w : World} {K : Act → World → Prop} {Q : Exit → Act → World → Prop} {X : Prop} (E : Elem P t e (.int .u8 0) 1 1) (hgd : o.guard = none) (s x : Operand)
    (ho : o.op = .call { callee := .builtin .append, args := #[s, x], argTypes := #[t, t] })
    (base : Nat) (A : Option Addr) (n c : Nat) (l : List UInt8) (hs : a.eval s = .slice A n c) (hown : OwnB w base e A n c l)
    (A2 : Option Addr) (m c2 : Nat) (l2 : List UInt8) (hx : a.eval x = .slice A2 m c2) (hr : SlB w A2 m c2 l2)
    (hb : n + m ≤ 140737488355328) (hbase : base ≤ w.heap.size)
    (h : ∀ A' c' w', OwnB w' base e A' (n + m) c' (l ++ l2) → w.grownBy w' (Value.ownBlock (.slice A n c)) → K (a.put o.dst (.slice A' (n + m) c')) w') : if Region.wanted o (yielded ops a.tmps) = true then Oper.wp P o a w K Q else X := by
  have hw : Region.wanted o (yielded ops a.tmps) = true := by simp [Region.wanted, hgd]
  rw [if_pos hw]
  refine wp_app E s x ho base A n c (bcs l) hs hown A2 m c2 (bcs l2) hx hr.rd (by rw [bcs_length, hr.len, Nat.mul_one]) (bcs_one l2) (by omega) (by omega) hbase fun A' c' w' h2 h3 => h A' c' w' ?_ h3
  unfold OwnB; rw [bcs_append]; exact h2
end Go.Proofs.Ytjlnmpjffogpdaa
/- The empty payload, genesis and record; awake. -/
namespace Go.Proofs.Ytjlnmpjffogpdaa
open Go.RowKit
set_option linter.unusedVariables false
set_option linter.unusedSimpArgs false
attribute [local go_sem ↓] Go.wp_at_zero Go.wp_at_succ

end Go.Proofs.Ytjlnmpjffogpdaa

/- The reference's AppendUint, num, name. -/
namespace Go.Proofs.Ytjlnmpjffogpdaa
open Go.RowKit
set_option linter.unusedVariables false
set_option linter.unusedSimpArgs false
attribute [local go_sem ↓] Go.wp_at_zero Go.wp_at_succ

/-- the bytes of an int -/
def beI (wd : Nat) (z : Int) : List UInt8 := beBytes wd (z % 18446744073709551616).toNat
theorem beI_length (wd : Nat) (z : Int) : (beI wd z).length = wd := beBytes_length _ _
def uI (z : Int) : UInt64 := UInt64.ofNat (z % 18446744073709551616).toNat
theorem uI_un (z : Int) : IntKind.u64.wrap z = un (uI z) := by
  rw [IntKind.wrap_u64]; unfold un uI; rw [UInt64.toNat_ofNat_of_lt' (by simp [UInt64.size]; omega)]; omega
theorem uI_nat (z : Int) : (uI z).toNat = (z % 18446744073709551616).toNat := by
  unfold uI; rw [UInt64.toNat_ofNat_of_lt' (by simp [UInt64.size]; omega)]
end Go.Proofs.Ytjlnmpjffogpdaa
