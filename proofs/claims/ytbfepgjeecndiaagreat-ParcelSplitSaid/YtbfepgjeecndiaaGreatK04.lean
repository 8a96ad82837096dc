/- The cursors, the program's: New, Uint, Done. -/
import Derived.Test.YtbfepgjeecndiaaGreatK03
namespace Go.Proofs.YtbfepgjeecndiaaGreat
set_option maxRecDepth 100000
set_option maxHeartbeats 2000000
open Go.RowKit
set_option linter.unusedVariables false
set_option linter.unusedSimpArgs false
attribute [local go_sem ↓] Go.wp_at_zero Go.wp_at_succ
/-! what a cursor reads: 'some r': the bytes r are left; 'none': it has failed -/
def rNum (k : Nat) (s : Option (List UInt8)) : Int := match s with
 | none => 0
 | some r => if r.length < k then 0 else (beNat (r.take k) : Int)
def rRest (k : Nat) (s : Option (List UInt8)) : Option (List UInt8) := match s with
 | none => none
 | some r => if r.length < k then none else some (r.drop k)
theorem rNum_bd (k : Nat) (s : Option (List UInt8)) : 0 ≤ rNum k s ∧ rNum k s < 256 ^ k := by
 have hp : (0 : Int) < 256 ^ k := Int.pow_pos (by omega)
 unfold rNum
 split
 ·exact ⟨Int.le_refl _, hp⟩
 ·split
  ·exact ⟨Int.le_refl _, hp⟩
  ·rename_i r h
   have := beNat_lt (r.take k)
   rw [List.length_take, Nat.min_eq_left (by omega)] at this
   refine ⟨by omega, ?_⟩
   have h2 : ((256 ^ k : Nat) : Int) = (256 : Int) ^ k := by simp
   rw [← h2]; omega
def LowB (D : Nat) (A : Option Addr) (n : Nat) : Prop := n = 0 ∨ ∃ b o, A = some ⟨b, o, none⟩ ∧ b < D
def CurAt (t : TypeId) (D : Nat) (w : World) (B : Nat) (s : Option (List UInt8)) : Prop :=
 ∃ A n c l k, Blk w B t #[.slice A n c, .int .i64 ((k : Nat) : Int), .bool s.isNone] ∧ SlB w A n c l ∧ k ≤ n ∧ n ≤ 140737488355328 ∧ (∀ r, s = some r → r = l.drop k) ∧ LowB D A n
theorem low_kept {w w' : World} {D : Nat} {A : Option Addr} {n c : Nat} {l : List UInt8} (h : SlB w A n c l) (hD : LowB D A n) (hk : ∀ b, b < D → w'.heap[b]? = w.heap[b]?) : SlB w' A n c l := by
 refine ⟨h.len, h.le, h.cap, ?_⟩
 rcases hD with rfl | ⟨b, o, rfl, hb⟩
 ·exact .inl (by rw [List.eq_nil_of_length_eq_zero h.len]; rfl)
 ·by_cases hx : bcs l = []
  ·exact .inl hx
  ·obtain ⟨b', o', e, hr, _⟩ := h.rd.at hx
   injection e with e
   injection e with e1 e2
   subst e1; subst e2
   exact .inr ⟨b, o, rfl, rangeAt_keep hr (hk b hb)⟩
theorem grown_set (w : World) (B i : Nat) (u : Value) : w.grownBy (w.setCell ⟨B, i, none⟩ u) (some B) :=
 ⟨rfl, rfl, rfl, by simp [World.setCell], fun k _ hk => Below.heap_setCell _ _ _ _ (fun e => hk (by rw [e]))⟩
theorem grown_drew {w w' : World} {row : Option Nat} (h : w.grownBy w' row) : w.grownBy w'.drew row := ⟨h.os, h.tape, h.output, h.size, h.block⟩
theorem grown_refl (w : World) (row : Option Nat) : w.grownBy w row := ⟨rfl, rfl, rfl, Nat.le_refl _, fun _ _ _ => rfl⟩
theorem grown_ext {w w' : World} (h : Ext w w') (row : Option Nat) : w.grownBy w' row := ⟨h.os, h.tape, h.output, h.size, fun k hk _ => h.block k hk⟩
theorem slb_kept {w w' : World} {A : Option Addr} {n c : Nat} {l : List UInt8} {B : Nat} {t : TypeId} {A0 : Option Addr} {n0 c0 : Nat} {z : Int} {q : Bool} (h : SlB w A n c l) (hB : Blk w B t #[.slice A0 n0 c0, .int .i64 z, .bool q]) (hg : w.grownBy w' (some B)) : SlB w' A n c l := by
 refine ⟨h.len, h.le, h.cap, ?_⟩
 by_cases hx : bcs l = []
 ·exact .inl hx
 ·obtain ⟨b, o, rfl, hr, hb⟩ := h.rd.at hx
  refine .inr ⟨b, o, rfl, rangeAt_keep hr (hg.block b hb ?_)⟩
  intro e
  injection e with e
  subst e
  cases l with
  | nil => exact hx rfl
  | cons x r =>
   have h0 := hr 0 (bv x) rfl
   rw [Nat.add_zero, hB.cell o] at h0
   match o, h0 with
   | 0, h0 => simp [bv] at h0
   | 1, h0 => simp [bv] at h0
   | 2, h0 => simp [bv] at h0
   | o + 3, h0 => simp at h0
section
variable {t : TypeId} {D : Nat} {w w' : World} {B : Nat} {s : Option (List UInt8)}
theorem CurAt.lt (h : CurAt t D w B s) : B < w.heap.size := by
 obtain ⟨A, n, c, l, k, hB, _⟩ := h
 exact hB.lt
theorem CurAt.kept {row : Option Nat} (h : CurAt t D w B s) (hg : w.grownBy w' row) (hne : some B ≠ row) (hd : ∀ A n c l, SlB w A n c l → SlB w' A n c l) : CurAt t D w' B s := by
 obtain ⟨A, n, c, l, k, hB, hS, r⟩ := h
 exact ⟨A, n, c, l, k, hB.grown hg hne, hd _ _ _ _ hS, r⟩
theorem CurAt.low (h : CurAt t D w B s) (hb : w'.heap[B]? = w.heap[B]?) (hk : ∀ b, b < D → w'.heap[b]? = w.heap[b]?) : CurAt t D w' B s := by
 obtain ⟨A, n, c, l, k, hB, hS, h1, h2, h3, h4⟩ := h
 exact ⟨A, n, c, l, k, hb.trans hB, low_kept hS h4 hk, h1, h2, h3, h4⟩
theorem CurAt.ext (h : CurAt t D w B s) (he : Ext w w') : CurAt t D w' B s :=
 h.kept (grown_ext he none) (by simp) fun _ _ _ _ hs => hs.ext he
theorem cur_store (A : Option Addr) (n c k : Nat) (l : List UInt8) (b b' : Bool) (s : Option (List UInt8)) (hB : Blk w B t #[.slice A n c, .int .i64 ((k : Nat) : Int), .bool b]) (hS : SlB w A n c l) (hk : k ≤ n) (hn : n ≤ 140737488355328) (hb : s.isNone = b') (hr : ∀ r, s = some r → r = l.drop k) (hD : LowB D A n) : CurAt t D (w.setCell ⟨B, 2, none⟩ (.bool b')).drew B s := by
 refine ⟨A, n, c, l, k, ?_, ?_, hk, hn, hr, hD⟩
 ·rw [hb]; exact hB.set 2 _
 ·exact slb_kept hS hB (grown_drew (grown_set w B 2 _))
theorem cur_move (A : Option Addr) (n c k j : Nat) (l : List UInt8) (r : List UInt8) (hB : Blk w B t #[.slice A n c, .int .i64 ((k : Nat) : Int), .bool false]) (hS : SlB w A n c l) (hk : j ≤ n) (hn : n ≤ 140737488355328) (hr : r = l.drop j) (z : Int) (hz : z = (j : Int)) (hD : LowB D A n) : CurAt t D (w.setCell ⟨B, 1, none⟩ (.int .i64 z)).drew B (some r) := by
 subst hz
 refine ⟨A, n, c, l, j, ?_, ?_, hk, hn, fun r' h => by injection h with h; rw [← h]; exact hr, hD⟩
 ·exact hB.set 1 _
 ·exact slb_kept hS hB (grown_drew (grown_set w B 1 _))
end
variable {D : Nat}
theorem cnew_any (A : Option Addr) (n c : Nat) (l : List UInt8) (w : World) (h : SlB w A n c l) (hn : n ≤ 140737488355328) (hD : LowB D A n) :
  Calls Tryz.prog 47 #[.slice A n c] w fun e w' => ∃ B, e = .returned (.pointer (some ⟨B, 0, none⟩)) ∧ CurAt 101 D w' B (some l) ∧ w.heap.size ≤ B ∧ Ext w w' := by
 have HC := Lib.hid (show CurAt 101 D (w.alloc (.cells #[.slice A n c, .int .i64 0, .bool false] 101)) w.heap.size (some l) from
  ⟨A, n, c, l, 0, Blk.new _ _ _, h.ext ((Ext.refl w).alloc' _), Nat.zero_le _, hn, (fun r h => by injection h with h; rw [← h]; rfl), hD⟩)
 clear h
 go_enter Tryz.func47, Tryz.ntmps47
 go_wp2_with fail
 go_ret
 exact ⟨_, rfl, HC.out, Nat.le_refl _, (Ext.refl w).alloc' _⟩
theorem numAt_eq (l : List UInt8) (k wd : Nat) : numAt l k wd = beNat ((l.drop k).take wd) := rfl
theorem numAt_small (l : List UInt8) (k wd : Nat) (hw : wd ≤ 6) : numAt l k wd < 281474976710656 := by
 have h := beNat_lt ((l.drop k).take wd)
 have h2 : ((l.drop k).take wd).length ≤ wd := List.length_take_le _ _
 have h3 : 256 ^ ((l.drop k).take wd).length ≤ 256 ^ 6 := Nat.pow_le_pow_right (by omega) (by omega)
 rw [numAt_eq]; omega
theorem cuint_any (wd : Nat) (h1 : 1 ≤ wd) (h6 : wd ≤ 6) (B : Nat) (s : Option (List UInt8)) (w : World) (h : CurAt 101 D w B s) :
  Calls Tryz.prog 48 #[.pointer (some ⟨B, 0, none⟩), .int .i64 (wd : Int)] w fun e w' => e = .returned (.int .i64 (rNum wd s)) ∧ CurAt 101 D w' B (rRest wd s) ∧ w.grownBy w' (some B) := by
 obtain ⟨A, n, c, l, k, hB, hS, hk, hn, hr, hD⟩ := h
 have hlen := hS.len
 have hc0 : w.cell? ⟨B, 0, none⟩ = some (.slice A n c) := hB.cell 0
 have hc1 : w.cell? ⟨B, 1, none⟩ = some (.int .i64 (k : Int)) := hB.cell 1
 have hc2 : w.cell? ⟨B, 2, none⟩ = some (.bool s.isNone) := hB.cell 2
 have hf1 := hB.frozen 1
 have hf2 := hB.frozen 2
 have HB := Lib.hid hB
 have HS := Lib.hid hS
 have HR := Lib.hid hr
 have hS' := hS.ext (Ext.refl w).drew'
 have k0 : (0 : Int) ≤ (k : Int) := by omega
 have w0 : (0 : Int) ≤ (wd : Int) := by omega
 by_cases hfit : k + wd ≤ n
 ·have HU := Lib.hid (uint_yes A n c l k wd w.drew hS' h1 (by omega) hfit)
  have hsm := numAt_small l k wd h6
  have HV := Lib.hid (numAt_eq l k wd)
  obtain ⟨v, hv⟩ : ∃ v, v = numAt l k wd := ⟨_, rfl⟩
  rw [← hv] at HU hsm HV
  clear hv hB hS hr hS' hlen
  cases s with
  | none =>
   have hc2 : w.cell? ⟨B, 2, none⟩ = some (.bool true) := hc2
   go_enter Tryz.func48, Tryz.ntmps48
   go_wp2_with fail
   go_region_held3 (fun w' => w'.cell? ⟨B, 0, none⟩ = some (.slice A n c) ∧ w'.cell? ⟨B, 1, none⟩ = some (.int .i64 (k : Int))) (first | exact ⟨hc0, hc1⟩ | fail "CELLS") (first | (go_at_call 82; (with_reducible refine HU.out.mono ?_); rintro e wv ⟨rfl, rfl⟩) | fail "ARM")
   go_wp2_with fail
   go_ret
   exact ⟨rfl, cur_store A n c k l true true none HB.out HS.out hk hn rfl (fun _ h => by cases h) hD, grown_drew (grown_set w B 2 _)⟩
  | some r =>
   have hc2 : w.cell? ⟨B, 2, none⟩ = some (.bool false) := hc2
   have hvw : IntKind.i64.wrap (v : Int) = (v : Int) := by rw [IntKind.wrap_i64]; omega
   have HL := Lib.hid (show ¬ r.length < wd by rw [HR.out r rfl, List.length_drop, HS.out.len]; omega)
   go_enter Tryz.func48, Tryz.ntmps48
   go_wp2_with fail
   go_region_held3 (fun w' => w'.cell? ⟨B, 0, none⟩ = some (.slice A n c) ∧ w'.cell? ⟨B, 1, none⟩ = some (.int .i64 (k : Int))) (first | exact ⟨hc0, hc1⟩ | fail "CELLS") (first | (go_at_call 82; (with_reducible refine HU.out.mono ?_); rintro e wv ⟨rfl, rfl⟩) | fail "ARM")
   go_wp2_with fail
   go_ret
   refine ⟨?_, ?_, grown_drew (grown_set w B 1 _)⟩
   ·show _ = Ending.returned (Value.int .i64 (if r.length < wd then 0 else (beNat (r.take wd) : Int)))
    rw [if_neg HL.out, HR.out r rfl, ← HV.out]; rfl
   ·show CurAt _ _ _ _ (if r.length < wd then none else some (r.drop wd))
    rw [if_neg HL.out]
    exact cur_move A n c k (k + wd) l _ HB.out HS.out hfit hn (by rw [HR.out r rfl, List.drop_drop]) _ (by omega) hD
 ·have HU := Lib.hid (uint_no A n c (k : Int) (wd : Int) w.drew (by omega) (by omega) (by omega) (by unfold flw; simp only [decide_eq_false_iff_not]; omega))
  have HN := Lib.hid (show rNum wd s = 0 ∧ rRest wd s = none by
   cases s with
   | none => exact ⟨rfl, rfl⟩
   | some r =>
    have : r.length < wd := by rw [hr r rfl, List.length_drop, hlen]; omega
    simp [rNum, rRest, this])
  clear hB hS hr hS' hlen
  cases s with
  | none =>
   have hc2 : w.cell? ⟨B, 2, none⟩ = some (.bool true) := hc2
   go_enter Tryz.func48, Tryz.ntmps48
   go_wp2_with fail
   go_region_held3 (fun w' => w'.cell? ⟨B, 0, none⟩ = some (.slice A n c) ∧ w'.cell? ⟨B, 1, none⟩ = some (.int .i64 (k : Int))) (first | exact ⟨hc0, hc1⟩ | fail "CELLS") (first | (go_at_call 82; (with_reducible refine HU.out.mono ?_); rintro e wv ⟨rfl, rfl⟩) | fail "ARM")
   go_wp2_with fail
   go_ret
   exact ⟨rfl, cur_store A n c k l true true none HB.out HS.out hk hn rfl (fun _ h => by cases h) hD, grown_drew (grown_set w B 2 _)⟩
  | some r =>
   have hc2 : w.cell? ⟨B, 2, none⟩ = some (.bool false) := hc2
   go_enter Tryz.func48, Tryz.ntmps48
   go_wp2_with fail
   go_region_held3 (fun w' => w'.cell? ⟨B, 0, none⟩ = some (.slice A n c) ∧ w'.cell? ⟨B, 1, none⟩ = some (.int .i64 (k : Int))) (first | exact ⟨hc0, hc1⟩ | fail "CELLS") (first | (go_at_call 82; (with_reducible refine HU.out.mono ?_); rintro e wv ⟨rfl, rfl⟩) | fail "ARM")
   go_wp2_with fail
   go_ret
   refine ⟨by rw [HN.out.1]; rfl, ?_, grown_drew (grown_set w B 2 _)⟩
   rw [HN.out.2]
   exact cur_store A n c k l false true none HB.out HS.out hk hn rfl (fun _ h => by cases h) hD
theorem cdone_any (B : Nat) (s : Option (List UInt8)) (w : World) (h : CurAt 101 D w B s) :
  Calls Tryz.prog 53 #[.pointer (some ⟨B, 0, none⟩)] w fun e w' => e = .returned (.bool (decide (s = some []))) ∧ ∃ n, w' = w.drewN n := by
 obtain ⟨A, n, c, l, k, hB, hS, hk, hn, hr, hD⟩ := h
 have hlen := hS.len
 have hc0 : w.cell? ⟨B, 0, none⟩ = some (.slice A n c) := hB.cell 0
 have hc1 : w.cell? ⟨B, 1, none⟩ = some (.int .i64 (k : Int)) := hB.cell 1
 have hc2 : w.cell? ⟨B, 2, none⟩ = some (.bool s.isNone) := hB.cell 2
 cases s with
 | none =>
  have hc2 : w.cell? ⟨B, 2, none⟩ = some (.bool true) := hc2
  clear hB hS hr hlen
  go_enter Tryz.func53, Tryz.ntmps53
  go_wp2_with fail
  go_quiet (fail)
  go_wp2_with fail
  go_ret
  exact ⟨rfl, _, rfl⟩
 | some r =>
  have hc2 : w.cell? ⟨B, 2, none⟩ = some (.bool false) := hc2
  have hrr : r.length = n - k := by rw [hr r rfl, List.length_drop, hlen]
  by_cases hd : k = n
  ·have HR := Lib.hid (show decide (some r = some ([] : List UInt8)) = true by
    rw [decide_eq_true_eq]; rw [List.eq_nil_of_length_eq_zero (l := r) (by omega)])
   subst hd
   clear hB hS hr hlen hrr
   go_enter Tryz.func53, Tryz.ntmps53
   go_wp2_with fail
   go_quiet (fail)
   go_wp2_with fail
   go_ret
   exact ⟨by rw [HR.out]; rfl, _, rfl⟩
  ·have HR := Lib.hid (show decide (some r = some ([] : List UInt8)) = false by
    rw [decide_eq_false_iff_not]; intro e; injection e with e; rw [e] at hrr; simp at hrr; omega)
   have d1 : ((k : Int) == (n : Int)) = false := by simp; omega
   have d2 : decide ((k : Int) = (n : Int)) = false := by simp; omega
   clear hB hS hr hlen hrr
   go_enter Tryz.func53, Tryz.ntmps53
   go_wp2_with fail
   go_quiet (fail)
   go_wp2_with fail
   go_ret
   exact ⟨by rw [HR.out]; rfl, _, rfl⟩
end Go.Proofs.YtbfepgjeecndiaaGreat

/- DecodeBlock. -/
namespace Go.Proofs.YtbfepgjeecndiaaGreat
open Go.RowKit
set_option linter.unusedVariables false
set_option linter.unusedSimpArgs false
attribute [local go_sem ↓] Go.wp_at_zero Go.wp_at_succ
@[go_sem] theorem fold_nmc9 (n : UInt64) : Array.foldl (fun (cs : Array Value) (x : Value × Nat) => cs.setIfInBounds x.snd x.fst) #[.int .u8 0, .int .u8 0, .int .u8 0, .int .u8 0, .int .u8 0, .int .u8 0, .int .u8 0, .int .u8 0, .slice none 0 0] (nmc n).zipIdx 0 8 = #[.int .u8 (nb8 n 0), .int .u8 (nb8 n 1), .int .u8 (nb8 n 2), .int .u8 (nb8 n 3), .int .u8 (nb8 n 4), .int .u8 (nb8 n 5), .int .u8 (nb8 n 6), .int .u8 (nb8 n 7), .slice none 0 0] := by
 rw [← nmc_nb8 n]
 kernel_rfl
@[go_sem] theorem fold_pair (i : Int) (n : UInt64) : Array.foldl (fun (cs : Array Value) (x : Value × Nat) => cs.setIfInBounds (1 + x.snd) x.fst) #[.int .i64 i, .int .u8 0, .int .u8 0, .int .u8 0, .int .u8 0, .int .u8 0, .int .u8 0, .int .u8 0, .int .u8 0] (nmc n).zipIdx 0 8 = #[.int .i64 i, .int .u8 (nb8 n 0), .int .u8 (nb8 n 1), .int .u8 (nb8 n 2), .int .u8 (nb8 n 3), .int .u8 (nb8 n 4), .int .u8 (nb8 n 5), .int .u8 (nb8 n 6), .int .u8 (nb8 n 7)] := by
 rw [← nmc_nb8 n]
 kernel_rfl
/-! what is read: pairs, one behind the other -/
theorem step_appG' {P : Program} {t e : TypeId} {z : Value} {size bytes : Nat} {ops : Array Oper} {o : Oper} {a : Act} {w : World} {K : Act → World → Prop} {Q : Exit → Act → World → Prop} {X : Prop} (E : Elem P t e z size bytes) (hgd : o.guard = none) (s x : Operand)
  (ho : o.op = .call { callee := .builtin .append, args := #[s, x], argTypes := #[t, t] })
  (base : Nat) (A : Option Addr) (n c : Nat) (xs : List Value) (hs : a.eval s = .slice A n c) (hown : w.ownsRow base e size (.slice A n c) n xs)
  (A2 : Option Addr) (m c2 : Nat) (ys : List Value) (hx : a.eval x = .slice A2 m c2) (hr : Rd w A2 ys) (hl : ys.length = m * size) (h1 : ∀ u ∈ ys, u.oneCell' = true)
  (hb : (n + m) * bytes ≤ 140737488355328) (h63 : n + m ≤ 4611686018427387904) (hbase : base ≤ w.heap.size)
  (h : ∀ A' c' w', w'.ownsRow base e size (.slice A' (n + m) c') (n + m) (xs ++ ys) → w.grownBy w' (Value.ownBlock (.slice A n c)) → K (a.put o.dst (.slice A' (n + m) c')) w') : if Region.wanted o (yielded ops a.tmps) = true then Oper.wp P o a w K Q else X := by
 have hw : Region.wanted o (yielded ops a.tmps) = true := by simp [Region.wanted, hgd]
 rw [if_pos hw]
 exact wp_app E s x ho base A n c xs hs hown A2 m c2 ys hx hr hl h1 hb h63 hbase fun A' c' w' h2 h3 => h A' c' w' h2 h3
theorem own_other {w : World} {base : Nat} {e : TypeId} {size : Nat} {A : Option Addr} {n c : Nat} {xs : List Value} {X : Nat} {t : TypeId} {cs : Array Value} (h : w.ownsRow base e size (.slice A n c) n xs) (hb : Blk w X t cs) (hne : t ≠ e) : some X ≠ Value.ownBlock (.slice A n c) := by
 rcases h.2 with ⟨hv, _⟩ | ⟨g, cap, cur, hv, _, hh, _⟩
 ·rw [hv]; simp [Value.ownBlock]
 ·rw [hv]
  simp only [Value.ownBlock]
  intro e1
  injection e1 with e1
  subst e1
  unfold Blk at hb
  rw [hh] at hb
  injection hb with hb
  injection hb with _ hb
  exact hne hb.symm
theorem cur_blk {t : TypeId} {D : Nat} {w : World} {B : Nat} {s : Option (List UInt8)} (h : CurAt t D w B s) : ∃ cs, Blk w B t cs := by
 obtain ⟨A, n, c, l, k, hB, _⟩ := h; exact ⟨_, hB⟩
theorem blk_ne {w : World} {X B : Nat} {t t' : TypeId} {cs cs' : Array Value} (h : Blk w X t cs) (h' : Blk w B t' cs') (hne : t ≠ t') : X ≠ B := by
 intro e; subst e
 unfold Blk at h h'
 rw [h] at h'
 injection h' with h'
 injection h' with _ h'
 exact hne h'
end Go.Proofs.YtbfepgjeecndiaaGreat

/- Operations of a transaction as values: what they are in memory, when they are valid. -/
namespace Go.Proofs.YtbfepgjeecndiaaGreat
open Go.RowKit
set_option linter.unusedVariables false
set_option linter.unusedSimpArgs false
attribute [local go_sem ↓] Go.wp_at_zero Go.wp_at_succ
/-! a region of more than 64 operations stands as two lists, one appended to the other: to be laid straight behind go_enter -/
/-! validity -/
@[go_sem] theorem band_5_1 : bits .and .i64 5 1 = 1 := by decide
@[go_sem] theorem band_5_2 : bits .and .i64 5 2 = 0 := by decide
@[go_sem] theorem band_5_4 : bits .and .i64 5 4 = 4 := by decide
@[go_sem] theorem band_5_8 : bits .and .i64 5 8 = 0 := by decide
@[go_sem] theorem band_5_16 : bits .and .i64 5 16 = 0 := by decide
@[go_sem] theorem band_5_32 : bits .and .i64 5 32 = 0 := by decide
@[go_sem] theorem band_5_64 : bits .and .i64 5 64 = 0 := by decide
@[go_sem] theorem band_5_128 : bits .and .i64 5 128 = 0 := by decide
@[go_sem] theorem band_29_1 : bits .and .i64 29 1 = 1 := by decide
@[go_sem] theorem band_29_2 : bits .and .i64 29 2 = 0 := by decide
@[go_sem] theorem band_29_4 : bits .and .i64 29 4 = 4 := by decide
@[go_sem] theorem band_29_8 : bits .and .i64 29 8 = 8 := by decide
@[go_sem] theorem band_29_16 : bits .and .i64 29 16 = 16 := by decide
@[go_sem] theorem band_29_32 : bits .and .i64 29 32 = 0 := by decide
@[go_sem] theorem band_29_64 : bits .and .i64 29 64 = 0 := by decide
@[go_sem] theorem band_29_128 : bits .and .i64 29 128 = 0 := by decide
@[go_sem] theorem band_101_1 : bits .and .i64 101 1 = 1 := by decide
@[go_sem] theorem band_101_2 : bits .and .i64 101 2 = 0 := by decide
@[go_sem] theorem band_101_4 : bits .and .i64 101 4 = 4 := by decide
@[go_sem] theorem band_101_8 : bits .and .i64 101 8 = 0 := by decide
@[go_sem] theorem band_101_16 : bits .and .i64 101 16 = 0 := by decide
@[go_sem] theorem band_101_32 : bits .and .i64 101 32 = 32 := by decide
@[go_sem] theorem band_101_64 : bits .and .i64 101 64 = 64 := by decide
@[go_sem] theorem band_101_128 : bits .and .i64 101 128 = 0 := by decide
@[go_sem] theorem band_37_1 : bits .and .i64 37 1 = 1 := by decide
@[go_sem] theorem band_37_2 : bits .and .i64 37 2 = 0 := by decide
@[go_sem] theorem band_37_4 : bits .and .i64 37 4 = 4 := by decide
@[go_sem] theorem band_37_8 : bits .and .i64 37 8 = 0 := by decide
@[go_sem] theorem band_37_16 : bits .and .i64 37 16 = 0 := by decide
@[go_sem] theorem band_37_32 : bits .and .i64 37 32 = 32 := by decide
@[go_sem] theorem band_37_64 : bits .and .i64 37 64 = 0 := by decide
@[go_sem] theorem band_37_128 : bits .and .i64 37 128 = 0 := by decide
@[go_sem] theorem band_6_1 : bits .and .i64 6 1 = 0 := by decide
@[go_sem] theorem band_6_2 : bits .and .i64 6 2 = 2 := by decide
@[go_sem] theorem band_6_4 : bits .and .i64 6 4 = 4 := by decide
@[go_sem] theorem band_6_8 : bits .and .i64 6 8 = 0 := by decide
@[go_sem] theorem band_6_16 : bits .and .i64 6 16 = 0 := by decide
@[go_sem] theorem band_6_32 : bits .and .i64 6 32 = 0 := by decide
@[go_sem] theorem band_6_64 : bits .and .i64 6 64 = 0 := by decide
@[go_sem] theorem band_6_128 : bits .and .i64 6 128 = 0 := by decide
@[go_sem] theorem band_130_1 : bits .and .i64 130 1 = 0 := by decide
@[go_sem] theorem band_130_2 : bits .and .i64 130 2 = 2 := by decide
@[go_sem] theorem band_130_4 : bits .and .i64 130 4 = 0 := by decide
@[go_sem] theorem band_130_8 : bits .and .i64 130 8 = 0 := by decide
@[go_sem] theorem band_130_16 : bits .and .i64 130 16 = 0 := by decide
@[go_sem] theorem band_130_32 : bits .and .i64 130 32 = 0 := by decide
@[go_sem] theorem band_130_64 : bits .and .i64 130 64 = 0 := by decide
@[go_sem] theorem band_130_128 : bits .and .i64 130 128 = 128 := by decide
end Go.Proofs.YtbfepgjeecndiaaGreat

/- The program's cursor: Name. -/
namespace Go.Proofs.YtbfepgjeecndiaaGreat
open Go.RowKit
set_option linter.unusedVariables false
set_option linter.unusedSimpArgs false
attribute [local go_sem ↓] Go.wp_at_zero Go.wp_at_succ
variable {D : Nat}
theorem zcs_nmc : zcs.toArray = nmc 0 := by
 unfold nmc; rw [nmb_zero]; rfl
theorem grown_setCells' (w : World) (g : Nat) : ∀ (vs : List Value) (o : Nat), w.grownBy (w.setCells g o vs) (some g) := by
 intro vs
 induction vs generalizing w with
 | nil => intro o; exact grown_refl w _
 | cons v r ih => intro o; exact World.grownBy.trans (grown_set w g o v) (ih _ (o + 1))
theorem drewN_ext (w : World) (n : Nat) : Ext w (w.drewN n) := ⟨rfl, rfl, rfl, Nat.le_refl _, fun _ _ => rfl⟩
theorem cur_close {t : TypeId} {w w' : World} {B : Nat} {A : Option Addr} {n c k j : Nat} {l : List UInt8} {q : Bool} {s : Option (List UInt8)} (hB : Blk w B t #[.slice A n c, .int .i64 ((k : Nat) : Int), .bool q]) (hS : SlB w A n c l) (hg : w.grownBy w' (some B)) (z : Int) (hB' : Blk w' B t #[.slice A n c, .int .i64 z, .bool s.isNone]) (hz : z = (j : Int)) (hk : j ≤ n) (hn : n ≤ 140737488355328) (hr : ∀ r, s = some r → r = l.drop j) (hD : LowB D A n) : CurAt t D w' B s := by
 subst hz; exact ⟨A, n, c, l, j, hB', slb_kept hS hB hg, hk, hn, hr, hD⟩
theorem rangeNm {w : World} {g : Nat} {t : TypeId} {n : UInt64} (h : Blk w g t (nmc n)) : w.rangeAt g 0 (bcs (nmb n)) := by have := rangeAt_of_blk h; rwa [nmc_toList] at this
end Go.Proofs.YtbfepgjeecndiaaGreat

/- validOp and Validate (the program's). -/
namespace Go.Proofs.YtbfepgjeecndiaaGreat
open Go.RowKit
set_option linter.unusedVariables false
set_option linter.unusedSimpArgs false
attribute [local go_sem ↓] Go.wp_at_zero Go.wp_at_succ
theorem nmc_zero_lit : nmc 0 = #[.int .u8 0, .int .u8 0, .int .u8 0, .int .u8 0, .int .u8 0, .int .u8 0, .int .u8 0, .int .u8 0] := zcs_nmc.symm
end Go.Proofs.YtbfepgjeecndiaaGreat

/- encode, Encode (the program's). -/
namespace Go.Proofs.YtbfepgjeecndiaaGreat
open Go.RowKit
set_option linter.unusedVariables false
set_option linter.unusedSimpArgs false
attribute [local go_sem ↓] Go.wp_at_zero Go.wp_at_succ
theorem OwnB.len {w : World} {base : Nat} {e : TypeId} {A : Option Addr} {n c : Nat} {l : List UInt8} (h : OwnB w base e A n c l) : l.length = n := h.sl.len
end Go.Proofs.YtbfepgjeecndiaaGreat

/- readOp (the program's). -/
namespace Go.Proofs.YtbfepgjeecndiaaGreat
open Go.RowKit
set_option linter.unusedVariables false
set_option linter.unusedSimpArgs false
attribute [local go_sem ↓] Go.wp_at_zero Go.wp_at_succ
theorem nb8_nil (i : Nat) (hi : i < 8) : nb8 0 i = 0 := by
 match i, hi with
 | 0, _ | 1, _ | 2, _ | 3, _ | 4, _ | 5, _ | 6, _ | 7, _ => rfl
theorem retC {fn : Func} {p : Tmp} {ty : TypeId} (hres : fn.results = #[.cell p ty]) (tmps : Array Value) (w1 : World) (g : Nat) (cs : Array Value) (hp : tmps.getD p undef = .pointer (some ⟨g, 0, none⟩)) (hl : (loadVar ty ⟨g, 0, none⟩).run Tryz.prog w1 = .ok (.agg cs) w1) :
  (results fn tmps).run Tryz.prog w1 = .ok (.agg cs) w1 := by
 have hp' : tmps[p]?.getD undef = .pointer (some ⟨g, 0, none⟩) := by simpa using hp
 simp [results, hres, hp', asAddr, hl]
end Go.Proofs.YtbfepgjeecndiaaGreat

/- AppendBytes, appendOp (the program's): the encoding of an operation. -/
namespace Go.Proofs.YtbfepgjeecndiaaGreat
set_option maxRecDepth 100000
set_option maxHeartbeats 1000000
open Go.RowKit
set_option linter.unusedVariables false
set_option linter.unusedSimpArgs false
attribute [local go_sem ↓] Go.wp_at_zero Go.wp_at_succ
def blob (p : List UInt8) : List UInt8 := beI 2 (p.length : Int) ++ p
theorem blob_length (p : List UInt8) : (blob p).length = 2 + p.length := by simp [blob, beI_length]
theorem appendUI_any (A : Option Addr) (n c : Nat) (l : List UInt8) (z : Int) (wd : Nat) (hwd : wd ≤ 8) (w : World) (h : SlB w A n c l) (hn : n ≤ 140737488351232) :
  Calls Tryz.prog 37 #[.slice A n c, .int .u64 (un (uI z)), .int .i64 (wd : Int)] w fun e w' => ∃ A' c', e = .returned (.slice A' (n + wd) c') ∧ OwnB w' w.heap.size 5 A' (n + wd) c' (l ++ beI wd z) ∧ Ext w w' := by
 have := appendUint_any A n c l (uI z) wd hwd w h hn
 rw [uI_nat] at this; exact this
section
variable {P : Program} {t e : TypeId}
theorem wpList_appBG {ops : Array Oper} {rest : List Oper} {o : Oper} {a : Act} {w : World} {Q : Exit → Act → World → Prop} (E : Elem P t e (.int .u8 0) 1 1) (hgd : o.guard = none) (s x : Operand)
  (ho : o.op = .call { callee := .builtin .append, args := #[s, x], argTypes := #[t, t] })
  (base : Nat) (A : Option Addr) (n c : Nat) (l : List UInt8) (hs : a.eval s = .slice A n c) (hown : OwnB w base e A n c l)
  (A2 : Option Addr) (m c2 : Nat) (l2 : List UInt8) (hx : a.eval x = .slice A2 m c2) (hr : SlB w A2 m c2 l2)
  (hb : n + m ≤ 140737488355328) (hbase : base ≤ w.heap.size)
  (h : ∀ A' c' w', OwnB w' base e A' (n + m) c' (l ++ l2) → w.grownBy w' (Value.ownBlock (.slice A n c)) → wpList P ops Q rest (a.put o.dst (.slice A' (n + m) c')) w') : wpList P ops Q (o :: rest) a w := by
 refine wpList_plain hgd fun K hK => wp_app E s x ho base A n c (bcs l) hs hown A2 m c2 (bcs l2) hx hr.rd (by rw [bcs_length, hr.len, Nat.mul_one]) (bcs_one l2) (by omega) (by omega) hbase fun A' c' w' h2 h3 => hK _ _ (h A' c' w' ?_ h3)
 unfold OwnB; rw [bcs_append]; exact h2
end
theorem appendBytes_any (A : Option Addr) (n c : Nat) (l : List UInt8) (P : Option Addr) (m d : Nat) (p : List UInt8) (w : World) (h : SlB w A n c l) (hp : SlB w P m d p) (hm : m ≤ 65535) (hn : n ≤ 1000000000) :
  Calls Tryz.prog 39 #[.slice A n c, .slice P m d] w fun e w' => ∃ A' n' c', e = .returned (.tuple #[.slice A' n' c', .bool true]) ∧ OwnB w' w.heap.size 5 A' n' c' (l ++ blob p) ∧ Ext w w' := by
 have hu := uI_un (m : Int)
 have hlen := hp.len
 have HA := Lib.hid (appendUI_any A n c l (m : Int) 2 (by omega) w h (by omega))
 have HP := Lib.hid hp
 have HB := Lib.hid (show blob p = beI 2 (m : Int) ++ p by unfold blob; rw [hlen])
 have d1 : decide (65535 < (m : Int)) = false := decide_eq_false (by omega)
 clear h hp hlen
 generalize uI (m : Int) = u at *
 go_enter Tryz.func39, Tryz.ntmps39
 go_wp2_with fail
 refine HA.out.mono ?_
 rintro e w1 ⟨A1, c1, rfl, hO1, he1⟩
 have HO1 := Lib.hid hO1
 have HE1 := Lib.hid he1
 clear hO1 he1
 go_wp2_with (at_builtin; go_must (refine wpList_appB bytesE rfl (.tmp 13) (.tmp 14) rfl w.heap.size A1 _ c1 _ rfl HO1.out P m d p rfl (HP.out.ext HE1.out) (by omega) HE1.out.size w HE1.out ?_))
 intro A2 c2 w2 hO2 hE2 hs2
 have HO2 := Lib.hid hO2
 clear hO2
 go_wp2_with fail
 go_ret2
 exact ⟨A2, _, c2, rfl, by rw [HB.out]; simpa using HO2.out, hE2⟩
end Go.Proofs.YtbfepgjeecndiaaGreat
