/- Operations of a transaction as values: what they are in memory, when they are valid. -/
import Derived.Test.YtjlnmpjffogpdaaBd1
namespace Go.Proofs.Ytjlnmpjffogpdaa
open Go.RowKit
set_option linter.unusedVariables false
set_option linter.unusedSimpArgs false
attribute [local go_sem ↓] Go.wp_at_zero Go.wp_at_succ

/-! a region of more than 64 operations stands as two lists, one appended to the other: to be laid straight behind go_enter -/
theorem lapp_cons {α : Type} (a : α) (l m : List α) : List.append (a :: l) m = a :: List.append l m := rfl
theorem lapp_nil {α : Type} (m : List α) : List.append [] m = m := rfl
/-- an operation: its numbers and names, and the two slices with the bytes that they hold -/
structure OpR where
  k : Int
  to : Int
  am : Int
  ul : Int
  va : Int
  lk : UInt64
  hs : UInt64
  A1 : Option Addr
  n1 : Nat
  c1 : Nat
  pre : List UInt8
  A2 : Option Addr
  n2 : Nat
  c2 : Nat
  prf : List UInt8
/-- its cells -/
abbrev opA (R : OpR) : Array Value := #[.int .i64 R.k, .int .i64 R.to, .int .i64 R.am, .int .i64 R.ul, .int .i64 R.va, .int .u8 (nb8 R.lk 0), .int .u8 (nb8 R.lk 1), .int .u8 (nb8 R.lk 2), .int .u8 (nb8 R.lk 3), .int .u8 (nb8 R.lk 4), .int .u8 (nb8 R.lk 5), .int .u8 (nb8 R.lk 6), .int .u8 (nb8 R.lk 7), .int .u8 (nb8 R.hs 0), .int .u8 (nb8 R.hs 1), .int .u8 (nb8 R.hs 2), .int .u8 (nb8 R.hs 3), .int .u8 (nb8 R.hs 4), .int .u8 (nb8 R.hs 5), .int .u8 (nb8 R.hs 6), .int .u8 (nb8 R.hs 7), .slice R.A1 R.n1 R.c1, .slice R.A2 R.n2 R.c2]
/-- its bytes are there -/
structure OpR.ok (R : OpR) (w : World) : Prop where
  pre : SlB w R.A1 R.n1 R.c1 R.pre
  prf : SlB w R.A2 R.n2 R.c2 R.prf
theorem OpR.ok.ext {R : OpR} {w w' : World} (h : R.ok w) (e : Ext w w') : R.ok w' := ⟨h.pre.ext e, h.prf.ext e⟩
def opL (R : OpR) : List Value := (opA R).toList
theorem opL_length (R : OpR) : (opL R).length = 23 := rfl
theorem opL_arr (R : OpR) : (opL R).toArray = opA R := rfl
theorem opL_one (R : OpR) : ∀ u ∈ opL R, u.oneCell' = true := by
  intro u hu
  simp only [opL, List.mem_cons, List.not_mem_nil, or_false] at hu
  rcases hu with rfl | rfl | rfl | rfl | rfl | rfl | rfl | rfl | rfl | rfl | rfl | rfl | rfl | rfl | rfl | rfl | rfl | rfl | rfl | rfl | rfl | rfl | rfl <;> rfl
theorem opA_all (R : OpR) : (opA R).all (·.oneCell') = true := all_oneCell_toArray (opL_one R)
def ocs (L : List OpR) : List Value := L.flatMap opL
theorem ocs_nil : ocs [] = [] := rfl
theorem ocs_cons (x : OpR) (r : List OpR) : ocs (x :: r) = opL x ++ ocs r := by simp [ocs]
theorem ocs_append (a b : List OpR) : ocs (a ++ b) = ocs a ++ ocs b := by simp [ocs]
theorem ocs_length (L : List OpR) : (ocs L).length = L.length * 23 := by
  induction L with
  | nil => rfl
  | cons x r ih => rw [ocs_cons, List.length_append, opL_length, ih, List.length_cons]; omega
theorem ocs_one (L : List OpR) : ∀ u ∈ ocs L, u.oneCell' = true := by
  intro u hu
  simp only [ocs, List.mem_flatMap] at hu
  obtain ⟨x, _, h⟩ := hu
  exact opL_one x u h
theorem ocs_drop (L : List OpR) (k : Nat) : (ocs L).drop (k * 23) = ocs (L.drop k) := by
  induction k generalizing L with
  | zero => simp
  | succ k ih =>
    cases L with
    | nil => simp [ocs]
    | cons n r =>
      rw [ocs_cons, List.drop_succ_cons, ← ih r, show (k + 1) * 23 = (opL n).length + k * 23 from by rw [opL_length]; omega, List.drop_append, List.drop_of_length_le (by omega)]
      simp
def opR0 : OpR := ⟨0, 0, 0, 0, 0, 0, 0, none, 0, 0, [], none, 0, 0, []⟩
def nthO (L : List OpR) (k : Nat) : OpR := L.getD k opR0
theorem ocs_at {L : List OpR} {k : Nat} (h : k < L.length) : ((ocs L).drop (k * 23)).take 23 = opL (nthO L k) := by
  have e : L[k] = nthO L k := by simp [nthO, h]
  rw [ocs_drop, List.drop_eq_getElem_cons h, ocs_cons, List.take_append_of_le_length (by rw [opL_length]; omega), List.take_of_length_le (by rw [opL_length]; omega), e]
theorem take_nthO {L : List OpR} {k : Nat} (h : k < L.length) : L.take (k + 1) = L.take k ++ [nthO L k] := by
  rw [List.take_succ_eq_append_getElem h]
  have e : L[k] = nthO L k := by simp [nthO, h]
  rw [e]
theorem nthO_mem {L : List OpR} {k : Nat} (h : k < L.length) : nthO L k ∈ L := by
  have e : L[k] = nthO L k := by simp [nthO, h]
  rw [← e]; exact List.getElem_mem _
/-- a slice of operations -/
structure SlO (w : World) (A : Option Addr) (n c : Nat) (L : List OpR) : Prop where
  len : L.length = n
  le : n ≤ c
  cap : c ≤ 9223372036854775807
  rd : Rd w A (ocs L)
  ok : ∀ R, R ∈ L → R.ok w
section
variable {w w' : World} {A : Option Addr} {n c : Nat} {L : List OpR}
theorem SlO.ext (h : SlO w A n c L) (e : Ext w w') : SlO w' A n c L := ⟨h.len, h.le, h.cap, h.rd.ext e, fun R hR => (h.ok R hR).ext e⟩
theorem SlO.at (h : SlO w A n c L) (hn : 0 < n) : ∃ b o, A = some ⟨b, o, none⟩ ∧ w.rangeAt b o (ocs L) ∧ b < w.heap.size :=
  h.rd.at (by intro e; have := congrArg List.length e; rw [ocs_length, h.len] at this; simp at this; omega)
theorem SlO.nil (w : World) : SlO w none 0 0 [] := ⟨rfl, Nat.le_refl _, Nat.zero_le _, .nil, fun R hR => by cases hR⟩
theorem SlO.nth (h : SlO w A n c L) {k : Nat} (hk : k < n) : (nthO L k).ok w := h.ok _ (nthO_mem (by rw [h.len]; exact hk))
theorem op_at {b o k : Nat} (h : w.rangeAt b o (ocs L)) (hk : k < L.length) : w.rangeAt b (o + k * 23) (opL (nthO L k)) := by
  have h1 := rangeAt_take (k := 23) (rangeAt_drop (k := k * 23) h)
  rwa [ocs_at hk] at h1
end
section
variable {o : Oper} {a : Act} {w : World} {ops : Array Oper} {rest : List Oper} {Q : Exit → Act → World → Prop}
/-- an operation is loaded -/
theorem wpList_loadO (hgd : o.guard = none) (x : Operand) (ho : o.op = .load 58 x) (b of : Nat) (hx : a.eval x = .pointer (some ⟨b, of, none⟩)) (R : OpR) (hc : w.rangeAt b of (opL R))
    (h : wpList Try.prog ops Q rest (a.put o.dst (.agg (opA R))) w) : wpList Try.prog ops Q (o :: rest) a w := by
  have := wpList_load_mid (P := Try.prog) (Q := Q) (ops := ops) (rest := rest) hgd 58 x ho b of hx (opL R) _ hc Try.underlying58 rfl (by rw [opL_length]; kernel_rfl)
  rw [opL_arr] at this
  exact this h
end
section
variable {o : Oper} {a : Act} {w : World} {ops : Array Oper} {rest : List Oper} {Q : Exit → Act → World → Prop}
/-- an operation is stored into a variable that is new -/
theorem wpList_newO (hgd : o.guard = none) (x y : Operand) (ho : o.op = .store 58 x y) (cs : Array Value) (hcs : cs.size = 23) (R : OpR) (hx : a.eval x = .pointer (some ⟨w.heap.size, 0, none⟩)) (hy : a.eval y = .agg (opA R))
    (h : wpList Try.prog ops Q rest (a.put o.dst undef) (w.alloc (.cells (opA R) 58))) : wpList Try.prog ops Q (o :: rest) a (w.alloc (.cells cs 58)) := by
  have ht := there_of_blk (Blk.new w 58 cs)
  rw [hcs] at ht
  refine wpList_store_mid hgd 58 x y ho w.heap.size 0 (opA R) hx hy ht (by kernel_rfl) (opA_all R) ?_
  rw [setCells_whole w 58 cs (opA R) (by rw [hcs]; rfl)]
  exact h
/-- the variable's contents -/
theorem new_op (w : World) (R : OpR) : (w.alloc (.cells (opA R) 58)).rangeAt w.heap.size 0 (opL R) := rangeAt_of_blk (Blk.new w 58 (opA R))
end
/-- the cells of a transaction, and of one with its signature -/
abbrev txA (ac sq : Int) (A : Option Addr) (n c : Nat) : Array Value := #[.int .i64 ac, .int .i64 sq, .slice A n c]
abbrev stA (ac sq : Int) (A : Option Addr) (n c : Nat) (S : Option Addr) (m d : Nat) : Array Value := #[.int .i64 ac, .int .i64 sq, .slice A n c, .slice S m d]

/-! validity -/
def usesK (k : Int) : Int := if k = 1 then 5 else if k = 2 then 29 else if k = 3 then 101 else if k = 4 then 37 else if k = 5 then 6 else if k = 6 then 130 else 0
def numU (used : Bool) (n lo hi : Int) : Bool := if used then decide (lo ≤ n ∧ n ≤ hi) else decide (n = 0)
def fTo (k : Int) : Bool := decide (1 ≤ k ∧ k ≤ 4)
def fAm (k : Int) : Bool := decide (1 ≤ k ∧ k ≤ 5)
def fUl (k : Int) : Bool := decide (k = 2)
def fVa (k : Int) : Bool := decide (5 ≤ k ∧ k ≤ 6)
def fPre (k : Int) : Bool := decide (k = 3)
def fPrf (k : Int) : Bool := decide (k = 6)
def fLk (k : Int) : Bool := decide (3 ≤ k ∧ k ≤ 4)
/-- when an operation is valid -/
def vOp (R : OpR) : Bool :=
  decide (1 ≤ R.k ∧ R.k ≤ 6) && (numU (fTo R.k) R.to 0 15 && (numU (fAm R.k) R.am 1 1099511627776 && (numU (fUl R.k) R.ul 1 1000 && (numU (fVa R.k) R.va 0 9 && (numU (fPre R.k) (R.n1 : Int) 0 32 && (numU (fPrf R.k) (R.n2 : Int) 1 2000 && ((fUl R.k || decide (R.hs = 0)) && (fLk R.k || decide (R.lk = 0)))))))))
theorem usesK_lit : usesK 1 = 5 ∧ usesK 2 = 29 ∧ usesK 3 = 101 ∧ usesK 4 = 37 ∧ usesK 5 = 6 ∧ usesK 6 = 130 := by decide
theorem usesK_no {k : Int} (h : ¬ (1 ≤ k ∧ k ≤ 6)) : usesK k = 0 := by
  unfold usesK
  rw [if_neg (by omega), if_neg (by omega), if_neg (by omega), if_neg (by omega), if_neg (by omega), if_neg (by omega)]
@[go_sem] theorem band_5_1 : bits .and .i64 5 1 = 1 := by decide
@[go_sem] theorem band_5_2 : bits .and .i64 5 2 = 0 := by decide
@[go_sem] theorem band_5_4 : bits .and .i64 5 4 = 4 := by decide
@[go_sem] theorem band_5_8 : bits .and .i64 5 8 = 0 := by decide
@[go_sem] theorem band_5_16 : bits .and .i64 5 16 = 0 := by decide
@[go_sem] theorem band_5_32 : bits .and .i64 5 32 = 0 := by decide
@[go_sem] theorem band_5_64 : bits .and .i64 5 64 = 0 := by decide
@[go_sem] theorem band_5_128 : bits .and .i64 5 128 = 0 := by decide
@[go_sem] theorem band_29_1 : bits .and .i64 29 1 = 1 := by decide
@[go_sem] theorem band_29_2 : bits .and .i64 29 2 = 0 := by decide
@[go_sem] theorem band_29_4 : bits .and .i64 29 4 = 4 := by decide
@[go_sem] theorem band_29_8 : bits .and .i64 29 8 = 8 := by decide
@[go_sem] theorem band_29_16 : bits .and .i64 29 16 = 16 := by decide
@[go_sem] theorem band_29_32 : bits .and .i64 29 32 = 0 := by decide
@[go_sem] theorem band_29_64 : bits .and .i64 29 64 = 0 := by decide
@[go_sem] theorem band_29_128 : bits .and .i64 29 128 = 0 := by decide
@[go_sem] theorem band_101_1 : bits .and .i64 101 1 = 1 := by decide
@[go_sem] theorem band_101_2 : bits .and .i64 101 2 = 0 := by decide
@[go_sem] theorem band_101_4 : bits .and .i64 101 4 = 4 := by decide
@[go_sem] theorem band_101_8 : bits .and .i64 101 8 = 0 := by decide
@[go_sem] theorem band_101_16 : bits .and .i64 101 16 = 0 := by decide
@[go_sem] theorem band_101_32 : bits .and .i64 101 32 = 32 := by decide
@[go_sem] theorem band_101_64 : bits .and .i64 101 64 = 64 := by decide
@[go_sem] theorem band_101_128 : bits .and .i64 101 128 = 0 := by decide
@[go_sem] theorem band_37_1 : bits .and .i64 37 1 = 1 := by decide
@[go_sem] theorem band_37_2 : bits .and .i64 37 2 = 0 := by decide
@[go_sem] theorem band_37_4 : bits .and .i64 37 4 = 4 := by decide
@[go_sem] theorem band_37_8 : bits .and .i64 37 8 = 0 := by decide
@[go_sem] theorem band_37_16 : bits .and .i64 37 16 = 0 := by decide
@[go_sem] theorem band_37_32 : bits .and .i64 37 32 = 32 := by decide
@[go_sem] theorem band_37_64 : bits .and .i64 37 64 = 0 := by decide
@[go_sem] theorem band_37_128 : bits .and .i64 37 128 = 0 := by decide
@[go_sem] theorem band_6_1 : bits .and .i64 6 1 = 0 := by decide
@[go_sem] theorem band_6_2 : bits .and .i64 6 2 = 2 := by decide
@[go_sem] theorem band_6_4 : bits .and .i64 6 4 = 4 := by decide
@[go_sem] theorem band_6_8 : bits .and .i64 6 8 = 0 := by decide
@[go_sem] theorem band_6_16 : bits .and .i64 6 16 = 0 := by decide
@[go_sem] theorem band_6_32 : bits .and .i64 6 32 = 0 := by decide
@[go_sem] theorem band_6_64 : bits .and .i64 6 64 = 0 := by decide
@[go_sem] theorem band_6_128 : bits .and .i64 6 128 = 0 := by decide
@[go_sem] theorem band_130_1 : bits .and .i64 130 1 = 0 := by decide
@[go_sem] theorem band_130_2 : bits .and .i64 130 2 = 2 := by decide
@[go_sem] theorem band_130_4 : bits .and .i64 130 4 = 0 := by decide
@[go_sem] theorem band_130_8 : bits .and .i64 130 8 = 0 := by decide
@[go_sem] theorem band_130_16 : bits .and .i64 130 16 = 0 := by decide
@[go_sem] theorem band_130_32 : bits .and .i64 130 32 = 0 := by decide
@[go_sem] theorem band_130_64 : bits .and .i64 130 64 = 0 := by decide
@[go_sem] theorem band_130_128 : bits .and .i64 130 128 = 128 := by decide
theorem kind_cases (k : Int) : k = 1 ∨ k = 2 ∨ k = 3 ∨ k = 4 ∨ k = 5 ∨ k = 6 ∨ ¬ (1 ≤ k ∧ k ≤ 6) := by omega
set_option maxHeartbeats 1000000 in
theorem uses_any (k : Int) (w : World) : Calls Try.prog 143 #[.int .i64 k] w fun e w' => e = .returned (.int .i64 (usesK k)) ∧ w = w' := by
  rcases kind_cases k with rfl | rfl | rfl | rfl | rfl | rfl | h
  case inr.inr.inr.inr.inr.inr =>
    rw [usesK_no h]
    have d1 : decide (k = 1) = false := decide_eq_false (by omega)
    have d2 : decide (k = 2) = false := decide_eq_false (by omega)
    have d3 : decide (k = 3) = false := decide_eq_false (by omega)
    have d4 : decide (k = 4) = false := decide_eq_false (by omega)
    have d5 : decide (k = 5) = false := decide_eq_false (by omega)
    have d6 : decide (k = 6) = false := decide_eq_false (by omega)
    have e1 : (k == 1) = false := by simp; omega
    have e2 : (k == 2) = false := by simp; omega
    have e3 : (k == 3) = false := by simp; omega
    have e4 : (k == 4) = false := by simp; omega
    have e5 : (k == 5) = false := by simp; omega
    have e6 : (k == 6) = false := by simp; omega
    clear h
    go_enter Try.func143, Try.ntmps143
    go_wp2_with fail
    go_ret
    exact ⟨rfl, rfl⟩
  all_goals (
    go_enter Try.func143, Try.ntmps143
    go_wp2_with fail
    go_ret
    exact ⟨rfl, rfl⟩)
set_option maxHeartbeats 1000000 in
theorem txNumber_any (u : Bool) (n lo hi : Int) (w : World) : Calls Try.prog 145 #[.bool u, .int .i64 n, .int .i64 lo, .int .i64 hi] w fun e w' => e = .returned (.bool (numU u n lo hi)) ∧ w = w' := by
  cases u with
  | false =>
    have HV := Lib.hid (show numU false n lo hi = decide (n = 0) from rfl)
    by_cases h0 : n = 0
    · subst h0
      go_enter Try.func145, Try.ntmps145
      go_wp2_with fail
      go_ret
      exact ⟨by rw [HV.out]; rfl, rfl⟩
    · have d1 : decide (n = 0) = false := decide_eq_false h0
      have d2 : (n == 0) = false := by simp; omega
      have HW := Lib.hid (show numU false n lo hi = false by rw [HV.out, d1])
      clear h0 HV
      go_enter Try.func145, Try.ntmps145
      go_wp2_with fail
      go_ret
      exact ⟨by rw [HW.out]; rfl, rfl⟩
  | true =>
    by_cases h1 : lo ≤ n
    · by_cases h2 : n ≤ hi
      · have HV := Lib.hid (show numU true n lo hi = true from decide_eq_true ⟨h1, h2⟩)
        go_enter Try.func145, Try.ntmps145
        go_wp2_with fail
        go_ret
        exact ⟨by rw [HV.out]; rfl, rfl⟩
      · have HV := Lib.hid (show numU true n lo hi = false from decide_eq_false (by omega))
        have d2 : decide (n ≤ hi) = false := decide_eq_false h2
        clear h2
        go_enter Try.func145, Try.ntmps145
        go_wp2_with fail
        go_ret
        exact ⟨by rw [HV.out]; rfl, rfl⟩
    · have HV := Lib.hid (show numU true n lo hi = false from decide_eq_false (by omega))
      have d1 : decide (lo ≤ n) = false := decide_eq_false h1
      clear h1
      go_enter Try.func145, Try.ntmps145
      go_wp2_with fail
      go_ret
      exact ⟨by rw [HV.out]; rfl, rfl⟩
end Go.Proofs.Ytjlnmpjffogpdaa
