/- block.open: a cursor behind the kind of a text, or one that has failed. DecodePayload at a text of another kind. -/
import Derived.Test.YtjlnmpjffogpdaaCur2
import Derived.Test.YtjlnmpjffogpdaaAu
namespace Go.Proofs.Ytjlnmpjffogpdaa
open Go.RowKit
set_option linter.unusedVariables false
set_option linter.unusedSimpArgs false
attribute [local go_sem ↓] Go.wp_at_zero Go.wp_at_succ

variable {D : Nat}
/-- what is left of a text behind its kind -/
def openU (l : List UInt8) (kind : Int) : Option (List UInt8) := if kindU l = kind then some (l.drop 1) else none
theorem kindU_pos {l : List UInt8} {kind : Int} (h : kindU l = kind) (hk : 1 ≤ kind) : 0 < l.length := by
  cases l with
  | nil => simp [kindU] at h; omega
  | cons c r => simp
theorem ext_grown {w w1 w2 : World} {B : Nat} (h : Ext w w1) (hg : w1.grownBy w2 (some B)) (hB : w.heap.size ≤ B) : Ext w w2 :=
  Below.grown h hg h.size (fun k hk => by injection hk with hk; omega)
/-- two results: a struct in a variable, and a slot -/
theorem retCV {fn : Func} {p q : Tmp} {ty : TypeId} (hres : fn.results = #[.cell p ty, .tmp q]) (tmps : Array Value) (w1 : World) (g : Nat) (cs : Array Value) (v : Value) (hp : tmps.getD p undef = .pointer (some ⟨g, 0, none⟩)) (hq : tmps.getD q undef = v) (hl : (loadVar ty ⟨g, 0, none⟩).run Try.prog w1 = .ok (.agg cs) w1) :
    (results fn tmps).run Try.prog w1 = .ok (.tuple #[.agg cs, v]) w1 := by
  have hp' : tmps[p]?.getD undef = .pointer (some ⟨g, 0, none⟩) := by simpa using hp
  have hq' : tmps[q]?.getD undef = v := by simpa using hq
  simp [results, hres, hp', hq', asAddr, hl]
def OpenOut (D : Nat) (w : World) (s : Option (List UInt8)) (e : Ending) (w' : World) : Prop := ∃ B, e = .returned (.pointer (some ⟨B, 0, none⟩)) ∧ CurAt 156 D w' B s ∧ w.heap.size ≤ B ∧ Ext w w'
end Go.Proofs.Ytjlnmpjffogpdaa
/- ids in strictly ascending order: block.validators over a function value; validBlock and its reference. -/
namespace Go.Proofs.Ytjlnmpjffogpdaa
open Go.RowKit
set_option linter.unusedVariables false
set_option linter.unusedSimpArgs false
attribute [local go_sem ↓] Go.wp_at_zero Go.wp_at_succ

/-- the id at i is an id of a validator, and greater than the one before it -/
def okId (ids : Nat → Int) (i : Nat) : Prop := 0 ≤ ids i ∧ ids i < 10 ∧ (0 < i → ids (i - 1) < ids i)
instance (ids : Nat → Int) (i : Nat) : Decidable (okId ids i) := by unfold okId; infer_instance
def okIds (ids : Nat → Int) (n : Nat) : Bool := decide (∀ i, i < n → okId ids i)
theorem okIds_no {ids : Nat → Int} {n k : Nat} (hk : k < n) (h : ¬ okId ids k) : okIds ids n = false := by
  unfold okIds; rw [decide_eq_false_iff_not]; exact fun hh => h (hh k hk)
theorem okIds_yes {ids : Nat → Int} {n : Nat} (h : ∀ i, i < n → okId ids i) : okIds ids n = true := by
  unfold okIds; rw [decide_eq_true_eq]; exact h
end Go.Proofs.Ytjlnmpjffogpdaa
/- A block as a value; validBlock. -/
namespace Go.Proofs.Ytjlnmpjffogpdaa
open Go.RowKit
set_option linter.unusedVariables false
set_option linter.unusedSimpArgs false
attribute [local go_sem ↓] Go.wp_at_zero Go.wp_at_succ

/-! a list of pairs of an id and a name (slots of a block, heads of a record): nine cells each -/
def chL (x : Int × UInt64) : List Value := .int .i64 x.1 :: bcs (nmb x.2)
theorem chL_length (x : Int × UInt64) : (chL x).length = 9 := by simp [chL, bcs_length, nmb_length]
abbrev chA (i : Int) (v : UInt64) : Array Value := #[.int .i64 i, .int .u8 (nb8 v 0), .int .u8 (nb8 v 1), .int .u8 (nb8 v 2), .int .u8 (nb8 v 3), .int .u8 (nb8 v 4), .int .u8 (nb8 v 5), .int .u8 (nb8 v 6), .int .u8 (nb8 v 7)]
theorem bcs_nb8 (n : UInt64) : bcs (nmb n) = [.int .u8 (nb8 n 0), .int .u8 (nb8 n 1), .int .u8 (nb8 n 2), .int .u8 (nb8 n 3), .int .u8 (nb8 n 4), .int .u8 (nb8 n 5), .int .u8 (nb8 n 6), .int .u8 (nb8 n 7)] := by
  rw [← nmc_toList, ← nmc_nb8]
theorem chL_eq (x : Int × UInt64) : (chL x).toArray = chA x.1 x.2 := by unfold chL; rw [bcs_nb8]
theorem chA_toList (i : Int) (v : UInt64) : (chA i v).toList = chL (i, v) := by unfold chL; rw [bcs_nb8]
def chc (L : List (Int × UInt64)) : List Value := L.flatMap chL
theorem chc_nil : chc [] = [] := rfl
theorem chc_cons (x : Int × UInt64) (r : List (Int × UInt64)) : chc (x :: r) = chL x ++ chc r := by simp [chc]
theorem chc_append (a b : List (Int × UInt64)) : chc (a ++ b) = chc a ++ chc b := by simp [chc]
theorem chc_length (L : List (Int × UInt64)) : (chc L).length = L.length * 9 := by
  induction L with
  | nil => rfl
  | cons x r ih => rw [chc_cons, List.length_append, chL_length, ih, List.length_cons]; omega
theorem chL_one (x : Int × UInt64) : ∀ u ∈ chL x, u.oneCell' = true := by
  intro u hu
  rcases List.mem_cons.1 hu with rfl | h
  · rfl
  · exact bcs_one _ u h
theorem chc_one (L : List (Int × UInt64)) : ∀ u ∈ chc L, u.oneCell' = true := by
  intro u hu
  simp only [chc, List.mem_flatMap] at hu
  obtain ⟨x, _, h⟩ := hu
  exact chL_one x u h
theorem chc_drop (L : List (Int × UInt64)) (k : Nat) : (chc L).drop (k * 9) = chc (L.drop k) := by
  induction k generalizing L with
  | zero => simp
  | succ k ih =>
    cases L with
    | nil => simp [chc]
    | cons n r =>
      rw [chc_cons, List.drop_succ_cons, ← ih r, show (k + 1) * 9 = (chL n).length + k * 9 from by rw [chL_length]; omega, List.drop_append, List.drop_of_length_le (by omega)]
      simp
def nthC (L : List (Int × UInt64)) (k : Nat) : Int × UInt64 := L.getD k (0, 0)
def idN (L : List (Int × UInt64)) (k : Nat) : Int := (nthC L k).1
def vlN (L : List (Int × UInt64)) (k : Nat) : UInt64 := (nthC L k).2
theorem chc_at {L : List (Int × UInt64)} {k : Nat} (h : k < L.length) : ((chc L).drop (k * 9)).take 9 = chL (idN L k, vlN L k) := by
  have e : L[k] = nthC L k := by simp [nthC, h]
  rw [chc_drop, List.drop_eq_getElem_cons h, chc_cons, List.take_append_of_le_length (by rw [chL_length]; omega), List.take_of_length_le (by rw [chL_length]; omega), e]
  rfl
theorem take_nthC {L : List (Int × UInt64)} {k : Nat} (h : k < L.length) : L.take (k + 1) = L.take k ++ [(idN L k, vlN L k)] := by
  rw [List.take_succ_eq_append_getElem h]
  have e : L[k] = nthC L k := by simp [nthC, h]
  rw [e]; rfl
structure SlC (w : World) (A : Option Addr) (n c : Nat) (L : List (Int × UInt64)) : Prop where
  len : L.length = n
  le : n ≤ c
  cap : c ≤ 9223372036854775807
  rd : Rd w A (chc L)
section
variable {w w' : World} {A : Option Addr} {n c : Nat} {L : List (Int × UInt64)}
theorem SlC.ext (h : SlC w A n c L) (e : Ext w w') : SlC w' A n c L := ⟨h.len, h.le, h.cap, h.rd.ext e⟩
theorem SlC.at (h : SlC w A n c L) (hn : 0 < n) : ∃ b o, A = some ⟨b, o, none⟩ ∧ w.rangeAt b o (chc L) ∧ b < w.heap.size :=
  h.rd.at (by intro e; have := congrArg List.length e; rw [chc_length, h.len] at this; simp at this; omega)
theorem SlC.nil (w : World) : SlC w none 0 0 [] := ⟨rfl, Nat.le_refl _, Nat.zero_le _, .nil⟩
theorem item_at {b o k : Nat} (h : w.rangeAt b o (chc L)) (hk : k < L.length) : w.rangeAt b (o + k * 9) (chL (idN L k, vlN L k)) := by
  have h1 := rangeAt_take (k := 9) (rangeAt_drop (k := k * 9) h)
  rwa [chc_at hk] at h1
theorem id_at {b o k : Nat} (h : w.rangeAt b o (chc L)) (hk : k < L.length) : w.cell? ⟨b, o + k * 9, none⟩ = some (.int .i64 (idN L k)) := item_at h hk 0 _ rfl
end
/-- the cells of a block -/
abbrev blkC (p : UInt64) (A : Option Addr) (n c : Nat) : Array Value := #[.int .u8 (nb8 p 0), .int .u8 (nb8 p 1), .int .u8 (nb8 p 2), .int .u8 (nb8 p 3), .int .u8 (nb8 p 4), .int .u8 (nb8 p 5), .int .u8 (nb8 p 6), .int .u8 (nb8 p 7), .slice A n c]
theorem blkC_range {w : World} {g : Nat} {t : TypeId} {p : UInt64} {A : Option Addr} {n c : Nat} (h : Blk w g t (blkC p A n c)) : w.rangeAt g 0 (bcs (nmb p)) := by
  have := rangeAt_take (k := 8) (rangeAt_of_blk h)
  rw [bcs_nb8]; exact this
theorem blkC_parent {w : World} {g : Nat} {t : TypeId} {p : UInt64} {A : Option Addr} {n c : Nat} (h : Blk w g t (blkC p A n c)) : SlB w (some ⟨g, 0, none⟩) 8 8 (nmb p) :=
  ⟨nmb_length p, Nat.le_refl _, by omega, .inr ⟨g, 0, rfl, blkC_range h⟩⟩
def vldBlk (L : List (Int × UInt64)) : Bool := decide (1 ≤ L.length ∧ L.length ≤ 7) && okIds (idN L) L.length
theorem vldBlk_len {L : List (Int × UInt64)} (h : vldBlk L = true) : 1 ≤ L.length ∧ L.length ≤ 7 := by
  unfold vldBlk at h; simp only [Bool.and_eq_true, decide_eq_true_eq] at h; exact h.1
end Go.Proofs.Ytjlnmpjffogpdaa
