import Derived.Test.YtjlnmpjffogpdaaTag
namespace Go.Proofs.Ytjlnmpjffogpdaa
open Go.RowKit
set_option linter.unusedVariables false
set_option linter.unusedSimpArgs false
attribute [local go_sem ↓] Go.wp_at_zero Go.wp_at_succ

def iv (z : Int) : Value := .int .i64 z
def ics (l : List Int) : List Value := l.map iv
theorem ics_length (l : List Int) : (ics l).length = l.length := by simp [ics]
theorem ics_append (a b : List Int) : ics (a ++ b) = ics a ++ ics b := by simp [ics]
theorem ics_one (l : List Int) : ∀ u ∈ ics l, u.oneCell' = true := by
  intro u hu; simp only [ics, List.mem_map] at hu; obtain ⟨c, _, rfl⟩ := hu; rfl
theorem intsE : Elem Try.prog 22 3 (.int .i64 0) 1 8 := ⟨Try.underlying22, by kernel_rfl, rfl, by decide⟩
/-- the digits of bytes, and their sum -/
def dg (l : List UInt8) : List Int := l.flatMap fun c => [((c.toNat / 16 : Nat) : Int), ((c.toNat % 16 : Nat) : Int)]
def dsum : List UInt8 → Nat
  | [] => 0
  | c :: r => c.toNat / 16 + c.toNat % 16 + dsum r
theorem dg_snoc (l : List UInt8) (c : UInt8) : dg (l ++ [c]) = dg l ++ [((c.toNat / 16 : Nat) : Int), ((c.toNat % 16 : Nat) : Int)] := by simp [dg]
theorem dg_length (l : List UInt8) : (dg l).length = 2 * l.length := by
  induction l with
  | nil => rfl
  | cons c r ih => simp only [dg, List.flatMap_cons, List.length_append, List.length_cons, List.length_nil] at *; omega
theorem dsum_append (a b : List UInt8) : dsum (a ++ b) = dsum a + dsum b := by
  induction a with
  | nil => simp [dsum]
  | cons c r ih => simp [dsum, ih]; omega
theorem dsum_le (l : List UInt8) : dsum l ≤ 30 * l.length := by
  induction l with
  | nil => simp [dsum]
  | cons c r ih => have := c.toNat_lt; simp only [dsum, List.length_cons]; omega
/-- the 18 digits of a name -/
def digs (m : UInt64) : List Int := dg (nmb m) ++ [(((240 - dsum (nmb m)) / 16 : Nat) : Int), (((240 - dsum (nmb m)) % 16 : Nat) : Int)]
theorem digs_length (m : UInt64) : (digs m).length = 18 := by simp [digs, dg_length, nmb_length]
theorem and15 (c : UInt8) : bits .and .u8 (c.toNat : Int) 15 = ((c.toNat % 16 : Nat) : Int) := by
  have h := c.toNat_lt
  rw [show (15 : Int) = ((15 : Nat) : Int) from rfl, u8_and_nat _ _ h (by omega)]
  rw [show (15 : Nat) = 2 ^ 4 - 1 from rfl, Nat.and_two_pow_sub_one_eq_mod]
theorem ofInt_i64' (a : Nat) (ha : a < 9223372036854775808) : (BitVec.ofInt 64 (a : Int)).toNat = a := by
  rw [BitVec.ofInt_natCast, BitVec.toNat_ofNat]; exact Nat.mod_eq_of_lt (by omega)
theorem and15i (a : Nat) (ha : a < 9223372036854775808) : bits .and .i64 (a : Int) 15 = ((a % 16 : Nat) : Int) := by
  have hx : a &&& 15 = a % 16 := by rw [show (15 : Nat) = 2 ^ 4 - 1 from rfl, Nat.and_two_pow_sub_one_eq_mod]
  show IntKind.i64.wrap ((BitVec.ofInt 64 (a : Int) &&& BitVec.ofInt 64 ((15 : Nat) : Int)).toNat : Int) = _
  rw [BitVec.toNat_and, ofInt_i64' a ha, ofInt_i64' 15 (by omega), IntKind.wrap_i64, hx]
  omega
theorem hmkI18 (w : World) : (Instr.makeSlice 22 (.int .i64 0) (.int .i64 18)).run Try.prog w = .ok (.slice (some ⟨w.heap.size, 0, none⟩) 0 18) (w.alloc (.cells (madeCells (Value.int .i64 0).cells 18) 3)) := by
  obtain ⟨i, hi, hz, hs, hby⟩ := intsE.get
  have h := run_make (P := Try.prog) w 22 3 i (.int .i64 0) intsE.ut hi hz .i64 .i64 0 18 (by omega) (by omega) (by rw [hby]; omega) (by omega)
  simpa [hs] using h
theorem Rd.new2 (w : World) (t : TypeId) (a b : Value) (g : Nat) (hg : w.heap.size = g) : Rd (w.alloc (.cells #[a, b] t)) (some ⟨g, 0, none⟩) [a, b] := by subst hg; exact Rd.of_blk (Blk.new w t #[a, b])
end Go.Proofs.Ytjlnmpjffogpdaa
namespace Go.Proofs.Ytjlnmpjffogpdaa
open Go.RowKit
set_option linter.unusedVariables false
set_option linter.unusedSimpArgs false
attribute [local go_sem ↓] Go.wp_at_zero Go.wp_at_succ

end Go.Proofs.Ytjlnmpjffogpdaa
