/- DecodeBlock: the walk. -/
import Derived.Test.YtjlnmpjffogpdaaBd1
namespace Go.Proofs.Ytjlnmpjffogpdaa
open Go.RowKit
set_option linter.unusedVariables false
set_option linter.unusedSimpArgs false
attribute [local go_sem ↓] Go.wp_at_zero Go.wp_at_succ

section
variable {o : Oper} {a : Act} {w : World} {ops : Array Oper} {rest : List Oper} {Q : Exit → Act → World → Prop}
end
def DecOut (w : World) (r : Option (UInt64 × List (Int × UInt64))) (e : Ending) (w' : World) : Prop :=
  Ext w w' ∧ ((r = none ∧ e = .returned (.tuple #[.agg zero9, .int .i64 4])) ∨ ∃ p L A n c, r = some (p, L) ∧ e = .returned (.tuple #[.agg (blkC p A n c), .int .i64 0]) ∧ SlC w' A n c L)
theorem decBlk_no1 {l : List UInt8} (h : stC (rRest 1 (rRest 8 (openU l 3))) (rNum 1 (rRest 8 (openU l 3))).toNat ≠ some []) : decBlk l = none := by
  unfold decBlk; simp only []; rw [if_neg (fun hh => h hh.1)]
theorem decBlk_no2 {l : List UInt8} (h : vldBlk (ltC (rRest 1 (rRest 8 (openU l 3))) (rNum 1 (rRest 8 (openU l 3))).toNat) = false) : decBlk l = none := by
  unfold decBlk; simp only []; rw [if_neg (fun hh => by rw [h] at hh; cases hh.2)]
theorem decBlk_yes {l : List UInt8} (h1 : stC (rRest 1 (rRest 8 (openU l 3))) (rNum 1 (rRest 8 (openU l 3))).toNat = some []) (h2 : vldBlk (ltC (rRest 1 (rRest 8 (openU l 3))) (rNum 1 (rRest 8 (openU l 3))).toNat) = true) : decBlk l = some (rName (openU l 3), ltC (rRest 1 (rRest 8 (openU l 3))) (rNum 1 (rRest 8 (openU l 3))).toNat) := by
  unfold decBlk; simp only []; rw [if_pos ⟨h1, h2⟩]
theorem blkC_all (p : UInt64) (A : Option Addr) (n c : Nat) : (blkC p A n c).all (·.oneCell') = true :=
  all_oneCell_toArray (fun u hu => by
    simp only [List.mem_cons, List.not_mem_nil, or_false] at hu
    rcases hu with rfl | rfl | rfl | rfl | rfl | rfl | rfl | rfl | rfl <;> rfl)
theorem zero9_all : zero9.all (·.oneCell') = true :=
  all_oneCell_toArray (fun u hu => by
    simp only [List.mem_cons, List.not_mem_nil, or_false] at hu
    rcases hu with rfl | rfl | rfl | rfl | rfl | rfl | rfl | rfl | rfl <;> rfl)
end Go.Proofs.Ytjlnmpjffogpdaa
