/- Kind and Name of a text, the program's and the reference's. -/
import Derived.Test.YtjlnmpjffogpdaaNm
import Derived.Test.YtjlnmpjffogpdaaCod
namespace Go.Proofs.Ytjlnmpjffogpdaa
open Go.RowKit
set_option linter.unusedVariables false
set_option linter.unusedSimpArgs false
attribute [local go_sem ↓] Go.wp_at_zero Go.wp_at_succ

/-- the kind of a text -/
def kindU (l : List UInt8) : Int := match l with
  | [] => 0
  | c :: _ => if c.toNat < 1 then 0 else if 4 < c.toNat then 0 else (c.toNat : Int)
theorem kindU_at {l : List UInt8} (h : 0 < l.length) : kindU l = if (l[0]).toNat < 1 then (0 : Int) else if 4 < (l[0]).toNat then (0 : Int) else ((l[0]).toNat : Int) := by
  cases l with
  | nil => simp at h
  | cons c r => rfl
/-- v is from lo to hi -/
def wthn (v lo hi : Int) : Bool := decide (lo ≤ v ∧ v ≤ hi)
end Go.Proofs.Ytjlnmpjffogpdaa
