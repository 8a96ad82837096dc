/- The reference's AppendUint, num, name. -/
import Derived.Test.YtjlnmpjffogpdaaBk5
import Derived.Test.YtjlnmpjffogpdaaEqN
namespace Go.Proofs.Ytjlnmpjffogpdaa
open Go.RowKit
set_option linter.unusedVariables false
set_option linter.unusedSimpArgs false
attribute [local go_sem ↓] Go.wp_at_zero Go.wp_at_succ

/-- the bytes of an int -/
def beI (wd : Nat) (z : Int) : List UInt8 := beBytes wd (z % 18446744073709551616).toNat
theorem beI_length (wd : Nat) (z : Int) : (beI wd z).length = wd := beBytes_length _ _
def uI (z : Int) : UInt64 := UInt64.ofNat (z % 18446744073709551616).toNat
theorem uI_un (z : Int) : IntKind.u64.wrap z = un (uI z) := by
  rw [IntKind.wrap_u64]; unfold un uI; rw [UInt64.toNat_ofNat_of_lt' (by simp [UInt64.size]; omega)]; omega
theorem uI_nat (z : Int) : (uI z).toNat = (z % 18446744073709551616).toNat := by
  unfold uI; rw [UInt64.toNat_ofNat_of_lt' (by simp [UInt64.size]; omega)]
end Go.Proofs.Ytjlnmpjffogpdaa
