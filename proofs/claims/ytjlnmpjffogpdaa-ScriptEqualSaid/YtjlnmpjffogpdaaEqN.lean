/- Two names held against each other. -/
import Derived.Test.YtjlnmpjffogpdaaNm
import Derived.DeepKeys
namespace Go.Proofs.Ytjlnmpjffogpdaa
open Go.RowKit
set_option linter.unusedVariables false
set_option linter.unusedSimpArgs false
def litB (c : UInt8) : Lit := .int .u8 (c.toNat : Int)
theorem litB_wf (c : UInt8) : (Lit.int .u8 (c.toNat : Int)).wf = true := by
  have := c.toNat_lt
  simp [Lit.wf, IntKind.min, IntKind.max, IntKind.signed, IntKind.bits]; omega
theorem keyByte (c : UInt8) : Try.prog.keyLits 1 5 [.int .u8 (c.toNat : Int)] = some [litB c] := by
  unfold Program.keyLits
  rw [Try.underlying5]
  simp only
  rw [if_pos ⟨trivial, litB_wf c⟩]; rfl
theorem cellsU8' : Try.prog.cellsOf 5 = 1 := by kernel_rfl
theorem cellsN : Try.prog.cellsOf 26 = 8 := by kernel_rfl
theorem keyName (n : UInt64) : Try.prog.keyLits 2 26 (bcs (nmb n)) = some ((nmb n).map litB) := by
  unfold Program.keyLits
  rw [Try.underlying26]
  simp only
  rw [if_pos (by rw [bcs_length, nmb_length, cellsN]), cellsU8']
  rw [nmb_list n]
  generalize (nmb n).getD 0 0 = x0
  generalize (nmb n).getD 1 0 = x1
  generalize (nmb n).getD 2 0 = x2
  generalize (nmb n).getD 3 0 = x3
  generalize (nmb n).getD 4 0 = x4
  generalize (nmb n).getD 5 0 = x5
  generalize (nmb n).getD 6 0 = x6
  generalize (nmb n).getD 7 0 = x7
  rw [show List.range 8 = [0, 1, 2, 3, 4, 5, 6, 7] from rfl]
  simp only [bcs, bv, List.map_cons, List.map_nil, List.mapM_cons, List.mapM_nil, Nat.zero_mul, Nat.one_mul, Nat.mul_one, List.drop_zero, List.drop_succ_cons, List.take_succ_cons, List.take_zero, keyByte]
  rfl
theorem litB_inj {a b : UInt64} (h : (nmb a).map litB = (nmb b).map litB) : a = b := by
  refine nmb_inj ?_
  have hf : ∀ x y : UInt8, litB x = litB y → x = y := fun x y e => by
    unfold litB at e; injection e with _ e; exact UInt8.toNat_inj.1 (by omega)
  exact List.map_inj_right hf |>.1 h
theorem run_eqN (a b : UInt64) (w : World) : (binOp .eql 26 (.agg (nmc a)) (.agg (nmc b))).run Try.prog w = .ok (.bool (decide (a = b))) w := by
  have hE := run_equalIn_deep (P := Try.prog) 9998 2 26 (by kernel_rfl)
  have hfm : ∀ n : UInt64, (Value.agg (nmc n)).formed Try.prog 26 = true := fun n => by
    simp [Value.formed, Try.underlying26, nmc_size, cellsN]
  have hk : ∀ n : UInt64, Try.prog.keyLits 2 26 (Value.agg (nmc n)).cells.toList = some ((nmb n).map litB) := fun n => by
    show Try.prog.keyLits 2 _ (nmc n).toList = _
    rw [nmc_toList]; exact keyName n
  obtain ⟨r, hr, hiff⟩ := hE w 2 2 _ _ _ _ (hfm a) (hfm b) (hk a) (hk b)
  rw [run_eql_struct]
  have hr' : (Op.equalIn 10000 26 (.agg (nmc a)) (.agg (nmc b))).run Try.prog w = .ok r w := hr
  rw [hr']
  have : r = decide (a = b) := by
    by_cases h : a = b
    · subst h; simp [hiff.2 rfl]
    · have : r ≠ true := fun e => h (litB_inj (hiff.1 e))
      simp [h, this]
  rw [this]; rfl
theorem run_eqSame (a : UInt64) (w : World) : (binOp .eql 26 (.agg (nmc a)) (.agg (nmc a))).run Try.prog w = .ok (.bool true) w := by
  rw [run_eqN]; simp
end Go.Proofs.Ytjlnmpjffogpdaa
