import Derived.ProofKit
import Derived.OpenShut
import Derived.ShutString
import Derived.ChangeOld
import Derived.Below
import Derived.SizedLaws
import Derived.Test.YtgmnmjeccfnmbaaGreatE00
set_option maxRecDepth 100000
set_option maxHeartbeats 8000000
set_option linter.unusedVariables false
set_option linter.unusedSimpArgs false
namespace Go.Proofs.YtgmnmjeccfnmbaaGreat.execExecute
open Go.Proofs.Tryz
open Go.ChangeShapes Go.WideShapes Go.ChangeAt Go.RowKit
theorem over_of (hl:∀ (os:Os) (started:os.Started) (H:Type) (enc:TypeId × Value→H),ReturnsInHanded {} Tryz.checked os 3 .any (Rows.execExecuteSpec.pre6 enc prog Tryz.f3 Rows.execExecuteRow.domain false) (Rows.execExecuteSpec.post enc prog Tryz.f3 false true false false)):Rows.execExecuteRow.holds Tryz.pinned (OpenSpec.ofChange Rows.execExecuteSpec) :=
 OpenClaim.holds_of_wide 3 Tryz.f3 rfl rfl rfl rfl rfl rfl rfl ⟨rfl,rfl,rfl,rfl,rfl⟩ rfl rfl rfl rfl rfl (by kernel_rfl) func3 (by kernel_rfl)
  (of_decide_eq_true (by kernel_rfl)) (by unfold Func.isWrapper;first | (rw [if_pos (by decide +kernel)];kernel_rfl) | (rw [if_neg (by decide +kernel)];exact ⟨rfl,rfl⟩))
  (fun os started H enc _=>hl os started H enc)
end Go.Proofs.YtgmnmjeccfnmbaaGreat.execExecute
