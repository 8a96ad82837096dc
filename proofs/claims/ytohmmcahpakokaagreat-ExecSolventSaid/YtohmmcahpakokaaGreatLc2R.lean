/- The row of ExecSolvent: its last step, apart from the walk. -/
import Derived.ProofKit
import Derived.OpenShut
import Derived.ShutString
import Derived.ChangeOld
import Derived.Below
import Derived.SizedLaws
import Derived.Test.YtohmmcahpakokaaGreatG00
set_option maxRecDepth 100000
set_option maxHeartbeats 8000000
set_option linter.unusedVariables false
set_option linter.unusedSimpArgs false
namespace Go.Proofs.YtohmmcahpakokaaGreat.execSolvent
open Go.ChangeShapes Go.WideShapes Go.ChangeAt Go.RowKit
theorem over_of (hl:∀ (os:Os) (started:os.Started) (H:Type) (enc:TypeId × Value→H),ReturnsInHanded {} Tryz.checked os 8 .any (Rows.execSolventSpec.pre6 enc Tryz.prog Tryz.f8 Rows.execSolventRow.domain false) (Rows.execSolventSpec.post enc Tryz.prog Tryz.f8 false true false false)):Rows.execSolventRow.holds Tryz.pinned (OpenSpec.ofChange Rows.execSolventSpec) :=
 OpenClaim.holds_of_wide 8 Tryz.f8 rfl rfl rfl rfl rfl rfl rfl ⟨rfl,rfl,rfl,rfl,rfl⟩ rfl rfl rfl rfl rfl (by kernel_rfl) Tryz.func8 (by kernel_rfl)
  (of_decide_eq_true (by kernel_rfl)) (by unfold Func.isWrapper;first | (rw [if_pos (by decide +kernel)];kernel_rfl) | (rw [if_neg (by decide +kernel)];exact ⟨rfl,rfl⟩))
  (fun os started H enc _=>hl os started H enc)
end Go.Proofs.YtohmmcahpakokaaGreat.execSolvent
