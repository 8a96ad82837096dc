/- The row of ExecAnyOrder: its last step, apart from the walk. -/
import Derived.ProofKit
import Derived.OpenShut
import Derived.ShutString
import Derived.ChangeOld
import Derived.Below
import Derived.SizedLaws
import Derived.Test.YtohmmcahpakokaaGreatJ00
set_option maxRecDepth 100000
set_option maxHeartbeats 8000000
set_option linter.unusedVariables false
set_option linter.unusedSimpArgs false
namespace Go.Proofs.YtohmmcahpakokaaGreat.execAnyOrder
open Go.ChangeShapes Go.WideShapes Go.ChangeAt Go.RowKit
theorem over_of (hl:∀ (os:Os) (started:os.Started) (H:Type) (enc:TypeId × Value→H),ReturnsInHanded {} Tryz.checked os 10 .any (Rows.execAnyOrderSpec.pre6 enc Tryz.prog Tryz.f10 Rows.execAnyOrderRow.domain false) (Rows.execAnyOrderSpec.post enc Tryz.prog Tryz.f10 false true false false)):Rows.execAnyOrderRow.holds Tryz.pinned (OpenSpec.ofChange Rows.execAnyOrderSpec) :=
 OpenClaim.holds_of_wide 10 Tryz.f10 rfl rfl rfl rfl rfl rfl rfl ⟨rfl,rfl,rfl,rfl,rfl⟩ rfl rfl rfl rfl rfl (by kernel_rfl) Tryz.func10 (by kernel_rfl)
  (of_decide_eq_true (by kernel_rfl)) (by unfold Func.isWrapper;first | (rw [if_pos (by decide +kernel)];kernel_rfl) | (rw [if_neg (by decide +kernel)];exact ⟨rfl,rfl⟩))
  (fun os started H enc _=>hl os started H enc)
end Go.Proofs.YtohmmcahpakokaaGreat.execAnyOrder
