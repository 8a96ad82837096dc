/- The row of ExecReplay: its last step, apart from the walk. -/
import Derived.ProofKit
import Derived.OpenShut
import Derived.ShutString
import Derived.ChangeOld
import Derived.Below
import Derived.SizedLaws
import Derived.Test.YtohmmcahpakokaaGreatH00
set_option maxRecDepth 100000
set_option maxHeartbeats 8000000
set_option linter.unusedVariables false
set_option linter.unusedSimpArgs false
namespace Go.Proofs.YtohmmcahpakokaaGreat.execReplay
open Go.ChangeShapes Go.WideShapes Go.ChangeAt Go.RowKit
theorem over_of (hl:∀ (os:Os) (started:os.Started) (H:Type) (enc:TypeId × Value→H),ReturnsInHanded {} Tryz.checked os 5 .any (Rows.execReplaySpec.pre6 enc Tryz.prog Tryz.f5 Rows.execReplayRow.domain false) (Rows.execReplaySpec.post enc Tryz.prog Tryz.f5 false true false false)):Rows.execReplayRow.holds Tryz.pinned (OpenSpec.ofChange Rows.execReplaySpec) :=
 OpenClaim.holds_of_wide 5 Tryz.f5 rfl rfl rfl rfl rfl rfl rfl ⟨rfl,rfl,rfl,rfl,rfl⟩ rfl rfl rfl rfl rfl (by kernel_rfl) Tryz.func5 (by kernel_rfl)
  (of_decide_eq_true (by kernel_rfl)) (by unfold Func.isWrapper;first | (rw [if_pos (by decide +kernel)];kernel_rfl) | (rw [if_neg (by decide +kernel)];exact ⟨rfl,rfl⟩))
  (fun os started H enc _=>hl os started H enc)
end Go.Proofs.YtohmmcahpakokaaGreat.execReplay
