/- The row of ExecCover: its last step, apart from the walk. -/
import Derived.ProofKit
import Derived.OpenShut
import Derived.ShutString
import Derived.ChangeOld
import Derived.Below
import Derived.SizedLaws
import Derived.Test.YtohmmcahpakokaaGreatC00
set_option maxRecDepth 100000
set_option maxHeartbeats 8000000
set_option linter.unusedVariables false
set_option linter.unusedSimpArgs false
namespace Go.Proofs.YtohmmcahpakokaaGreat.execCover
open Go.ChangeShapes Go.WideShapes Go.ChangeAt Go.RowKit
theorem over_of (hl:∀ (os:Os) (started:os.Started) (H:Type) (enc:TypeId × Value→H),ReturnsInHanded {} Tryz.checked os 6 .any (Rows.execCoverSpec.pre6 enc Tryz.prog Tryz.f6 Rows.execCoverRow.domain false) (Rows.execCoverSpec.post enc Tryz.prog Tryz.f6 false true false false)):Rows.execCoverRow.holds Tryz.pinned (OpenSpec.ofChange Rows.execCoverSpec) :=
 OpenClaim.holds_of_wide 6 Tryz.f6 rfl rfl rfl rfl rfl rfl rfl ⟨rfl,rfl,rfl,rfl,rfl⟩ rfl rfl rfl rfl rfl (by kernel_rfl) Tryz.func6 (by kernel_rfl)
  (of_decide_eq_true (by kernel_rfl)) (by unfold Func.isWrapper;first | (rw [if_pos (by decide +kernel)];kernel_rfl) | (rw [if_neg (by decide +kernel)];exact ⟨rfl,rfl⟩))
  (fun os started H enc _=>hl os started H enc)
end Go.Proofs.YtohmmcahpakokaaGreat.execCover
