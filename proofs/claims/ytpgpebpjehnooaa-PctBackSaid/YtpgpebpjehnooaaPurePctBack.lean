/- PctBack: the plain law (nothing is left of it: the walk tells all). -/
import Derived.Test.YtpgpebpjehnooaaStmPctBack
namespace Go.Proofs.Ytpgpebpjehnooaa.PurePctBack
open Go.RowKit Go.Proofs.Ytpgpebpjehnooaa.PPctBack
theorem pure : StmPctBack.Pure := by
  unfold StmPctBack.Pure
  intros
  exact ⟨0, rfl⟩
end Go.Proofs.Ytpgpebpjehnooaa.PurePctBack
