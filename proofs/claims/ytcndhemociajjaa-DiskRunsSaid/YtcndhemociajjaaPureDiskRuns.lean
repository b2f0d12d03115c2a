/- DiskRuns: the plain law (nothing is left of it: the walk tells all). -/
import Derived.Test.YtcndhemociajjaaStmDiskRuns
namespace Go.Proofs.Ytcndhemociajjaa.PureDiskRuns
open Go.RowKit Go.Proofs.Ytcndhemociajjaa.PDiskRuns
theorem pure : StmDiskRuns.Pure := by
  unfold StmDiskRuns.Pure
  intros
  exact ⟨0, rfl⟩
end Go.Proofs.Ytcndhemociajjaa.PureDiskRuns
