/- DiskFirm: the plain law (nothing is left of it: the walk tells all). -/
import Derived.Test.YtcndhemociajjaaStmDiskFirm
namespace Go.Proofs.Ytcndhemociajjaa.PureDiskFirm
open Go.RowKit Go.Proofs.Ytcndhemociajjaa.PDiskFirm
theorem pure : StmDiskFirm.Pure := by
  unfold StmDiskFirm.Pure
  intros
  exact ⟨0, rfl⟩
end Go.Proofs.Ytcndhemociajjaa.PureDiskFirm
