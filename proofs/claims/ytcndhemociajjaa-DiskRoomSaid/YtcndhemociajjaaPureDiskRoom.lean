/- DiskRoom: the plain law (nothing is left of it: the walk tells all). -/
import Derived.Test.YtcndhemociajjaaStmDiskRoom
namespace Go.Proofs.Ytcndhemociajjaa.PureDiskRoom
open Go.RowKit Go.Proofs.Ytcndhemociajjaa.PDiskRoom
theorem pure : StmDiskRoom.Pure := by
  unfold StmDiskRoom.Pure
  intros
  exact ⟨0, rfl⟩
end Go.Proofs.Ytcndhemociajjaa.PureDiskRoom
