/- LruRoom: the plain law (nothing is left of it: the walk tells all). -/
import Derived.Test.YtffaiijeagghdaaStmLruRoom
namespace Go.Proofs.Ytffaiijeagghdaa.PureLruRoom
open Go.RowKit Go.Proofs.Ytffaiijeagghdaa.PLruRoom
theorem pure : StmLruRoom.Pure := by
  unfold StmLruRoom.Pure
  intros
  exact ⟨0, rfl⟩
end Go.Proofs.Ytffaiijeagghdaa.PureLruRoom
