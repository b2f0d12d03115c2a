/- LruLast: the plain law (nothing is left of it: the walk tells all). -/
import Derived.Test.YtffaiijeagghdaaStmLruLast
namespace Go.Proofs.Ytffaiijeagghdaa.PureLruLast
open Go.RowKit Go.Proofs.Ytffaiijeagghdaa.PLruLast
theorem pure : StmLruLast.Pure := by
  unfold StmLruLast.Pure
  intros
  exact ⟨0, rfl⟩
end Go.Proofs.Ytffaiijeagghdaa.PureLruLast
