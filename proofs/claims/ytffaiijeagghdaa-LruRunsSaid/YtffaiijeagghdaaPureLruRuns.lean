/- LruRuns: the plain law (nothing is left of it: the walk tells all). -/
import Derived.Test.YtffaiijeagghdaaStmLruRuns
namespace Go.Proofs.Ytffaiijeagghdaa.PureLruRuns
open Go.RowKit Go.Proofs.Ytffaiijeagghdaa.PLruRuns
theorem pure : StmLruRuns.Pure := by
  unfold StmLruRuns.Pure
  intros
  exact ⟨0, rfl⟩
end Go.Proofs.Ytffaiijeagghdaa.PureLruRuns
