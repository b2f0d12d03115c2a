/- MatchRuns: the plain law (nothing is left of it: the walk tells all). -/
import Derived.Test.YtjpknhemnfokaaaStmMatchRuns
namespace Go.Proofs.Ytjpknhemnfokaaa.PureMatchRuns
open Go.RowKit Go.Proofs.Ytjpknhemnfokaaa.PMatchRuns
theorem pure : StmMatchRuns.Pure := by
  unfold StmMatchRuns.Pure
  intros
  exact ⟨0, rfl⟩
end Go.Proofs.Ytjpknhemnfokaaa.PureMatchRuns
