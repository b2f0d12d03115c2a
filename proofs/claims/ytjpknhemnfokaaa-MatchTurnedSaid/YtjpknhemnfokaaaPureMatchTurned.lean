/- MatchTurned: the plain law (nothing is left of it: the walk tells all). -/
import Derived.Test.YtjpknhemnfokaaaStmMatchTurned
namespace Go.Proofs.Ytjpknhemnfokaaa.PureMatchTurned
open Go.RowKit Go.Proofs.Ytjpknhemnfokaaa.PMatchTurned
theorem pure : StmMatchTurned.Pure := by
  unfold StmMatchTurned.Pure
  intros
  exact ⟨0, rfl⟩
end Go.Proofs.Ytjpknhemnfokaaa.PureMatchTurned
