/- MatchTells: the plain law (nothing is left of it: the walk tells all). -/
import Derived.Test.YtjpknhemnfokaaaStmMatchTells
namespace Go.Proofs.Ytjpknhemnfokaaa.PureMatchTells
open Go.RowKit Go.Proofs.Ytjpknhemnfokaaa.PMatchTells
theorem pure : StmMatchTells.Pure := by
  unfold StmMatchTells.Pure
  intros
  exact ⟨0, rfl⟩
end Go.Proofs.Ytjpknhemnfokaaa.PureMatchTells
