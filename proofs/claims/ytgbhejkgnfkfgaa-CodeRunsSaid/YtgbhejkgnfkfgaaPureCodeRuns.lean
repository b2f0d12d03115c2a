/- CodeRuns: the plain law (nothing is left of it: the walk tells all). -/
import Derived.Test.YtgbhejkgnfkfgaaStmCodeRuns
namespace Go.Proofs.Ytgbhejkgnfkfgaa.PureCodeRuns
open Go.RowKit Go.Proofs.Ytgbhejkgnfkfgaa.PCodeRuns
theorem pure : StmCodeRuns.Pure := by
  unfold StmCodeRuns.Pure
  intros
  exact ⟨0, rfl⟩
end Go.Proofs.Ytgbhejkgnfkfgaa.PureCodeRuns
