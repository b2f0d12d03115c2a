/- CodeEdges: the plain law (nothing is left of it: the walk tells all). -/
import Derived.Test.YtgbhejkgnfkfgaaStmCodeEdges
namespace Go.Proofs.Ytgbhejkgnfkfgaa.PureCodeEdges
open Go.RowKit Go.Proofs.Ytgbhejkgnfkfgaa.PCodeEdges
theorem pure : StmCodeEdges.Pure := by
  unfold StmCodeEdges.Pure
  intros
  exact ⟨0, rfl⟩
end Go.Proofs.Ytgbhejkgnfkfgaa.PureCodeEdges
