/- LifeBegins: the plain law (nothing is left of it: the walk tells all). -/
import Derived.Test.YtnpmmmgaghhndaaStmLifeBegins
namespace Go.Proofs.Ytnpmmmgaghhndaa.PureLifeBegins
open Go.RowKit Go.Proofs.Ytnpmmmgaghhndaa.PLifeBegins
theorem pure : StmLifeBegins.Pure := by
  unfold StmLifeBegins.Pure
  intros
  exact ⟨0, rfl⟩
end Go.Proofs.Ytnpmmmgaghhndaa.PureLifeBegins
