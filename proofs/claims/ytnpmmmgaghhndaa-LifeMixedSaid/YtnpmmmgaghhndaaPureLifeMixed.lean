/- LifeMixed: the plain law (nothing is left of it: the walk tells all). -/
import Derived.Test.YtnpmmmgaghhndaaStmLifeMixed
namespace Go.Proofs.Ytnpmmmgaghhndaa.PureLifeMixed
open Go.RowKit Go.Proofs.Ytnpmmmgaghhndaa.PLifeMixed
theorem pure : StmLifeMixed.Pure := by
  unfold StmLifeMixed.Pure
  intros
  exact ⟨0, rfl⟩
end Go.Proofs.Ytnpmmmgaghhndaa.PureLifeMixed
