/- LifeTells: the plain law (nothing is left of it but that a log's numbers are ints). -/
import Derived.Test.YtnpmmmgaghhndaaStmLifeTells
namespace Go.Proofs.Ytnpmmmgaghhndaa.PureLifeTells
open Go.RowKit Go.Proofs.Ytnpmmmgaghhndaa.PLifeTells Go.Proofs.Ytnpmmmgaghhndaa.PLifeBegins
theorem pure : StmLifeTells.Pure := by
  unfold StmLifeTells.Pure
  intro l0 l1 h0 h1
  refine ⟨0, ?_⟩
  unfold porticolaw19_LifeTells.f
  rw [if_pos]
  exact fun e he => (h0.2 e he).2
end Go.Proofs.Ytnpmmmgaghhndaa.PureLifeTells
