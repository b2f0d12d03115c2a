/- RankTells: the plain law (nothing is left of it but the lengths). -/
import Derived.Test.YtfllecoenjljpaaStmRankTells
namespace Go.Proofs.Ytfllecoenjljpaa.PureRankTells
open Go.RowKit Go.Proofs.Ytfllecoenjljpaa.PRankTells
theorem pure : StmRankTells.Pure := by
  unfold StmRankTells.Pure
  intro l0 l1 h0 h1
  refine ⟨0, ?_⟩
  unfold porticolaw6_RankTells.f
  rw [if_pos]
  exact fun x hx => (h0.2 x hx).2.1.1
end Go.Proofs.Ytfllecoenjljpaa.PureRankTells
