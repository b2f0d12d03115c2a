/- URLGet: the plain law (nothing is left of it: the walk tells all). -/
import Derived.Test.YtcaaggfobdfgpaaDoorStmURLGet
namespace Go.Proofs.YtcaaggfobdfgpaaDoor.PureURLGet
open Go.RowKit Go.Proofs.YtcaaggfobdfgpaaDoor.PURLGet
theorem pure : StmURLGet.Pure := by
  unfold StmURLGet.Pure
  intro a b c _ _ ha hb _ _ _
  refine ⟨0, ?_⟩
  unfold porticolaw4_URLGet.f
  rw [if_pos ⟨by omega, by omega⟩]
end Go.Proofs.YtcaaggfobdfgpaaDoor.PureURLGet
