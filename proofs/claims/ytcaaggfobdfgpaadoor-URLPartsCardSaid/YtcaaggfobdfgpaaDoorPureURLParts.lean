/- URLParts: the plain law (nothing is left of it: the walk tells all). -/
import Derived.Test.YtcaaggfobdfgpaaDoorStmURLParts
namespace Go.Proofs.YtcaaggfobdfgpaaDoor.PureURLParts
open Go.RowKit Go.Proofs.YtcaaggfobdfgpaaDoor.PURLParts
theorem pure : StmURLParts.Pure := by
  unfold StmURLParts.Pure
  intro a b c a' b' c' _ ha hb _ ha' hb' _ _
  refine ⟨0, ?_⟩
  unfold porticolaw4_URLParts.f
  rw [if_pos ⟨by omega, by omega, by omega, by omega⟩]
end Go.Proofs.YtcaaggfobdfgpaaDoor.PureURLParts
