/- URLRuns, the plain law. -/
import Derived.Test.YtcaaggfobdfgpaaDoorStmURLRuns
import Derived.Test.YtcaaggfobdfgpaaDoorRunsURLRuns
namespace Go.Proofs.YtcaaggfobdfgpaaDoor.PureURLRuns
open Go.RowKit Go.Proofs.YtcaaggfobdfgpaaDoor.PURLRuns Go.Proofs.YtcaaggfobdfgpaaDoorW.PrintWords Go.Proofs.YtcaaggfobdfgpaaDoor.UURLRuns
theorem pure : StmURLRuns.Pure := by
  unfold StmURLRuns.Pure
  obtain ⟨K, hK⟩ : ∃ K, K = 4000 := ⟨_, rfl⟩
  exact ⟨K, runs_eq K (by omega)⟩
end Go.Proofs.YtcaaggfobdfgpaaDoor.PureURLRuns
