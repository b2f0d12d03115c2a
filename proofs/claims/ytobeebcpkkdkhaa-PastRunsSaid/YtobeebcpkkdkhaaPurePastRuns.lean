/- PastRuns: the plain law (nothing is left of it: the walk tells all). -/
import Derived.Test.YtobeebcpkkdkhaaStmPastRuns
namespace Go.Proofs.Ytobeebcpkkdkhaa.PurePastRuns
open Go.RowKit Go.Proofs.Ytobeebcpkkdkhaa.PPastRuns
theorem pure : StmPastRuns.Pure := ⟨0, rfl⟩
end Go.Proofs.Ytobeebcpkkdkhaa.PurePastRuns
