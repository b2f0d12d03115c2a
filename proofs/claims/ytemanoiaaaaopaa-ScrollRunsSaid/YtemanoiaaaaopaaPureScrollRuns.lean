/- ScrollRuns: the plain law (nothing is left of it: the walk tells all). -/
import Derived.Test.YtemanoiaaaaopaaStmScrollRuns
namespace Go.Proofs.Ytemanoiaaaaopaa.PureScrollRuns
open Go.RowKit Go.Proofs.Ytemanoiaaaaopaa.PScrollRuns
theorem pure : StmScrollRuns.Pure := ⟨0, rfl⟩
end Go.Proofs.Ytemanoiaaaaopaa.PureScrollRuns
