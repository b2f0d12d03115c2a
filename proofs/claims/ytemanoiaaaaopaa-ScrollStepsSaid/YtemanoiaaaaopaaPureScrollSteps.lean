/- ScrollSteps: the plain law (nothing is left of it: the walk tells all). -/
import Derived.Test.YtemanoiaaaaopaaStmScrollSteps
namespace Go.Proofs.Ytemanoiaaaaopaa.PureScrollSteps
open Go.RowKit Go.Proofs.Ytemanoiaaaaopaa.PScrollSteps
theorem pure : StmScrollSteps.Pure := fun _ _ _ _ => ⟨0, rfl⟩
end Go.Proofs.Ytemanoiaaaaopaa.PureScrollSteps
