/- TrapNests: the plain law (nothing is left of it: the walk tells all). -/
import Derived.Test.YtcpinjdkgponnaaStmTrapNests
namespace Go.Proofs.Ytcpinjdkgponnaa.PureTrapNests
open Go.RowKit Go.Proofs.Ytcpinjdkgponnaa.PTrapNests
theorem pure : StmTrapNests.Pure := fun _ _ _ _ => ⟨0, rfl⟩
end Go.Proofs.Ytcpinjdkgponnaa.PureTrapNests
