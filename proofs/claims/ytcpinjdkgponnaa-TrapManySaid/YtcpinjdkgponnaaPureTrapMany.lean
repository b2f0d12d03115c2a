/- TrapMany: the plain law (nothing is left of it: the walk tells all). -/
import Derived.Test.YtcpinjdkgponnaaStmTrapMany
namespace Go.Proofs.Ytcpinjdkgponnaa.PureTrapMany
open Go.RowKit Go.Proofs.Ytcpinjdkgponnaa.PTrapMany
theorem pure : StmTrapMany.Pure := fun _ _ _ _ => ⟨0, rfl⟩
end Go.Proofs.Ytcpinjdkgponnaa.PureTrapMany
