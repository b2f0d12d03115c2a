/- TrapCatches: the plain law (nothing is left of it: the walk tells all). -/
import Derived.Test.YtcpinjdkgponnaaStmTrapCatches
namespace Go.Proofs.Ytcpinjdkgponnaa.PureTrapCatches
open Go.RowKit Go.Proofs.Ytcpinjdkgponnaa.PTrapCatches
theorem pure : StmTrapCatches.Pure := fun _ _ _ _ _ _ _ _ => ⟨0, rfl⟩
end Go.Proofs.Ytcpinjdkgponnaa.PureTrapCatches
