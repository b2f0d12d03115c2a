/- PastThere: the plain law (nothing is left of it: the walk tells all). -/
import Derived.Test.YtobeebcpkkdkhaaStmPastThere
namespace Go.Proofs.Ytobeebcpkkdkhaa.PurePastThere
open Go.RowKit Go.Proofs.Ytobeebcpkkdkhaa.PPastThere
theorem pure : StmPastThere.Pure := fun _ _ _ _ _ _ _ _ => ⟨0, rfl⟩
end Go.Proofs.Ytobeebcpkkdkhaa.PurePastThere
