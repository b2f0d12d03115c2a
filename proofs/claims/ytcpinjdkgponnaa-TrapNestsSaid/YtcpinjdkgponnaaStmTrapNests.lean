/- The pure statement of TrapNests, over the printed functions. -/
import Derived.Test.YtcpinjdkgponnaaPTrapNestsx2
namespace Go.Proofs.Ytcpinjdkgponnaa.StmTrapNests
open Go.RowKit Go.Proofs.Ytcpinjdkgponnaa.PTrapNests Go.Proofs.YtcpinjdkgponnaaW.PrintWords
def Pure : Prop := ∀ (a0 : List (Bool)) (a1 : Int), (a0.length * 1 ≤ 140737488351232) → ((Lit.int .i64 a1).wf = true) → ∃ k, porticolaw2_TrapNests.f k a0 a1 = some true
end Go.Proofs.Ytcpinjdkgponnaa.StmTrapNests
