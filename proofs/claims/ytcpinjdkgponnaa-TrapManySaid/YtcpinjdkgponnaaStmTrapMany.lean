/- The pure statement of TrapMany, over the printed functions. -/
import Derived.Test.YtcpinjdkgponnaaPTrapManyx2
namespace Go.Proofs.Ytcpinjdkgponnaa.StmTrapMany
open Go.RowKit Go.Proofs.Ytcpinjdkgponnaa.PTrapMany Go.Proofs.YtcpinjdkgponnaaW.PrintWords
def Pure : Prop := ∀ (a0 : List (Bool)) (a1 : ByteArray), (a0.length * 1 ≤ 140737488351232) → (a1.size ≤ 140737488351232) → ∃ k, porticolaw2_TrapMany.f k a0 a1 = some true
end Go.Proofs.Ytcpinjdkgponnaa.StmTrapMany
