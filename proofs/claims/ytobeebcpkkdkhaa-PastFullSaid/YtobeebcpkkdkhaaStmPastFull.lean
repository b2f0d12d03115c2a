/- The pure statement of PastFull, over the printed functions. -/
import Derived.Test.YtobeebcpkkdkhaaPPastFullx3
namespace Go.Proofs.Ytobeebcpkkdkhaa.StmPastFull
open Go.RowKit Go.Proofs.Ytobeebcpkkdkhaa.PPastFull Go.Proofs.YtobeebcpkkdkhaaW.PrintWords
def Pure : Prop := ∀ (a0 : ByteArray) (a1 : Int) (a2 : Int), (a0.size ≤ 140737488351232) → ((Lit.int .i64 a1).wf = true) → ((Lit.int .u64 a2).wf = true) → ∃ k, porticolaw11_PastFull.f k a0 a1 a2 = some true
end Go.Proofs.Ytobeebcpkkdkhaa.StmPastFull
