/- The pure statement of PastFrom, over the printed functions. -/
import Derived.Test.YtobeebcpkkdkhaaPPastFromx3
namespace Go.Proofs.Ytobeebcpkkdkhaa.StmPastFrom
open Go.RowKit Go.Proofs.Ytobeebcpkkdkhaa.PPastFrom Go.Proofs.YtobeebcpkkdkhaaW.PrintWords
def Pure : Prop := ∀ (a0 : List (S28)) (a1 : Int), (a0.length * 24 ≤ 140737488351232 ∧ ∀ x ∈ a0, x.f0.size ≤ 140737488351232 ∧ (Lit.int .u64 x.f1).wf = true) → ((Lit.int .i64 a1).wf = true) → ∃ k, porticolaw11_PastFrom.f k a0 a1 = some true
end Go.Proofs.Ytobeebcpkkdkhaa.StmPastFrom
