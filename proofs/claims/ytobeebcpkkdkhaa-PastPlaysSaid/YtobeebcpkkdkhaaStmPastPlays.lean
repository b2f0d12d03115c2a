/- The pure statement of PastPlays, over the printed functions. -/
import Derived.Test.YtobeebcpkkdkhaaPPastPlaysx3
namespace Go.Proofs.Ytobeebcpkkdkhaa.StmPastPlays
open Go.RowKit Go.Proofs.Ytobeebcpkkdkhaa.PPastPlays Go.Proofs.YtobeebcpkkdkhaaW.PrintWords
def Pure : Prop := ∀ (a0 : ByteArray) (a1 : List (S49)), (a0.size ≤ 140737488351232) → (a1.length * 40 ≤ 140737488351232 ∧ ∀ x ∈ a1, (Lit.int .i64 x.f0).wf = true ∧ (Lit.int .i64 x.f1).wf = true ∧ (Lit.int .u64 x.f2).wf = true ∧ x.f3.size ≤ 140737488351232) → ∃ k, porticolaw11_PastPlays.f k a0 a1 = some true
end Go.Proofs.Ytobeebcpkkdkhaa.StmPastPlays
