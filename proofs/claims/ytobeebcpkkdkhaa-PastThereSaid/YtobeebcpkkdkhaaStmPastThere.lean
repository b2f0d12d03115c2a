/- The pure statement of PastThere, over the printed functions. -/
import Derived.Test.YtobeebcpkkdkhaaPPastTherex3
namespace Go.Proofs.Ytobeebcpkkdkhaa.StmPastThere
open Go.RowKit Go.Proofs.Ytobeebcpkkdkhaa.PPastThere Go.Proofs.YtobeebcpkkdkhaaW.PrintWords
def Pure : Prop := ∀ (a0 : Int) (a1 : ByteArray) (a2 : Int) (a3 : Int), ((Lit.int .i64 a0).wf = true) → (a1.size ≤ 140737488351232) → ((Lit.int .i64 a2).wf = true) → ((Lit.int .i64 a3).wf = true) → ∃ k, porticolaw11_PastThere.f k a0 a1 a2 a3 = some true
end Go.Proofs.Ytobeebcpkkdkhaa.StmPastThere
