/- The pure statement of CodeEdges, over the printed functions. -/
import Derived.Test.YtgbhejkgnfkfgaaPCodeEdgesx9
namespace Go.Proofs.Ytgbhejkgnfkfgaa.StmCodeEdges
open Go.RowKit Go.Proofs.Ytgbhejkgnfkfgaa.PCodeEdges Go.Proofs.YtgbhejkgnfkfgaaW.PrintWords
def Pure : Prop := ∀ (a0 : Int) (a1 : Int), ((Lit.int .i64 a0).wf = true) → ((Lit.int .i64 a1).wf = true) → ∃ k, porticolaw24_CodeEdges.f k a0 a1 = some true
end Go.Proofs.Ytgbhejkgnfkfgaa.StmCodeEdges
