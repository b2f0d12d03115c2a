/- The pure statement of CodeRuns, over the printed functions. -/
import Derived.Test.YtgbhejkgnfkfgaaPCodeRunsx9
namespace Go.Proofs.Ytgbhejkgnfkfgaa.StmCodeRuns
open Go.RowKit Go.Proofs.Ytgbhejkgnfkfgaa.PCodeRuns Go.Proofs.YtgbhejkgnfkfgaaW.PrintWords
def Pure : Prop := ∃ k, porticolaw24_CodeRuns.f k  = some true
end Go.Proofs.Ytgbhejkgnfkfgaa.StmCodeRuns
