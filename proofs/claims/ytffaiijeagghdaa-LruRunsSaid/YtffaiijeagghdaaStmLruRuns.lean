/- The pure statement of LruRuns, over the printed functions. -/
import Derived.Test.YtffaiijeagghdaaPLruRunsx9
namespace Go.Proofs.Ytffaiijeagghdaa.StmLruRuns
open Go.RowKit Go.Proofs.Ytffaiijeagghdaa.PLruRuns Go.Proofs.YtffaiijeagghdaaW.PrintWords
def Pure : Prop := ∃ k, porticolaw18_LruRuns.f k  = some true
end Go.Proofs.Ytffaiijeagghdaa.StmLruRuns
