/- The pure statement of PastRuns, over the printed functions. -/
import Derived.Test.YtobeebcpkkdkhaaPPastRunsx3
namespace Go.Proofs.Ytobeebcpkkdkhaa.StmPastRuns
open Go.RowKit Go.Proofs.Ytobeebcpkkdkhaa.PPastRuns Go.Proofs.YtobeebcpkkdkhaaW.PrintWords
def Pure : Prop := ∃ k, porticolaw11_PastRuns.f k  = some true
end Go.Proofs.Ytobeebcpkkdkhaa.StmPastRuns
