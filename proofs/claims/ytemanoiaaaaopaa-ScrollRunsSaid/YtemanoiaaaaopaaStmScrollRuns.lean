/- The pure statement of ScrollRuns, over the printed functions. -/
import Derived.Test.YtemanoiaaaaopaaPScrollRunsx2
namespace Go.Proofs.Ytemanoiaaaaopaa.StmScrollRuns
open Go.RowKit Go.Proofs.Ytemanoiaaaaopaa.PScrollRuns Go.Proofs.YtemanoiaaaaopaaW.PrintWords
def Pure : Prop := ∃ k, porticolaw1_ScrollRuns.f k  = some true
end Go.Proofs.Ytemanoiaaaaopaa.StmScrollRuns
