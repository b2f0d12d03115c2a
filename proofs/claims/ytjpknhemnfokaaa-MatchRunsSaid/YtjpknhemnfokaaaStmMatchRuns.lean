/- The pure statement of MatchRuns, over the printed functions. -/
import Derived.Test.YtjpknhemnfokaaaPMatchRunsx9
namespace Go.Proofs.Ytjpknhemnfokaaa.StmMatchRuns
open Go.RowKit Go.Proofs.Ytjpknhemnfokaaa.PMatchRuns Go.Proofs.YtjpknhemnfokaaaW.PrintWords
def Pure : Prop := ∃ k, porticolaw14_MatchRuns.f k  = some true
end Go.Proofs.Ytjpknhemnfokaaa.StmMatchRuns
