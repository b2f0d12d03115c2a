/- The pure statement of URLRuns, over the printed functions. -/
import Derived.Test.YtcaaggfobdfgpaaDoorPURLRunsx4
namespace Go.Proofs.YtcaaggfobdfgpaaDoor.StmURLRuns
open Go.RowKit Go.Proofs.YtcaaggfobdfgpaaDoor.PURLRuns Go.Proofs.YtcaaggfobdfgpaaDoorW.PrintWords
def Pure : Prop := ∃ k, porticolaw4_URLRuns.f k  = some true
end Go.Proofs.YtcaaggfobdfgpaaDoor.StmURLRuns
