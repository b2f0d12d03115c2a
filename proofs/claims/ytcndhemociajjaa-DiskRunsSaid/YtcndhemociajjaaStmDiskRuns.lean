/- The pure statement of DiskRuns, over the printed functions. -/
import Derived.Test.YtcndhemociajjaaPDiskRunsx9
namespace Go.Proofs.Ytcndhemociajjaa.StmDiskRuns
open Go.RowKit Go.Proofs.Ytcndhemociajjaa.PDiskRuns Go.Proofs.YtcndhemociajjaaW.PrintWords
def Pure : Prop := ∃ k, porticolaw23_DiskRuns.f k  = some true
end Go.Proofs.Ytcndhemociajjaa.StmDiskRuns
