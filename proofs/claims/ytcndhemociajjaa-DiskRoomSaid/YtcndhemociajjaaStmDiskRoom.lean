/- The pure statement of DiskRoom, over the printed functions. -/
import Derived.Test.YtcndhemociajjaaPDiskRoomx9
namespace Go.Proofs.Ytcndhemociajjaa.StmDiskRoom
open Go.RowKit Go.Proofs.Ytcndhemociajjaa.PDiskRoom Go.Proofs.YtcndhemociajjaaW.PrintWords
def Pure : Prop := ∀ (a0 : Int) (a1 : Int) (a2 : Int), ((Lit.int .i64 a0).wf = true) → ((Lit.int .i64 a1).wf = true) → ((Lit.int .i64 a2).wf = true) → ∃ k, porticolaw23_DiskRoom.f k a0 a1 a2 = some true
end Go.Proofs.Ytcndhemociajjaa.StmDiskRoom
