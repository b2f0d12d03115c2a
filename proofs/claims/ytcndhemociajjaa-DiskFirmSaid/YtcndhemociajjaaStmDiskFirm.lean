/- The pure statement of DiskFirm, over the printed functions. -/
import Derived.Test.YtcndhemociajjaaPDiskFirmx9
namespace Go.Proofs.Ytcndhemociajjaa.StmDiskFirm
open Go.RowKit Go.Proofs.Ytcndhemociajjaa.PDiskFirm Go.Proofs.YtcndhemociajjaaW.PrintWords
def Pure : Prop := ∀ (a0 : List (Int)) (a1 : List (Int)) (a2 : Int) (a3 : Int), (a0.length * 1 ≤ 140737488351232 ∧ ∀ x ∈ a0, (Lit.int .u8 x).wf = true) → (a1.length * 1 ≤ 140737488351232 ∧ ∀ x ∈ a1, (Lit.int .u8 x).wf = true) → ((Lit.int .i64 a2).wf = true) → ((Lit.int .i64 a3).wf = true) → ∃ k, porticolaw23_DiskFirm.f k a0 a1 a2 a3 = some true
end Go.Proofs.Ytcndhemociajjaa.StmDiskFirm
