/- DiskRuns in the form in which rows are written (wip/tools/rowgen.py): by hand (XDiskRuns). -/
import Derived.Test.YtcndhemociajjaaDiskRuns
set_option linter.unusedVariables false
namespace Go.Proofs.Ytcndhemociajjaa.PDiskRuns
open Go.RowKit Go.Proofs.YtcndhemociajjaaW.PrintWords
def porticolaw23_DiskRuns.f (k : Nat) : Option (Bool) := some true
theorem porticolaw23_DiskRuns.calls (k : Nat) (r : Bool) (w : World) (h : porticolaw23_DiskRuns.f k = some r) :
    Calls Try.prog 3 #[] w fun e w' => e = .returned (.bool r) ∧ Below w.heap.size w w' := by
  obtain rfl := Option.some.inj h
  exact Go.Proofs.Ytcndhemociajjaa.Dk.DiskRuns_any w
end Go.Proofs.Ytcndhemociajjaa.PDiskRuns
