/- DiskRoom in the form in which rows are written (wip/tools/rowgen.py): by hand (XDiskRoom). -/
import Derived.Test.YtcndhemociajjaaDiskRoom
set_option linter.unusedVariables false
namespace Go.Proofs.Ytcndhemociajjaa.PDiskRoom
open Go.RowKit Go.Proofs.YtcndhemociajjaaW.PrintWords
def porticolaw23_DiskRoom.f (k : Nat) (a0 : Int) (a1 : Int) (a2 : Int) : Option (Bool) := some true
theorem porticolaw23_DiskRoom.calls (k : Nat) (a0 : Int) (a1 : Int) (a2 : Int) (r : Bool) (w : World) (h : porticolaw23_DiskRoom.f k a0 a1 a2 = some r) :
    Calls Try.prog 5 #[.int .i64 a0, .int .i64 a1, .int .i64 a2] w fun e w' => e = .returned (.bool r) ∧ Below w.heap.size w w' := by
  obtain rfl := Option.some.inj h
  exact Go.Proofs.Ytcndhemociajjaa.Dk.DiskRoom_any a0 a1 a2 w
end Go.Proofs.Ytcndhemociajjaa.PDiskRoom
