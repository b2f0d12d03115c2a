/- TrapCatches in the form in which rows are written (wip/tools/rowgen.py): by hand (XTrapCatches). -/
import Derived.Test.YtcpinjdkgponnaaTrapCatches
set_option linter.unusedVariables false
namespace Go.Proofs.Ytcpinjdkgponnaa.PTrapCatches
open Go.RowKit Go.Proofs.YtcpinjdkgponnaaW.PrintWords Go.Proofs.Ytcpinjdkgponnaa.Trap
def porticolaw2_TrapCatches.f (k : Nat) (a0 : Int) (a1 : ByteArray) (a2 : Int) (a3 : Int) : Option (Bool) := some true
theorem porticolaw2_TrapCatches.calls (k : Nat) (a0 : Int) (a1 : ByteArray) (a2 : Int) (a3 : Int) (r : Bool) (w : World) (h : porticolaw2_TrapCatches.f k a0 a1 a2 a3 = some r) :
    Calls Try.prog 4 #[.int .i64 a0, .string a1, .int .i64 a2, .int .i64 a3] w fun e w' => e = .returned (.bool r) ∧ Below w.heap.size w w' := by
  obtain rfl := Option.some.inj h
  exact TrapCatches_any a0 a1 a2 a3 w
end Go.Proofs.Ytcpinjdkgponnaa.PTrapCatches
