/- PastThere in the form in which rows are written (wip/tools/rowgen.py): by hand (XPastThere). -/
import Derived.Test.YtobeebcpkkdkhaaPastThere
set_option linter.unusedVariables false
namespace Go.Proofs.Ytobeebcpkkdkhaa.PPastThere
open Go.RowKit Go.Proofs.YtobeebcpkkdkhaaW.PrintWords Go.Proofs.Ytobeebcpkkdkhaa.Pa
def porticolaw11_PastThere.f (k : Nat) (a0 : Int) (a1 : ByteArray) (a2 : Int) (a3 : Int) : Option (Bool) := some true
theorem porticolaw11_PastThere.calls (k : Nat) (a0 : Int) (a1 : ByteArray) (a2 : Int) (a3 : Int) (r : Bool) (w : World) (h : porticolaw11_PastThere.f k a0 a1 a2 a3 = some r) :
    Calls Try.prog 4 #[.int .i64 a0, .string a1, .int .i64 a2, .int .i64 a3] w fun e w' => e = .returned (.bool r) ∧ Below w.heap.size w w' := by
  obtain rfl := Option.some.inj h
  exact PastThere_any a0 a1 a2 a3 w
end Go.Proofs.Ytobeebcpkkdkhaa.PPastThere
