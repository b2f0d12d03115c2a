/- PastRuns in the form in which rows are written (wip/tools/rowgen.py): by hand (XPastRuns). -/
import Derived.Test.YtobeebcpkkdkhaaPastRuns
set_option linter.unusedVariables false
namespace Go.Proofs.Ytobeebcpkkdkhaa.PPastRuns
open Go.RowKit Go.Proofs.YtobeebcpkkdkhaaW.PrintWords Go.Proofs.Ytobeebcpkkdkhaa.Pa
def porticolaw11_PastRuns.f (k : Nat) : Option (Bool) := some true
theorem porticolaw11_PastRuns.calls (k : Nat) (r : Bool) (w : World) (h : porticolaw11_PastRuns.f k = some r) :
    Calls Try.prog 3 #[] w fun e w' => e = .returned (.bool r) ∧ Below w.heap.size w w' := by
  obtain rfl := Option.some.inj h
  exact PastRuns_any w
end Go.Proofs.Ytobeebcpkkdkhaa.PPastRuns
