/- PctBack in the form in which rows are written (wip/tools/rowgen.py): by hand (XPctBack). -/
import Derived.Test.YtpgpebpjehnooaaPctBack
set_option linter.unusedVariables false
namespace Go.Proofs.Ytpgpebpjehnooaa.PPctBack
open Go.RowKit Go.Proofs.YtpgpebpjehnooaaW.PrintWords
def porticolaw3_PctBack.f (k : Nat) (a0 : ByteArray) (a1 : ByteArray) (a2 : ByteArray) : Option (Bool) := some true
theorem porticolaw3_PctBack.calls (k : Nat) (a0 : ByteArray) (a1 : ByteArray) (a2 : ByteArray) (r : Bool) (w : World) (h : porticolaw3_PctBack.f k a0 a1 a2 = some r) :
    Calls Try.prog 5 #[.string a0, .string a1, .string a2] w fun e w' => e = .returned (.bool r) ∧ Below w.heap.size w w' := by
  obtain rfl := Option.some.inj h
  exact Go.Proofs.Ytpgpebpjehnooaa.Pct.PctBack_any a0 a1 a2 w
end Go.Proofs.Ytpgpebpjehnooaa.PPctBack
