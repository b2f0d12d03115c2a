/- LruRuns in the form in which rows are written (wip/tools/rowgen.py): by hand (XLruRuns). -/
import Derived.Test.YtffaiijeagghdaaLruRuns
set_option linter.unusedVariables false
namespace Go.Proofs.Ytffaiijeagghdaa.PLruRuns
open Go.RowKit Go.Proofs.YtffaiijeagghdaaW.PrintWords
def porticolaw18_LruRuns.f (k : Nat) : Option (Bool) := some true
theorem porticolaw18_LruRuns.calls (k : Nat) (r : Bool) (w : World) (h : porticolaw18_LruRuns.f k = some r) :
    Calls Try.prog 3 #[] w fun e w' => e = .returned (.bool r) ∧ Below w.heap.size w w' := by
  obtain rfl := Option.some.inj h
  exact Go.Proofs.Ytffaiijeagghdaa.Lr.LruRuns_any w
end Go.Proofs.Ytffaiijeagghdaa.PLruRuns
