/- MatchRuns in the form in which rows are written (wip/tools/rowgen.py): by hand (XMatchRuns). -/
import Derived.Test.YtjpknhemnfokaaaMatchRuns
set_option linter.unusedVariables false
namespace Go.Proofs.Ytjpknhemnfokaaa.PMatchRuns
open Go.RowKit Go.Proofs.YtjpknhemnfokaaaW.PrintWords
def porticolaw14_MatchRuns.f (k : Nat) : Option (Bool) := some true
theorem porticolaw14_MatchRuns.calls (k : Nat) (r : Bool) (w : World) (h : porticolaw14_MatchRuns.f k = some r) :
    Calls Try.prog 3 #[] w fun e w' => e = .returned (.bool r) ∧ Below w.heap.size w w' := by
  obtain rfl := Option.some.inj h
  exact Go.Proofs.Ytjpknhemnfokaaa.Mt.MatchRuns_any w
end Go.Proofs.Ytjpknhemnfokaaa.PMatchRuns
