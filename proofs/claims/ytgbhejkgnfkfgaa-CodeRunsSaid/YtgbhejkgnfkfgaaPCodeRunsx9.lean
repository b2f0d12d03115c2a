/- CodeRuns in the form in which rows are written (wip/tools/rowgen.py): by hand (XCodeRuns). -/
import Derived.Test.YtgbhejkgnfkfgaaCodeRuns
set_option linter.unusedVariables false
namespace Go.Proofs.Ytgbhejkgnfkfgaa.PCodeRuns
open Go.RowKit Go.Proofs.YtgbhejkgnfkfgaaW.PrintWords
def porticolaw24_CodeRuns.f (k : Nat) : Option (Bool) := some true
theorem porticolaw24_CodeRuns.calls (k : Nat) (r : Bool) (w : World) (h : porticolaw24_CodeRuns.f k = some r) :
    Calls Try.prog 3 #[] w fun e w' => e = .returned (.bool r) ∧ Below w.heap.size w w' := by
  obtain rfl := Option.some.inj h
  exact Go.Proofs.Ytgbhejkgnfkfgaa.Cd.CodeRuns_any w
end Go.Proofs.Ytgbhejkgnfkfgaa.PCodeRuns
