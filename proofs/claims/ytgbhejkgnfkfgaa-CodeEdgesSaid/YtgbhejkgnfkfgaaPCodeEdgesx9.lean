/- CodeEdges in the form in which rows are written (wip/tools/rowgen.py): by hand (XCodeEdges). -/
import Derived.Test.YtgbhejkgnfkfgaaCodeEdges
set_option linter.unusedVariables false
namespace Go.Proofs.Ytgbhejkgnfkfgaa.PCodeEdges
open Go.RowKit Go.Proofs.YtgbhejkgnfkfgaaW.PrintWords
def porticolaw24_CodeEdges.f (k : Nat) (a0 : Int) (a1 : Int) : Option (Bool) := some true
theorem porticolaw24_CodeEdges.calls (k : Nat) (a0 : Int) (a1 : Int) (r : Bool) (w : World) (h : porticolaw24_CodeEdges.f k a0 a1 = some r) :
    Calls Try.prog 6 #[.int .i64 a0, .int .i64 a1] w fun e w' => e = .returned (.bool r) ∧ Below w.heap.size w w' := by
  obtain rfl := Option.some.inj h
  exact Go.Proofs.Ytgbhejkgnfkfgaa.Cd.CodeEdges_any a0 a1 w
end Go.Proofs.Ytgbhejkgnfkfgaa.PCodeEdges
