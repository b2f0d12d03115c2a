/- ScrollRuns in the form in which rows are written (wip/tools/rowgen.py): by hand (XScrollRuns). -/
import Derived.Test.YtemanoiaaaaopaaScrollRuns
set_option linter.unusedVariables false
namespace Go.Proofs.Ytemanoiaaaaopaa.PScrollRuns
open Go.RowKit Go.Proofs.YtemanoiaaaaopaaW.PrintWords Go.Proofs.Ytemanoiaaaaopaa.Fl
def porticolaw1_ScrollRuns.f (k : Nat) : Option (Bool) := some true
theorem porticolaw1_ScrollRuns.calls (k : Nat) (r : Bool) (w : World) (h : porticolaw1_ScrollRuns.f k = some r) :
    Calls Try.prog 3 #[] w fun e w' => e = .returned (.bool r) ∧ Below w.heap.size w w' := by
  obtain rfl := Option.some.inj h
  refine (ScrollRuns_any w).mono ?_
  rintro e w' ⟨rfl, n, rfl⟩
  exact ⟨rfl, pw_below_drewN (Below.refl _ _) n⟩
end Go.Proofs.Ytemanoiaaaaopaa.PScrollRuns
