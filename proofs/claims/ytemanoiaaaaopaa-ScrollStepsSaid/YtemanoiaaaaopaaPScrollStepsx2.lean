/- ScrollSteps in the form in which rows are written (wip/tools/rowgen.py): by hand (XScrollSteps). -/
import Derived.Test.YtemanoiaaaaopaaScrollSteps
import Derived.Test.YtemanoiaaaaopaaPScrollStepsx1
set_option linter.unusedVariables false
namespace Go.Proofs.Ytemanoiaaaaopaa.PScrollSteps
open Go.RowKit Go.Proofs.YtemanoiaaaaopaaW.PrintWords Go.Proofs.Ytemanoiaaaaopaa.Fl
def porticolaw1_ScrollSteps.f (k : Nat) (a0 : Int) (l1 : List Int) : Option (Bool) := some true
theorem porticolaw1_ScrollSteps.calls (k : Nat) (a0 : Int) (A1 : Option Addr) (c1 : Nat) (l1 : List Int) (r : Bool) (w : World) (hr1 : Kd.C (Kd.int .i64) w A1 l1.length l1) (hc1 : l1.length ≤ c1) (h : porticolaw1_ScrollSteps.f k a0 l1 = some r) :
    Calls Try.prog 6 #[.int .i64 a0, .slice A1 l1.length c1] w fun e w' => e = .returned (.bool r) ∧ Below w.heap.size w w' := by
  obtain rfl := Option.some.inj h
  refine ScrollSteps_any a0 A1 c1 l1 w (fun i hi => ?_)
  obtain ⟨ad, e, hc⟩ := Kd.at_int hr1 (i : Int) (by omega) (by omega)
  refine ⟨ad, e, ?_⟩
  have hg : rd l1 (i : Int) = l1[i] := by simp [rd, List.getD_eq_getElem?_getD, hi]
  rw [hg] at hc
  exact hc
end Go.Proofs.Ytemanoiaaaaopaa.PScrollSteps
