/- LifeBegins in the form in which rows are written (wip/tools/rowgen.py): by hand (XLifeBegins). -/
import Derived.Test.YtnpmmmgaghhndaaLifeBegins
set_option linter.unusedVariables false
namespace Go.Proofs.Ytnpmmmgaghhndaa.PLifeBegins
open Go.RowKit Go.Proofs.YtnpmmmgaghhndaaW.PrintWords
def porticolaw19_LifeBegins.f (k : Nat) (l0 : List Int) (a1 : Int) : Option (Bool) := some true
theorem porticolaw19_LifeBegins.calls (k : Nat) (A0 : Option Addr) (c0 : Nat) (l0 : List Int) (a1 : Int) (r : Bool) (w : World) (hr0 : Kd.C (Kd.int .i64) w A0 l0.length l0) (hc0 : l0.length ≤ c0) (h : porticolaw19_LifeBegins.f k l0 a1 = some r) :
    Calls Try.prog 5 #[.slice A0 l0.length c0, .int .i64 a1] w fun e w' => e = .returned (.bool r) ∧ Below w.heap.size w w' := by
  obtain rfl := Option.some.inj h
  exact Go.Proofs.Ytnpmmmgaghhndaa.Lf.LifeBegins_any A0 c0 l0 a1 w hr0 hc0
end Go.Proofs.Ytnpmmmgaghhndaa.PLifeBegins
