/- LifeMixed in the form in which rows are written (wip/tools/rowgen.py): by hand (XLifeMixed). -/
import Derived.Test.YtnpmmmgaghhndaaLifeMixed
set_option linter.unusedVariables false
namespace Go.Proofs.Ytnpmmmgaghhndaa.PLifeMixed
open Go.RowKit Go.Proofs.YtnpmmmgaghhndaaW.PrintWords
def porticolaw19_LifeMixed.f (k : Nat) (l0 : List Int) (l1 : List Int) (l2 : List Bool) : Option (Bool) := some true
theorem porticolaw19_LifeMixed.calls (k : Nat) (A0 : Option Addr) (c0 : Nat) (l0 : List Int) (A1 : Option Addr) (c1 : Nat) (l1 : List Int) (A2 : Option Addr) (c2 : Nat) (l2 : List Bool) (r : Bool) (w : World) (hr0 : Kd.C (Kd.int .i64) w A0 l0.length l0) (hc0 : l0.length ≤ c0) (hr1 : Kd.C (Kd.int .i64) w A1 l1.length l1) (hc1 : l1.length ≤ c1) (hr2 : Kd.C Kd.bool w A2 l2.length l2) (hc2 : l2.length ≤ c2) (h : porticolaw19_LifeMixed.f k l0 l1 l2 = some r) :
    Calls Try.prog 7 #[.slice A0 l0.length c0, .slice A1 l1.length c1, .slice A2 l2.length c2] w fun e w' => e = .returned (.bool r) ∧ Below w.heap.size w w' := by
  obtain rfl := Option.some.inj h
  exact Go.Proofs.Ytnpmmmgaghhndaa.Lf.LifeMixed_any A0 c0 l0 A1 c1 l1 A2 c2 l2 w hr0 hc0 hr1 hc1 hr2 hc2
end Go.Proofs.Ytnpmmmgaghhndaa.PLifeMixed
