/- MatchTells in the form in which rows are written (wip/tools/rowgen.py): by hand (XMatchTells). -/
import Derived.Test.YtjpknhemnfokaaaMatchTells
set_option linter.unusedVariables false
namespace Go.Proofs.Ytjpknhemnfokaaa.PMatchTells
open Go.RowKit Go.Proofs.YtjpknhemnfokaaaW.PrintWords
def porticolaw14_MatchTells.f (k : Nat) (l0 : List Int) (l1 : List Int) : Option (Bool) := some true
theorem porticolaw14_MatchTells.calls (k : Nat) (A0 : Option Addr) (c0 : Nat) (l0 : List Int) (A1 : Option Addr) (c1 : Nat) (l1 : List Int) (r : Bool) (w : World) (hr0 : Kd.C (Kd.int .i64) w A0 l0.length l0) (hc0 : l0.length ≤ c0) (hr1 : Kd.C (Kd.int .i64) w A1 l1.length l1) (hc1 : l1.length ≤ c1) (h : porticolaw14_MatchTells.f k l0 l1 = some r) :
    Calls Try.prog 4 #[.slice A0 l0.length c0, .slice A1 l1.length c1] w fun e w' => e = .returned (.bool r) ∧ Below w.heap.size w w' := by
  obtain rfl := Option.some.inj h
  exact Go.Proofs.Ytjpknhemnfokaaa.Mt.MatchTells_any A0 c0 l0 A1 c1 l1 w hr0 hc0 hr1 hc1
end Go.Proofs.Ytjpknhemnfokaaa.PMatchTells
