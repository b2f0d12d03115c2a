/- MatchTurned in the form in which rows are written (wip/tools/rowgen.py): by hand (XMatchTurned). -/
import Derived.Test.YtjpknhemnfokaaaMatchTurned
set_option linter.unusedVariables false
namespace Go.Proofs.Ytjpknhemnfokaaa.PMatchTurned
open Go.RowKit Go.Proofs.YtjpknhemnfokaaaW.PrintWords
def porticolaw14_MatchTurned.f (k : Nat) (a0 : Int) (a1 : Int) (l2 : List Int) : Option (Bool) := some true
theorem porticolaw14_MatchTurned.calls (k : Nat) (a0 : Int) (a1 : Int) (A2 : Option Addr) (c2 : Nat) (l2 : List Int) (r : Bool) (w : World) (hr2 : Kd.C (Kd.int .i64) w A2 l2.length l2) (hc2 : l2.length ≤ c2) (h : porticolaw14_MatchTurned.f k a0 a1 l2 = some r) :
    Calls Try.prog 5 #[.int .i64 a0, .int .i64 a1, .slice A2 l2.length c2] w fun e w' => e = .returned (.bool r) ∧ Below w.heap.size w w' := by
  obtain rfl := Option.some.inj h
  exact Go.Proofs.Ytjpknhemnfokaaa.Mt.MatchTurned_any a0 a1 A2 c2 l2 w hr2 hc2
end Go.Proofs.Ytjpknhemnfokaaa.PMatchTurned
