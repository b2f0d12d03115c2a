/- LruLast in the form in which rows are written (wip/tools/rowgen.py): by hand (XLruLast). -/
import Derived.Test.YtffaiijeagghdaaLruLast
set_option linter.unusedVariables false
namespace Go.Proofs.Ytffaiijeagghdaa.PLruLast
open Go.RowKit Go.Proofs.YtffaiijeagghdaaW.PrintWords
def porticolaw18_LruLast.f (k : Nat) (a0 : Int) (l1 : List Int) : Option (Bool) := some true
theorem porticolaw18_LruLast.calls (k : Nat) (a0 : Int) (A1 : Option Addr) (c1 : Nat) (l1 : List Int) (r : Bool) (w : World) (hr1 : Kd.C (Kd.int .i64) w A1 l1.length l1) (hc1 : l1.length ≤ c1) (h : porticolaw18_LruLast.f k a0 l1 = some r) :
    Calls Try.prog 4 #[.int .i64 a0, .slice A1 l1.length c1] w fun e w' => e = .returned (.bool r) ∧ Below w.heap.size w w' := by
  obtain rfl := Option.some.inj h
  exact Go.Proofs.Ytffaiijeagghdaa.Lr.LruLast_any a0 A1 c1 l1 w hr1 hc1
end Go.Proofs.Ytffaiijeagghdaa.PLruLast
