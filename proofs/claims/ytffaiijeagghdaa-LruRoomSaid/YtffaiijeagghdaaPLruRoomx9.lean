/- LruRoom in the form in which rows are written (wip/tools/rowgen.py): by hand (XLruRoom). -/
import Derived.Test.YtffaiijeagghdaaLruRoom
set_option linter.unusedVariables false
namespace Go.Proofs.Ytffaiijeagghdaa.PLruRoom
open Go.RowKit Go.Proofs.YtffaiijeagghdaaW.PrintWords
def porticolaw18_LruRoom.f (k : Nat) (a0 : Int) (l1 : List Int) : Option (Bool) := some true
theorem porticolaw18_LruRoom.calls (k : Nat) (a0 : Int) (A1 : Option Addr) (c1 : Nat) (l1 : List Int) (r : Bool) (w : World) (hr1 : Kd.C (Kd.int .i64) w A1 l1.length l1) (hc1 : l1.length ≤ c1) (h : porticolaw18_LruRoom.f k a0 l1 = some r) :
    Calls Try.prog 5 #[.int .i64 a0, .slice A1 l1.length c1] w fun e w' => e = .returned (.bool r) ∧ Below w.heap.size w w' := by
  obtain rfl := Option.some.inj h
  exact Go.Proofs.Ytffaiijeagghdaa.Lr.LruRoom_any a0 A1 c1 l1 w hr1 hc1
end Go.Proofs.Ytffaiijeagghdaa.PLruRoom
