/- DiskFirm in the form in which rows are written (wip/tools/rowgen.py): by hand (XDiskFirm). -/
import Derived.Test.YtcndhemociajjaaDiskFirm
set_option linter.unusedVariables false
namespace Go.Proofs.Ytcndhemociajjaa.PDiskFirm
open Go.RowKit Go.Proofs.YtcndhemociajjaaW.PrintWords
def porticolaw23_DiskFirm.f (k : Nat) (l0 : List Int) (l1 : List Int) (a2 : Int) (a3 : Int) : Option (Bool) := some true
theorem porticolaw23_DiskFirm.calls (k : Nat) (A0 : Option Addr) (c0 : Nat) (l0 : List Int) (A1 : Option Addr) (c1 : Nat) (l1 : List Int) (a2 : Int) (a3 : Int) (r : Bool) (w : World) (hr0 : Kd.C (Kd.int .u8) w A0 l0.length l0) (hc0 : l0.length ≤ c0) (hr1 : Kd.C (Kd.int .u8) w A1 l1.length l1) (hc1 : l1.length ≤ c1) (h : porticolaw23_DiskFirm.f k l0 l1 a2 a3 = some r) :
    Calls Try.prog 4 #[.slice A0 l0.length c0, .slice A1 l1.length c1, .int .i64 a2, .int .i64 a3] w fun e w' => e = .returned (.bool r) ∧ Below w.heap.size w w' := by
  obtain rfl := Option.some.inj h
  exact Go.Proofs.Ytcndhemociajjaa.Dk.DiskFirm_any A0 c0 l0 A1 c1 l1 a2 a3 w hr0 hc0 hr1 hc1
end Go.Proofs.Ytcndhemociajjaa.PDiskFirm
