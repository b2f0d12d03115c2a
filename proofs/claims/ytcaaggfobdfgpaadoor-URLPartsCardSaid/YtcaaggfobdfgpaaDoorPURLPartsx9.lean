/- URLParts in the form in which rows are written (wip/tools/rowgen.py): by hand (XURLParts). -/
import Derived.Test.YtcaaggfobdfgpaaDoorURLParts
set_option linter.unusedVariables false
namespace Go.Proofs.YtcaaggfobdfgpaaDoor.PURLParts
open Go.RowKit Go.Proofs.YtcaaggfobdfgpaaDoorW.PrintWords
def porticolaw4_URLParts.f (k : Nat) (l0_0 : List Int) (l0_1 : List Int) (l0_2 : List Int) (l1_0 : List Int) (l1_1 : List Int) (l1_2 : List Int) (a2 : Int) : Option (Bool) := if l0_0.length ≤ 1000000000000000000 ∧ l0_1.length ≤ 1000000000000000000 ∧ l1_0.length ≤ 1000000000000000000 ∧ l1_1.length ≤ 1000000000000000000 then some true else none
theorem porticolaw4_URLParts.calls (k : Nat) (A0_0 : Option Addr) (c0_0 : Nat) (l0_0 : List Int) (A0_1 : Option Addr) (c0_1 : Nat) (l0_1 : List Int) (A0_2 : Option Addr) (c0_2 : Nat) (l0_2 : List Int) (A1_0 : Option Addr) (c1_0 : Nat) (l1_0 : List Int) (A1_1 : Option Addr) (c1_1 : Nat) (l1_1 : List Int) (A1_2 : Option Addr) (c1_2 : Nat) (l1_2 : List Int) (a2 : Int) (r : Bool) (w : World) (hr0_0 : Kd.C (Kd.int .i64) w A0_0 l0_0.length l0_0) (hc0_0 : l0_0.length ≤ c0_0) (hr0_1 : Kd.C (Kd.int .i64) w A0_1 l0_1.length l0_1) (hc0_1 : l0_1.length ≤ c0_1) (hr0_2 : Kd.C (Kd.int .i64) w A0_2 l0_2.length l0_2) (hc0_2 : l0_2.length ≤ c0_2) (hr1_0 : Kd.C (Kd.int .i64) w A1_0 l1_0.length l1_0) (hc1_0 : l1_0.length ≤ c1_0) (hr1_1 : Kd.C (Kd.int .i64) w A1_1 l1_1.length l1_1) (hc1_1 : l1_1.length ≤ c1_1) (hr1_2 : Kd.C (Kd.int .i64) w A1_2 l1_2.length l1_2) (hc1_2 : l1_2.length ≤ c1_2) (h : porticolaw4_URLParts.f k l0_0 l0_1 l0_2 l1_0 l1_1 l1_2 a2 = some r) :
    Calls Tryd.prog 6 #[.agg #[.slice A0_0 l0_0.length c0_0, .slice A0_1 l0_1.length c0_1, .slice A0_2 l0_2.length c0_2], .agg #[.slice A1_0 l1_0.length c1_0, .slice A1_1 l1_1.length c1_1, .slice A1_2 l1_2.length c1_2], .int .i64 a2] w fun e w' => e = .returned (.bool r) ∧ Below w.heap.size w w' := by
  unfold porticolaw4_URLParts.f at h
  split at h
  · rename_i hl
    obtain rfl := Option.some.inj h
    exact Go.Proofs.YtcaaggfobdfgpaaDoor.UURLParts.URLParts_any A0_0 c0_0 l0_0 A0_1 c0_1 l0_1 A0_2 c0_2 l0_2 A1_0 c1_0 l1_0 A1_1 c1_1 l1_1 A1_2 c1_2 l1_2 a2 w hr0_0 hc0_0 hr0_1 hc0_1 hr0_2 hc0_2 hr1_0 hc1_0 hr1_1 hc1_1 hr1_2 hc1_2 hl.1 hl.2.1 hl.2.2.1 hl.2.2.2
  · cases h
end Go.Proofs.YtcaaggfobdfgpaaDoor.PURLParts
