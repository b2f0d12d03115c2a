/- PastFull in the form in which rows are written (wip/tools/rowgen.py): by hand (XPastFull). -/
import Derived.Test.YtobeebcpkkdkhaaPastFull
set_option linter.unusedVariables false
namespace Go.Proofs.Ytobeebcpkkdkhaa.PPastFull
open Go.RowKit Go.Proofs.YtobeebcpkkdkhaaW.PrintWords Go.Proofs.Ytobeebcpkkdkhaa.Pa
def porticolaw11_PastFull.f (k : Nat) (a0 : ByteArray) (a1 : Int) (a2 : Int) : Option (Bool) := if 0 ≤ a2 ∧ a2 < 18446744073709551616 then some true else none
theorem porticolaw11_PastFull.calls (k : Nat) (a0 : ByteArray) (a1 : Int) (a2 : Int) (r : Bool) (w : World) (h : porticolaw11_PastFull.f k a0 a1 a2 = some r) :
    Calls Try.prog 5 #[.string a0, .int .i64 a1, .int .u64 a2] w fun e w' => e = .returned (.bool r) ∧ Below w.heap.size w w' := by
  unfold porticolaw11_PastFull.f at h
  by_cases c : 0 ≤ a2 ∧ a2 < 18446744073709551616
  · rw [if_pos c] at h
    obtain rfl := Option.some.inj h
    obtain ⟨x, rfl⟩ := Int.eq_ofNat_of_zero_le c.1
    exact PastFull_any a0 a1 x (by omega) w
  · rw [if_neg c] at h
    cases h
end Go.Proofs.Ytobeebcpkkdkhaa.PPastFull
