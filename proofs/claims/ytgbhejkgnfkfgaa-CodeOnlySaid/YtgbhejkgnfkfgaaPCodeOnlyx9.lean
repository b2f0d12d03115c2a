/- CodeOnly in the form in which rows are written (wip/tools/rowgen.py): by hand (XCodeOnly). -/
import Derived.Test.YtgbhejkgnfkfgaaCodeOnly
set_option linter.unusedVariables false
namespace Go.Proofs.Ytgbhejkgnfkfgaa.PCodeOnly
open Go.RowKit Go.Proofs.YtgbhejkgnfkfgaaW.PrintWords Go.Proofs.Ytgbhejkgnfkfgaa.PCodeRuns Go.Proofs.Ytgbhejkgnfkfgaa.Cd
def porticolaw24_CodeOnly.f (k : Nat) (l0_0 : List S24) (a0_1 : Int) (l0_2 : List Bool) (l0_3 : List (List Int)) (l1 : List Int) (a2 : Int) (a3 : Int) (a4 : Int) : Option (Bool) := if (∀ m ∈ l0_0, 0 ≤ m.f1 ∧ m.f1 < 18446744073709551616) ∧ (0 ≤ a3 ∧ a3 < 256) then some true else none
theorem porticolaw24_CodeOnly.calls (k : Nat) (A0_0 : Option Addr) (c0_0 : Nat) (l0_0 : List S24) (a0_1 : Int) (A0_2 : Option Addr) (c0_2 : Nat) (l0_2 : List Bool) (A0_3 : Option Addr) (c0_3 : Nat) (l0_3 : List (List Int)) (A1 : Option Addr) (c1 : Nat) (l1 : List Int) (a2 : Int) (a3 : Int) (a4 : Int) (r : Bool) (w : World) (hr0_0 : Kd.C k24 w A0_0 l0_0.length l0_0) (hc0_0 : l0_0.length ≤ c0_0) (hr0_2 : Kd.C Kd.bool w A0_2 l0_2.length l0_2) (hc0_2 : l0_2.length ≤ c0_2) (hr0_3 : Kd.C (Kd.slice 45 (Kd.int .i64)) w A0_3 l0_3.length l0_3) (hc0_3 : l0_3.length ≤ c0_3) (hr1 : Kd.C (Kd.int .u8) w A1 l1.length l1) (hc1 : l1.length ≤ c1) (h : porticolaw24_CodeOnly.f k l0_0 a0_1 l0_2 l0_3 l1 a2 a3 a4 = some r) :
    Calls Try.prog 5 #[.agg #[.slice A0_0 l0_0.length c0_0, .int .i64 a0_1, .slice A0_2 l0_2.length c0_2, .slice A0_3 l0_3.length c0_3], .slice A1 l1.length c1, .int .i64 a2, .int .u8 a3, .int .i64 a4] w fun e w' => e = .returned (.bool r) ∧ Below w.heap.size w w' := by
  unfold porticolaw24_CodeOnly.f at h
  by_cases hu : (∀ m ∈ l0_0, 0 ≤ m.f1 ∧ m.f1 < 18446744073709551616) ∧ (0 ≤ a3 ∧ a3 < 256)
  · rw [if_pos hu] at h
    obtain rfl := Option.some.inj h
    exact CodeOnly_any (l0_0, a0_1, l0_2, l0_3) _ A1 c1 l1 a2 a3 a4 w ⟨_, _, _, _, _, _, rfl, ⟨hc0_0, hc0_2, hc0_3⟩, hr0_0, hr0_2, hr0_3⟩ hu.1 hr1 hc1 hu.2
  · rw [if_neg hu] at h
    cases h
end Go.Proofs.Ytgbhejkgnfkfgaa.PCodeOnly
