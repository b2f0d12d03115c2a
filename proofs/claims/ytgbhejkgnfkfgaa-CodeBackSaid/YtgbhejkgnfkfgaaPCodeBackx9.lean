/- CodeBack in the form in which rows are written (wip/tools/rowgen.py): by hand (XCodeBack). -/
import Derived.Test.YtgbhejkgnfkfgaaCodeBack
set_option linter.unusedVariables false
namespace Go.Proofs.Ytgbhejkgnfkfgaa.PCodeBack
open Go.RowKit Go.Proofs.YtgbhejkgnfkfgaaW.PrintWords Go.Proofs.Ytgbhejkgnfkfgaa.PCodeRuns Go.Proofs.Ytgbhejkgnfkfgaa.Cd
def porticolaw24_CodeBack.f (k : Nat) (l0_0 : List S24) (a0_1 : Int) (l0_2 : List Bool) (l0_3 : List (List Int)) (l1_0 : List S24) (a1_1 : Int) (l1_2 : List Bool) (l1_3 : List (List Int)) (a2 : Int) : Option (Bool) := if (∀ m ∈ l0_0, 0 ≤ m.f1 ∧ m.f1 < 18446744073709551616) ∧ (∀ m ∈ l1_0, 0 ≤ m.f1 ∧ m.f1 < 18446744073709551616) then some true else none
theorem porticolaw24_CodeBack.calls (k : Nat) (A0_0 : Option Addr) (c0_0 : Nat) (l0_0 : List S24) (a0_1 : Int) (A0_2 : Option Addr) (c0_2 : Nat) (l0_2 : List Bool) (A0_3 : Option Addr) (c0_3 : Nat) (l0_3 : List (List Int)) (A1_0 : Option Addr) (c1_0 : Nat) (l1_0 : List S24) (a1_1 : Int) (A1_2 : Option Addr) (c1_2 : Nat) (l1_2 : List Bool) (A1_3 : Option Addr) (c1_3 : Nat) (l1_3 : List (List Int)) (a2 : Int) (r : Bool) (w : World) (hr0_0 : Kd.C k24 w A0_0 l0_0.length l0_0) (hc0_0 : l0_0.length ≤ c0_0) (hr0_2 : Kd.C Kd.bool w A0_2 l0_2.length l0_2) (hc0_2 : l0_2.length ≤ c0_2) (hr0_3 : Kd.C (Kd.slice 45 (Kd.int .i64)) w A0_3 l0_3.length l0_3) (hc0_3 : l0_3.length ≤ c0_3) (hr1_0 : Kd.C k24 w A1_0 l1_0.length l1_0) (hc1_0 : l1_0.length ≤ c1_0) (hr1_2 : Kd.C Kd.bool w A1_2 l1_2.length l1_2) (hc1_2 : l1_2.length ≤ c1_2) (hr1_3 : Kd.C (Kd.slice 45 (Kd.int .i64)) w A1_3 l1_3.length l1_3) (hc1_3 : l1_3.length ≤ c1_3) (h : porticolaw24_CodeBack.f k l0_0 a0_1 l0_2 l0_3 l1_0 a1_1 l1_2 l1_3 a2 = some r) :
    Calls Try.prog 4 #[.agg #[.slice A0_0 l0_0.length c0_0, .int .i64 a0_1, .slice A0_2 l0_2.length c0_2, .slice A0_3 l0_3.length c0_3], .agg #[.slice A1_0 l1_0.length c1_0, .int .i64 a1_1, .slice A1_2 l1_2.length c1_2, .slice A1_3 l1_3.length c1_3], .int .i64 a2] w fun e w' => e = .returned (.bool r) ∧ Below w.heap.size w w' := by
  unfold porticolaw24_CodeBack.f at h
  by_cases hu : (∀ m ∈ l0_0, 0 ≤ m.f1 ∧ m.f1 < 18446744073709551616) ∧ (∀ m ∈ l1_0, 0 ≤ m.f1 ∧ m.f1 < 18446744073709551616)
  · rw [if_pos hu] at h
    obtain rfl := Option.some.inj h
    exact CodeBack_any (l0_0, a0_1, l0_2, l0_3) (l1_0, a1_1, l1_2, l1_3) _ _ _ _ ⟨_, _, _, _, _, _, rfl, ⟨hc0_0, hc0_2, hc0_3⟩, hr0_0, hr0_2, hr0_3⟩ ⟨_, _, _, _, _, _, rfl, ⟨hc1_0, hc1_2, hc1_3⟩, hr1_0, hr1_2, hr1_3⟩ hu.1 hu.2
  · rw [if_neg hu] at h
    cases h
end Go.Proofs.Ytgbhejkgnfkfgaa.PCodeBack
