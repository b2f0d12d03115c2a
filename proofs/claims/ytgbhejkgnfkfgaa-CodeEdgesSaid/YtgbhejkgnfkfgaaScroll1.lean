/- Package scroll: what Clean gives, by bits (for the seats that call nothing else of scroll). -/
import Derived.Test.YtgbhejkgnfkfgaaFloat
import Derived.Test.YtgbhejkgnfkfgaaWWords
import Derived.BigQuiet
import Derived.Deep.QuietTactic
import Derived.Lib.Hide
set_option linter.unusedVariables false
set_option linter.unusedSimpArgs false
namespace Go.Proofs.Ytgbhejkgnfkfgaa.Fl
open Go.RowKit

theorem bitsRun (b : Nat) (w : World) : (callFunc 35 #[.float .f64 b]).run Try.prog w = .ok (.value (.int .u64 (b : Int))) w := by kernel_rfl
theorem fromRun (n : Int) (w : World) : (callFunc 38 #[.int .u64 n]).run Try.prog w = .ok (.value (.float .f64 n.toNat)) w := by kernel_rfl
theorem offset_any (x : Nat) (hx : x < 18446744073709551616) (w : World) : Calls Try.prog 37 #[.float .f64 x] w fun en w' => en = .returned (.float .f64 (cl x)) ∧ w' = w := by
  have h1 := cmpTop x hx
  have h2 := cmpZero x hx
  have h1' : (FloatKind.f64.format.order x 4697254411347427328 == some .gt || FloatKind.f64.format.order x 4697254411347427328 == some .eq) = decide (top ≤ x ∧ x ≤ inf) := h1
  have h2' : (FloatKind.f64.format.order x 0 == some .gt) = decide (0 < x ∧ x ≤ inf) := h2
  clear h1 h2
  by_cases c1 : top ≤ x ∧ x ≤ inf
  · rw [decide_eq_true c1] at h1'
    have hc : cl x = top := by unfold cl; rw [if_pos c1.2]; split <;> omega
    rw [hc]
    go_enter Try.func37, Try.ntmps37
    go_wp2
    go_ret
    exact ⟨rfl, rfl⟩
  · rw [decide_eq_false c1] at h1'
    by_cases c2 : 0 < x ∧ x ≤ inf
    · rw [decide_eq_true c2] at h2'
      have hc : cl x = x := by unfold cl; rw [if_pos c2.2, if_pos (by omega)]
      rw [hc]
      go_enter Try.func37, Try.ntmps37
      go_wp2
      go_ret
      exact ⟨rfl, rfl⟩
    · rw [decide_eq_false c2] at h2'
      have hc : cl x = 0 := by
        unfold cl
        split
        · rw [if_pos (by simp only [top]; omega)]; omega
        · rfl
      rw [hc]
      go_enter Try.func37, Try.ntmps37
      go_wp2
      go_ret
      exact ⟨rfl, rfl⟩
theorem clean_any (x : Nat) (hx : x < 18446744073709551616) (w : World) : Calls Try.prog 36 #[.int .u64 (x : Int)] w fun en w' => en = .returned (.float .f64 (cl x)) ∧ w' = w := by
  have h1 := fromRun (x : Int)
  rw [Int.toNat_natCast] at h1
  go_enter Try.func36, Try.ntmps36
  go_wp2_with (go_at_call 37; refine (offset_any x hx _).mono ?_; rintro e w' ⟨rfl, rfl⟩)
  go_ret
  exact ⟨rfl, rfl⟩
theorem Clean_any (x : Nat) (hx : x < 18446744073709551616) (w : World) : Calls Try.prog 33 #[.int .u64 (x : Int)] w fun en w' => en = .returned (.int .u64 (cl x : Int)) ∧ w' = w := by
  have h1 := bitsRun (cl x)
  go_enter Try.func33, Try.ntmps33
  go_wp2_with (go_at_call 36; refine (clean_any x hx _).mono ?_; rintro e w' ⟨rfl, rfl⟩)
  go_ret
  exact ⟨rfl, rfl⟩
end Go.Proofs.Ytgbhejkgnfkfgaa.Fl
