/- pct.Plain at this program: whether a byte may stand as it is. Condition: the argument is a byte. -/
import Derived.Test.YtcaaggfobdfgpaaDoorProg
import Derived.Test.YtcaaggfobdfgpaaDoorShelf
import Derived.WalkKit
import Derived.KernelRfl
import Derived.BigQuiet
import Derived.Deep.QuietTactic
set_option linter.unusedVariables false
set_option linter.unusedSimpArgs false
namespace Go.Proofs.YtcaaggfobdfgpaaDoor.Pct
open Go.RowKit

def plainP (c : Int) : Bool := (decide (97 ≤ c) && decide (c ≤ 122)) || (decide (65 ≤ c) && decide (c ≤ 90)) || (decide (48 ≤ c) && decide (c ≤ 57)) || decide (0 ≤ Lib.indexByte [45, 46, 95, 126] c.toNat.toUInt8)
theorem ret_bool {a b : Bool} (h : a = b) : Ending.returned (.bool a) = .returned (.bool b) := by rw [h]

set_option maxHeartbeats 2000000 in
theorem Plain_any (c : Int) (w : World) (h0 : 0 ≤ c) (h1 : c ≤ 255) :
    Calls Tryd.prog 42 #[.int .u8 c] w fun e w' => e = .returned (.bool (plainP c)) ∧ w' = w := by
  rcases (show (97 ≤ c ∧ c ≤ 122) ∨ (65 ≤ c ∧ c ≤ 90) ∨ (48 ≤ c ∧ c ≤ 57) ∨ c < 48 ∨ (58 ≤ c ∧ c < 65) ∨ (91 ≤ c ∧ c < 97) ∨ 123 ≤ c from by omega) with ⟨a, b⟩ | ⟨a, b⟩ | ⟨a, b⟩ | a | ⟨a, b⟩ | ⟨a, b⟩ | a
  all_goals
    go_enter Tryd.func42, Tryd.ntmps42
    go_wp2_with (go_at_call 49; refine (Tryd.strings_IndexByte _ _ _).mono ?_; rintro e w' ⟨rfl, rfl⟩)
    go_ret
    exact ⟨ret_bool (by unfold plainP; (try simp only [decide_eq_true a, decide_eq_false_iff_not]); (first | rw [decide_eq_true (show 97 ≤ c by omega)] | rw [decide_eq_false (show ¬ 97 ≤ c by omega)] | skip); (first | rw [decide_eq_true (show c ≤ 122 by omega)] | rw [decide_eq_false (show ¬ c ≤ 122 by omega)] | skip); (first | rw [decide_eq_true (show 65 ≤ c by omega)] | rw [decide_eq_false (show ¬ 65 ≤ c by omega)] | skip); (first | rw [decide_eq_true (show c ≤ 90 by omega)] | rw [decide_eq_false (show ¬ c ≤ 90 by omega)] | skip); (first | rw [decide_eq_true (show 48 ≤ c by omega)] | rw [decide_eq_false (show ¬ 48 ≤ c by omega)] | skip); (first | rw [decide_eq_true (show c ≤ 57 by omega)] | rw [decide_eq_false (show ¬ c ≤ 57 by omega)] | skip); simp), rfl⟩
end Go.Proofs.YtcaaggfobdfgpaaDoor.Pct
