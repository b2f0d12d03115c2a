-- Printed by a program of this session's own (wip/tools: a turned copy of the kit's print).
import Derived.Test.YtemanoiaaaaopaaPScrollStepsx0
namespace Go.Proofs.Ytemanoiaaaaopaa.PScrollSteps
open Go.RowKit Go.Proofs.YtemanoiaaaaopaaW.PrintWords Go.Proofs.YtemanoiaaaaopaaW.PrintLast Go.Proofs.YtemanoiaaaaopaaW.PrintMore
attribute [local go_sem] max2_int min2_int max_two min_two max_three min_three max_four min_four   -- for this text's walks alone
set_option linter.unusedVariables false
set_option linter.unusedSimpArgs false

-- NOT PRINTED: function 7 (math_Float64bits)

-- NOT PRINTED: function 18 (math_Float64frombits)

-- NOT PRINTED: function 20 (scroll_offset)

-- NOT PRINTED: function 17 (scroll_clean)

-- NOT PRINTED: function 8 (scroll_Clean)

-- NOT PRINTED: function 9 (math_NaN)

-- NOT PRINTED: function 10 (math_Inf)

-- NOT PRINTED: function 19 (math_IsNaN)

-- NOT PRINTED: function 11 (scroll_Add)

-- NOT PRINTED: function 12 (scroll_Part)

-- NOT PRINTED: function 13 (scroll_Compare)

-- NOT PRINTED: function 3 (porticolaw1_ScrollRuns)

/-! ### porticobook_Within: function 15 -/
def porticobook_Within.f (a0 : Int) (a1 : Int) (a2 : Int) : Option (Int) := if (wrap64 ((wrap64 (a2 - a1)) + 1)) = 0 then (none) else (if (Int.tmod a0 (wrap64 ((wrap64 (a2 - a1)) + 1))) < 0 then (some (wrap64 (a1 + (wrap64 ((wrap64 ((wrap64 ((Int.tmod a0 (wrap64 ((wrap64 (a2 - a1)) + 1))) + a2)) - a1)) + 1))))) else (some (wrap64 (a1 + (Int.tmod a0 (wrap64 ((wrap64 (a2 - a1)) + 1)))))))
set_option maxHeartbeats 8000000 in
set_option maxRecDepth 100000 in
theorem porticobook_Within.calls (a0 : Int) (a1 : Int) (a2 : Int) (r : Int) (w : World) (h : porticobook_Within.f a0 a1 a2 = some r) :
    Calls Try.prog 15 #[.int .i64 a0, .int .i64 a1, .int .i64 a2] w fun e w' => e = .returned (.int .i64 r) ∧ Drawn0 w w' := by
  have H : (if (wrap64 ((wrap64 (a2 - a1)) + 1)) = 0 then (none) else (if (Int.tmod a0 (wrap64 ((wrap64 (a2 - a1)) + 1))) < 0 then (some (wrap64 (a1 + (wrap64 ((wrap64 ((wrap64 ((Int.tmod a0 (wrap64 ((wrap64 (a2 - a1)) + 1))) + a2)) - a1)) + 1))))) else (some (wrap64 (a1 + (Int.tmod a0 (wrap64 ((wrap64 (a2 - a1)) + 1)))))))) = some r := h
  clear h
  by_cases c4 : (wrap64 ((wrap64 (a2 - a1)) + 1)) = 0
  · rw [if_pos c4] at H
    exact absurd H (by simp)
  · rw [if_neg c4] at H
    have c4b0 : ((wrap64 ((wrap64 (a2 - a1)) + 1)) == 0) = false := beq_eq_false_iff_ne.mpr c4
    have c4b1 : ((wrap64 ((wrap64 (a2 - a1)) + 1)) != 0) = true := bne_iff_ne.mpr c4
    by_cases c5 : (Int.tmod a0 (wrap64 ((wrap64 (a2 - a1)) + 1))) < 0
    · rw [if_pos c5] at H
      have c5b0 : decide ((Int.tmod a0 (wrap64 ((wrap64 (a2 - a1)) + 1))) < 0) = true := decide_eq_true c5
      clear c5
      obtain rfl := Option.some.inj H
      go_enter Try.func15, Try.ntmps15
      go_wp2
      go_ret
      exact ⟨by first | rfl | (simp; done) | (simp [*]; done), by repeat (first | exact Drawn0.refl _ | apply Drawn0.step)⟩
    · rw [if_neg c5] at H
      have c5b0 : decide ((Int.tmod a0 (wrap64 ((wrap64 (a2 - a1)) + 1))) < 0) = false := decide_eq_false c5
      clear c5
      obtain rfl := Option.some.inj H
      go_enter Try.func15, Try.ntmps15
      go_wp2
      go_ret
      exact ⟨by first | rfl | (simp; done) | (simp [*]; done), by repeat (first | exact Drawn0.refl _ | apply Drawn0.step)⟩

-- NOT PRINTED: function 16 (scroll_Right)

-- NOT PRINTED: function 6 (porticolaw1_ScrollSteps)

end Go.Proofs.Ytemanoiaaaaopaa.PScrollSteps
