-- Printed by a program of this session's own (wip/tools: a turned copy of the kit's print).
import Derived.Test.YtcaaggfobdfgpaaDoorPURLTellsx0
namespace Go.Proofs.YtcaaggfobdfgpaaDoor.PURLTells
open Go.Proofs.YtcaaggfobdfgpaaDoor.Given
open Go.RowKit Go.Proofs.YtcaaggfobdfgpaaDoorW.PrintWords Go.Proofs.YtcaaggfobdfgpaaDoorW.PrintLast Go.Proofs.YtcaaggfobdfgpaaDoorW.PrintMore
attribute [local go_sem] max2_int min2_int max_two min_two max_three min_three max_four min_four   -- for this text's walks alone
set_option linter.unusedVariables false
set_option linter.unusedSimpArgs false

/-! ### porticoref3_plain: function 43 -/
def porticoref3_plain.f (a0 : Int) : Option (Bool) := if a0 ≥ 97 then (if a0 ≤ 122 then (some true) else (if a0 ≥ 65 then (if a0 ≤ 90 then (some true) else (if a0 ≥ 48 then (if a0 ≤ 57 then (some true) else (if a0 = 45 then (some true) else (if a0 = 46 then (some true) else (if a0 = 95 then (some true) else (some (a0 == 126)))))) else (if a0 = 45 then (some true) else (if a0 = 46 then (some true) else (if a0 = 95 then (some true) else (some (a0 == 126))))))) else (if a0 ≥ 48 then (if a0 ≤ 57 then (some true) else (if a0 = 45 then (some true) else (if a0 = 46 then (some true) else (if a0 = 95 then (some true) else (some (a0 == 126)))))) else (if a0 = 45 then (some true) else (if a0 = 46 then (some true) else (if a0 = 95 then (some true) else (some (a0 == 126)))))))) else (if a0 ≥ 65 then (if a0 ≤ 90 then (some true) else (if a0 ≥ 48 then (if a0 ≤ 57 then (some true) else (if a0 = 45 then (some true) else (if a0 = 46 then (some true) else (if a0 = 95 then (some true) else (some (a0 == 126)))))) else (if a0 = 45 then (some true) else (if a0 = 46 then (some true) else (if a0 = 95 then (some true) else (some (a0 == 126))))))) else (if a0 ≥ 48 then (if a0 ≤ 57 then (some true) else (if a0 = 45 then (some true) else (if a0 = 46 then (some true) else (if a0 = 95 then (some true) else (some (a0 == 126)))))) else (if a0 = 45 then (some true) else (if a0 = 46 then (some true) else (if a0 = 95 then (some true) else (some (a0 == 126)))))))
set_option maxHeartbeats 8000000 in
set_option maxRecDepth 100000 in
theorem porticoref3_plain.calls (a0 : Int) (r : Bool) (w : World) (h : porticoref3_plain.f a0 = some r) :
  Calls Tryd.prog 43 #[.int .u8 a0] w fun e w' => e = .returned (.bool r) ∧ Drawn0 w w' := by
 have H : (if a0 ≥ 97 then (if a0 ≤ 122 then (some true) else (if a0 ≥ 65 then (if a0 ≤ 90 then (some true) else (if a0 ≥ 48 then (if a0 ≤ 57 then (some true) else (if a0 = 45 then (some true) else (if a0 = 46 then (some true) else (if a0 = 95 then (some true) else (some (a0 == 126)))))) else (if a0 = 45 then (some true) else (if a0 = 46 then (some true) else (if a0 = 95 then (some true) else (some (a0 == 126))))))) else (if a0 ≥ 48 then (if a0 ≤ 57 then (some true) else (if a0 = 45 then (some true) else (if a0 = 46 then (some true) else (if a0 = 95 then (some true) else (some (a0 == 126)))))) else (if a0 = 45 then (some true) else (if a0 = 46 then (some true) else (if a0 = 95 then (some true) else (some (a0 == 126)))))))) else (if a0 ≥ 65 then (if a0 ≤ 90 then (some true) else (if a0 ≥ 48 then (if a0 ≤ 57 then (some true) else (if a0 = 45 then (some true) else (if a0 = 46 then (some true) else (if a0 = 95 then (some true) else (some (a0 == 126)))))) else (if a0 = 45 then (some true) else (if a0 = 46 then (some true) else (if a0 = 95 then (some true) else (some (a0 == 126))))))) else (if a0 ≥ 48 then (if a0 ≤ 57 then (some true) else (if a0 = 45 then (some true) else (if a0 = 46 then (some true) else (if a0 = 95 then (some true) else (some (a0 == 126)))))) else (if a0 = 45 then (some true) else (if a0 = 46 then (some true) else (if a0 = 95 then (some true) else (some (a0 == 126)))))))) = some r := h
 clear h
 by_cases c2 : a0 ≥ 97
 ·
  rw [if_pos c2] at H
  have c2b0 : decide (97 ≤ a0) = true := decide_eq_true c2
  clear c2
  by_cases c3 : a0 ≤ 122
  ·
   rw [if_pos c3] at H
   have c3b0 : decide (a0 ≤ 122) = true := decide_eq_true c3
   clear c3
   obtain rfl := Option.some.inj H
   go_enter Tryd.func43, Tryd.ntmps43
   go_wp2
   go_ret
   exact ⟨by first | rfl | (simp; done) | (simp [*]; done), by repeat (first | exact Drawn0.refl _ | apply Drawn0.step)⟩
  ·
   rw [if_neg c3] at H
   have c3b0 : decide (a0 ≤ 122) = false := decide_eq_false c3
   clear c3
   by_cases c4 : a0 ≥ 65
   ·
    rw [if_pos c4] at H
    have c4b0 : decide (65 ≤ a0) = true := decide_eq_true c4
    clear c4
    by_cases c5 : a0 ≤ 90
    ·
     rw [if_pos c5] at H
     have c5b0 : decide (a0 ≤ 90) = true := decide_eq_true c5
     clear c5
     obtain rfl := Option.some.inj H
     go_enter Tryd.func43, Tryd.ntmps43
     go_wp2
     go_ret
     exact ⟨by first | rfl | (simp; done) | (simp [*]; done), by repeat (first | exact Drawn0.refl _ | apply Drawn0.step)⟩
    ·
     rw [if_neg c5] at H
     have c5b0 : decide (a0 ≤ 90) = false := decide_eq_false c5
     clear c5
     by_cases c6 : a0 ≥ 48
     ·
      rw [if_pos c6] at H
      have c6b0 : decide (48 ≤ a0) = true := decide_eq_true c6
      clear c6
      by_cases c7 : a0 ≤ 57
      ·
       rw [if_pos c7] at H
       have c7b0 : decide (a0 ≤ 57) = true := decide_eq_true c7
       clear c7
       obtain rfl := Option.some.inj H
       go_enter Tryd.func43, Tryd.ntmps43
       go_wp2
       go_ret
       exact ⟨by first | rfl | (simp; done) | (simp [*]; done), by repeat (first | exact Drawn0.refl _ | apply Drawn0.step)⟩
      ·
       rw [if_neg c7] at H
       have c7b0 : decide (a0 ≤ 57) = false := decide_eq_false c7
       clear c7
       by_cases c8 : a0 = 45
       ·
        rw [if_pos c8] at H
        have c8b0 : (a0 == 45) = true := beq_iff_eq.mpr c8
        have c8b1 : (a0 != 45) = false := bne_eq_false_iff_eq.mpr c8
        clear c8
        obtain rfl := Option.some.inj H
        go_enter Tryd.func43, Tryd.ntmps43
        go_wp2
        go_ret
        exact ⟨by first | rfl | (simp; done) | (simp [*]; done), by repeat (first | exact Drawn0.refl _ | apply Drawn0.step)⟩
       ·
        rw [if_neg c8] at H
        have c8b0 : (a0 == 45) = false := beq_eq_false_iff_ne.mpr c8
        have c8b1 : (a0 != 45) = true := bne_iff_ne.mpr c8
        by_cases c9 : a0 = 46
        ·
         rw [if_pos c9] at H
         have c9b0 : (a0 == 46) = true := beq_iff_eq.mpr c9
         have c9b1 : (a0 != 46) = false := bne_eq_false_iff_eq.mpr c9
         clear c9
         obtain rfl := Option.some.inj H
         go_enter Tryd.func43, Tryd.ntmps43
         go_wp2
         go_ret
         exact ⟨by first | rfl | (simp; done) | (simp [*]; done), by repeat (first | exact Drawn0.refl _ | apply Drawn0.step)⟩
        ·
         rw [if_neg c9] at H
         have c9b0 : (a0 == 46) = false := beq_eq_false_iff_ne.mpr c9
         have c9b1 : (a0 != 46) = true := bne_iff_ne.mpr c9
         by_cases c10 : a0 = 95
         ·
          rw [if_pos c10] at H
          have c10b0 : (a0 == 95) = true := beq_iff_eq.mpr c10
          have c10b1 : (a0 != 95) = false := bne_eq_false_iff_eq.mpr c10
          clear c10
          obtain rfl := Option.some.inj H
          go_enter Tryd.func43, Tryd.ntmps43
          go_wp2
          go_ret
          exact ⟨by first | rfl | (simp; done) | (simp [*]; done), by repeat (first | exact Drawn0.refl _ | apply Drawn0.step)⟩
         ·
          rw [if_neg c10] at H
          have c10b0 : (a0 == 95) = false := beq_eq_false_iff_ne.mpr c10
          have c10b1 : (a0 != 95) = true := bne_iff_ne.mpr c10
          obtain rfl := Option.some.inj H
          go_enter Tryd.func43, Tryd.ntmps43
          go_wp2
          go_ret
          exact ⟨by first | rfl | (simp; done) | (simp [*]; done), by repeat (first | exact Drawn0.refl _ | apply Drawn0.step)⟩
     ·
      rw [if_neg c6] at H
      have c6b0 : decide (48 ≤ a0) = false := decide_eq_false c6
      clear c6
      by_cases c11 : a0 = 45
      ·
       rw [if_pos c11] at H
       have c11b0 : (a0 == 45) = true := beq_iff_eq.mpr c11
       have c11b1 : (a0 != 45) = false := bne_eq_false_iff_eq.mpr c11
       clear c11
       obtain rfl := Option.some.inj H
       go_enter Tryd.func43, Tryd.ntmps43
       go_wp2
       go_ret
       exact ⟨by first | rfl | (simp; done) | (simp [*]; done), by repeat (first | exact Drawn0.refl _ | apply Drawn0.step)⟩
      ·
       rw [if_neg c11] at H
       have c11b0 : (a0 == 45) = false := beq_eq_false_iff_ne.mpr c11
       have c11b1 : (a0 != 45) = true := bne_iff_ne.mpr c11
       by_cases c12 : a0 = 46
       ·
        rw [if_pos c12] at H
        have c12b0 : (a0 == 46) = true := beq_iff_eq.mpr c12
        have c12b1 : (a0 != 46) = false := bne_eq_false_iff_eq.mpr c12
        clear c12
        obtain rfl := Option.some.inj H
        go_enter Tryd.func43, Tryd.ntmps43
        go_wp2
        go_ret
        exact ⟨by first | rfl | (simp; done) | (simp [*]; done), by repeat (first | exact Drawn0.refl _ | apply Drawn0.step)⟩
       ·
        rw [if_neg c12] at H
        have c12b0 : (a0 == 46) = false := beq_eq_false_iff_ne.mpr c12
        have c12b1 : (a0 != 46) = true := bne_iff_ne.mpr c12
        by_cases c13 : a0 = 95
        ·
         rw [if_pos c13] at H
         have c13b0 : (a0 == 95) = true := beq_iff_eq.mpr c13
         have c13b1 : (a0 != 95) = false := bne_eq_false_iff_eq.mpr c13
         clear c13
         obtain rfl := Option.some.inj H
         go_enter Tryd.func43, Tryd.ntmps43
         go_wp2
         go_ret
         exact ⟨by first | rfl | (simp; done) | (simp [*]; done), by repeat (first | exact Drawn0.refl _ | apply Drawn0.step)⟩
        ·
         rw [if_neg c13] at H
         have c13b0 : (a0 == 95) = false := beq_eq_false_iff_ne.mpr c13
         have c13b1 : (a0 != 95) = true := bne_iff_ne.mpr c13
         obtain rfl := Option.some.inj H
         go_enter Tryd.func43, Tryd.ntmps43
         go_wp2
         go_ret
         exact ⟨by first | rfl | (simp; done) | (simp [*]; done), by repeat (first | exact Drawn0.refl _ | apply Drawn0.step)⟩
   ·
    rw [if_neg c4] at H
    have c4b0 : decide (65 ≤ a0) = false := decide_eq_false c4
    clear c4
    by_cases c14 : a0 ≥ 48
    ·
     rw [if_pos c14] at H
     have c14b0 : decide (48 ≤ a0) = true := decide_eq_true c14
     clear c14
     by_cases c15 : a0 ≤ 57
     ·
      rw [if_pos c15] at H
      have c15b0 : decide (a0 ≤ 57) = true := decide_eq_true c15
      clear c15
      obtain rfl := Option.some.inj H
      go_enter Tryd.func43, Tryd.ntmps43
      go_wp2
      go_ret
      exact ⟨by first | rfl | (simp; done) | (simp [*]; done), by repeat (first | exact Drawn0.refl _ | apply Drawn0.step)⟩
     ·
      rw [if_neg c15] at H
      have c15b0 : decide (a0 ≤ 57) = false := decide_eq_false c15
      clear c15
      by_cases c16 : a0 = 45
      ·
       rw [if_pos c16] at H
       have c16b0 : (a0 == 45) = true := beq_iff_eq.mpr c16
       have c16b1 : (a0 != 45) = false := bne_eq_false_iff_eq.mpr c16
       clear c16
       obtain rfl := Option.some.inj H
       go_enter Tryd.func43, Tryd.ntmps43
       go_wp2
       go_ret
       exact ⟨by first | rfl | (simp; done) | (simp [*]; done), by repeat (first | exact Drawn0.refl _ | apply Drawn0.step)⟩
      ·
       rw [if_neg c16] at H
       have c16b0 : (a0 == 45) = false := beq_eq_false_iff_ne.mpr c16
       have c16b1 : (a0 != 45) = true := bne_iff_ne.mpr c16
       by_cases c17 : a0 = 46
       ·
        rw [if_pos c17] at H
        have c17b0 : (a0 == 46) = true := beq_iff_eq.mpr c17
        have c17b1 : (a0 != 46) = false := bne_eq_false_iff_eq.mpr c17
        clear c17
        obtain rfl := Option.some.inj H
        go_enter Tryd.func43, Tryd.ntmps43
        go_wp2
        go_ret
        exact ⟨by first | rfl | (simp; done) | (simp [*]; done), by repeat (first | exact Drawn0.refl _ | apply Drawn0.step)⟩
       ·
        rw [if_neg c17] at H
        have c17b0 : (a0 == 46) = false := beq_eq_false_iff_ne.mpr c17
        have c17b1 : (a0 != 46) = true := bne_iff_ne.mpr c17
        by_cases c18 : a0 = 95
        ·
         rw [if_pos c18] at H
         have c18b0 : (a0 == 95) = true := beq_iff_eq.mpr c18
         have c18b1 : (a0 != 95) = false := bne_eq_false_iff_eq.mpr c18
         clear c18
         obtain rfl := Option.some.inj H
         go_enter Tryd.func43, Tryd.ntmps43
         go_wp2
         go_ret
         exact ⟨by first | rfl | (simp; done) | (simp [*]; done), by repeat (first | exact Drawn0.refl _ | apply Drawn0.step)⟩
        ·
         rw [if_neg c18] at H
         have c18b0 : (a0 == 95) = false := beq_eq_false_iff_ne.mpr c18
         have c18b1 : (a0 != 95) = true := bne_iff_ne.mpr c18
         obtain rfl := Option.some.inj H
         go_enter Tryd.func43, Tryd.ntmps43
         go_wp2
         go_ret
         exact ⟨by first | rfl | (simp; done) | (simp [*]; done), by repeat (first | exact Drawn0.refl _ | apply Drawn0.step)⟩
    ·
     rw [if_neg c14] at H
     have c14b0 : decide (48 ≤ a0) = false := decide_eq_false c14
     clear c14
     by_cases c19 : a0 = 45
     ·
      rw [if_pos c19] at H
      have c19b0 : (a0 == 45) = true := beq_iff_eq.mpr c19
      have c19b1 : (a0 != 45) = false := bne_eq_false_iff_eq.mpr c19
      clear c19
      obtain rfl := Option.some.inj H
      go_enter Tryd.func43, Tryd.ntmps43
      go_wp2
      go_ret
      exact ⟨by first | rfl | (simp; done) | (simp [*]; done), by repeat (first | exact Drawn0.refl _ | apply Drawn0.step)⟩
     ·
      rw [if_neg c19] at H
      have c19b0 : (a0 == 45) = false := beq_eq_false_iff_ne.mpr c19
      have c19b1 : (a0 != 45) = true := bne_iff_ne.mpr c19
      by_cases c20 : a0 = 46
      ·
       rw [if_pos c20] at H
       have c20b0 : (a0 == 46) = true := beq_iff_eq.mpr c20
       have c20b1 : (a0 != 46) = false := bne_eq_false_iff_eq.mpr c20
       clear c20
       obtain rfl := Option.some.inj H
       go_enter Tryd.func43, Tryd.ntmps43
       go_wp2
       go_ret
       exact ⟨by first | rfl | (simp; done) | (simp [*]; done), by repeat (first | exact Drawn0.refl _ | apply Drawn0.step)⟩
      ·
       rw [if_neg c20] at H
       have c20b0 : (a0 == 46) = false := beq_eq_false_iff_ne.mpr c20
       have c20b1 : (a0 != 46) = true := bne_iff_ne.mpr c20
       by_cases c21 : a0 = 95
       ·
        rw [if_pos c21] at H
        have c21b0 : (a0 == 95) = true := beq_iff_eq.mpr c21
        have c21b1 : (a0 != 95) = false := bne_eq_false_iff_eq.mpr c21
        clear c21
        obtain rfl := Option.some.inj H
        go_enter Tryd.func43, Tryd.ntmps43
        go_wp2
        go_ret
        exact ⟨by first | rfl | (simp; done) | (simp [*]; done), by repeat (first | exact Drawn0.refl _ | apply Drawn0.step)⟩
       ·
        rw [if_neg c21] at H
        have c21b0 : (a0 == 95) = false := beq_eq_false_iff_ne.mpr c21
        have c21b1 : (a0 != 95) = true := bne_iff_ne.mpr c21
        obtain rfl := Option.some.inj H
        go_enter Tryd.func43, Tryd.ntmps43
        go_wp2
        go_ret
        exact ⟨by first | rfl | (simp; done) | (simp [*]; done), by repeat (first | exact Drawn0.refl _ | apply Drawn0.step)⟩
 ·
  rw [if_neg c2] at H
  have c2b0 : decide (97 ≤ a0) = false := decide_eq_false c2
  clear c2
  by_cases c22 : a0 ≥ 65
  ·
   rw [if_pos c22] at H
   have c22b0 : decide (65 ≤ a0) = true := decide_eq_true c22
   clear c22
   by_cases c23 : a0 ≤ 90
   ·
    rw [if_pos c23] at H
    have c23b0 : decide (a0 ≤ 90) = true := decide_eq_true c23
    clear c23
    obtain rfl := Option.some.inj H
    go_enter Tryd.func43, Tryd.ntmps43
    go_wp2
    go_ret
    exact ⟨by first | rfl | (simp; done) | (simp [*]; done), by repeat (first | exact Drawn0.refl _ | apply Drawn0.step)⟩
   ·
    rw [if_neg c23] at H
    have c23b0 : decide (a0 ≤ 90) = false := decide_eq_false c23
    clear c23
    by_cases c24 : a0 ≥ 48
    ·
     rw [if_pos c24] at H
     have c24b0 : decide (48 ≤ a0) = true := decide_eq_true c24
     clear c24
     by_cases c25 : a0 ≤ 57
     ·
      rw [if_pos c25] at H
      have c25b0 : decide (a0 ≤ 57) = true := decide_eq_true c25
      clear c25
      obtain rfl := Option.some.inj H
      go_enter Tryd.func43, Tryd.ntmps43
      go_wp2
      go_ret
      exact ⟨by first | rfl | (simp; done) | (simp [*]; done), by repeat (first | exact Drawn0.refl _ | apply Drawn0.step)⟩
     ·
      rw [if_neg c25] at H
      have c25b0 : decide (a0 ≤ 57) = false := decide_eq_false c25
      clear c25
      by_cases c26 : a0 = 45
      ·
       rw [if_pos c26] at H
       have c26b0 : (a0 == 45) = true := beq_iff_eq.mpr c26
       have c26b1 : (a0 != 45) = false := bne_eq_false_iff_eq.mpr c26
       clear c26
       obtain rfl := Option.some.inj H
       go_enter Tryd.func43, Tryd.ntmps43
       go_wp2
       go_ret
       exact ⟨by first | rfl | (simp; done) | (simp [*]; done), by repeat (first | exact Drawn0.refl _ | apply Drawn0.step)⟩
      ·
       rw [if_neg c26] at H
       have c26b0 : (a0 == 45) = false := beq_eq_false_iff_ne.mpr c26
       have c26b1 : (a0 != 45) = true := bne_iff_ne.mpr c26
       by_cases c27 : a0 = 46
       ·
        rw [if_pos c27] at H
        have c27b0 : (a0 == 46) = true := beq_iff_eq.mpr c27
        have c27b1 : (a0 != 46) = false := bne_eq_false_iff_eq.mpr c27
        clear c27
        obtain rfl := Option.some.inj H
        go_enter Tryd.func43, Tryd.ntmps43
        go_wp2
        go_ret
        exact ⟨by first | rfl | (simp; done) | (simp [*]; done), by repeat (first | exact Drawn0.refl _ | apply Drawn0.step)⟩
       ·
        rw [if_neg c27] at H
        have c27b0 : (a0 == 46) = false := beq_eq_false_iff_ne.mpr c27
        have c27b1 : (a0 != 46) = true := bne_iff_ne.mpr c27
        by_cases c28 : a0 = 95
        ·
         rw [if_pos c28] at H
         have c28b0 : (a0 == 95) = true := beq_iff_eq.mpr c28
         have c28b1 : (a0 != 95) = false := bne_eq_false_iff_eq.mpr c28
         clear c28
         obtain rfl := Option.some.inj H
         go_enter Tryd.func43, Tryd.ntmps43
         go_wp2
         go_ret
         exact ⟨by first | rfl | (simp; done) | (simp [*]; done), by repeat (first | exact Drawn0.refl _ | apply Drawn0.step)⟩
        ·
         rw [if_neg c28] at H
         have c28b0 : (a0 == 95) = false := beq_eq_false_iff_ne.mpr c28
         have c28b1 : (a0 != 95) = true := bne_iff_ne.mpr c28
         obtain rfl := Option.some.inj H
         go_enter Tryd.func43, Tryd.ntmps43
         go_wp2
         go_ret
         exact ⟨by first | rfl | (simp; done) | (simp [*]; done), by repeat (first | exact Drawn0.refl _ | apply Drawn0.step)⟩
    ·
     rw [if_neg c24] at H
     have c24b0 : decide (48 ≤ a0) = false := decide_eq_false c24
     clear c24
     by_cases c29 : a0 = 45
     ·
      rw [if_pos c29] at H
      have c29b0 : (a0 == 45) = true := beq_iff_eq.mpr c29
      have c29b1 : (a0 != 45) = false := bne_eq_false_iff_eq.mpr c29
      clear c29
      obtain rfl := Option.some.inj H
      go_enter Tryd.func43, Tryd.ntmps43
      go_wp2
      go_ret
      exact ⟨by first | rfl | (simp; done) | (simp [*]; done), by repeat (first | exact Drawn0.refl _ | apply Drawn0.step)⟩
     ·
      rw [if_neg c29] at H
      have c29b0 : (a0 == 45) = false := beq_eq_false_iff_ne.mpr c29
      have c29b1 : (a0 != 45) = true := bne_iff_ne.mpr c29
      by_cases c30 : a0 = 46
      ·
       rw [if_pos c30] at H
       have c30b0 : (a0 == 46) = true := beq_iff_eq.mpr c30
       have c30b1 : (a0 != 46) = false := bne_eq_false_iff_eq.mpr c30
       clear c30
       obtain rfl := Option.some.inj H
       go_enter Tryd.func43, Tryd.ntmps43
       go_wp2
       go_ret
       exact ⟨by first | rfl | (simp; done) | (simp [*]; done), by repeat (first | exact Drawn0.refl _ | apply Drawn0.step)⟩
      ·
       rw [if_neg c30] at H
       have c30b0 : (a0 == 46) = false := beq_eq_false_iff_ne.mpr c30
       have c30b1 : (a0 != 46) = true := bne_iff_ne.mpr c30
       by_cases c31 : a0 = 95
       ·
        rw [if_pos c31] at H
        have c31b0 : (a0 == 95) = true := beq_iff_eq.mpr c31
        have c31b1 : (a0 != 95) = false := bne_eq_false_iff_eq.mpr c31
        clear c31
        obtain rfl := Option.some.inj H
        go_enter Tryd.func43, Tryd.ntmps43
        go_wp2
        go_ret
        exact ⟨by first | rfl | (simp; done) | (simp [*]; done), by repeat (first | exact Drawn0.refl _ | apply Drawn0.step)⟩
       ·
        rw [if_neg c31] at H
        have c31b0 : (a0 == 95) = false := beq_eq_false_iff_ne.mpr c31
        have c31b1 : (a0 != 95) = true := bne_iff_ne.mpr c31
        obtain rfl := Option.some.inj H
        go_enter Tryd.func43, Tryd.ntmps43
        go_wp2
        go_ret
        exact ⟨by first | rfl | (simp; done) | (simp [*]; done), by repeat (first | exact Drawn0.refl _ | apply Drawn0.step)⟩
  ·
   rw [if_neg c22] at H
   have c22b0 : decide (65 ≤ a0) = false := decide_eq_false c22
   clear c22
   by_cases c32 : a0 ≥ 48
   ·
    rw [if_pos c32] at H
    have c32b0 : decide (48 ≤ a0) = true := decide_eq_true c32
    clear c32
    by_cases c33 : a0 ≤ 57
    ·
     rw [if_pos c33] at H
     have c33b0 : decide (a0 ≤ 57) = true := decide_eq_true c33
     clear c33
     obtain rfl := Option.some.inj H
     go_enter Tryd.func43, Tryd.ntmps43
     go_wp2
     go_ret
     exact ⟨by first | rfl | (simp; done) | (simp [*]; done), by repeat (first | exact Drawn0.refl _ | apply Drawn0.step)⟩
    ·
     rw [if_neg c33] at H
     have c33b0 : decide (a0 ≤ 57) = false := decide_eq_false c33
     clear c33
     by_cases c34 : a0 = 45
     ·
      rw [if_pos c34] at H
      have c34b0 : (a0 == 45) = true := beq_iff_eq.mpr c34
      have c34b1 : (a0 != 45) = false := bne_eq_false_iff_eq.mpr c34
      clear c34
      obtain rfl := Option.some.inj H
      go_enter Tryd.func43, Tryd.ntmps43
      go_wp2
      go_ret
      exact ⟨by first | rfl | (simp; done) | (simp [*]; done), by repeat (first | exact Drawn0.refl _ | apply Drawn0.step)⟩
     ·
      rw [if_neg c34] at H
      have c34b0 : (a0 == 45) = false := beq_eq_false_iff_ne.mpr c34
      have c34b1 : (a0 != 45) = true := bne_iff_ne.mpr c34
      by_cases c35 : a0 = 46
      ·
       rw [if_pos c35] at H
       have c35b0 : (a0 == 46) = true := beq_iff_eq.mpr c35
       have c35b1 : (a0 != 46) = false := bne_eq_false_iff_eq.mpr c35
       clear c35
       obtain rfl := Option.some.inj H
       go_enter Tryd.func43, Tryd.ntmps43
       go_wp2
       go_ret
       exact ⟨by first | rfl | (simp; done) | (simp [*]; done), by repeat (first | exact Drawn0.refl _ | apply Drawn0.step)⟩
      ·
       rw [if_neg c35] at H
       have c35b0 : (a0 == 46) = false := beq_eq_false_iff_ne.mpr c35
       have c35b1 : (a0 != 46) = true := bne_iff_ne.mpr c35
       by_cases c36 : a0 = 95
       ·
        rw [if_pos c36] at H
        have c36b0 : (a0 == 95) = true := beq_iff_eq.mpr c36
        have c36b1 : (a0 != 95) = false := bne_eq_false_iff_eq.mpr c36
        clear c36
        obtain rfl := Option.some.inj H
        go_enter Tryd.func43, Tryd.ntmps43
        go_wp2
        go_ret
        exact ⟨by first | rfl | (simp; done) | (simp [*]; done), by repeat (first | exact Drawn0.refl _ | apply Drawn0.step)⟩
       ·
        rw [if_neg c36] at H
        have c36b0 : (a0 == 95) = false := beq_eq_false_iff_ne.mpr c36
        have c36b1 : (a0 != 95) = true := bne_iff_ne.mpr c36
        obtain rfl := Option.some.inj H
        go_enter Tryd.func43, Tryd.ntmps43
        go_wp2
        go_ret
        exact ⟨by first | rfl | (simp; done) | (simp [*]; done), by repeat (first | exact Drawn0.refl _ | apply Drawn0.step)⟩
   ·
    rw [if_neg c32] at H
    have c32b0 : decide (48 ≤ a0) = false := decide_eq_false c32
    clear c32
    by_cases c37 : a0 = 45
    ·
     rw [if_pos c37] at H
     have c37b0 : (a0 == 45) = true := beq_iff_eq.mpr c37
     have c37b1 : (a0 != 45) = false := bne_eq_false_iff_eq.mpr c37
     clear c37
     obtain rfl := Option.some.inj H
     go_enter Tryd.func43, Tryd.ntmps43
     go_wp2
     go_ret
     exact ⟨by first | rfl | (simp; done) | (simp [*]; done), by repeat (first | exact Drawn0.refl _ | apply Drawn0.step)⟩
    ·
     rw [if_neg c37] at H
     have c37b0 : (a0 == 45) = false := beq_eq_false_iff_ne.mpr c37
     have c37b1 : (a0 != 45) = true := bne_iff_ne.mpr c37
     by_cases c38 : a0 = 46
     ·
      rw [if_pos c38] at H
      have c38b0 : (a0 == 46) = true := beq_iff_eq.mpr c38
      have c38b1 : (a0 != 46) = false := bne_eq_false_iff_eq.mpr c38
      clear c38
      obtain rfl := Option.some.inj H
      go_enter Tryd.func43, Tryd.ntmps43
      go_wp2
      go_ret
      exact ⟨by first | rfl | (simp; done) | (simp [*]; done), by repeat (first | exact Drawn0.refl _ | apply Drawn0.step)⟩
     ·
      rw [if_neg c38] at H
      have c38b0 : (a0 == 46) = false := beq_eq_false_iff_ne.mpr c38
      have c38b1 : (a0 != 46) = true := bne_iff_ne.mpr c38
      by_cases c39 : a0 = 95
      ·
       rw [if_pos c39] at H
       have c39b0 : (a0 == 95) = true := beq_iff_eq.mpr c39
       have c39b1 : (a0 != 95) = false := bne_eq_false_iff_eq.mpr c39
       clear c39
       obtain rfl := Option.some.inj H
       go_enter Tryd.func43, Tryd.ntmps43
       go_wp2
       go_ret
       exact ⟨by first | rfl | (simp; done) | (simp [*]; done), by repeat (first | exact Drawn0.refl _ | apply Drawn0.step)⟩
      ·
       rw [if_neg c39] at H
       have c39b0 : (a0 == 95) = false := beq_eq_false_iff_ne.mpr c39
       have c39b1 : (a0 != 95) = true := bne_iff_ne.mpr c39
       obtain rfl := Option.some.inj H
       go_enter Tryd.func43, Tryd.ntmps43
       go_wp2
       go_ret
       exact ⟨by first | rfl | (simp; done) | (simp [*]; done), by repeat (first | exact Drawn0.refl _ | apply Drawn0.step)⟩

/-! ### porticoref3_hex: function 44 -/
mutual
def porticoref3_hex.j0 : Nat → Int → Bool → Option (Int)
 | 0, _, _ => none
 | k + 1, x0, x3 => if x3 = true then (some ((x0 - 48) % 256)) else (if x0 ≥ 97 then (porticoref3_hex.j1 k x0 (decide (x0 ≤ 102))) else (porticoref3_hex.j1 k x0 false))
def porticoref3_hex.j1 : Nat → Int → Bool → Option (Int)
 | 0, _, _ => none
 | k + 1, x0, x13 => if x13 = true then (some (((x0 - 97) % 256) + 10)) else (if x0 ≥ 65 then (if x0 ≤ 70 then (some (((x0 - 65) % 256) + 10)) else (some (-1))) else (some (-1)))
end
def porticoref3_hex.f (k : Nat) (a0 : Int) : Option (Int) := if a0 ≥ 48 then (porticoref3_hex.j0 k a0 (decide (a0 ≤ 57))) else (porticoref3_hex.j0 k a0 false)
theorem porticoref3_hex.mono_l : ∀ k, (∀ y0 y1, LeO (porticoref3_hex.j0 k y0 y1) (porticoref3_hex.j0 (k + 1) y0 y1)) ∧ (∀ y0 y1, LeO (porticoref3_hex.j1 k y0 y1) (porticoref3_hex.j1 (k + 1) y0 y1))
 | 0 => ⟨fun _ _ r h => by simp [porticoref3_hex.j0] at h, fun _ _ r h => by simp [porticoref3_hex.j1] at h⟩
 | k + 1 => by
  obtain ⟨ih0, ih1⟩ := porticoref3_hex.mono_l k
  refine ⟨?_, ?_⟩
  ·
   intro y0 y1
   unfold porticoref3_hex.j0
   repeat' first
   | (with_reducible exact ih0 _ _)
   | (with_reducible exact ih1 _ _)
   | (with_reducible exact LeO.refl _)
   | (with_reducible exact LeO.none _)
   | (with_reducible refine LeO.ite ?_ ?_)
   | (with_reducible refine LeO.bind ?_ (fun _ => ?_))
   | exact ih0 _ _
   | exact ih1 _ _
   | exact LeO.none _
   | refine LeO.ite ?_ ?_
   | refine LeO.bind ?_ (fun _ => ?_)
  ·
   intro y0 y1
   unfold porticoref3_hex.j1
   repeat' first
   | (with_reducible exact ih0 _ _)
   | (with_reducible exact ih1 _ _)
   | (with_reducible exact LeO.refl _)
   | (with_reducible exact LeO.none _)
   | (with_reducible refine LeO.ite ?_ ?_)
   | (with_reducible refine LeO.bind ?_ (fun _ => ?_))
   | exact ih0 _ _
   | exact ih1 _ _
   | exact LeO.none _
   | refine LeO.ite ?_ ?_
   | refine LeO.bind ?_ (fun _ => ?_)
theorem porticoref3_hex.mono : ∀ a0 k, LeO (porticoref3_hex.f k a0) (porticoref3_hex.f (k + 1) a0) := by
 intro a0 k
 obtain ⟨ih0, ih1⟩ := porticoref3_hex.mono_l k
 unfold porticoref3_hex.f
 repeat' first
   | (with_reducible exact ih0 _ _)
   | (with_reducible exact ih1 _ _)
   | (with_reducible exact LeO.refl _)
   | (with_reducible exact LeO.none _)
   | (with_reducible refine LeO.ite ?_ ?_)
   | (with_reducible refine LeO.bind ?_ (fun _ => ?_))
   | exact ih0 _ _
   | exact ih1 _ _
   | exact LeO.none _
   | refine LeO.ite ?_ ?_
   | refine LeO.bind ?_ (fun _ => ?_)
set_option maxHeartbeats 8000000 in
set_option maxRecDepth 100000 in
theorem porticoref3_hex.calls (k : Nat) (a0 : Int) (r : Int) (w : World) (h : porticoref3_hex.f k a0 = some r) :
  Calls Tryd.prog 44 #[.int .u8 a0] w fun e w' => e = .returned (.int .i64 r) ∧ Drawn0 w w' := by
 have H : (if a0 ≥ 48 then (porticoref3_hex.j0 k a0 (decide (a0 ≤ 57))) else (porticoref3_hex.j0 k a0 false)) = some r := h
 clear h
 have HC2 := Aside0.mk H
 clear H
 go_enter Tryd.func44, Tryd.ntmps44
 go_upto_region 1 with (fail)
 go_cut [3] (fun v3 wc => ∃ (kq : Nat) (x3_1 : Bool), v3 = .bool x3_1 ∧ Aside0 (porticoref3_hex.j0 kq a0 x3_1 = some r) ∧ Aside0 (kq ≤ k) ∧ Drawn0 w wc)
 case first =>
  have H := HC2.out
  clear HC2
  by_cases c3 : a0 ≥ 48
  ·
   rw [if_pos c3] at H
   have c3b0 : decide (48 ≤ a0) = true := decide_eq_true c3
   clear c3
   (first | rw [c3b0] | (simp only [i64_w, i32_w]; rw [c3b0]) | skip)
   have H' := Aside0.mk H
   clear H
   go_wp2
   go_meet
   case rel => exact ⟨_, (decide (a0 ≤ 57)), (by first | rfl | (simp; done) | (simp [*]; done)), H', ⟨by first | omega | exact Nat.le_refl _⟩, by repeat (first | exact Drawn0.refl _ | apply Drawn0.step)⟩
  ·
   rw [if_neg c3] at H
   have c3b0 : decide (48 ≤ a0) = false := decide_eq_false c3
   clear c3
   (first | rw [c3b0] | (simp only [i64_w, i32_w]; rw [c3b0]) | skip)
   have H' := Aside0.mk H
   clear H
   go_wp2
   go_meet
   case rel => exact ⟨_, (false), (by first | rfl | (simp; done) | (simp [*]; done)), H', ⟨by first | omega | exact Nat.le_refl _⟩, by repeat (first | exact Drawn0.refl _ | apply Drawn0.step)⟩
 case rest =>
  clear HC2
  try clear p2
  try clear c3
  try clear c3b0
  obtain ⟨kq, x3_1, rfl, HA, HJ1, ⟨mc1, rfl⟩⟩ := hcut
  cases kq with
  | zero => exact absurd HA.out (by simp [porticoref3_hex.j0])
  | succ kj1 =>
   have H := HA.out
   clear HA
   simp only [porticoref3_hex.j0] at H
   by_cases c4 : x3_1 = true
   ·
    subst c4
    have H1 : (some ((a0 - 48) % 256)) = some r := by rw [if_pos rfl] at H; exact H
    clear H
    have H := H1
    clear H1
    obtain rfl := Option.some.inj H
    go_wp2
    go_ret
    exact ⟨by first | rfl | (simp; done) | (simp [*]; done), by repeat (first | exact Drawn0.refl _ | apply Drawn0.step)⟩
   ·
    replace c4 := Bool.eq_false_iff.mpr c4
    subst c4
    have H1 : (if a0 ≥ 97 then (porticoref3_hex.j1 kj1 a0 (decide (a0 ≤ 102))) else (porticoref3_hex.j1 kj1 a0 false)) = some r := by rw [if_neg (show ¬ (false = true) by decide)] at H; exact H
    clear H
    have H := H1
    clear H1
    have HC5 := Aside0.mk H
    clear H
    go_upto_region 3 with (fail)
    go_cut [13] (fun v13 wc => ∃ (kq : Nat) (x13_4 : Bool), v13 = .bool x13_4 ∧ Aside0 (porticoref3_hex.j1 kq a0 x13_4 = some r) ∧ Aside0 (kq ≤ kj1) ∧ Drawn0 w wc)
    case first =>
     have H := HC5.out
     clear HC5
     by_cases c6 : a0 ≥ 97
     ·
      rw [if_pos c6] at H
      have c6b0 : decide (97 ≤ a0) = true := decide_eq_true c6
      clear c6
      (first | rw [c6b0] | (simp only [i64_w, i32_w]; rw [c6b0]) | skip)
      have H' := Aside0.mk H
      clear H
      go_wp2
      go_meet
      case rel => exact ⟨_, (decide (a0 ≤ 102)), (by first | rfl | (simp; done) | (simp [*]; done)), H', ⟨by have := HJ1.out; first | omega | exact Nat.le_refl _⟩, by repeat (first | exact Drawn0.refl _ | apply Drawn0.step)⟩
     ·
      rw [if_neg c6] at H
      have c6b0 : decide (97 ≤ a0) = false := decide_eq_false c6
      clear c6
      (first | rw [c6b0] | (simp only [i64_w, i32_w]; rw [c6b0]) | skip)
      have H' := Aside0.mk H
      clear H
      go_wp2
      go_meet
      case rel => exact ⟨_, (false), (by first | rfl | (simp; done) | (simp [*]; done)), H', ⟨by have := HJ1.out; first | omega | exact Nat.le_refl _⟩, by repeat (first | exact Drawn0.refl _ | apply Drawn0.step)⟩
    case rest =>
     clear HC5
     try clear c1
     try clear p2
     try clear c3
     try clear c3b0
     try clear c4
     try clear c6
     try clear c6b0
     try clear p2
     obtain ⟨kq, x13_4, rfl, HA, HJ4, ⟨mc4, rfl⟩⟩ := hcut
     cases kq with
     | zero => exact absurd HA.out (by simp [porticoref3_hex.j1])
     | succ kj4 =>
      have H := HA.out
      clear HA
      simp only [porticoref3_hex.j1] at H
      by_cases c7 : x13_4 = true
      ·
       subst c7
       have H1 : (some (((a0 - 97) % 256) + 10)) = some r := by rw [if_pos rfl] at H; exact H
       clear H
       have H := H1
       clear H1
       obtain rfl := Option.some.inj H
       go_wp2
       go_ret
       exact ⟨by first | rfl | (simp; done) | (simp [*]; done), by repeat (first | exact Drawn0.refl _ | apply Drawn0.step)⟩
      ·
       replace c7 := Bool.eq_false_iff.mpr c7
       subst c7
       have H1 : (if a0 ≥ 65 then (if a0 ≤ 70 then (some (((a0 - 65) % 256) + 10)) else (some (-1))) else (some (-1))) = some r := by rw [if_neg (show ¬ (false = true) by decide)] at H; exact H
       clear H
       have H := H1
       clear H1
       by_cases c8 : a0 ≥ 65
       ·
        rw [if_pos c8] at H
        have c8b0 : decide (65 ≤ a0) = true := decide_eq_true c8
        clear c8
        by_cases c9 : a0 ≤ 70
        ·
         rw [if_pos c9] at H
         have c9b0 : decide (a0 ≤ 70) = true := decide_eq_true c9
         clear c9
         obtain rfl := Option.some.inj H
         go_wp2
         go_ret
         exact ⟨by first | rfl | (simp; done) | (simp [*]; done), by repeat (first | exact Drawn0.refl _ | apply Drawn0.step)⟩
        ·
         rw [if_neg c9] at H
         have c9b0 : decide (a0 ≤ 70) = false := decide_eq_false c9
         clear c9
         obtain rfl := Option.some.inj H
         go_wp2
         go_ret
         exact ⟨by first | rfl | (simp; done) | (simp [*]; done), by repeat (first | exact Drawn0.refl _ | apply Drawn0.step)⟩
       ·
        rw [if_neg c8] at H
        have c8b0 : decide (65 ≤ a0) = false := decide_eq_false c8
        clear c8
        obtain rfl := Option.some.inj H
        go_wp2
        go_ret
        exact ⟨by first | rfl | (simp; done) | (simp [*]; done), by repeat (first | exact Drawn0.refl _ | apply Drawn0.step)⟩

end Go.Proofs.YtcaaggfobdfgpaaDoor.PURLTells
