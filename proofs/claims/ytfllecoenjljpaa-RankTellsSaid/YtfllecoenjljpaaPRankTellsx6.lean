-- Printed by a program of this session's own (wip/tools: a turned copy of the kit's print).
import Derived.Test.YtfllecoenjljpaaPRankTellsx0
import Derived.Test.YtfllecoenjljpaaStrRankTells
import Derived.Test.YtfllecoenjljpaaPRankTellsx5
namespace Go.Proofs.Ytfllecoenjljpaa.PRankTells
open Go.Proofs.Ytfllecoenjljpaa.Given
open Go.RowKit Go.Proofs.YtfllecoenjljpaaW.PrintWords Go.Proofs.YtfllecoenjljpaaW.PrintLast Go.Proofs.YtfllecoenjljpaaW.PrintMore
attribute [local go_sem] max2_int min2_int max_two min_two max_three min_three max_four min_four   -- for this text's walks alone
set_option linter.unusedVariables false
set_option linter.unusedSimpArgs false

/-! ### porticoref3_Compare: function 15 -/
mutual
def porticoref3_Compare.l0 : Nat → List (S23) → List (S23) → Int → Option (Int)
  | 0, _, _, _ => none
  | k + 1, x0, x1, x5 => if x5 < (x0.length : Int) then (porticoref3_Compare.j1 k x0 x1 x5 (decide (x5 < (x1.length : Int)))) else (porticoref3_Compare.j1 k x0 x1 x5 false)
def porticoref3_Compare.j1 : Nat → List (S23) → List (S23) → Int → Bool → Option (Int)
  | 0, _, _, _, _ => none
  | k + 1, x0, x1, x5, x16 => if x16 = true then (if 0 ≤ x5 then (if x5 < (x0.length : Int) then (if x5 < (x1.length : Int) then (if ((rd_T23 x0 x5).f0) < ((rd_T23 x1 x5).f0) then (some (-1)) else (if ((rd_T23 x0 x5).f0) > ((rd_T23 x1 x5).f0) then (some 1) else (porticoref3_Compare.l0 k x0 x1 (wrap64 (x5 + 1))))) else (none)) else (none)) else (none)) else (if (x0.length : Int) = (x1.length : Int) then (porticoref3_Compare.l1 k x0 x1 (x0.length : Int) 0) else ((porticoref3_sign.f (wrap64 ((x1.length : Int) - (x0.length : Int)))).bind fun t222 => (some t222)))
def porticoref3_Compare.l1 : Nat → List (S23) → List (S23) → Int → Int → Option (Int)
  | 0, _, _, _, _ => none
  | k + 1, x0, x1, x53, x54 => if x54 < x53 then (if 0 ≤ x54 then (if x54 < (x0.length : Int) then (if x54 < (x1.length : Int) then (if (Op.bytesLess (((rd_T23 x0 x54).f1).toList) (((rd_T23 x1 x54).f1).toList)) = true then (some (-1)) else (if (Op.bytesLess (((rd_T23 x1 x54).f1).toList) (((rd_T23 x0 x54).f1).toList)) = true then (some 1) else (porticoref3_Compare.l1 k x0 x1 x53 (wrap64 (x54 + 1))))) else (none)) else (none)) else (none)) else (some 0)
end
def porticoref3_Compare.f (k : Nat) (l0 : List (S23)) (l1 : List (S23)) : Option (Int) := porticoref3_Compare.l0 k l0 l1 0
theorem porticoref3_Compare.mono_l : ∀ k, (∀ y0 y1 y2, LeO (porticoref3_Compare.l0 k y0 y1 y2) (porticoref3_Compare.l0 (k + 1) y0 y1 y2)) ∧ (∀ y0 y1 y2 y3, LeO (porticoref3_Compare.j1 k y0 y1 y2 y3) (porticoref3_Compare.j1 (k + 1) y0 y1 y2 y3)) ∧ (∀ y0 y1 y2 y3, LeO (porticoref3_Compare.l1 k y0 y1 y2 y3) (porticoref3_Compare.l1 (k + 1) y0 y1 y2 y3))
  | 0 => ⟨fun _ _ _ r h => by simp [porticoref3_Compare.l0] at h, fun _ _ _ _ r h => by simp [porticoref3_Compare.j1] at h, fun _ _ _ _ r h => by simp [porticoref3_Compare.l1] at h⟩
  | k + 1 => by
    obtain ⟨ih0, ih1, ih2⟩ := porticoref3_Compare.mono_l k
    refine ⟨?_, ?_, ?_⟩
    · intro y0 y1 y2
      unfold porticoref3_Compare.l0
      repeat' first
      | (with_reducible exact ih0 _ _ _)
      | (with_reducible exact ih1 _ _ _ _)
      | (with_reducible exact ih2 _ _ _ _)
      | (with_reducible exact LeO.refl _)
      | (with_reducible exact LeO.none _)
      | (with_reducible refine LeO.ite ?_ ?_)
      | (with_reducible refine LeO.bind ?_ (fun _ => ?_))
      | exact ih0 _ _ _
      | exact ih1 _ _ _ _
      | exact ih2 _ _ _ _
      | exact LeO.none _
      | refine LeO.ite ?_ ?_
      | refine LeO.bind ?_ (fun _ => ?_)
    · intro y0 y1 y2 y3
      unfold porticoref3_Compare.j1
      repeat' first
      | (with_reducible exact ih0 _ _ _)
      | (with_reducible exact ih1 _ _ _ _)
      | (with_reducible exact ih2 _ _ _ _)
      | (with_reducible exact LeO.refl _)
      | (with_reducible exact LeO.none _)
      | (with_reducible refine LeO.ite ?_ ?_)
      | (with_reducible refine LeO.bind ?_ (fun _ => ?_))
      | exact ih0 _ _ _
      | exact ih1 _ _ _ _
      | exact ih2 _ _ _ _
      | exact LeO.none _
      | refine LeO.ite ?_ ?_
      | refine LeO.bind ?_ (fun _ => ?_)
    · intro y0 y1 y2 y3
      unfold porticoref3_Compare.l1
      repeat' first
      | (with_reducible exact ih0 _ _ _)
      | (with_reducible exact ih1 _ _ _ _)
      | (with_reducible exact ih2 _ _ _ _)
      | (with_reducible exact LeO.refl _)
      | (with_reducible exact LeO.none _)
      | (with_reducible refine LeO.ite ?_ ?_)
      | (with_reducible refine LeO.bind ?_ (fun _ => ?_))
      | exact ih0 _ _ _
      | exact ih1 _ _ _ _
      | exact ih2 _ _ _ _
      | exact LeO.none _
      | refine LeO.ite ?_ ?_
      | refine LeO.bind ?_ (fun _ => ?_)
theorem porticoref3_Compare.mono : ∀ a0 a1 k, LeO (porticoref3_Compare.f k a0 a1) (porticoref3_Compare.f (k + 1) a0 a1) := by
  intro a0 a1 k
  obtain ⟨ih0, ih1, ih2⟩ := porticoref3_Compare.mono_l k
  unfold porticoref3_Compare.f
  repeat' first
      | (with_reducible exact ih0 _ _ _)
      | (with_reducible exact ih1 _ _ _ _)
      | (with_reducible exact ih2 _ _ _ _)
      | (with_reducible exact LeO.refl _)
      | (with_reducible exact LeO.none _)
      | (with_reducible refine LeO.ite ?_ ?_)
      | (with_reducible refine LeO.bind ?_ (fun _ => ?_))
      | exact ih0 _ _ _
      | exact ih1 _ _ _ _
      | exact ih2 _ _ _ _
      | exact LeO.none _
      | refine LeO.ite ?_ ?_
      | refine LeO.bind ?_ (fun _ => ?_)
set_option maxHeartbeats 8000000 in
set_option maxRecDepth 100000 in
theorem porticoref3_Compare.calls (k : Nat) (A0 : Option Addr) (c0 : Nat) (l0 : List (S23)) (A1 : Option Addr) (c1 : Nat) (l1 : List (S23)) (r : Int) (w : World) (hr0 : Kd.C k23 w A0 l0.length l0) (hc0 : l0.length ≤ c0) (hr1 : Kd.C k23 w A1 l1.length l1) (hc1 : l1.length ≤ c1) (h : porticoref3_Compare.f k l0 l1 = some r) :
    Calls Try.prog 15 #[.slice A0 l0.length c0, .slice A1 l1.length c1] w fun e w' => e = .returned (.int .i64 r) ∧ Drawn0 w w' := by
  have HR0 := Aside0.mk hr0
  have HC0 := Aside0.mk hc0
  clear hr0 hc0
  have HR1 := Aside0.mk hr1
  have HC1 := Aside0.mk hc1
  clear hr1 hc1
  have H : (porticoref3_Compare.l0 k l0 l1 0) = some r := h
  clear h
  have H' := Aside0.mk H
  clear H
  go_enter Try.func15, Try.ntmps15
  go_wp2
  repeat (go_quiet (fail); try go_wp2)
  go_loopg [5] k (fun kq v5 w' => ∃ (x5_1 : Int), v5 = .int .i64 x5_1 ∧ Aside0 (porticoref3_Compare.l0 kq l0 l1 x5_1 = some r) ∧ Aside0 (kq ≤ k) ∧ Drawn0 w w')
  case atStart => exact ⟨(0), (by first | rfl | (simp; done) | (simp [*]; done)), H', ⟨Nat.le_refl _⟩, by repeat (first | exact Drawn0.refl _ | apply Drawn0.step)⟩
  case round =>
    clear H'
    try clear c1
    try clear p2
    obtain ⟨x5_1, rfl, HA, HK1, ⟨m1, rfl⟩⟩ := hrel
    cases gk with
    | zero => exact absurd HA.out (by simp [porticoref3_Compare.l0])
    | succ k1 =>
      have H := HA.out
      clear HA
      simp only [porticoref3_Compare.l0] at H
      have HC3 := Aside0.mk H
      clear H
      go_upto_region 2 with (fail)
      repeat (go_quiet (fail); go_upto_region 2 with (fail))
      go_cut [16] (fun v16 wc => ∃ (kq : Nat) (x16_2 : Bool), v16 = .bool x16_2 ∧ Aside0 (porticoref3_Compare.j1 kq l0 l1 x5_1 x16_2 = some r) ∧ Aside0 (kq ≤ k1) ∧ Drawn0 w wc)
      case first =>
        have H := HC3.out
        clear HC3
        by_cases c4 : x5_1 < (l0.length : Int)
        · rw [if_pos c4] at H
          have c4b0 : decide (x5_1 < (l0.length : Int)) = true := decide_eq_true c4
          clear c4
          (first | rw [c4b0] | (simp only [i64_w, i32_w]; rw [c4b0]) | skip)
          have H' := Aside0.mk H
          clear H
          go_wp2
          repeat (go_quiet (fail); try go_wp2)
          go_meet
          case rel => exact ⟨_, (decide (x5_1 < (l1.length : Int))), (by first | rfl | (simp; done) | (simp [*]; done)), H', ⟨by have := HK1.out; first | omega | exact Nat.le_refl _⟩, by repeat (first | exact Drawn0.refl _ | apply Drawn0.step)⟩
        · rw [if_neg c4] at H
          have c4b0 : decide (x5_1 < (l0.length : Int)) = false := decide_eq_false c4
          clear c4
          (first | rw [c4b0] | (simp only [i64_w, i32_w]; rw [c4b0]) | skip)
          have H' := Aside0.mk H
          clear H
          go_wp2
          repeat (go_quiet (fail); try go_wp2)
          go_meet
          case rel => exact ⟨_, (false), (by first | rfl | (simp; done) | (simp [*]; done)), H', ⟨by have := HK1.out; first | omega | exact Nat.le_refl _⟩, by repeat (first | exact Drawn0.refl _ | apply Drawn0.step)⟩
      case rest =>
        clear HC3
        try clear c1
        try clear p2
        try clear c4
        try clear c4b0
        try clear p2
        obtain ⟨kq, x16_2, rfl, HA, HJ2, ⟨mc2, rfl⟩⟩ := hcut
        cases kq with
        | zero => exact absurd HA.out (by simp [porticoref3_Compare.j1])
        | succ kj2 =>
          have H := HA.out
          clear HA
          simp only [porticoref3_Compare.j1] at H
          by_cases c5 : x16_2 = true
          · subst c5
            have H1 : (if 0 ≤ x5_1 then (if x5_1 < (l0.length : Int) then (if x5_1 < (l1.length : Int) then (if ((rd_T23 l0 x5_1).f0) < ((rd_T23 l1 x5_1).f0) then (some (-1)) else (if ((rd_T23 l0 x5_1).f0) > ((rd_T23 l1 x5_1).f0) then (some 1) else (porticoref3_Compare.l0 kj2 l0 l1 (wrap64 (x5_1 + 1))))) else (none)) else (none)) else (none)) = some r := by rw [if_pos rfl] at H; exact H
            clear H
            have H := H1
            clear H1
            by_cases c6 : 0 ≤ x5_1
            · rw [if_pos c6] at H
              have c6b0 : decide (0 ≤ x5_1) = true := decide_eq_true c6
              clear c6
              by_cases c7 : x5_1 < (l0.length : Int)
              · rw [if_pos c7] at H
                have c7b0 : decide (x5_1 < (l0.length : Int)) = true := decide_eq_true c7
                clear c7
                by_cases c8 : x5_1 < (l1.length : Int)
                · rw [if_pos c8] at H
                  have c8b0 : decide (x5_1 < (l1.length : Int)) = true := decide_eq_true c8
                  clear c8
                  by_cases c9 : ((rd_T23 l0 x5_1).f0) < ((rd_T23 l1 x5_1).f0)
                  · rw [if_pos c9] at H
                    have c9b0 : decide (((rd_T23 l0 x5_1).f0) < ((rd_T23 l1 x5_1).f0)) = true := decide_eq_true c9
                    clear c9
                    obtain rfl := Option.some.inj H
                    have p218 : 0 ≤ (x5_1 : Int) := of_decide_eq_true (by first | (with_reducible assumption) | assumption)
                    have q218 : x5_1 < (l0.length : Int) := of_decide_eq_true (by first | (with_reducible assumption) | assumption)
                    obtain ⟨ad218, e218, hx218_0, hx218_1⟩ := at_T23 HR0.out x5_1 p218 q218
                    cases e218
                    replace p218 := eq_true p218
                    replace q218 := eq_true q218
                    have p219 : 0 ≤ (x5_1 : Int) := of_decide_eq_true (by first | (with_reducible assumption) | assumption)
                    have q219 : x5_1 < (l1.length : Int) := of_decide_eq_true (by first | (with_reducible assumption) | assumption)
                    obtain ⟨ad219, e219, hx219_0, hx219_1⟩ := at_T23 HR1.out x5_1 p219 q219
                    cases e219
                    replace p219 := eq_true p219
                    replace q219 := eq_true q219
                    go_wp2
                    repeat (go_quiet (fail); try go_wp2)
                    go_ret
                    exact ⟨by first | rfl | (simp; done) | (simp [*]; done), by repeat (first | exact Drawn0.refl _ | apply Drawn0.step)⟩
                  · rw [if_neg c9] at H
                    have c9b0 : decide (((rd_T23 l0 x5_1).f0) < ((rd_T23 l1 x5_1).f0)) = false := decide_eq_false c9
                    clear c9
                    by_cases c10 : ((rd_T23 l0 x5_1).f0) > ((rd_T23 l1 x5_1).f0)
                    · rw [if_pos c10] at H
                      have c10b0 : decide (((rd_T23 l1 x5_1).f0) < ((rd_T23 l0 x5_1).f0)) = true := decide_eq_true c10
                      clear c10
                      obtain rfl := Option.some.inj H
                      have p218 : 0 ≤ (x5_1 : Int) := of_decide_eq_true (by first | (with_reducible assumption) | assumption)
                      have q218 : x5_1 < (l0.length : Int) := of_decide_eq_true (by first | (with_reducible assumption) | assumption)
                      obtain ⟨ad218, e218, hx218_0, hx218_1⟩ := at_T23 HR0.out x5_1 p218 q218
                      cases e218
                      replace p218 := eq_true p218
                      replace q218 := eq_true q218
                      have p219 : 0 ≤ (x5_1 : Int) := of_decide_eq_true (by first | (with_reducible assumption) | assumption)
                      have q219 : x5_1 < (l1.length : Int) := of_decide_eq_true (by first | (with_reducible assumption) | assumption)
                      obtain ⟨ad219, e219, hx219_0, hx219_1⟩ := at_T23 HR1.out x5_1 p219 q219
                      cases e219
                      replace p219 := eq_true p219
                      replace q219 := eq_true q219
                      have p220 : 0 ≤ (x5_1 : Int) := of_decide_eq_true (by first | (with_reducible assumption) | assumption)
                      have q220 : x5_1 < (l0.length : Int) := of_decide_eq_true (by first | (with_reducible assumption) | assumption)
                      obtain ⟨ad220, e220, hx220_0, hx220_1⟩ := at_T23 HR0.out x5_1 p220 q220
                      obtain rfl : ad218 = ad220 := (by injection e220)
                      replace p220 := eq_true p220
                      replace q220 := eq_true q220
                      have p221 : 0 ≤ (x5_1 : Int) := of_decide_eq_true (by first | (with_reducible assumption) | assumption)
                      have q221 : x5_1 < (l1.length : Int) := of_decide_eq_true (by first | (with_reducible assumption) | assumption)
                      obtain ⟨ad221, e221, hx221_0, hx221_1⟩ := at_T23 HR1.out x5_1 p221 q221
                      obtain rfl : ad219 = ad221 := (by injection e221)
                      replace p221 := eq_true p221
                      replace q221 := eq_true q221
                      go_wp2
                      repeat (go_quiet (fail); try go_wp2)
                      go_ret
                      exact ⟨by first | rfl | (simp; done) | (simp [*]; done), by repeat (first | exact Drawn0.refl _ | apply Drawn0.step)⟩
                    · rw [if_neg c10] at H
                      have c10b0 : decide (((rd_T23 l1 x5_1).f0) < ((rd_T23 l0 x5_1).f0)) = false := decide_eq_false c10
                      clear c10
                      have H' := Aside0.mk H
                      clear H
                      have p218 : 0 ≤ (x5_1 : Int) := of_decide_eq_true (by first | (with_reducible assumption) | assumption)
                      have q218 : x5_1 < (l0.length : Int) := of_decide_eq_true (by first | (with_reducible assumption) | assumption)
                      obtain ⟨ad218, e218, hx218_0, hx218_1⟩ := at_T23 HR0.out x5_1 p218 q218
                      cases e218
                      replace p218 := eq_true p218
                      replace q218 := eq_true q218
                      have p219 : 0 ≤ (x5_1 : Int) := of_decide_eq_true (by first | (with_reducible assumption) | assumption)
                      have q219 : x5_1 < (l1.length : Int) := of_decide_eq_true (by first | (with_reducible assumption) | assumption)
                      obtain ⟨ad219, e219, hx219_0, hx219_1⟩ := at_T23 HR1.out x5_1 p219 q219
                      cases e219
                      replace p219 := eq_true p219
                      replace q219 := eq_true q219
                      have p220 : 0 ≤ (x5_1 : Int) := of_decide_eq_true (by first | (with_reducible assumption) | assumption)
                      have q220 : x5_1 < (l0.length : Int) := of_decide_eq_true (by first | (with_reducible assumption) | assumption)
                      obtain ⟨ad220, e220, hx220_0, hx220_1⟩ := at_T23 HR0.out x5_1 p220 q220
                      obtain rfl : ad218 = ad220 := (by injection e220)
                      replace p220 := eq_true p220
                      replace q220 := eq_true q220
                      have p221 : 0 ≤ (x5_1 : Int) := of_decide_eq_true (by first | (with_reducible assumption) | assumption)
                      have q221 : x5_1 < (l1.length : Int) := of_decide_eq_true (by first | (with_reducible assumption) | assumption)
                      obtain ⟨ad221, e221, hx221_0, hx221_1⟩ := at_T23 HR1.out x5_1 p221 q221
                      obtain rfl : ad219 = ad221 := (by injection e221)
                      replace p221 := eq_true p221
                      replace q221 := eq_true q221
                      go_wp2
                      repeat (go_quiet (fail); try go_wp2)
                      go_roundg kj2
                      case measure => have := HK1.out; have := HJ2.out; omega
                      case rel => exact ⟨(wrap64 (x5_1 + 1)), (by first | rfl | (simp; done) | (simp [*]; done)), H', ⟨by have := HK1.out; have := HJ2.out; omega⟩, by repeat (first | exact Drawn0.refl _ | apply Drawn0.step)⟩
                · rw [if_neg c8] at H
                  exact absurd H (by simp)
              · rw [if_neg c7] at H
                exact absurd H (by simp)
            · rw [if_neg c6] at H
              exact absurd H (by simp)
          · replace c5 := Bool.eq_false_iff.mpr c5
            subst c5
            have H1 : (if (l0.length : Int) = (l1.length : Int) then (porticoref3_Compare.l1 kj2 l0 l1 (l0.length : Int) 0) else ((porticoref3_sign.f (wrap64 ((l1.length : Int) - (l0.length : Int)))).bind fun t222 => (some t222))) = some r := by rw [if_neg (show ¬ (false = true) by decide)] at H; exact H
            clear H
            have H := H1
            clear H1
            by_cases c11 : (l0.length : Int) = (l1.length : Int)
            · rw [if_pos c11] at H
              have c11b0 : ((l0.length : Int) == (l1.length : Int)) = true := beq_iff_eq.mpr c11
              have c11b1 : ((l0.length : Int) != (l1.length : Int)) = false := bne_eq_false_iff_eq.mpr c11
              have c11b2 : (l0.length == l1.length) = true := by first | simpa using c11 | (simp at c11 ⊢; omega)
              clear c11
              have H' := Aside0.mk H
              clear H
              go_wp2
              repeat (go_quiet (fail); try go_wp2)
              go_loopg [54] kj2 (fun kq v54 w' => ∃ (x54_3 : Int), v54 = .int .i64 x54_3 ∧ Aside0 (porticoref3_Compare.l1 kq l0 l1 (l0.length : Int) x54_3 = some r) ∧ Aside0 (kq ≤ kj2) ∧ Drawn0 w w')
              case atStart => exact ⟨(0), (by first | rfl | (simp; done) | (simp [*]; done)), H', ⟨Nat.le_refl _⟩, by repeat (first | exact Drawn0.refl _ | apply Drawn0.step)⟩
              case round =>
                clear H'
                try clear c1
                try clear c2
                try clear p2
                try clear q2
                try clear hx2
                try clear c4
                try clear c4b0
                try clear c5
                try clear c6
                try clear c6b0
                try clear p6
                try clear c7
                try clear c7b0
                try clear c8
                try clear c8b0
                try clear c9
                try clear c9b0
                try clear c10
                try clear c10b0
                try clear c11
                try clear c11b0
                try clear c11b1
                try clear c11b2
                try clear hx218_0
                try clear hx218_1
                try clear hx219_0
                try clear hx219_1
                try clear hx220_0
                try clear hx220_1
                try clear hx221_0
                try clear hx221_1
                try clear p2
                try clear p218
                try clear p219
                try clear p220
                try clear p221
                try clear q218
                try clear q219
                try clear q220
                try clear q221
                obtain ⟨x54_3, rfl, HA, HK3, ⟨m3, rfl⟩⟩ := hrel
                cases gk with
                | zero => exact absurd HA.out (by simp [porticoref3_Compare.l1])
                | succ k3 =>
                  have H := HA.out
                  clear HA
                  simp only [porticoref3_Compare.l1] at H
                  by_cases c12 : x54_3 < (l0.length : Int)
                  · rw [if_pos c12] at H
                    have c12b0 : decide (x54_3 < (l0.length : Int)) = true := decide_eq_true c12
                    clear c12
                    by_cases c13 : 0 ≤ x54_3
                    · rw [if_pos c13] at H
                      have c13b0 : decide (0 ≤ x54_3) = true := decide_eq_true c13
                      clear c13
                      by_cases c14 : x54_3 < (l0.length : Int)
                      · rw [if_pos c14] at H
                        have c14b0 : decide (x54_3 < (l0.length : Int)) = true := decide_eq_true c14
                        clear c14
                        by_cases c15 : x54_3 < (l1.length : Int)
                        · rw [if_pos c15] at H
                          have c15b0 : decide (x54_3 < (l1.length : Int)) = true := decide_eq_true c15
                          clear c15
                          by_cases c16 : (Op.bytesLess (((rd_T23 l0 x54_3).f1).toList) (((rd_T23 l1 x54_3).f1).toList)) = true
                          · rw [if_pos c16] at H
                            have c16b0 : (Op.bytesLess (((rd_T23 l0 x54_3).f1).toList) (((rd_T23 l1 x54_3).f1).toList)) = true := c16
                            clear c16
                            obtain rfl := Option.some.inj H
                            have p223 : 0 ≤ (x54_3 : Int) := of_decide_eq_true (by first | (with_reducible assumption) | assumption)
                            have q223 : x54_3 < (l0.length : Int) := of_decide_eq_true (by first | (with_reducible assumption) | assumption)
                            obtain ⟨ad223, e223, hx223_0, hx223_1⟩ := at_T23 HR0.out x54_3 p223 q223
                            cases e223
                            replace p223 := eq_true p223
                            replace q223 := eq_true q223
                            have p224 : 0 ≤ (x54_3 : Int) := of_decide_eq_true (by first | (with_reducible assumption) | assumption)
                            have q224 : x54_3 < (l1.length : Int) := of_decide_eq_true (by first | (with_reducible assumption) | assumption)
                            obtain ⟨ad224, e224, hx224_0, hx224_1⟩ := at_T23 HR1.out x54_3 p224 q224
                            cases e224
                            replace p224 := eq_true p224
                            replace q224 := eq_true q224
                            go_wp2
                            repeat (go_quiet (fail); try go_wp2)
                            go_ret
                            exact ⟨by first | rfl | (simp; done) | (simp [*]; done), by repeat (first | exact Drawn0.refl _ | apply Drawn0.step)⟩
                          · rw [if_neg c16] at H
                            have c16b0 : (Op.bytesLess (((rd_T23 l0 x54_3).f1).toList) (((rd_T23 l1 x54_3).f1).toList)) = false := by simpa using c16
                            clear c16
                            by_cases c17 : (Op.bytesLess (((rd_T23 l1 x54_3).f1).toList) (((rd_T23 l0 x54_3).f1).toList)) = true
                            · rw [if_pos c17] at H
                              have c17b0 : (Op.bytesLess (((rd_T23 l1 x54_3).f1).toList) (((rd_T23 l0 x54_3).f1).toList)) = true := c17
                              have c17e : ((((rd_T23 l0 x54_3).f1).toList) == (((rd_T23 l1 x54_3).f1).toList)) = false := Go.Proofs.Ytfllecoenjljpaa.OrdRankTells.str_gt1 c17b0
                              clear c17
                              obtain rfl := Option.some.inj H
                              have p223 : 0 ≤ (x54_3 : Int) := of_decide_eq_true (by first | (with_reducible assumption) | assumption)
                              have q223 : x54_3 < (l0.length : Int) := of_decide_eq_true (by first | (with_reducible assumption) | assumption)
                              obtain ⟨ad223, e223, hx223_0, hx223_1⟩ := at_T23 HR0.out x54_3 p223 q223
                              cases e223
                              replace p223 := eq_true p223
                              replace q223 := eq_true q223
                              have p224 : 0 ≤ (x54_3 : Int) := of_decide_eq_true (by first | (with_reducible assumption) | assumption)
                              have q224 : x54_3 < (l1.length : Int) := of_decide_eq_true (by first | (with_reducible assumption) | assumption)
                              obtain ⟨ad224, e224, hx224_0, hx224_1⟩ := at_T23 HR1.out x54_3 p224 q224
                              cases e224
                              replace p224 := eq_true p224
                              replace q224 := eq_true q224
                              have p225 : 0 ≤ (x54_3 : Int) := of_decide_eq_true (by first | (with_reducible assumption) | assumption)
                              have q225 : x54_3 < (l0.length : Int) := of_decide_eq_true (by first | (with_reducible assumption) | assumption)
                              obtain ⟨ad225, e225, hx225_0, hx225_1⟩ := at_T23 HR0.out x54_3 p225 q225
                              obtain rfl : ad223 = ad225 := (by injection e225)
                              replace p225 := eq_true p225
                              replace q225 := eq_true q225
                              have p226 : 0 ≤ (x54_3 : Int) := of_decide_eq_true (by first | (with_reducible assumption) | assumption)
                              have q226 : x54_3 < (l1.length : Int) := of_decide_eq_true (by first | (with_reducible assumption) | assumption)
                              obtain ⟨ad226, e226, hx226_0, hx226_1⟩ := at_T23 HR1.out x54_3 p226 q226
                              obtain rfl : ad224 = ad226 := (by injection e226)
                              replace p226 := eq_true p226
                              replace q226 := eq_true q226
                              go_wp2
                              repeat (go_quiet (fail); try go_wp2)
                              go_ret
                              exact ⟨by first | rfl | (simp; done) | (simp [*]; done), by repeat (first | exact Drawn0.refl _ | apply Drawn0.step)⟩
                            · rw [if_neg c17] at H
                              have c17b0 : (Op.bytesLess (((rd_T23 l1 x54_3).f1).toList) (((rd_T23 l0 x54_3).f1).toList)) = false := by simpa using c17
                              have c17e : ((((rd_T23 l0 x54_3).f1).toList) == (((rd_T23 l1 x54_3).f1).toList)) = true := Go.Proofs.Ytfllecoenjljpaa.OrdRankTells.str_gt2 c16b0 c17b0
                              clear c17
                              have H' := Aside0.mk H
                              clear H
                              have p223 : 0 ≤ (x54_3 : Int) := of_decide_eq_true (by first | (with_reducible assumption) | assumption)
                              have q223 : x54_3 < (l0.length : Int) := of_decide_eq_true (by first | (with_reducible assumption) | assumption)
                              obtain ⟨ad223, e223, hx223_0, hx223_1⟩ := at_T23 HR0.out x54_3 p223 q223
                              cases e223
                              replace p223 := eq_true p223
                              replace q223 := eq_true q223
                              have p224 : 0 ≤ (x54_3 : Int) := of_decide_eq_true (by first | (with_reducible assumption) | assumption)
                              have q224 : x54_3 < (l1.length : Int) := of_decide_eq_true (by first | (with_reducible assumption) | assumption)
                              obtain ⟨ad224, e224, hx224_0, hx224_1⟩ := at_T23 HR1.out x54_3 p224 q224
                              cases e224
                              replace p224 := eq_true p224
                              replace q224 := eq_true q224
                              have p225 : 0 ≤ (x54_3 : Int) := of_decide_eq_true (by first | (with_reducible assumption) | assumption)
                              have q225 : x54_3 < (l0.length : Int) := of_decide_eq_true (by first | (with_reducible assumption) | assumption)
                              obtain ⟨ad225, e225, hx225_0, hx225_1⟩ := at_T23 HR0.out x54_3 p225 q225
                              obtain rfl : ad223 = ad225 := (by injection e225)
                              replace p225 := eq_true p225
                              replace q225 := eq_true q225
                              have p226 : 0 ≤ (x54_3 : Int) := of_decide_eq_true (by first | (with_reducible assumption) | assumption)
                              have q226 : x54_3 < (l1.length : Int) := of_decide_eq_true (by first | (with_reducible assumption) | assumption)
                              obtain ⟨ad226, e226, hx226_0, hx226_1⟩ := at_T23 HR1.out x54_3 p226 q226
                              obtain rfl : ad224 = ad226 := (by injection e226)
                              replace p226 := eq_true p226
                              replace q226 := eq_true q226
                              go_wp2
                              repeat (go_quiet (fail); try go_wp2)
                              go_roundg k3
                              case measure => have := HK1.out; have := HJ2.out; have := HK3.out; omega
                              case rel => exact ⟨(wrap64 (x54_3 + 1)), (by first | rfl | (simp; done) | (simp [*]; done)), H', ⟨by have := HK1.out; have := HJ2.out; have := HK3.out; omega⟩, by repeat (first | exact Drawn0.refl _ | apply Drawn0.step)⟩
                        · rw [if_neg c15] at H
                          exact absurd H (by simp)
                      · rw [if_neg c14] at H
                        exact absurd H (by simp)
                    · rw [if_neg c13] at H
                      exact absurd H (by simp)
                  · rw [if_neg c12] at H
                    have c12b0 : decide (x54_3 < (l0.length : Int)) = false := decide_eq_false c12
                    clear c12
                    obtain rfl := Option.some.inj H
                    go_wp2
                    repeat (go_quiet (fail); try go_wp2)
                    go_ret
                    exact ⟨by first | rfl | (simp; done) | (simp [*]; done), by repeat (first | exact Drawn0.refl _ | apply Drawn0.step)⟩
            · rw [if_neg c11] at H
              have c11b0 : ((l0.length : Int) == (l1.length : Int)) = false := beq_eq_false_iff_ne.mpr c11
              have c11b1 : ((l0.length : Int) != (l1.length : Int)) = true := bne_iff_ne.mpr c11
              have c11b2 : (l0.length == l1.length) = false := by first | simpa using c11 | (simp at c11 ⊢; omega)
              replace H := Option.bind_eq_some_iff.mp H
              obtain ⟨t222, A180, H⟩ := H
              replace H : (some t222) = some r := H
              have A18 := Aside0.mk A180
              clear A180
              obtain rfl := Option.some.inj H
              go_wp2_with (first | (go_at_call 22; (with_reducible refine (porticoref3_sign.calls (wrap64 ((l1.length : Int) - (l0.length : Int))) t222 _ A18.out).mono ?_); rintro e w' ⟨rfl, ⟨nd, rfl⟩⟩; (try first | exact ⟨rfl, _, World.drewN_drewN _ _ _⟩ | exact ⟨rfl, _, Eq.trans (World.drewN_drewN _ _ _) (congrArg (World.drewN _) (Nat.add_assoc _ _ _))⟩)))
              repeat (go_quiet (first | (go_at_call 22; (with_reducible refine (porticoref3_sign.calls (wrap64 ((l1.length : Int) - (l0.length : Int))) t222 _ A18.out).mono ?_); rintro e w' ⟨rfl, ⟨nd, rfl⟩⟩; (try first | exact ⟨rfl, _, World.drewN_drewN _ _ _⟩ | exact ⟨rfl, _, Eq.trans (World.drewN_drewN _ _ _) (congrArg (World.drewN _) (Nat.add_assoc _ _ _))⟩))); try go_wp2_with (first | (go_at_call 22; (with_reducible refine (porticoref3_sign.calls (wrap64 ((l1.length : Int) - (l0.length : Int))) t222 _ A18.out).mono ?_); rintro e w' ⟨rfl, ⟨nd, rfl⟩⟩; (try first | exact ⟨rfl, _, World.drewN_drewN _ _ _⟩ | exact ⟨rfl, _, Eq.trans (World.drewN_drewN _ _ _) (congrArg (World.drewN _) (Nat.add_assoc _ _ _))⟩))))
              go_ret
              exact ⟨by first | rfl | (simp; done) | (simp [*]; done), by repeat (first | exact Drawn0.refl _ | apply Drawn0.step)⟩

-- NOT PRINTED: function 5 (porticolaw6_RankTells)

end Go.Proofs.Ytfllecoenjljpaa.PRankTells
