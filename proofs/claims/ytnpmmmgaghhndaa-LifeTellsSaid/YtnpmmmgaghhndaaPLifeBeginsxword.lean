-- Printed by a program of this session's own (wip/tools: a turned copy of the kit's print).
import Derived.Test.YtnpmmmgaghhndaaPLifeBeginsx0
namespace Go.Proofs.Ytnpmmmgaghhndaa.PLifeBegins
open Go.Proofs.Ytnpmmmgaghhndaa.Given
open Go.RowKit Go.Proofs.YtnpmmmgaghhndaaW.PrintWords Go.Proofs.YtnpmmmgaghhndaaW.PrintLast Go.Proofs.YtnpmmmgaghhndaaW.PrintMore
attribute [local go_sem] max2_int min2_int max_two min_two max_three min_three max_four min_four   -- for this text's walks alone
set_option linter.unusedVariables false
set_option linter.unusedSimpArgs false

/-! ### porticolaw19_word: function 13 -/
mutual
def porticolaw19_word.j1 : Nat → List Int → Int → Option (Bool)
  | 0, _, _ => none
  | k + 1, x0, x3 => if x3 < (x0.length : Int) then (if 0 ≤ x3 then (porticolaw19_word.j2 k x0 x3 ((rd x0 x3) == 3)) else (none)) else (porticolaw19_word.j2 k x0 x3 false)
def porticolaw19_word.j2 : Nat → List Int → Int → Bool → Option (Bool)
  | 0, _, _, _ => none
  | k + 1, x0, x3, x43 => if x43 = true then (if (wrap64 (x3 + 1)) < (x0.length : Int) then (if 0 ≤ (wrap64 (x3 + 1)) then (if (rd x0 (wrap64 (x3 + 1))) = 4 then (some ((wrap64 ((wrap64 (x3 + 1)) + 1)) == (x0.length : Int))) else (some ((wrap64 (x3 + 1)) == (x0.length : Int)))) else (none)) else (some ((wrap64 (x3 + 1)) == (x0.length : Int)))) else (if x3 < (x0.length : Int) then (if 0 ≤ x3 then (if (rd x0 x3) = 4 then (some ((wrap64 (x3 + 1)) == (x0.length : Int))) else (some (x3 == (x0.length : Int)))) else (none)) else (some (x3 == (x0.length : Int))))
def porticolaw19_word.l0 : Nat → List Int → Int → Option (Bool)
  | 0, _, _ => none
  | k + 1, x0, x3 => if (wrap64 (x3 + 1)) < (x0.length : Int) then (if 0 ≤ x3 then (if x3 < (x0.length : Int) then (if (rd x0 x3) = 3 then (if 0 ≤ (wrap64 (x3 + 1)) then (if (rd x0 (wrap64 (x3 + 1))) = 2 then (porticolaw19_word.l0 k x0 (wrap64 (x3 + 2))) else (porticolaw19_word.j1 k x0 x3)) else (none)) else (porticolaw19_word.j1 k x0 x3)) else (none)) else (none)) else (porticolaw19_word.j1 k x0 x3)
end
def porticolaw19_word.f (k : Nat) (l0 : List Int) : Option (Bool) := if (l0.length : Int) = 0 then (some true) else (if 0 < (l0.length : Int) then (if (rd l0 0) = 1 then (porticolaw19_word.l0 k l0 1) else (some false)) else (none))
theorem porticolaw19_word.mono_l : ∀ k, (∀ y0 y1, LeO (porticolaw19_word.j1 k y0 y1) (porticolaw19_word.j1 (k + 1) y0 y1)) ∧ (∀ y0 y1 y2, LeO (porticolaw19_word.j2 k y0 y1 y2) (porticolaw19_word.j2 (k + 1) y0 y1 y2)) ∧ (∀ y0 y1, LeO (porticolaw19_word.l0 k y0 y1) (porticolaw19_word.l0 (k + 1) y0 y1))
  | 0 => ⟨fun _ _ r h => by simp [porticolaw19_word.j1] at h, fun _ _ _ r h => by simp [porticolaw19_word.j2] at h, fun _ _ r h => by simp [porticolaw19_word.l0] at h⟩
  | k + 1 => by
    obtain ⟨ih0, ih1, ih2⟩ := porticolaw19_word.mono_l k
    refine ⟨?_, ?_, ?_⟩
    · intro y0 y1
      unfold porticolaw19_word.j1
      repeat' first
      | (with_reducible exact ih0 _ _)
      | (with_reducible exact ih1 _ _ _)
      | (with_reducible exact ih2 _ _)
      | (with_reducible exact LeO.refl _)
      | (with_reducible exact LeO.none _)
      | (with_reducible refine LeO.ite ?_ ?_)
      | (with_reducible refine LeO.bind ?_ (fun _ => ?_))
      | exact ih0 _ _
      | exact ih1 _ _ _
      | exact ih2 _ _
      | exact LeO.none _
      | refine LeO.ite ?_ ?_
      | refine LeO.bind ?_ (fun _ => ?_)
    · intro y0 y1 y2
      unfold porticolaw19_word.j2
      repeat' first
      | (with_reducible exact ih0 _ _)
      | (with_reducible exact ih1 _ _ _)
      | (with_reducible exact ih2 _ _)
      | (with_reducible exact LeO.refl _)
      | (with_reducible exact LeO.none _)
      | (with_reducible refine LeO.ite ?_ ?_)
      | (with_reducible refine LeO.bind ?_ (fun _ => ?_))
      | exact ih0 _ _
      | exact ih1 _ _ _
      | exact ih2 _ _
      | exact LeO.none _
      | refine LeO.ite ?_ ?_
      | refine LeO.bind ?_ (fun _ => ?_)
    · intro y0 y1
      unfold porticolaw19_word.l0
      repeat' first
      | (with_reducible exact ih0 _ _)
      | (with_reducible exact ih1 _ _ _)
      | (with_reducible exact ih2 _ _)
      | (with_reducible exact LeO.refl _)
      | (with_reducible exact LeO.none _)
      | (with_reducible refine LeO.ite ?_ ?_)
      | (with_reducible refine LeO.bind ?_ (fun _ => ?_))
      | exact ih0 _ _
      | exact ih1 _ _ _
      | exact ih2 _ _
      | exact LeO.none _
      | refine LeO.ite ?_ ?_
      | refine LeO.bind ?_ (fun _ => ?_)
theorem porticolaw19_word.mono : ∀ a0 k, LeO (porticolaw19_word.f k a0) (porticolaw19_word.f (k + 1) a0) := by
  intro a0 k
  obtain ⟨ih0, ih1, ih2⟩ := porticolaw19_word.mono_l k
  unfold porticolaw19_word.f
  repeat' first
      | (with_reducible exact ih0 _ _)
      | (with_reducible exact ih1 _ _ _)
      | (with_reducible exact ih2 _ _)
      | (with_reducible exact LeO.refl _)
      | (with_reducible exact LeO.none _)
      | (with_reducible refine LeO.ite ?_ ?_)
      | (with_reducible refine LeO.bind ?_ (fun _ => ?_))
      | exact ih0 _ _
      | exact ih1 _ _ _
      | exact ih2 _ _
      | exact LeO.none _
      | refine LeO.ite ?_ ?_
      | refine LeO.bind ?_ (fun _ => ?_)
set_option maxHeartbeats 8000000 in
set_option maxRecDepth 100000 in
theorem porticolaw19_word.calls (k : Nat) (A0 : Option Addr) (c0 : Nat) (l0 : List Int) (r : Bool) (w : World) (hr0 : Kd.C (Kd.int .i64) w A0 l0.length l0) (hc0 : l0.length ≤ c0) (h : porticolaw19_word.f k l0 = some r) :
    Calls Try.prog 13 #[.slice A0 l0.length c0] w fun e w' => e = .returned (.bool r) ∧ Drawn0 w w' := by
  have HR0 := Aside0.mk hr0
  have HC0 := Aside0.mk hc0
  clear hr0 hc0
  have H : (if (l0.length : Int) = 0 then (some true) else (if 0 < (l0.length : Int) then (if (rd l0 0) = 1 then (porticolaw19_word.l0 k l0 1) else (some false)) else (none))) = some r := h
  clear h
  by_cases c2 : (l0.length : Int) = 0
  · rw [if_pos c2] at H
    have c2b0 : ((l0.length : Int) == 0) = true := beq_iff_eq.mpr c2
    have c2b1 : ((l0.length : Int) != 0) = false := bne_eq_false_iff_eq.mpr c2
    clear c2
    obtain rfl := Option.some.inj H
    go_enter Try.func13, Try.ntmps13
    go_wp2
    go_ret
    exact ⟨by first | rfl | (simp; done) | (simp [*]; done), by repeat (first | exact Drawn0.refl _ | apply Drawn0.step)⟩
  · rw [if_neg c2] at H
    have c2b0 : ((l0.length : Int) == 0) = false := beq_eq_false_iff_ne.mpr c2
    have c2b1 : ((l0.length : Int) != 0) = true := bne_iff_ne.mpr c2
    have c2b2 : ¬ (l0 = []) := fun h_ => c2 (by rw [h_]; rfl)
    by_cases c3 : 0 < (l0.length : Int)
    · rw [if_pos c3] at H
      have c3b0 : decide (0 < (l0.length : Int)) = true := decide_eq_true c3
      have c3b1 : decide (0 < l0.length) = true := decide_eq_true (by omega)
      clear c3
      by_cases c4 : (rd l0 0) = 1
      · rw [if_pos c4] at H
        have c4b0 : ((rd l0 0) == 1) = true := beq_iff_eq.mpr c4
        have c4b1 : ((rd l0 0) != 1) = false := bne_eq_false_iff_eq.mpr c4
        clear c4
        have HC5 := Aside0.mk H
        clear H
        have p130 : 0 ≤ (0 : Int) := (by omega)
        have q130 : 0 < (l0.length : Int) := of_decide_eq_true (by first | (with_reducible assumption) | assumption)
        obtain ⟨ad130, e130, hx130_0⟩ := Kd.at_int HR0.out 0 p130 q130
        cases e130
        have qi130 : (0 < l0.length) = True := eq_true (by omega)
        (try rw [show ((0 : Int)).toNat = 0 from rfl] at hx130_0)
        (try rw [Addr.add_zero'] at hx130_0)
        replace p130 := eq_true p130
        replace q130 := eq_true q130
        go_enter Try.func13, Try.ntmps13
        go_upto_block 0 with (fail)
        go_cut [3] (fun v3 wc => ∃ (kq : Nat) (x3_4 : Int), v3 = .int .i64 x3_4 ∧ Aside0 (porticolaw19_word.j1 kq l0 x3_4 = some r) ∧ Aside0 (kq ≤ k) ∧ Drawn0 w wc)
        case first =>
          have H := HC5.out
          clear HC5
          have H' := Aside0.mk H
          clear H
          go_wp2
          go_loopg [3] k (fun kq v3 w' => ∃ (x3_1 : Int), v3 = .int .i64 x3_1 ∧ Aside0 (porticolaw19_word.l0 kq l0 x3_1 = some r) ∧ Aside0 (kq ≤ k) ∧ Drawn0 w w')
          case atStart => exact ⟨(1), (by first | rfl | (simp; done) | (simp [*]; done)), H', ⟨Nat.le_refl _⟩, by repeat (first | exact Drawn0.refl _ | apply Drawn0.step)⟩
          case round =>
            clear H'
            try clear c1
            try clear p1
            try clear q1
            try clear hx1
            try clear qi1
            try clear c2
            try clear c2b0
            try clear c2b1
            try clear c2b2
            try clear p2
            try clear c3
            try clear c3b0
            try clear c3b1
            try clear c4
            try clear c4b0
            try clear c4b1
            try clear hx130_0
            try clear p130
            try clear q130
            obtain ⟨x3_1, rfl, HA, HK1, ⟨m1, rfl⟩⟩ := hrel
            cases gk with
            | zero => exact absurd HA.out (by simp [porticolaw19_word.l0])
            | succ k1 =>
              have H := HA.out
              clear HA
              simp only [porticolaw19_word.l0] at H
              by_cases c6 : (wrap64 (x3_1 + 1)) < (l0.length : Int)
              · rw [if_pos c6] at H
                have c6b0 : decide ((wrap64 (x3_1 + 1)) < (l0.length : Int)) = true := decide_eq_true c6
                clear c6
                (first | rw [c6b0] | (simp only [i64_w, i32_w]; rw [c6b0]) | skip)
                by_cases c7 : 0 ≤ x3_1
                · rw [if_pos c7] at H
                  have c7b0 : decide (0 ≤ x3_1) = true := decide_eq_true c7
                  clear c7
                  by_cases c8 : x3_1 < (l0.length : Int)
                  · rw [if_pos c8] at H
                    have c8b0 : decide (x3_1 < (l0.length : Int)) = true := decide_eq_true c8
                    clear c8
                    by_cases c9 : (rd l0 x3_1) = 3
                    · rw [if_pos c9] at H
                      have c9b0 : ((rd l0 x3_1) == 3) = true := beq_iff_eq.mpr c9
                      have c9b1 : ((rd l0 x3_1) != 3) = false := bne_eq_false_iff_eq.mpr c9
                      clear c9
                      obtain ⟨ji10, hji10⟩ : ∃ j_ : Int, (wrap64 (x3_1 + 1)) = j_ := ⟨_, rfl⟩
                      replace H : (if 0 ≤ (ji10) then (if (rd l0 (ji10)) = 2 then (porticolaw19_word.l0 k1 l0 (wrap64 (x3_1 + 2))) else (porticolaw19_word.j1 k1 l0 x3_1)) else (none)) = some r := by first | (rw [hji10] at H; exact H) | (simp only [hji10] at H ⊢; exact H)
                      (try rw [hji10] at c6b0)
                      have hji10w : (IntKind.i64.wrap (x3_1 + 1)) = ji10 := (i64_w _).trans hji10
                      by_cases c11 : 0 ≤ (ji10)
                      · rw [if_pos c11] at H
                        have c11b0 : decide (0 ≤ (ji10)) = true := decide_eq_true c11
                        clear c11
                        by_cases c12 : (rd l0 (ji10)) = 2
                        · rw [if_pos c12] at H
                          have c12b0 : ((rd l0 (ji10)) == 2) = true := beq_iff_eq.mpr c12
                          have c12b1 : ((rd l0 (ji10)) != 2) = false := bne_eq_false_iff_eq.mpr c12
                          clear c12
                          have H' := Aside0.mk H
                          clear H
                          have p131 : 0 ≤ (x3_1 : Int) := of_decide_eq_true (by first | (with_reducible assumption) | assumption)
                          have q131 : x3_1 < (l0.length : Int) := of_decide_eq_true (by first | (with_reducible assumption) | assumption)
                          obtain ⟨ad131, e131, hx131_0⟩ := Kd.at_int HR0.out x3_1 p131 q131
                          obtain rfl : ad130 = ad131 := (by injection e131)
                          replace p131 := eq_true p131
                          replace q131 := eq_true q131
                          have p132 : 0 ≤ ((ji10) : Int) := of_decide_eq_true (by first | (with_reducible assumption) | assumption)
                          have q132 : (ji10) < (l0.length : Int) := of_decide_eq_true (by first | (with_reducible assumption) | assumption)
                          obtain ⟨ad132, e132, hx132_0⟩ := Kd.at_int HR0.out (ji10) p132 q132
                          obtain rfl : ad130 = ad132 := (by injection e132)
                          replace p132 := eq_true p132
                          replace q132 := eq_true q132
                          go_wp2
                          go_roundg k1
                          case measure => have := HK1.out; omega
                          case rel => exact ⟨(wrap64 (x3_1 + 2)), (by first | rfl | (simp; done) | (simp [*]; done)), H', ⟨by have := HK1.out; omega⟩, by repeat (first | exact Drawn0.refl _ | apply Drawn0.step)⟩
                        · rw [if_neg c12] at H
                          have c12b0 : ((rd l0 (ji10)) == 2) = false := beq_eq_false_iff_ne.mpr c12
                          have c12b1 : ((rd l0 (ji10)) != 2) = true := bne_iff_ne.mpr c12
                          have H' := Aside0.mk H
                          clear H
                          have p131 : 0 ≤ (x3_1 : Int) := of_decide_eq_true (by first | (with_reducible assumption) | assumption)
                          have q131 : x3_1 < (l0.length : Int) := of_decide_eq_true (by first | (with_reducible assumption) | assumption)
                          obtain ⟨ad131, e131, hx131_0⟩ := Kd.at_int HR0.out x3_1 p131 q131
                          obtain rfl : ad130 = ad131 := (by injection e131)
                          replace p131 := eq_true p131
                          replace q131 := eq_true q131
                          have p132 : 0 ≤ ((ji10) : Int) := of_decide_eq_true (by first | (with_reducible assumption) | assumption)
                          have q132 : (ji10) < (l0.length : Int) := of_decide_eq_true (by first | (with_reducible assumption) | assumption)
                          obtain ⟨ad132, e132, hx132_0⟩ := Kd.at_int HR0.out (ji10) p132 q132
                          obtain rfl : ad130 = ad132 := (by injection e132)
                          replace p132 := eq_true p132
                          replace q132 := eq_true q132
                          go_wp2
                          go_meet
                          case rel => exact ⟨_, (x3_1), (by first | rfl | (simp; done) | (simp [*]; done)), H', ⟨by have := HK1.out; first | omega | exact Nat.le_refl _⟩, by repeat (first | exact Drawn0.refl _ | apply Drawn0.step)⟩
                      · rw [if_neg c11] at H
                        exact absurd H (by simp)
                    · rw [if_neg c9] at H
                      have c9b0 : ((rd l0 x3_1) == 3) = false := beq_eq_false_iff_ne.mpr c9
                      have c9b1 : ((rd l0 x3_1) != 3) = true := bne_iff_ne.mpr c9
                      have H' := Aside0.mk H
                      clear H
                      have p131 : 0 ≤ (x3_1 : Int) := of_decide_eq_true (by first | (with_reducible assumption) | assumption)
                      have q131 : x3_1 < (l0.length : Int) := of_decide_eq_true (by first | (with_reducible assumption) | assumption)
                      obtain ⟨ad131, e131, hx131_0⟩ := Kd.at_int HR0.out x3_1 p131 q131
                      obtain rfl : ad130 = ad131 := (by injection e131)
                      replace p131 := eq_true p131
                      replace q131 := eq_true q131
                      go_wp2
                      go_meet
                      case rel => exact ⟨_, (x3_1), (by first | rfl | (simp; done) | (simp [*]; done)), H', ⟨by have := HK1.out; first | omega | exact Nat.le_refl _⟩, by repeat (first | exact Drawn0.refl _ | apply Drawn0.step)⟩
                  · rw [if_neg c8] at H
                    exact absurd H (by simp)
                · rw [if_neg c7] at H
                  exact absurd H (by simp)
              · rw [if_neg c6] at H
                have c6b0 : decide ((wrap64 (x3_1 + 1)) < (l0.length : Int)) = false := decide_eq_false c6
                clear c6
                (first | rw [c6b0] | (simp only [i64_w, i32_w]; rw [c6b0]) | skip)
                have H' := Aside0.mk H
                clear H
                go_wp2
                go_meet
                case rel => exact ⟨_, (x3_1), (by first | rfl | (simp; done) | (simp [*]; done)), H', ⟨by have := HK1.out; first | omega | exact Nat.le_refl _⟩, by repeat (first | exact Drawn0.refl _ | apply Drawn0.step)⟩
        case rest =>
          clear HC5
          try clear c1
          try clear p1
          try clear q1
          try clear hx1
          try clear qi1
          try clear c2
          try clear c2b0
          try clear c2b1
          try clear c2b2
          try clear p2
          try clear c3
          try clear c3b0
          try clear c3b1
          try clear c4
          try clear c4b0
          try clear c4b1
          try clear c6
          try clear c6b0
          try clear p6
          try clear c7
          try clear c7b0
          try clear c8
          try clear c8b0
          try clear c9
          try clear c9b0
          try clear c9b1
          try clear c11
          try clear c11b0
          try clear c12
          try clear c12b0
          try clear c12b1
          try clear hx130_0
          try clear hx131_0
          try clear hx132_0
          try clear p1
          try clear p130
          try clear p131
          try clear p132
          try clear p2
          try clear q1
          try clear q130
          try clear q131
          try clear q132
          obtain ⟨kq, x3_4, rfl, HA, HJ4, ⟨mc4, rfl⟩⟩ := hcut
          cases kq with
          | zero => exact absurd HA.out (by simp [porticolaw19_word.j1])
          | succ kj4 =>
            have H := HA.out
            clear HA
            simp only [porticolaw19_word.j1] at H
            have HC13 := Aside0.mk H
            clear H
            go_upto_region 8 with (fail)
            go_cut [43] (fun v43 wc => ∃ (kq : Nat) (x43_12 : Bool), v43 = .bool x43_12 ∧ Aside0 (porticolaw19_word.j2 kq l0 x3_4 x43_12 = some r) ∧ Aside0 (kq ≤ kj4) ∧ Drawn0 w wc)
            case first =>
              have H := HC13.out
              clear HC13
              by_cases c14 : x3_4 < (l0.length : Int)
              · rw [if_pos c14] at H
                have c14b0 : decide (x3_4 < (l0.length : Int)) = true := decide_eq_true c14
                clear c14
                (first | rw [c14b0] | (simp only [i64_w, i32_w]; rw [c14b0]) | skip)
                by_cases c15 : 0 ≤ x3_4
                · rw [if_pos c15] at H
                  have c15b0 : decide (0 ≤ x3_4) = true := decide_eq_true c15
                  clear c15
                  have H' := Aside0.mk H
                  clear H
                  have p133 : 0 ≤ (x3_4 : Int) := of_decide_eq_true (by first | (with_reducible assumption) | assumption)
                  have q133 : x3_4 < (l0.length : Int) := of_decide_eq_true (by first | (with_reducible assumption) | assumption)
                  obtain ⟨ad133, e133, hx133_0⟩ := Kd.at_int HR0.out x3_4 p133 q133
                  obtain rfl : ad130 = ad133 := (by injection e133)
                  replace p133 := eq_true p133
                  replace q133 := eq_true q133
                  go_wp2
                  go_meet
                  case rel => exact ⟨_, (((rd l0 x3_4) == 3)), (by first | rfl | (simp; done) | (simp [*]; done)), H', ⟨by have := HJ4.out; first | omega | exact Nat.le_refl _⟩, by repeat (first | exact Drawn0.refl _ | apply Drawn0.step)⟩
                · rw [if_neg c15] at H
                  exact absurd H (by simp)
              · rw [if_neg c14] at H
                have c14b0 : decide (x3_4 < (l0.length : Int)) = false := decide_eq_false c14
                clear c14
                (first | rw [c14b0] | (simp only [i64_w, i32_w]; rw [c14b0]) | skip)
                have H' := Aside0.mk H
                clear H
                go_wp2
                go_meet
                case rel => exact ⟨_, (false), (by first | rfl | (simp; done) | (simp [*]; done)), H', ⟨by have := HJ4.out; first | omega | exact Nat.le_refl _⟩, by repeat (first | exact Drawn0.refl _ | apply Drawn0.step)⟩
            case rest =>
              clear HC13
              try clear c1
              try clear p1
              try clear q1
              try clear hx1
              try clear qi1
              try clear c2
              try clear c2b0
              try clear c2b1
              try clear c2b2
              try clear p2
              try clear c3
              try clear c3b0
              try clear c3b1
              try clear c4
              try clear c4b0
              try clear c4b1
              try clear c6
              try clear c6b0
              try clear p6
              try clear c7
              try clear c7b0
              try clear c8
              try clear c8b0
              try clear c9
              try clear c9b0
              try clear c9b1
              try clear c11
              try clear c11b0
              try clear c12
              try clear c12b0
              try clear c12b1
              try clear c13
              try clear p13
              try clear q13
              try clear hx13
              try clear qi13
              try clear c14
              try clear c14b0
              try clear c15
              try clear c15b0
              try clear hx130_0
              try clear hx131_0
              try clear hx132_0
              try clear hx133_0
              try clear p1
              try clear p130
              try clear p131
              try clear p132
              try clear p133
              try clear p2
              try clear p6
              try clear q1
              try clear q130
              try clear q131
              try clear q132
              try clear q133
              obtain ⟨kq, x43_12, rfl, HA, HJ12, ⟨mc12, rfl⟩⟩ := hcut
              cases kq with
              | zero => exact absurd HA.out (by simp [porticolaw19_word.j2])
              | succ kj12 =>
                have H := HA.out
                clear HA
                simp only [porticolaw19_word.j2] at H
                by_cases c16 : x43_12 = true
                · subst c16
                  have H1 : (if (wrap64 (x3_4 + 1)) < (l0.length : Int) then (if 0 ≤ (wrap64 (x3_4 + 1)) then (if (rd l0 (wrap64 (x3_4 + 1))) = 4 then (some ((wrap64 ((wrap64 (x3_4 + 1)) + 1)) == (l0.length : Int))) else (some ((wrap64 (x3_4 + 1)) == (l0.length : Int)))) else (none)) else (some ((wrap64 (x3_4 + 1)) == (l0.length : Int)))) = some r := by rw [if_pos rfl] at H; exact H
                  clear H
                  have H := H1
                  clear H1
                  by_cases c17 : (wrap64 (x3_4 + 1)) < (l0.length : Int)
                  · rw [if_pos c17] at H
                    have c17b0 : decide ((wrap64 (x3_4 + 1)) < (l0.length : Int)) = true := decide_eq_true c17
                    clear c17
                    obtain ⟨ji18, hji18⟩ : ∃ j_ : Int, (wrap64 (x3_4 + 1)) = j_ := ⟨_, rfl⟩
                    replace H : (if 0 ≤ (ji18) then (if (rd l0 (ji18)) = 4 then (some ((wrap64 ((ji18) + 1)) == (l0.length : Int))) else (some ((ji18) == (l0.length : Int)))) else (none)) = some r := by first | (rw [hji18] at H; exact H) | (simp only [hji18] at H ⊢; exact H)
                    (try rw [hji18] at c17b0)
                    have hji18w : (IntKind.i64.wrap (x3_4 + 1)) = ji18 := (i64_w _).trans hji18
                    by_cases c19 : 0 ≤ (ji18)
                    · rw [if_pos c19] at H
                      have c19b0 : decide (0 ≤ (ji18)) = true := decide_eq_true c19
                      clear c19
                      by_cases c20 : (rd l0 (ji18)) = 4
                      · rw [if_pos c20] at H
                        have c20b0 : ((rd l0 (ji18)) == 4) = true := beq_iff_eq.mpr c20
                        have c20b1 : ((rd l0 (ji18)) != 4) = false := bne_eq_false_iff_eq.mpr c20
                        clear c20
                        obtain rfl := Option.some.inj H
                        have p134 : 0 ≤ ((ji18) : Int) := of_decide_eq_true (by first | (with_reducible assumption) | assumption)
                        have q134 : (ji18) < (l0.length : Int) := of_decide_eq_true (by first | (with_reducible assumption) | assumption)
                        obtain ⟨ad134, e134, hx134_0⟩ := Kd.at_int HR0.out (ji18) p134 q134
                        obtain rfl : ad130 = ad134 := (by injection e134)
                        replace p134 := eq_true p134
                        replace q134 := eq_true q134
                        go_wp2
                        go_ret
                        exact ⟨by first | rfl | (simp; done) | (simp only [← hji18] <;> (first | rfl | simp)) | (simp [*]; done), by repeat (first | exact Drawn0.refl _ | apply Drawn0.step)⟩
                      · rw [if_neg c20] at H
                        have c20b0 : ((rd l0 (ji18)) == 4) = false := beq_eq_false_iff_ne.mpr c20
                        have c20b1 : ((rd l0 (ji18)) != 4) = true := bne_iff_ne.mpr c20
                        obtain rfl := Option.some.inj H
                        have p134 : 0 ≤ ((ji18) : Int) := of_decide_eq_true (by first | (with_reducible assumption) | assumption)
                        have q134 : (ji18) < (l0.length : Int) := of_decide_eq_true (by first | (with_reducible assumption) | assumption)
                        obtain ⟨ad134, e134, hx134_0⟩ := Kd.at_int HR0.out (ji18) p134 q134
                        obtain rfl : ad130 = ad134 := (by injection e134)
                        replace p134 := eq_true p134
                        replace q134 := eq_true q134
                        go_wp2
                        go_ret
                        exact ⟨by first | rfl | (simp; done) | (simp only [← hji18] <;> (first | rfl | simp)) | (simp [*]; done), by repeat (first | exact Drawn0.refl _ | apply Drawn0.step)⟩
                    · rw [if_neg c19] at H
                      exact absurd H (by simp)
                  · rw [if_neg c17] at H
                    have c17b0 : decide ((wrap64 (x3_4 + 1)) < (l0.length : Int)) = false := decide_eq_false c17
                    clear c17
                    obtain rfl := Option.some.inj H
                    go_wp2
                    go_ret
                    exact ⟨by first | rfl | (simp; done) | (simp [*]; done), by repeat (first | exact Drawn0.refl _ | apply Drawn0.step)⟩
                · replace c16 := Bool.eq_false_iff.mpr c16
                  subst c16
                  have H1 : (if x3_4 < (l0.length : Int) then (if 0 ≤ x3_4 then (if (rd l0 x3_4) = 4 then (some ((wrap64 (x3_4 + 1)) == (l0.length : Int))) else (some (x3_4 == (l0.length : Int)))) else (none)) else (some (x3_4 == (l0.length : Int)))) = some r := by rw [if_neg (show ¬ (false = true) by decide)] at H; exact H
                  clear H
                  have H := H1
                  clear H1
                  by_cases c21 : x3_4 < (l0.length : Int)
                  · rw [if_pos c21] at H
                    have c21b0 : decide (x3_4 < (l0.length : Int)) = true := decide_eq_true c21
                    clear c21
                    by_cases c22 : 0 ≤ x3_4
                    · rw [if_pos c22] at H
                      have c22b0 : decide (0 ≤ x3_4) = true := decide_eq_true c22
                      clear c22
                      by_cases c23 : (rd l0 x3_4) = 4
                      · rw [if_pos c23] at H
                        have c23b0 : ((rd l0 x3_4) == 4) = true := beq_iff_eq.mpr c23
                        have c23b1 : ((rd l0 x3_4) != 4) = false := bne_eq_false_iff_eq.mpr c23
                        clear c23
                        obtain rfl := Option.some.inj H
                        have p135 : 0 ≤ (x3_4 : Int) := of_decide_eq_true (by first | (with_reducible assumption) | assumption)
                        have q135 : x3_4 < (l0.length : Int) := of_decide_eq_true (by first | (with_reducible assumption) | assumption)
                        obtain ⟨ad135, e135, hx135_0⟩ := Kd.at_int HR0.out x3_4 p135 q135
                        obtain rfl : ad130 = ad135 := (by injection e135)
                        replace p135 := eq_true p135
                        replace q135 := eq_true q135
                        go_wp2
                        go_ret
                        exact ⟨by first | rfl | (simp; done) | (simp [*]; done), by repeat (first | exact Drawn0.refl _ | apply Drawn0.step)⟩
                      · rw [if_neg c23] at H
                        have c23b0 : ((rd l0 x3_4) == 4) = false := beq_eq_false_iff_ne.mpr c23
                        have c23b1 : ((rd l0 x3_4) != 4) = true := bne_iff_ne.mpr c23
                        obtain rfl := Option.some.inj H
                        have p135 : 0 ≤ (x3_4 : Int) := of_decide_eq_true (by first | (with_reducible assumption) | assumption)
                        have q135 : x3_4 < (l0.length : Int) := of_decide_eq_true (by first | (with_reducible assumption) | assumption)
                        obtain ⟨ad135, e135, hx135_0⟩ := Kd.at_int HR0.out x3_4 p135 q135
                        obtain rfl : ad130 = ad135 := (by injection e135)
                        replace p135 := eq_true p135
                        replace q135 := eq_true q135
                        go_wp2
                        go_ret
                        exact ⟨by first | rfl | (simp; done) | (simp [*]; done), by repeat (first | exact Drawn0.refl _ | apply Drawn0.step)⟩
                    · rw [if_neg c22] at H
                      exact absurd H (by simp)
                  · rw [if_neg c21] at H
                    have c21b0 : decide (x3_4 < (l0.length : Int)) = false := decide_eq_false c21
                    clear c21
                    obtain rfl := Option.some.inj H
                    go_wp2
                    go_ret
                    exact ⟨by first | rfl | (simp; done) | (simp [*]; done), by repeat (first | exact Drawn0.refl _ | apply Drawn0.step)⟩
      · rw [if_neg c4] at H
        have c4b0 : ((rd l0 0) == 1) = false := beq_eq_false_iff_ne.mpr c4
        have c4b1 : ((rd l0 0) != 1) = true := bne_iff_ne.mpr c4
        obtain rfl := Option.some.inj H
        have p130 : 0 ≤ (0 : Int) := (by omega)
        have q130 : 0 < (l0.length : Int) := of_decide_eq_true (by first | (with_reducible assumption) | assumption)
        obtain ⟨ad130, e130, hx130_0⟩ := Kd.at_int HR0.out 0 p130 q130
        cases e130
        have qi130 : (0 < l0.length) = True := eq_true (by omega)
        (try rw [show ((0 : Int)).toNat = 0 from rfl] at hx130_0)
        (try rw [Addr.add_zero'] at hx130_0)
        replace p130 := eq_true p130
        replace q130 := eq_true q130
        go_enter Try.func13, Try.ntmps13
        go_wp2
        go_ret
        exact ⟨by first | rfl | (simp; done) | (simp [*]; done), by repeat (first | exact Drawn0.refl _ | apply Drawn0.step)⟩
    · rw [if_neg c3] at H
      exact absurd H (by simp)

-- NOT PRINTED: function 4 (porticolaw19_LifeTells)

end Go.Proofs.Ytnpmmmgaghhndaa.PLifeBegins
