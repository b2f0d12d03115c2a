-- Printed by a program of this session's own (wip/tools: a turned copy of the kit's print).
import Derived.Test.YtkcpnbllgpkejaaPRuleMorex0
import Derived.Test.YtkcpnbllgpkejaaPRuleMorex1
namespace Go.Proofs.Ytkcpnbllgpkejaa.PRuleMore
open Go.RowKit Go.Proofs.YtkcpnbllgpkejaaW.PrintWords Go.Proofs.YtkcpnbllgpkejaaW.PrintLast Go.Proofs.YtkcpnbllgpkejaaW.PrintMore
attribute [local go_sem] max2_int min2_int max_two min_two max_three min_three max_four min_four   -- for this text's walks alone
set_option linter.unusedVariables false
set_option linter.unusedSimpArgs false

/-! ### porticolaw9_RuleMore: function 5 -/
mutual
def porticolaw9_RuleMore.j0 : Nat → Int → List (S23) → List Bool → Int → Int → List Bool → Option (Bool)
  | 0, _, _, _, _, _, _ => none
  | k + 1, x3, x9, x10, x11, x13, x14 => (rule_All.f k x9 x14).bind fun bt146 => (if x11 = 0 then (if bt146.1 = 0 then (if bt146.2.2 ≥ 0 then (if x13 < 0 then (porticolaw9_RuleMore.j1 k x3 x9 x10 x13 true) else (porticolaw9_RuleMore.j1 k x3 x9 x10 x13 (decide (bt146.2.2 < x13)))) else (porticolaw9_RuleMore.j1 k x3 x9 x10 x13 false)) else (porticolaw9_RuleMore.j1 k x3 x9 x10 x13 true)) else (if bt146.2.2 ≥ 0 then (if x13 < 0 then (porticolaw9_RuleMore.j1 k x3 x9 x10 x13 true) else (porticolaw9_RuleMore.j1 k x3 x9 x10 x13 (decide (bt146.2.2 < x13)))) else (porticolaw9_RuleMore.j1 k x3 x9 x10 x13 false)))
def porticolaw9_RuleMore.j1 : Nat → Int → List (S23) → List Bool → Int → Bool → Option (Bool)
  | 0, _, _, _, _, _ => none
  | k + 1, x3, x9, x10, x13, x93 => if x93 = true then (none) else ((porticobook_Within.f x3 0 (x9.length : Int)).bind fun t149 => (if 0 ≤ t149 then (if t149 ≤ (x9.length : Int) then ((rule_All.f k (x9.take (t149 : Int).toNat) x10).bind fun bt154 => ((rule_All.f k (x9.drop (t149 : Int).toNat) x10).bind fun bt161 => ((rule_All.f k x9 x10).bind fun bt164 => (if bt154.1 = 0 then (if bt161.2.2 ≥ 0 then ((rule_All.f k ([] : List (S23)) x10).bind fun bt167 => (if bt164.1 = bt161.1 then (if bt164.2.1.toList = bt161.2.1.toList then (if x13 = (wrap64 (bt161.2.2 + t149)) then (if bt167.1 = 0 then (if bt167.2.2 = (-1) then ((porticolaw9_RuleRuns.f k).bind fun t170 => (some t170)) else (none)) else (none)) else (none)) else (none)) else (none))) else ((rule_All.f k ([] : List (S23)) x10).bind fun bt171 => (if bt164.1 = bt161.1 then (if bt164.2.1.toList = bt161.2.1.toList then (if x13 = bt161.2.2 then (if bt171.1 = 0 then (if bt171.2.2 = (-1) then ((porticolaw9_RuleRuns.f k).bind fun t174 => (some t174)) else (none)) else (none)) else (none)) else (none)) else (none)))) else ((rule_All.f k ([] : List (S23)) x10).bind fun bt175 => (if bt164.1 = bt154.1 then (if bt164.2.1.toList = bt154.2.1.toList then (if x13 = bt154.2.2 then (if bt175.1 = 0 then (if bt175.2.2 = (-1) then ((porticolaw9_RuleRuns.f k).bind fun t178 => (some t178)) else (none)) else (none)) else (none)) else (none)) else (none))))))) else (none)) else (none)))
end
def porticolaw9_RuleMore.f (k : Nat) (l0 : List (S23)) (l1 : List Bool) (a2 : Int) (a3 : Int) : Option (Bool) := (some (([] : List (S23)) : List (S23))).bind fun y118 => (if 0 ≤ (mn (l0.length : Int) 8) then (if (mn (l0.length : Int) 8) ≤ (l0.length : Int) then ((some (l0.take ((mn (l0.length : Int) 8) : Int).toNat : List (S23))).bind fun y121 => (if y118.length + y121.length < 4398046511104 then ((some (y118 ++ y121 : List (S23))).bind fun y125 => ((some (([] : List Bool) : List Bool)).bind fun y128 => (if 0 ≤ (mn (l1.length : Int) 8) then (if (mn (l1.length : Int) 8) ≤ (l1.length : Int) then (if y128.length + (l1.take ((mn (l1.length : Int) 8) : Int).toNat).length < 140737488355328 then ((some (y128 ++ (l1.take ((mn (l1.length : Int) 8) : Int).toNat) : List Bool)).bind fun y132 => ((rule_All.f k y125 y132).bind fun bt135 => ((some (([] : List Bool) : List Bool)).bind fun y138 => (if y138.length + y132.length < 140737488355328 then ((some (y138 ++ y132 : List Bool)).bind fun y141 => (if (y141.length : Int) > 0 then ((porticobook_Within.f a2 0 (wrap64 ((y141.length : Int) - 1))).bind fun t144 => (if 0 ≤ t144 then (if t144 < (y141.length : Int) then (porticolaw9_RuleMore.j0 k a3 y125 y132 bt135.1 bt135.2.2 (y141.set (t144 : Int).toNat true)) else (none)) else (none))) else (porticolaw9_RuleMore.j0 k a3 y125 y132 bt135.1 bt135.2.2 y141))) else (none))))) else (none)) else (none)) else (none)))) else (none))) else (none)) else (none))
theorem porticolaw9_RuleMore.mono_l : ∀ k, (∀ y0 y1 y2 y3 y4 y5, LeO (porticolaw9_RuleMore.j0 k y0 y1 y2 y3 y4 y5) (porticolaw9_RuleMore.j0 (k + 1) y0 y1 y2 y3 y4 y5)) ∧ (∀ y0 y1 y2 y3 y4, LeO (porticolaw9_RuleMore.j1 k y0 y1 y2 y3 y4) (porticolaw9_RuleMore.j1 (k + 1) y0 y1 y2 y3 y4))
  | 0 => ⟨fun _ _ _ _ _ _ r h => by simp [porticolaw9_RuleMore.j0] at h, fun _ _ _ _ _ r h => by simp [porticolaw9_RuleMore.j1] at h⟩
  | k + 1 => by
    obtain ⟨ih0, ih1⟩ := porticolaw9_RuleMore.mono_l k
    refine ⟨?_, ?_⟩
    · intro y0 y1 y2 y3 y4 y5
      unfold porticolaw9_RuleMore.j0
      repeat' first
      | (with_reducible exact ih0 _ _ _ _ _ _)
      | (with_reducible exact ih1 _ _ _ _ _)
      | (with_reducible exact porticolaw9_RuleRuns.mono _)
      | (with_reducible exact rule_All.mono _ _ _)
      | (with_reducible exact LeO.refl _)
      | (with_reducible exact LeO.none _)
      | (with_reducible refine LeO.ite ?_ ?_)
      | (with_reducible refine LeO.bind ?_ (fun _ => ?_))
      | exact ih0 _ _ _ _ _ _
      | exact ih1 _ _ _ _ _
      | exact porticolaw9_RuleRuns.mono _
      | exact rule_All.mono _ _ _
      | exact LeO.none _
      | refine LeO.ite ?_ ?_
      | refine LeO.bind ?_ (fun _ => ?_)
    · intro y0 y1 y2 y3 y4
      unfold porticolaw9_RuleMore.j1
      repeat' first
      | (with_reducible exact ih0 _ _ _ _ _ _)
      | (with_reducible exact ih1 _ _ _ _ _)
      | (with_reducible exact porticolaw9_RuleRuns.mono _)
      | (with_reducible exact rule_All.mono _ _ _)
      | (with_reducible exact LeO.refl _)
      | (with_reducible exact LeO.none _)
      | (with_reducible refine LeO.ite ?_ ?_)
      | (with_reducible refine LeO.bind ?_ (fun _ => ?_))
      | exact ih0 _ _ _ _ _ _
      | exact ih1 _ _ _ _ _
      | exact porticolaw9_RuleRuns.mono _
      | exact rule_All.mono _ _ _
      | exact LeO.none _
      | refine LeO.ite ?_ ?_
      | refine LeO.bind ?_ (fun _ => ?_)
theorem porticolaw9_RuleMore.mono : ∀ a0 a1 a2 a3 k, LeO (porticolaw9_RuleMore.f k a0 a1 a2 a3) (porticolaw9_RuleMore.f (k + 1) a0 a1 a2 a3) := by
  intro a0 a1 a2 a3 k
  obtain ⟨ih0, ih1⟩ := porticolaw9_RuleMore.mono_l k
  unfold porticolaw9_RuleMore.f
  repeat' first
      | (with_reducible exact ih0 _ _ _ _ _ _)
      | (with_reducible exact ih1 _ _ _ _ _)
      | (with_reducible exact porticolaw9_RuleRuns.mono _)
      | (with_reducible exact rule_All.mono _ _ _)
      | (with_reducible exact LeO.refl _)
      | (with_reducible exact LeO.none _)
      | (with_reducible refine LeO.ite ?_ ?_)
      | (with_reducible refine LeO.bind ?_ (fun _ => ?_))
      | exact ih0 _ _ _ _ _ _
      | exact ih1 _ _ _ _ _
      | exact porticolaw9_RuleRuns.mono _
      | exact rule_All.mono _ _ _
      | exact LeO.none _
      | refine LeO.ite ?_ ?_
      | refine LeO.bind ?_ (fun _ => ?_)
set_option maxHeartbeats 8000000 in
set_option maxRecDepth 100000 in
theorem porticolaw9_RuleMore.calls (k : Nat) (A0 : Option Addr) (c0 : Nat) (l0 : List (S23)) (A1 : Option Addr) (c1 : Nat) (l1 : List Bool) (a2 : Int) (a3 : Int) (r : Bool) (w : World) (hr0 : Kd.C k23 w A0 l0.length l0) (hc0 : l0.length ≤ c0) (hr1 : Kd.C Kd.bool w A1 l1.length l1) (hc1 : l1.length ≤ c1) (h : porticolaw9_RuleMore.f k l0 l1 a2 a3 = some r) :
    Calls Try.prog 5 #[.slice A0 l0.length c0, .slice A1 l1.length c1, .int .i64 a2, .int .i64 a3] w fun e w' => e = .returned (.bool r) ∧ Below w.heap.size w w' := by
  have HR0 := Aside0.mk hr0
  have HC0 := Aside0.mk hc0
  clear hr0 hc0
  have HR1 := Aside0.mk hr1
  have HC1 := Aside0.mk hc1
  clear hr1 hc1
  have HB := Aside0.mk (Below.refl w.heap.size w)
  have H : ((some (([] : List (S23)) : List (S23))).bind fun y118 => (if 0 ≤ (mn (l0.length : Int) 8) then (if (mn (l0.length : Int) 8) ≤ (l0.length : Int) then ((some (l0.take ((mn (l0.length : Int) 8) : Int).toNat : List (S23))).bind fun y121 => (if y118.length + y121.length < 4398046511104 then ((some (y118 ++ y121 : List (S23))).bind fun y125 => ((some (([] : List Bool) : List Bool)).bind fun y128 => (if 0 ≤ (mn (l1.length : Int) 8) then (if (mn (l1.length : Int) 8) ≤ (l1.length : Int) then (if y128.length + (l1.take ((mn (l1.length : Int) 8) : Int).toNat).length < 140737488355328 then ((some (y128 ++ (l1.take ((mn (l1.length : Int) 8) : Int).toNat) : List Bool)).bind fun y132 => ((rule_All.f k y125 y132).bind fun bt135 => ((some (([] : List Bool) : List Bool)).bind fun y138 => (if y138.length + y132.length < 140737488355328 then ((some (y138 ++ y132 : List Bool)).bind fun y141 => (if (y141.length : Int) > 0 then ((porticobook_Within.f a2 0 (wrap64 ((y141.length : Int) - 1))).bind fun t144 => (if 0 ≤ t144 then (if t144 < (y141.length : Int) then (porticolaw9_RuleMore.j0 k a3 y125 y132 bt135.1 bt135.2.2 (y141.set (t144 : Int).toNat true)) else (none)) else (none))) else (porticolaw9_RuleMore.j0 k a3 y125 y132 bt135.1 bt135.2.2 y141))) else (none))))) else (none)) else (none)) else (none)))) else (none))) else (none)) else (none))) = some r := h
  clear h
  obtain ⟨y118, hy118⟩ : ∃ y_ : List (S23), y_ = (([] : List (S23))) := ⟨_, rfl⟩
  replace H : (if 0 ≤ (mn (l0.length : Int) 8) then (if (mn (l0.length : Int) 8) ≤ (l0.length : Int) then ((some (l0.take ((mn (l0.length : Int) 8) : Int).toNat : List (S23))).bind fun y121 => (if y118.length + y121.length < 4398046511104 then ((some (y118 ++ y121 : List (S23))).bind fun y125 => ((some (([] : List Bool) : List Bool)).bind fun y128 => (if 0 ≤ (mn (l1.length : Int) 8) then (if (mn (l1.length : Int) 8) ≤ (l1.length : Int) then (if y128.length + (l1.take ((mn (l1.length : Int) 8) : Int).toNat).length < 140737488355328 then ((some (y128 ++ (l1.take ((mn (l1.length : Int) 8) : Int).toNat) : List Bool)).bind fun y132 => ((rule_All.f k y125 y132).bind fun bt135 => ((some (([] : List Bool) : List Bool)).bind fun y138 => (if y138.length + y132.length < 140737488355328 then ((some (y138 ++ y132 : List Bool)).bind fun y141 => (if (y141.length : Int) > 0 then ((porticobook_Within.f a2 0 (wrap64 ((y141.length : Int) - 1))).bind fun t144 => (if 0 ≤ t144 then (if t144 < (y141.length : Int) then (porticolaw9_RuleMore.j0 k a3 y125 y132 bt135.1 bt135.2.2 (y141.set (t144 : Int).toNat true)) else (none)) else (none))) else (porticolaw9_RuleMore.j0 k a3 y125 y132 bt135.1 bt135.2.2 y141))) else (none))))) else (none)) else (none)) else (none)))) else (none))) else (none)) else (none)) = some r := by first | (rw [hy118]; with_reducible exact H) | (have H2_ := (Option.bind_some _ _).symm.trans H; rw [hy118]; with_reducible exact H2_) | (have H2_ := (Option.bind_some _ _).symm.trans H; with_reducible exact H2_) | with_reducible exact H | (rw [hy118]; exact H) | exact H
  have Ny118 := Aside0.mk hy118
  clear hy118
  obtain ⟨ji5, hji5⟩ : ∃ j_ : Int, (mn (l0.length : Int) 8) = j_ := ⟨_, rfl⟩
  replace H : (if 0 ≤ (ji5) then (if (ji5) ≤ (l0.length : Int) then ((some (l0.take ((ji5) : Int).toNat : List (S23))).bind fun y121 => (if y118.length + y121.length < 4398046511104 then ((some (y118 ++ y121 : List (S23))).bind fun y125 => ((some (([] : List Bool) : List Bool)).bind fun y128 => (if 0 ≤ (mn (l1.length : Int) 8) then (if (mn (l1.length : Int) 8) ≤ (l1.length : Int) then (if y128.length + (l1.take ((mn (l1.length : Int) 8) : Int).toNat).length < 140737488355328 then ((some (y128 ++ (l1.take ((mn (l1.length : Int) 8) : Int).toNat) : List Bool)).bind fun y132 => ((rule_All.f k y125 y132).bind fun bt135 => ((some (([] : List Bool) : List Bool)).bind fun y138 => (if y138.length + y132.length < 140737488355328 then ((some (y138 ++ y132 : List Bool)).bind fun y141 => (if (y141.length : Int) > 0 then ((porticobook_Within.f a2 0 (wrap64 ((y141.length : Int) - 1))).bind fun t144 => (if 0 ≤ t144 then (if t144 < (y141.length : Int) then (porticolaw9_RuleMore.j0 k a3 y125 y132 bt135.1 bt135.2.2 (y141.set (t144 : Int).toNat true)) else (none)) else (none))) else (porticolaw9_RuleMore.j0 k a3 y125 y132 bt135.1 bt135.2.2 y141))) else (none))))) else (none)) else (none)) else (none)))) else (none))) else (none)) else (none)) = some r := by first | (rw [hji5] at H; exact H) | (simp only [hji5] at H ⊢; exact H)
  (try (have hji5h : ji5 ≤ 8 := by (rw [← hji5]; unfold mn; (repeat' split) <;> omega)))
  (try (have hji5g : ji5 ≤ 64 := by omega))
  (try (have hji5l : 0 ≤ ji5 := by (rw [← hji5]; unfold mn; (repeat' split) <;> omega)))
  (try (have hji5m : 0 ≤ ji5 := by omega))
  (try (have hji5na : ji5 ≤ (l0.length : Int) := by (rw [← hji5]; unfold mn; (repeat' split) <;> omega)))
  have hji5_ : (if 8 < (l0.length : Int) then 8 else (l0.length : Int)) = ji5 := hji5
  by_cases c6 : 0 ≤ (ji5)
  · rw [if_pos c6] at H
    have c6b0 := eq_true c6
    have c6b1 : decide (0 ≤ (ji5)) = true := decide_eq_true c6
    clear c6
    by_cases c7 : (ji5) ≤ (l0.length : Int)
    · rw [if_pos c7] at H
      have c7b0 := eq_true c7
      have c7b1 : decide ((ji5) ≤ (l0.length : Int)) = true := decide_eq_true c7
      clear c7
      obtain ⟨y121, hy121⟩ : ∃ y_ : List (S23), y_ = (l0.take ((ji5) : Int).toNat) := ⟨_, rfl⟩
      replace H : (if y118.length + y121.length < 4398046511104 then ((some (y118 ++ y121 : List (S23))).bind fun y125 => ((some (([] : List Bool) : List Bool)).bind fun y128 => (if 0 ≤ (mn (l1.length : Int) 8) then (if (mn (l1.length : Int) 8) ≤ (l1.length : Int) then (if y128.length + (l1.take ((mn (l1.length : Int) 8) : Int).toNat).length < 140737488355328 then ((some (y128 ++ (l1.take ((mn (l1.length : Int) 8) : Int).toNat) : List Bool)).bind fun y132 => ((rule_All.f k y125 y132).bind fun bt135 => ((some (([] : List Bool) : List Bool)).bind fun y138 => (if y138.length + y132.length < 140737488355328 then ((some (y138 ++ y132 : List Bool)).bind fun y141 => (if (y141.length : Int) > 0 then ((porticobook_Within.f a2 0 (wrap64 ((y141.length : Int) - 1))).bind fun t144 => (if 0 ≤ t144 then (if t144 < (y141.length : Int) then (porticolaw9_RuleMore.j0 k a3 y125 y132 bt135.1 bt135.2.2 (y141.set (t144 : Int).toNat true)) else (none)) else (none))) else (porticolaw9_RuleMore.j0 k a3 y125 y132 bt135.1 bt135.2.2 y141))) else (none))))) else (none)) else (none)) else (none)))) else (none)) = some r := by first | (rw [hy121]; with_reducible exact H) | (have H2_ := (Option.bind_some _ _).symm.trans H; rw [hy121]; with_reducible exact H2_) | (have H2_ := (Option.bind_some _ _).symm.trans H; with_reducible exact H2_) | with_reducible exact H | (rw [hy121]; exact H) | exact H
      have Ny121 := Aside0.mk hy121
      clear hy121
      by_cases c8 : y118.length + y121.length < 4398046511104
      · rw [if_pos c8] at H
        have LMc8 := Aside0.mk c8
        clear c8
        obtain ⟨y125, hy125⟩ : ∃ y_ : List (S23), y_ = (y118 ++ y121) := ⟨_, rfl⟩
        replace H : ((some (([] : List Bool) : List Bool)).bind fun y128 => (if 0 ≤ (mn (l1.length : Int) 8) then (if (mn (l1.length : Int) 8) ≤ (l1.length : Int) then (if y128.length + (l1.take ((mn (l1.length : Int) 8) : Int).toNat).length < 140737488355328 then ((some (y128 ++ (l1.take ((mn (l1.length : Int) 8) : Int).toNat) : List Bool)).bind fun y132 => ((rule_All.f k y125 y132).bind fun bt135 => ((some (([] : List Bool) : List Bool)).bind fun y138 => (if y138.length + y132.length < 140737488355328 then ((some (y138 ++ y132 : List Bool)).bind fun y141 => (if (y141.length : Int) > 0 then ((porticobook_Within.f a2 0 (wrap64 ((y141.length : Int) - 1))).bind fun t144 => (if 0 ≤ t144 then (if t144 < (y141.length : Int) then (porticolaw9_RuleMore.j0 k a3 y125 y132 bt135.1 bt135.2.2 (y141.set (t144 : Int).toNat true)) else (none)) else (none))) else (porticolaw9_RuleMore.j0 k a3 y125 y132 bt135.1 bt135.2.2 y141))) else (none))))) else (none)) else (none)) else (none))) = some r := by first | (rw [hy125]; with_reducible exact H) | (have H2_ := (Option.bind_some _ _).symm.trans H; rw [hy125]; with_reducible exact H2_) | (have H2_ := (Option.bind_some _ _).symm.trans H; with_reducible exact H2_) | with_reducible exact H | (rw [hy125]; exact H) | exact H
        have Ny125 := Aside0.mk hy125
        clear hy125
        obtain ⟨y128, hy128⟩ : ∃ y_ : List Bool, y_ = (([] : List Bool)) := ⟨_, rfl⟩
        replace H : (if 0 ≤ (mn (l1.length : Int) 8) then (if (mn (l1.length : Int) 8) ≤ (l1.length : Int) then (if y128.length + (l1.take ((mn (l1.length : Int) 8) : Int).toNat).length < 140737488355328 then ((some (y128 ++ (l1.take ((mn (l1.length : Int) 8) : Int).toNat) : List Bool)).bind fun y132 => ((rule_All.f k y125 y132).bind fun bt135 => ((some (([] : List Bool) : List Bool)).bind fun y138 => (if y138.length + y132.length < 140737488355328 then ((some (y138 ++ y132 : List Bool)).bind fun y141 => (if (y141.length : Int) > 0 then ((porticobook_Within.f a2 0 (wrap64 ((y141.length : Int) - 1))).bind fun t144 => (if 0 ≤ t144 then (if t144 < (y141.length : Int) then (porticolaw9_RuleMore.j0 k a3 y125 y132 bt135.1 bt135.2.2 (y141.set (t144 : Int).toNat true)) else (none)) else (none))) else (porticolaw9_RuleMore.j0 k a3 y125 y132 bt135.1 bt135.2.2 y141))) else (none))))) else (none)) else (none)) else (none)) = some r := by first | (rw [hy128]; with_reducible exact H) | (have H2_ := (Option.bind_some _ _).symm.trans H; rw [hy128]; with_reducible exact H2_) | (have H2_ := (Option.bind_some _ _).symm.trans H; with_reducible exact H2_) | with_reducible exact H | (rw [hy128]; exact H) | exact H
        have Ny128 := Aside0.mk hy128
        clear hy128
        obtain ⟨ji9, hji9⟩ : ∃ j_ : Int, (mn (l1.length : Int) 8) = j_ := ⟨_, rfl⟩
        replace H : (if 0 ≤ (ji9) then (if (ji9) ≤ (l1.length : Int) then (if y128.length + (l1.take ((ji9) : Int).toNat).length < 140737488355328 then ((some (y128 ++ (l1.take ((ji9) : Int).toNat) : List Bool)).bind fun y132 => ((rule_All.f k y125 y132).bind fun bt135 => ((some (([] : List Bool) : List Bool)).bind fun y138 => (if y138.length + y132.length < 140737488355328 then ((some (y138 ++ y132 : List Bool)).bind fun y141 => (if (y141.length : Int) > 0 then ((porticobook_Within.f a2 0 (wrap64 ((y141.length : Int) - 1))).bind fun t144 => (if 0 ≤ t144 then (if t144 < (y141.length : Int) then (porticolaw9_RuleMore.j0 k a3 y125 y132 bt135.1 bt135.2.2 (y141.set (t144 : Int).toNat true)) else (none)) else (none))) else (porticolaw9_RuleMore.j0 k a3 y125 y132 bt135.1 bt135.2.2 y141))) else (none))))) else (none)) else (none)) else (none)) = some r := by first | (rw [hji9] at H; exact H) | (simp only [hji9] at H ⊢; exact H)
        (try (have hji9h : ji9 ≤ 8 := by (rw [← hji9]; unfold mn; (repeat' split) <;> omega)))
        (try (have hji9g : ji9 ≤ 64 := by omega))
        (try (have hji9l : 0 ≤ ji9 := by (rw [← hji9]; unfold mn; (repeat' split) <;> omega)))
        (try (have hji9m : 0 ≤ ji9 := by omega))
        (try (have hji9na : ji9 ≤ (l1.length : Int) := by (rw [← hji9]; unfold mn; (repeat' split) <;> omega)))
        have hji9_ : (if 8 < (l1.length : Int) then 8 else (l1.length : Int)) = ji9 := hji9
        by_cases c10 : 0 ≤ (ji9)
        · rw [if_pos c10] at H
          have c10b0 := eq_true c10
          have c10b1 : decide (0 ≤ (ji9)) = true := decide_eq_true c10
          clear c10
          by_cases c11 : (ji9) ≤ (l1.length : Int)
          · rw [if_pos c11] at H
            have c11b0 := eq_true c11
            have c11b1 : decide ((ji9) ≤ (l1.length : Int)) = true := decide_eq_true c11
            clear c11
            by_cases c12 : y128.length + (l1.take ((ji9) : Int).toNat).length < 140737488355328
            · rw [if_pos c12] at H
              have LMc12 := Aside0.mk c12
              clear c12
              obtain ⟨y132, hy132⟩ : ∃ y_ : List Bool, y_ = (y128 ++ (l1.take ((ji9) : Int).toNat)) := ⟨_, rfl⟩
              replace H : ((rule_All.f k y125 y132).bind fun bt135 => ((some (([] : List Bool) : List Bool)).bind fun y138 => (if y138.length + y132.length < 140737488355328 then ((some (y138 ++ y132 : List Bool)).bind fun y141 => (if (y141.length : Int) > 0 then ((porticobook_Within.f a2 0 (wrap64 ((y141.length : Int) - 1))).bind fun t144 => (if 0 ≤ t144 then (if t144 < (y141.length : Int) then (porticolaw9_RuleMore.j0 k a3 y125 y132 bt135.1 bt135.2.2 (y141.set (t144 : Int).toNat true)) else (none)) else (none))) else (porticolaw9_RuleMore.j0 k a3 y125 y132 bt135.1 bt135.2.2 y141))) else (none)))) = some r := by first | (rw [hy132]; with_reducible exact H) | (have H2_ := (Option.bind_some _ _).symm.trans H; rw [hy132]; with_reducible exact H2_) | (have H2_ := (Option.bind_some _ _).symm.trans H; with_reducible exact H2_) | with_reducible exact H | (rw [hy132]; exact H) | exact H
              have Ny132 := Aside0.mk hy132
              clear hy132
              replace H := Option.bind_eq_some_iff.mp H
              obtain ⟨⟨t135, t136, t137⟩, A130, H⟩ := H
              replace H : ((some (([] : List Bool) : List Bool)).bind fun y138 => (if y138.length + y132.length < 140737488355328 then ((some (y138 ++ y132 : List Bool)).bind fun y141 => (if (y141.length : Int) > 0 then ((porticobook_Within.f a2 0 (wrap64 ((y141.length : Int) - 1))).bind fun t144 => (if 0 ≤ t144 then (if t144 < (y141.length : Int) then (porticolaw9_RuleMore.j0 k a3 y125 y132 t135 t137 (y141.set (t144 : Int).toNat true)) else (none)) else (none))) else (porticolaw9_RuleMore.j0 k a3 y125 y132 t135 t137 y141))) else (none))) = some r := H
              have A13 := Aside0.mk A130
              clear A130
              obtain ⟨y138, hy138⟩ : ∃ y_ : List Bool, y_ = (([] : List Bool)) := ⟨_, rfl⟩
              replace H : (if y138.length + y132.length < 140737488355328 then ((some (y138 ++ y132 : List Bool)).bind fun y141 => (if (y141.length : Int) > 0 then ((porticobook_Within.f a2 0 (wrap64 ((y141.length : Int) - 1))).bind fun t144 => (if 0 ≤ t144 then (if t144 < (y141.length : Int) then (porticolaw9_RuleMore.j0 k a3 y125 y132 t135 t137 (y141.set (t144 : Int).toNat true)) else (none)) else (none))) else (porticolaw9_RuleMore.j0 k a3 y125 y132 t135 t137 y141))) else (none)) = some r := by first | (rw [hy138]; with_reducible exact H) | (have H2_ := (Option.bind_some _ _).symm.trans H; rw [hy138]; with_reducible exact H2_) | (have H2_ := (Option.bind_some _ _).symm.trans H; with_reducible exact H2_) | with_reducible exact H | (rw [hy138]; exact H) | exact H
              have Ny138 := Aside0.mk hy138
              clear hy138
              by_cases c14 : y138.length + y132.length < 140737488355328
              · rw [if_pos c14] at H
                have LMc14 := Aside0.mk c14
                clear c14
                obtain ⟨y141, hy141⟩ : ∃ y_ : List Bool, y_ = (y138 ++ y132) := ⟨_, rfl⟩
                replace H : (if (y141.length : Int) > 0 then ((porticobook_Within.f a2 0 (wrap64 ((y141.length : Int) - 1))).bind fun t144 => (if 0 ≤ t144 then (if t144 < (y141.length : Int) then (porticolaw9_RuleMore.j0 k a3 y125 y132 t135 t137 (y141.set (t144 : Int).toNat true)) else (none)) else (none))) else (porticolaw9_RuleMore.j0 k a3 y125 y132 t135 t137 y141)) = some r := by first | (rw [hy141]; with_reducible exact H) | (have H2_ := (Option.bind_some _ _).symm.trans H; rw [hy141]; with_reducible exact H2_) | (have H2_ := (Option.bind_some _ _).symm.trans H; with_reducible exact H2_) | with_reducible exact H | (rw [hy141]; exact H) | exact H
                have Ny141 := Aside0.mk hy141
                clear hy141
                have HC15 := Aside0.mk H
                clear H
                go_enter Try.func5, Try.ntmps5
                go_upto_if 60 with (first | ((with_reducible refine gate_dst (N := 34) rfl ?_); refine Kd.R_lit k23 _ 23 ?hg (N := 34) ?hd (xs := ([] : List (S23))) (inner := []) (ok := fun _ => True) (okp := fun _ => True) ?hr ?hp (fun _ hk => hk) trivial (Below.refl _ _) (Nat.le_refl _) (by simp) ?_; (case hd => rfl); (case hg => rfl); (case hr => first | (go_simp; done) | (go_simp; rfl)); (case hp => exact (Reps.none _ _)); intro v119 w16 ho17 hb hg_ hnew_; clear hg_ hnew_; (first | rw [← Ny118.out] at ho17 | (simp only [Int.reduceToNat] at ho17; rw [← Ny118.out] at ho17)); have n0_ := Aside0.mk (Kd.R_lower ho17 (below_size (by repeat (first | (with_reducible first | exact HB.out | apply below_alloc | apply pw_below_drewN | apply below_drew1) | exact HB.out)))); have n1_ := Aside0.mk (below_step (by repeat (first | (with_reducible first | exact HB.out | apply below_alloc | apply pw_below_drewN | apply below_drew1) | exact HB.out)) hb); clear HB; have HO120 := n0_; have HB := n1_; clear n0_ n1_; clear hb ho17; have q18 : ((ji5) : Int) ≤ ((l0.length : Int) : Int) := of_decide_eq_true (by first | (with_reducible assumption) | assumption); obtain ⟨i018, hi018, _, hsz18, _⟩ := info_parts info23; have hroom18 : l0.length ≤ c0 := HC0.out; have hC18 : Kd.C k23 _ A0 l0.length l0 := HR0.out; have hcut18 := cut_to (P := Try.prog) 30 23 .i64 Try.underlying30 hi018 A0 l0.length c0 (ji5) (of_decide_eq_true (by first | (with_reducible assumption) | assumption)) q18 hroom18; have hr18 := Kd.C_take (m := ((ji5) : Int).toNat) hC18 (by omega); have hy18 : y121.length = ((ji5) : Int).toNat := (by rw [Ny121.out, List.length_take]; omega); rw [← Ny121.out] at hr18; rw [← hy18] at hcut18; have HR124 := Aside0.mk hr18; have HC124 := Aside0.mk (show y121.length ≤ c0 from by omega); clear hr18 hC18 hroom18 hi018 hsz18; have KY18 := Aside0.mk hy18; clear hy18; replace q18 := eq_true q18) | ((with_reducible refine gate_builtin (b := .append) (xs := #[.tmp 34, .tmp 39]) rfl ?_); at_builtin; refine Kd.R_append_rows k23 (w0 := w) w.heap.size rfl (.tmp 34) (.tmp 39) 30 23 (.agg #[(.int .i64 0), (.int .i64 0), (.string ⟨#[]⟩)]) 32 rfl Try.underlying30 info23 rfl (by decide) (by omega) v119 y118 y121 _ _ _ (fun _ => True) (fun _ => False) rfl rfl ?aO ?aR (fun _ _ h => h) (fun _ h => h.elim) ?aF ?aB ?aS ?aL ?_; (case aR => repeat (first | exact (Kd.C_below HR124.out HB.out) | (with_reducible refine Kd.C_alloc ?_ _) | (with_reducible refine Kd.C_drewN ?_ _) | (with_reducible refine Kd.C_drew ?_))); (case aB => exact (by repeat (first | (with_reducible first | exact HB.out | apply below_alloc | apply pw_below_drewN | apply below_drew1) | exact HB.out))); (case aF => exact (fun _ _ => trivial)); (case aO => exact (by (with_reducible repeat (first | apply Kd.R_alloc | apply Kd.R_drewN | apply Kd.R_drew)); exact HO120.out)); (case aS => exact (below_size (by repeat (first | (with_reducible first | exact HB.out | apply below_alloc | apply pw_below_drewN | apply below_drew1) | exact HB.out)))); (case aL => have := LMc8.out; omega); intro v126 w19 ho hb hg hat; rw [← Ny125.out] at ho; have n0_ := Aside0.mk (hb); have n1_ := Aside0.mk (ho); clear HB; clear HO120; have HB := n0_; have HO127 := n1_; clear n0_ n1_; clear ho hb hg hat) | ((with_reducible refine gate_dst (N := 41) rfl ?_); refine Kd.R_lit Kd.bool _ 4 ?hg (N := 41) ?hd (xs := ([] : List Bool)) (inner := []) (ok := fun _ => True) (okp := fun _ => True) ?hr ?hp (fun _ hk => hk) trivial (Below.refl _ _) (Nat.le_refl _) (by simp) ?_; (case hd => rfl); (case hg => rfl); (case hr => first | (go_simp; done) | (go_simp; rfl)); (case hp => exact (Reps.none _ _)); intro v129 w20 ho21 hb hg_ hnew_; clear hg_ hnew_; (first | rw [← Ny128.out] at ho21 | (simp only [Int.reduceToNat] at ho21; rw [← Ny128.out] at ho21)); have n0_ := Aside0.mk (Kd.R_below (by (with_reducible repeat (first | apply Kd.R_alloc | apply Kd.R_drewN | apply Kd.R_drew)); exact HO127.out) hb); have n1_ := Aside0.mk (Kd.R_lower ho21 (below_size (by repeat (first | (with_reducible first | exact HB.out | apply below_alloc | apply pw_below_drewN | apply below_drew1) | exact HB.out)))); have n2_ := Aside0.mk (below_step (by repeat (first | (with_reducible first | exact HB.out | apply below_alloc | apply pw_below_drewN | apply below_drew1) | exact HB.out)) hb); clear HO127; clear HB; have HO127 := n0_; have HO130 := n1_; have HB := n2_; clear n0_ n1_ n2_; clear hb ho21; obtain ⟨i022, hi022, _, hsz22, _⟩ := info_parts info4; obtain ⟨hcut22, hA22, hC22⟩ := print_take_of (P := Try.prog) Value.bool false 27 4 .i64 Try.underlying27 hi022 hsz22 A1 c1 l1 (ji9) (of_decide_eq_true (by first | (with_reducible assumption) | assumption)) (of_decide_eq_true (by first | (with_reducible assumption) | assumption)) HC1.out; have HR131 := Aside0.mk (Kd.C_of_reads (h1 := fun _ => rfl) (hA22 _ (Kd.reads_of_C HR1.out))); have HC131 := Aside0.mk hC22; clear hA22 hC22 hi022 hsz22) | ((with_reducible refine gate_builtin (b := .append) (xs := #[.tmp 41, .tmp 46]) rfl ?_); at_builtin; refine Kd.R_append_rows Kd.bool (w0 := w) w.heap.size rfl (.tmp 41) (.tmp 46) 27 4 (.bool false) 1 rfl Try.underlying27 info4 rfl (by decide) (by omega) v129 y128 (l1.take ((ji9) : Int).toNat) _ _ _ (fun _ => True) (fun _ => False) rfl rfl ?aO ?aR (fun _ _ h => h) (fun _ h => h.elim) ?aF ?aB ?aS ?aL ?_; (case aR => first | (refine Eq.mp (congrArg (fun n_ => Kd.C _ _ _ n_ _) (show (l1.take ((ji9) : Int).toNat).length = (ji9).toNat from (by rw [List.length_take]; have h_ : ((ji9) : Int) ≤ (l1.length : Int) := (by first | (with_reducible assumption) | omega | exact of_decide_eq_true (by first | (with_reducible assumption) | assumption)); omega))) ?_; repeat (first | exact (Kd.C_below HR131.out HB.out) | (with_reducible refine Kd.C_alloc ?_ _) | (with_reducible refine Kd.C_drewN ?_ _) | (with_reducible refine Kd.C_drew ?_))) | (repeat (first | exact (Kd.C_below HR131.out HB.out) | (with_reducible refine Kd.C_alloc ?_ _) | (with_reducible refine Kd.C_drewN ?_ _) | (with_reducible refine Kd.C_drew ?_)))); (case aB => exact (by repeat (first | (with_reducible first | exact HB.out | apply below_alloc | apply pw_below_drewN | apply below_drew1) | exact HB.out))); (case aF => exact (fun _ _ => trivial)); (case aO => exact (by (with_reducible repeat (first | apply Kd.R_alloc | apply Kd.R_drewN | apply Kd.R_drew)); exact HO130.out)); (case aS => exact (below_size (by repeat (first | (with_reducible first | exact HB.out | apply below_alloc | apply pw_below_drewN | apply below_drew1) | exact HB.out)))); (case aL => have := LMc12.out; have hlx_ := (show (l1.take ((ji9) : Int).toNat).length = (ji9).toNat from (by rw [List.length_take]; have h_ : ((ji9) : Int) ≤ (l1.length : Int) := (by first | (with_reducible assumption) | omega | exact of_decide_eq_true (by first | (with_reducible assumption) | assumption)); omega)); omega); intro v133 w23 ho hb hg hat; rw [← Ny132.out] at ho; have n0_ := Aside0.mk (Kd.R_over' (by (with_reducible repeat (first | apply Kd.R_alloc | apply Kd.R_drewN | apply Kd.R_drew)); exact HO127.out) (Kd.R_typed (by (with_reducible repeat (first | apply Kd.R_alloc | apply Kd.R_drewN | apply Kd.R_drew)); exact HO130.out)) (by decide) hg); have n1_ := Aside0.mk (hb); have n2_ := Aside0.mk (ho); clear HO127; clear HB; clear HO130; have HO127 := n0_; have HB := n1_; have HO134 := n2_; clear n0_ n1_ n2_; clear ho hb hg hat; obtain ⟨Ao24, co24, eo24⟩ := Kd.R_slice HO127.out; subst eo24; obtain ⟨Ao25, co25, eo25⟩ := Kd.R_slice HO134.out; subst eo25) | ((with_reducible refine gate_callee (f := 9) rfl ?_); refine goesL_ (some 51) rfl rfl Try.func9 (by kernel_rfl) rfl #[.slice Ao24 y125.length co24, .slice Ao25 y132.length co25] rfl (by (try simp only [List.map_toArray, List.map_cons, List.map_nil]); first | done | rfl | (simp only [List.length_drop, List.length_take]; rfl)) ?_; (with_reducible refine (rule_All.calls k _ _ y125 _ _ y132 t135 t136 t137 _ ?side1 ?side2 ?side3 ?side4 A13.out).mono ?_); (case side1 => repeat (first | exact (Kd.R_reads' HO127.out).2.2 | (with_reducible refine Kd.C_alloc ?_ _) | (with_reducible refine Kd.C_drewN ?_ _) | (with_reducible refine Kd.C_drew ?_))); (case side2 => exact (Kd.R_reads' HO127.out).2.1); (case side3 => repeat (first | exact (Kd.R_reads' HO134.out).2.2 | (with_reducible refine Kd.C_alloc ?_ _) | (with_reducible refine Kd.C_drewN ?_ _) | (with_reducible refine Kd.C_drew ?_))); (case side4 => exact (Kd.R_reads' HO134.out).2.1); rintro e w26 ⟨rfl, hb⟩; refine ⟨_, rfl, ?_⟩; have n0_ := Aside0.mk (Kd.R_below (by (with_reducible repeat (first | apply Kd.R_alloc | apply Kd.R_drewN | apply Kd.R_drew)); exact HO127.out) hb); have n1_ := Aside0.mk (Kd.R_below (by (with_reducible repeat (first | apply Kd.R_alloc | apply Kd.R_drewN | apply Kd.R_drew)); exact HO134.out) hb); have n2_ := Aside0.mk (below_step (by repeat (first | (with_reducible first | exact HB.out | apply below_alloc | apply pw_below_drewN | apply below_drew1) | exact HB.out)) hb); clear HO127; clear HO134; clear HB; have HO127 := n0_; have HO134 := n1_; have HB := n2_; clear n0_ n1_ n2_; (try clear hb); (try clear hb2); (try clear hk); (try clear hi)) | ((with_reducible refine gate_dst (N := 55) rfl ?_); refine Kd.R_lit Kd.bool _ 4 ?hg (N := 55) ?hd (xs := ([] : List Bool)) (inner := []) (ok := fun _ => True) (okp := fun _ => True) ?hr ?hp (fun _ hk => hk) trivial (Below.refl _ _) (Nat.le_refl _) (by simp) ?_; (case hd => rfl); (case hg => rfl); (case hr => first | (go_simp; done) | (go_simp; rfl)); (case hp => exact (Reps.none _ _)); intro v139 w27 ho28 hb hg_ hnew_; clear hg_ hnew_; (first | rw [← Ny138.out] at ho28 | (simp only [Int.reduceToNat] at ho28; rw [← Ny138.out] at ho28)); have n0_ := Aside0.mk (Kd.R_below (by (with_reducible repeat (first | apply Kd.R_alloc | apply Kd.R_drewN | apply Kd.R_drew)); exact HO127.out) hb); have n1_ := Aside0.mk (Kd.R_elder' (by (with_reducible repeat (first | apply Kd.R_alloc | apply Kd.R_drewN | apply Kd.R_drew)); exact HO134.out) (Kd.R_base ho28) hb); have n2_ := Aside0.mk (Kd.R_lower (Kd.R_new' ho28 (Kd.R_lt (by (with_reducible repeat (first | apply Kd.R_alloc | apply Kd.R_drewN | apply Kd.R_drew)); exact HO134.out))) (below_size (by repeat (first | (with_reducible first | exact HB.out | apply below_alloc | apply pw_below_drewN | apply below_drew1) | exact HB.out)))); have n3_ := Aside0.mk (below_step (by repeat (first | (with_reducible first | exact HB.out | apply below_alloc | apply pw_below_drewN | apply below_drew1) | exact HB.out)) hb); clear HO127; clear HO134; clear HB; have HO127 := n0_; have HO134 := n1_; have HO140 := n2_; have HB := n3_; clear n0_ n1_ n2_ n3_; clear hb ho28) | ((with_reducible refine gate_builtin (b := .append) (xs := #[.tmp 55, .tmp 56]) rfl ?_); at_builtin; refine Kd.R_append_rows Kd.bool (w0 := w) w.heap.size rfl (.tmp 55) (.tmp 56) 27 4 (.bool false) 1 rfl Try.underlying27 info4 rfl (by decide) (by omega) v139 y138 y132 _ _ _ (fun k_ => some k_ ≠ (.slice Ao25 y132.length co25 : Value).ownBlock) (fun _ => False) rfl rfl ?aO ?aR (fun _ _ h => h) (fun _ h => h.elim) ?aF ?aB ?aS ?aL ?_; (case aR => repeat (first | exact (Kd.R_reads' HO134.out).2.2 | (with_reducible refine Kd.C_alloc ?_ _) | (with_reducible refine Kd.C_drewN ?_ _) | (with_reducible refine Kd.C_drew ?_))); (case aB => exact (by repeat (first | (with_reducible first | exact HB.out | apply below_alloc | apply pw_below_drewN | apply below_drew1) | exact HB.out))); (case aF => exact (fun k_ hk => Kd.fresh' (Kd.R_lt (by (with_reducible repeat (first | apply Kd.R_alloc | apply Kd.R_drewN | apply Kd.R_drew)); exact HO134.out)) k_ hk)); (case aO => exact (by (with_reducible repeat (first | apply Kd.R_alloc | apply Kd.R_drewN | apply Kd.R_drew)); exact Kd.R_mono HO140.out (fun _ hk => hk.2))); (case aS => exact (below_size (by repeat (first | (with_reducible first | exact HB.out | apply below_alloc | apply pw_below_drewN | apply below_drew1) | exact HB.out)))); (case aL => have := LMc14.out; omega); intro v142 w29 ho hb hg hat; rw [← Ny141.out] at ho; have n0_ := Aside0.mk (Kd.R_over' (by (with_reducible repeat (first | apply Kd.R_alloc | apply Kd.R_drewN | apply Kd.R_drew)); exact HO127.out) (Kd.R_typed (by (with_reducible repeat (first | apply Kd.R_alloc | apply Kd.R_drewN | apply Kd.R_drew)); exact HO140.out)) (by decide) hg); have n1_ := Aside0.mk (Kd.R_after (ok := (fun _ => True)) (by (with_reducible repeat (first | apply Kd.R_alloc | apply Kd.R_drewN | apply Kd.R_drew)); exact HO134.out) hg hat); have n2_ := Aside0.mk (hb); have n3_ := Aside0.mk (ho); clear HO127; clear HO134; clear HB; clear HO140; have HO127 := n0_; have HO134 := n1_; have HB := n2_; have HO143 := n3_; clear n0_ n1_ n2_ n3_; clear ho hb hg hat; obtain ⟨Ao30, co30, eo30⟩ := Kd.R_slice HO143.out; subst eo30))
                (try simp only [Act.put, List.setIfInBounds_toArray, List.set_cons_zero, List.set_cons_succ])
                go_cut [] (fun wc => ∃ (kq : Nat) (x14_14 : List Bool), Aside0 (porticolaw9_RuleMore.j0 kq a3 y125 y132 t135 t137 x14_14 = some r) ∧ Aside0 (kq ≤ k) ∧ Aside0 (Kd.R k23 23 wc w.heap.size (fun _ => True) (.slice Ao24 y125.length co24) y125) ∧ Aside0 (Kd.R Kd.bool 4 wc w.heap.size (fun k_ => some k_ ≠ ((.slice Ao30 y141.length co30) : Value).ownBlock) (.slice Ao25 y132.length co25) y132) ∧ Aside0 (Kd.R Kd.bool 4 wc w.heap.size (fun k_ => some k_ ≠ ((.slice Ao25 y132.length co25) : Value).ownBlock) (.slice Ao30 y141.length co30) x14_14) ∧ Aside0 (Below w.heap.size w wc))
                case first =>
                  have H := HC15.out
                  clear HC15
                  by_cases c31 : (y141.length : Int) > 0
                  · rw [if_pos c31] at H
                    have c31b0 : decide (0 < (y141.length : Int)) = true := decide_eq_true c31
                    have c31b1 : decide (0 < y141.length) = true := decide_eq_true (by omega)
                    clear c31
                    (first | rw [c31b0] | (simp only [i64_w, i32_w]; rw [c31b0]) | rw [c31b1] | skip)
                    replace H := Option.bind_eq_some_iff.mp H
                    obtain ⟨t144, A320, H⟩ := H
                    replace H : (if 0 ≤ t144 then (if t144 < (y141.length : Int) then (porticolaw9_RuleMore.j0 k a3 y125 y132 t135 t137 (y141.set (t144 : Int).toNat true)) else (none)) else (none)) = some r := H
                    have A32 := Aside0.mk A320
                    clear A320
                    by_cases c33 : 0 ≤ t144
                    · rw [if_pos c33] at H
                      have c33b0 : decide (0 ≤ t144) = true := decide_eq_true c33
                      clear c33
                      by_cases c34 : t144 < (y141.length : Int)
                      · rw [if_pos c34] at H
                        have c34b0 : decide (t144 < (y141.length : Int)) = true := decide_eq_true c34
                        clear c34
                        obtain ⟨y145, hy145⟩ : ∃ y_ : List Bool, y_ = (y141.set (t144 : Int).toNat true) := ⟨_, rfl⟩
                        replace H : (porticolaw9_RuleMore.j0 k a3 y125 y132 t135 t137 y145) = some r := by first | (rw [hy145]; with_reducible exact H) | (have H2_ := (Option.bind_some _ _).symm.trans H; rw [hy145]; with_reducible exact H2_) | (have H2_ := (Option.bind_some _ _).symm.trans H; with_reducible exact H2_) | with_reducible exact H | (rw [hy145]; exact H) | exact H
                        have Ny145 := Aside0.mk hy145
                        clear hy145
                        have H' := Aside0.mk H
                        clear H
                        go_wp2_with (first | ((with_reducible refine gate_callee (f := 8) rfl ?_); refine goesL_ (some 66) rfl rfl Try.func8 (by kernel_rfl) rfl #[.int .i64 a2, .int .i64 0, .int .i64 (wrap64 ((y141.length : Int) - 1))] rfl (by (try simp only [List.map_toArray, List.map_cons, List.map_nil]); first | done | rfl | (simp only [List.length_drop, List.length_take]; rfl)) ?_; (with_reducible refine (porticobook_Within.calls a2 0 (wrap64 ((y141.length : Int) - 1)) t144 _ A32.out).mono ?_); rintro e w' ⟨rfl, ⟨nd, rfl⟩⟩; refine ⟨_, rfl, ?_⟩; (try (rw [drewN_self w29]; generalize hq_ : World.drewN w29 _ = w29; have n0_ := Aside0.mk (Kd.R_at hq_ HO127.out); have n1_ := Aside0.mk (Kd.R_at hq_ HO134.out); have n2_ := Aside0.mk (Kd.R_at hq_ HO143.out); have n3_ := Aside0.mk (below_at hq_ HB.out); clear hq_ HO127 HO134 HO143 HB; have HO127 := n0_; have HO134 := n1_; have HO143 := n2_; have HB := n3_; clear n0_ n1_ n2_ n3_)); have p35 : 0 ≤ (t144 : Int) := of_decide_eq_true (by first | (with_reducible assumption) | assumption); have q35 : (t144 : Int) < ((y141.length : Int) : Int) := of_decide_eq_true (by first | (with_reducible assumption) | assumption); obtain ⟨go35, co35, eo35, gb35, gl35, cl35, HG35⟩ := Kd.R_form HO143.out (by omega); (first | cases eo35 | (injection eo35 with ea_ en_ ec_; (first | subst ea_ | (injection ea_ with ea_; subst ea_)); subst ec_; clear en_)); have GB35 := Aside0.mk gb35; have GG35 := Aside0.mk HG35; clear gb35 gl35 HG35; obtain ⟨hx35_0, hf35_0⟩ := Kd.R_celln false HO143.out (t144 : Int) p35 q35; replace p35 := eq_true p35; replace q35 := eq_true q35; obtain ⟨hy36_, hz36_⟩ := Kd.R_celln false HO143.out (t144 : Int) (of_decide_eq_true (by first | (with_reducible assumption) | assumption)) (of_decide_eq_true (by first | (with_reducible assumption) | assumption)); have HP36 := Kd.R_putg HO143.out (t144 : Int) true) | ((with_reducible refine gate_store (t := 4) (p := 67) rfl ?_); refine store_event (t := 4) (p := 67) (v := ?vo_w37) (w1 := (w29.setCell ⟨go35, (t144 : Int).toNat, none⟩ (.bool true))) ?hg ?ho ?hn ?hr ?_; (case ho => rfl); (case hg => rfl); (case hn => rfl); (case hr => first | (go_simp; done) | (go_simp; rfl)); intro w37 hw; have hg : w29.grownBy w37 (some go35) := (by rw [hw]; exact HP36.2); have hp_ : Kd.R Kd.bool 4 w37 w.heap.size (fun k_ => some k_ ≠ (.slice Ao25 y132.length co25 : Value).ownBlock) (.slice (some ⟨go35, 0, none⟩) y141.length co30) y145 := (by rw [hw, Ny145.out]; exact HP36.1); clear HP36; have n0_ := Aside0.mk (Kd.R_over' (v := (.slice (some ⟨go35, 0, none⟩) y141.length co30)) (by (with_reducible repeat (first | apply Kd.R_alloc | apply Kd.R_drewN | apply Kd.R_drew)); exact HO127.out) (Kd.R_typed HO143.out) (by decide) hg); have n1_ := Aside0.mk (Kd.R_after (v := (.slice (some ⟨go35, 0, none⟩) y141.length co30)) (v1 := (.slice (some ⟨go35, 0, none⟩) y141.length co30)) (ok := (fun _ => True)) (by (with_reducible repeat (first | apply Kd.R_alloc | apply Kd.R_drewN | apply Kd.R_drew)); exact HO134.out) hg (.inl rfl)); have n2_ := Aside0.mk (hp_); have n3_ := Aside0.mk ((by rw [hw]; exact below_set (HB.out) GB35.out : Below w.heap.size w w37)); clear HO127; clear HO134; clear HO143; clear HB; have HO127 := n0_; have HO134 := n1_; have HO143 := n2_; have HB := n3_; clear n0_ n1_ n2_ n3_; clear hg hw hp_))
                        go_meet
                        case rel => exact ⟨_, (y145), H', ⟨by first | omega | exact Nat.le_refl _⟩, ⟨by (with_reducible repeat (first | apply Kd.R_alloc | apply Kd.R_drewN | apply Kd.R_drew)); exact HO127.out⟩, ⟨by (with_reducible repeat (first | apply Kd.R_alloc | apply Kd.R_drewN | apply Kd.R_drew)); exact Kd.R_mono HO134.out (fun _ hk => hk.2)⟩, ⟨by (with_reducible repeat (first | apply Kd.R_alloc | apply Kd.R_drewN | apply Kd.R_drew)); exact HO143.out⟩, ⟨by repeat (first | (with_reducible first | exact HB.out | apply below_alloc | apply pw_below_drewN | apply below_drew1) | exact HB.out)⟩⟩
                      · rw [if_neg c34] at H
                        exact absurd H (by simp)
                    · rw [if_neg c33] at H
                      exact absurd H (by simp)
                  · rw [if_neg c31] at H
                    have c31b0 : decide (0 < (y141.length : Int)) = false := decide_eq_false c31
                    have c31b1 : decide (0 < y141.length) = false := decide_eq_false (by omega)
                    clear c31
                    (first | rw [c31b0] | (simp only [i64_w, i32_w]; rw [c31b0]) | rw [c31b1] | skip)
                    have H' := Aside0.mk H
                    clear H
                    go_wp2
                    go_meet
                    case rel => exact ⟨_, (y141), H', ⟨by first | omega | exact Nat.le_refl _⟩, ⟨by (with_reducible repeat (first | apply Kd.R_alloc | apply Kd.R_drewN | apply Kd.R_drew)); exact HO127.out⟩, ⟨by (with_reducible repeat (first | apply Kd.R_alloc | apply Kd.R_drewN | apply Kd.R_drew)); exact Kd.R_mono HO134.out (fun _ hk => hk.2)⟩, ⟨by (with_reducible repeat (first | apply Kd.R_alloc | apply Kd.R_drewN | apply Kd.R_drew)); exact HO143.out⟩, ⟨by repeat (first | (with_reducible first | exact HB.out | apply below_alloc | apply pw_below_drewN | apply below_drew1) | exact HB.out)⟩⟩
                case rest =>
                  clear HC15
                  try clear c1
                  try clear q1
                  try clear p2
                  try clear c3
                  try clear p3
                  try clear q3
                  try clear hx3
                  try clear c5
                  try clear c6
                  try clear c6b0
                  try clear c6b1
                  try clear p6
                  try clear c7
                  try clear c7b0
                  try clear c7b1
                  try clear c8
                  try clear c9
                  try clear c10
                  try clear c10b0
                  try clear c10b1
                  try clear c11
                  try clear c11b0
                  try clear c11b1
                  try clear c12
                  try clear c14
                  try clear q18
                  try clear c31
                  try clear c31b0
                  try clear c31b1
                  try clear c33
                  try clear c33b0
                  try clear c34
                  try clear c34b0
                  try clear p35
                  try clear q35
                  try clear hx35
                  try clear hf35
                  try clear hx35_0
                  try clear p35
                  try clear q18
                  try clear q35
                  obtain ⟨kq, x14_14, HA, HJ14, HO_9, HO_10, HO_14, HB⟩ := hcut
                  have hl14_14 := (Kd.R_reads' HO_14.out).1
                  rw [hl14_14] at HO_14
                  (try simp only [hl14_14])
                  (try simp only [hl14_14] at HO_9)
                  (try simp only [hl14_14] at HO_10)
                  cases kq with
                  | zero => exact absurd HA.out (by simp [porticolaw9_RuleMore.j0])
                  | succ kj14 =>
                    have H := HA.out
                    clear HA
                    simp only [porticolaw9_RuleMore.j0] at H
                    replace H := Option.bind_eq_some_iff.mp H
                    obtain ⟨⟨t146, t147, t148⟩, A380, H⟩ := H
                    replace H : (if t135 = 0 then (if t146 = 0 then (if t148 ≥ 0 then (if t137 < 0 then (porticolaw9_RuleMore.j1 kj14 a3 y125 y132 t137 true) else (porticolaw9_RuleMore.j1 kj14 a3 y125 y132 t137 (decide (t148 < t137)))) else (porticolaw9_RuleMore.j1 kj14 a3 y125 y132 t137 false)) else (porticolaw9_RuleMore.j1 kj14 a3 y125 y132 t137 true)) else (if t148 ≥ 0 then (if t137 < 0 then (porticolaw9_RuleMore.j1 kj14 a3 y125 y132 t137 true) else (porticolaw9_RuleMore.j1 kj14 a3 y125 y132 t137 (decide (t148 < t137)))) else (porticolaw9_RuleMore.j1 kj14 a3 y125 y132 t137 false))) = some r := H
                    have A38 := Aside0.mk A380
                    clear A380
                    have HC39 := Aside0.mk H
                    clear H
                    go_upto_region 8 with (first | ((with_reducible refine gate_callee (f := 9) rfl ?_); refine goesL_ (some 71) rfl rfl Try.func9 (by kernel_rfl) rfl #[.slice Ao24 y125.length co24, .slice Ao30 x14_14.length co30] rfl (by (try simp only [List.map_toArray, List.map_cons, List.map_nil]); first | done | rfl | (simp only [List.length_drop, List.length_take]; rfl)) ?_; (with_reducible refine (rule_All.calls kj14 _ _ y125 _ _ x14_14 t146 t147 t148 _ ?side1 ?side2 ?side3 ?side4 A38.out).mono ?_); (case side1 => repeat (first | exact (Kd.R_reads' HO_9.out).2.2 | (with_reducible refine Kd.C_alloc ?_ _) | (with_reducible refine Kd.C_drewN ?_ _) | (with_reducible refine Kd.C_drew ?_))); (case side2 => exact (Kd.R_reads' HO_9.out).2.1); (case side3 => repeat (first | exact (Kd.R_reads' HO_14.out).2.2 | (with_reducible refine Kd.C_alloc ?_ _) | (with_reducible refine Kd.C_drewN ?_ _) | (with_reducible refine Kd.C_drew ?_))); (case side4 => exact (Kd.R_reads' HO_14.out).2.1); rintro e w40 ⟨rfl, hb⟩; refine ⟨_, rfl, ?_⟩; have n0_ := Aside0.mk (Kd.R_below (by (with_reducible repeat (first | apply Kd.R_alloc | apply Kd.R_drewN | apply Kd.R_drew)); exact HO_9.out) hb); have n1_ := Aside0.mk (Kd.R_below (by (with_reducible repeat (first | apply Kd.R_alloc | apply Kd.R_drewN | apply Kd.R_drew)); exact HO_10.out) hb); have n2_ := Aside0.mk (Kd.R_below (by (with_reducible repeat (first | apply Kd.R_alloc | apply Kd.R_drewN | apply Kd.R_drew)); exact HO_14.out) hb); have n3_ := Aside0.mk (below_step (by repeat (first | (with_reducible first | exact HB.out | apply below_alloc | apply pw_below_drewN | apply below_drew1) | exact HB.out)) hb); clear HO_9; clear HO_10; clear HO_14; clear HB; have HO_9 := n0_; have HO_10 := n1_; have HO_14 := n2_; have HB := n3_; clear n0_ n1_ n2_ n3_; (try clear hb); (try clear hb2); (try clear hk); (try clear hi)))
                    (try simp only [Act.put, List.setIfInBounds_toArray, List.set_cons_zero, List.set_cons_succ])
                    go_cut [93] (fun v93 wc => ∃ (kq : Nat) (x93_38 : Bool), v93 = .bool x93_38 ∧ Aside0 (porticolaw9_RuleMore.j1 kq a3 y125 y132 t137 x93_38 = some r) ∧ Aside0 (kq ≤ kj14) ∧ Aside0 (Kd.R k23 23 wc w.heap.size (fun _ => True) (.slice Ao24 y125.length co24) y125) ∧ Aside0 (Kd.R Kd.bool 4 wc w.heap.size (fun _ => True) (.slice Ao25 y132.length co25) y132) ∧ Aside0 (Below w.heap.size w wc))
                    case first =>
                      have H := HC39.out
                      clear HC39
                      by_cases c41 : t135 = 0
                      · rw [if_pos c41] at H
                        have c41b0 : (t135 == 0) = true := beq_iff_eq.mpr c41
                        have c41b1 : (t135 != 0) = false := bne_eq_false_iff_eq.mpr c41
                        clear c41
                        (first | rw [c41b0] | (simp only [i64_w, i32_w]; rw [c41b0]) | rw [c41b1] | skip)
                        by_cases c42 : t146 = 0
                        · rw [if_pos c42] at H
                          have c42b0 : (t146 == 0) = true := beq_iff_eq.mpr c42
                          have c42b1 : (t146 != 0) = false := bne_eq_false_iff_eq.mpr c42
                          clear c42
                          by_cases c43 : t148 ≥ 0
                          · rw [if_pos c43] at H
                            have c43b0 : decide (0 ≤ t148) = true := decide_eq_true c43
                            clear c43
                            by_cases c44 : t137 < 0
                            · rw [if_pos c44] at H
                              have c44b0 : decide (t137 < 0) = true := decide_eq_true c44
                              clear c44
                              have H' := Aside0.mk H
                              clear H
                              go_wp2
                              go_meet
                              case rel => exact ⟨_, (true), (by first | rfl | (simp; done) | (simp [*]; done)), H', ⟨by have := HJ14.out; first | omega | exact Nat.le_refl _⟩, ⟨by (try simp only [hl14_14]); (with_reducible repeat (first | apply Kd.R_alloc | apply Kd.R_drewN | apply Kd.R_drew)); exact HO_9.out⟩, ⟨by (try simp only [hl14_14]); (with_reducible repeat (first | apply Kd.R_alloc | apply Kd.R_drewN | apply Kd.R_drew)); exact Kd.R_mono HO_10.out (fun _ hk => trivial)⟩, ⟨by repeat (first | (with_reducible first | exact HB.out | apply below_alloc | apply pw_below_drewN | apply below_drew1) | exact HB.out)⟩⟩
                            · rw [if_neg c44] at H
                              have c44b0 : decide (t137 < 0) = false := decide_eq_false c44
                              clear c44
                              have H' := Aside0.mk H
                              clear H
                              go_wp2
                              go_meet
                              case rel => exact ⟨_, (decide (t148 < t137)), (by first | rfl | (simp; done) | (simp [*]; done)), H', ⟨by have := HJ14.out; first | omega | exact Nat.le_refl _⟩, ⟨by (try simp only [hl14_14]); (with_reducible repeat (first | apply Kd.R_alloc | apply Kd.R_drewN | apply Kd.R_drew)); exact HO_9.out⟩, ⟨by (try simp only [hl14_14]); (with_reducible repeat (first | apply Kd.R_alloc | apply Kd.R_drewN | apply Kd.R_drew)); exact Kd.R_mono HO_10.out (fun _ hk => trivial)⟩, ⟨by repeat (first | (with_reducible first | exact HB.out | apply below_alloc | apply pw_below_drewN | apply below_drew1) | exact HB.out)⟩⟩
                          · rw [if_neg c43] at H
                            have c43b0 : decide (0 ≤ t148) = false := decide_eq_false c43
                            clear c43
                            have H' := Aside0.mk H
                            clear H
                            go_wp2
                            go_meet
                            case rel => exact ⟨_, (false), (by first | rfl | (simp; done) | (simp [*]; done)), H', ⟨by have := HJ14.out; first | omega | exact Nat.le_refl _⟩, ⟨by (try simp only [hl14_14]); (with_reducible repeat (first | apply Kd.R_alloc | apply Kd.R_drewN | apply Kd.R_drew)); exact HO_9.out⟩, ⟨by (try simp only [hl14_14]); (with_reducible repeat (first | apply Kd.R_alloc | apply Kd.R_drewN | apply Kd.R_drew)); exact Kd.R_mono HO_10.out (fun _ hk => trivial)⟩, ⟨by repeat (first | (with_reducible first | exact HB.out | apply below_alloc | apply pw_below_drewN | apply below_drew1) | exact HB.out)⟩⟩
                        · rw [if_neg c42] at H
                          have c42b0 : (t146 == 0) = false := beq_eq_false_iff_ne.mpr c42
                          have c42b1 : (t146 != 0) = true := bne_iff_ne.mpr c42
                          have H' := Aside0.mk H
                          clear H
                          go_wp2
                          go_meet
                          case rel => exact ⟨_, (true), (by first | rfl | (simp; done) | (simp [*]; done)), H', ⟨by have := HJ14.out; first | omega | exact Nat.le_refl _⟩, ⟨by (try simp only [hl14_14]); (with_reducible repeat (first | apply Kd.R_alloc | apply Kd.R_drewN | apply Kd.R_drew)); exact HO_9.out⟩, ⟨by (try simp only [hl14_14]); (with_reducible repeat (first | apply Kd.R_alloc | apply Kd.R_drewN | apply Kd.R_drew)); exact Kd.R_mono HO_10.out (fun _ hk => trivial)⟩, ⟨by repeat (first | (with_reducible first | exact HB.out | apply below_alloc | apply pw_below_drewN | apply below_drew1) | exact HB.out)⟩⟩
                      · rw [if_neg c41] at H
                        have c41b0 : (t135 == 0) = false := beq_eq_false_iff_ne.mpr c41
                        have c41b1 : (t135 != 0) = true := bne_iff_ne.mpr c41
                        (first | rw [c41b0] | (simp only [i64_w, i32_w]; rw [c41b0]) | rw [c41b1] | skip)
                        by_cases c45 : t148 ≥ 0
                        · rw [if_pos c45] at H
                          have c45b0 : decide (0 ≤ t148) = true := decide_eq_true c45
                          clear c45
                          by_cases c46 : t137 < 0
                          · rw [if_pos c46] at H
                            have c46b0 : decide (t137 < 0) = true := decide_eq_true c46
                            clear c46
                            have H' := Aside0.mk H
                            clear H
                            go_wp2
                            go_meet
                            case rel => exact ⟨_, (true), (by first | rfl | (simp; done) | (simp [*]; done)), H', ⟨by have := HJ14.out; first | omega | exact Nat.le_refl _⟩, ⟨by (try simp only [hl14_14]); (with_reducible repeat (first | apply Kd.R_alloc | apply Kd.R_drewN | apply Kd.R_drew)); exact HO_9.out⟩, ⟨by (try simp only [hl14_14]); (with_reducible repeat (first | apply Kd.R_alloc | apply Kd.R_drewN | apply Kd.R_drew)); exact Kd.R_mono HO_10.out (fun _ hk => trivial)⟩, ⟨by repeat (first | (with_reducible first | exact HB.out | apply below_alloc | apply pw_below_drewN | apply below_drew1) | exact HB.out)⟩⟩
                          · rw [if_neg c46] at H
                            have c46b0 : decide (t137 < 0) = false := decide_eq_false c46
                            clear c46
                            have H' := Aside0.mk H
                            clear H
                            go_wp2
                            go_meet
                            case rel => exact ⟨_, (decide (t148 < t137)), (by first | rfl | (simp; done) | (simp [*]; done)), H', ⟨by have := HJ14.out; first | omega | exact Nat.le_refl _⟩, ⟨by (try simp only [hl14_14]); (with_reducible repeat (first | apply Kd.R_alloc | apply Kd.R_drewN | apply Kd.R_drew)); exact HO_9.out⟩, ⟨by (try simp only [hl14_14]); (with_reducible repeat (first | apply Kd.R_alloc | apply Kd.R_drewN | apply Kd.R_drew)); exact Kd.R_mono HO_10.out (fun _ hk => trivial)⟩, ⟨by repeat (first | (with_reducible first | exact HB.out | apply below_alloc | apply pw_below_drewN | apply below_drew1) | exact HB.out)⟩⟩
                        · rw [if_neg c45] at H
                          have c45b0 : decide (0 ≤ t148) = false := decide_eq_false c45
                          clear c45
                          have H' := Aside0.mk H
                          clear H
                          go_wp2
                          go_meet
                          case rel => exact ⟨_, (false), (by first | rfl | (simp; done) | (simp [*]; done)), H', ⟨by have := HJ14.out; first | omega | exact Nat.le_refl _⟩, ⟨by (try simp only [hl14_14]); (with_reducible repeat (first | apply Kd.R_alloc | apply Kd.R_drewN | apply Kd.R_drew)); exact HO_9.out⟩, ⟨by (try simp only [hl14_14]); (with_reducible repeat (first | apply Kd.R_alloc | apply Kd.R_drewN | apply Kd.R_drew)); exact Kd.R_mono HO_10.out (fun _ hk => trivial)⟩, ⟨by repeat (first | (with_reducible first | exact HB.out | apply below_alloc | apply pw_below_drewN | apply below_drew1) | exact HB.out)⟩⟩
                    case rest =>
                      clear HC39
                      try clear c1
                      try clear q1
                      try clear p2
                      try clear c3
                      try clear p3
                      try clear q3
                      try clear hx3
                      try clear c4
                      try clear c5
                      try clear c6
                      try clear c6b0
                      try clear c6b1
                      try clear p6
                      try clear c7
                      try clear c7b0
                      try clear c7b1
                      try clear c8
                      try clear c9
                      try clear c10
                      try clear c10b0
                      try clear c10b1
                      try clear c11
                      try clear c11b0
                      try clear c11b1
                      try clear c12
                      try clear c14
                      try clear q18
                      try clear c31
                      try clear c31b0
                      try clear c31b1
                      try clear c33
                      try clear c33b0
                      try clear c34
                      try clear c34b0
                      try clear p35
                      try clear q35
                      try clear hx35
                      try clear hf35
                      try clear c41
                      try clear c41b0
                      try clear c41b1
                      try clear c42
                      try clear c42b0
                      try clear c42b1
                      try clear c43
                      try clear c43b0
                      try clear c44
                      try clear c44b0
                      try clear c45
                      try clear c45b0
                      try clear c46
                      try clear c46b0
                      try clear hx35_0
                      try clear p2
                      try clear p3
                      try clear p35
                      try clear p6
                      try clear q1
                      try clear q18
                      try clear q3
                      try clear q35
                      obtain ⟨kq, x93_38, rfl, HA, HJ38, HO_9, HO_10, HB⟩ := hcut
                      cases kq with
                      | zero => exact absurd HA.out (by simp [porticolaw9_RuleMore.j1])
                      | succ kj38 =>
                        have H := HA.out
                        clear HA
                        simp only [porticolaw9_RuleMore.j1] at H
                        by_cases c47 : x93_38 = true
                        · subst c47
                          have H1 : (none) = some r := by rw [if_pos rfl] at H; exact H
                          clear H
                          have H := H1
                          clear H1
                          exact absurd H (by simp)
                        · replace c47 := Bool.eq_false_iff.mpr c47
                          subst c47
                          have H1 : ((porticobook_Within.f a3 0 (y125.length : Int)).bind fun t149 => (if 0 ≤ t149 then (if t149 ≤ (y125.length : Int) then ((rule_All.f kj38 (y125.take (t149 : Int).toNat) y132).bind fun bt154 => ((rule_All.f kj38 (y125.drop (t149 : Int).toNat) y132).bind fun bt161 => ((rule_All.f kj38 y125 y132).bind fun bt164 => (if bt154.1 = 0 then (if bt161.2.2 ≥ 0 then ((rule_All.f kj38 ([] : List (S23)) y132).bind fun bt167 => (if bt164.1 = bt161.1 then (if bt164.2.1.toList = bt161.2.1.toList then (if t137 = (wrap64 (bt161.2.2 + t149)) then (if bt167.1 = 0 then (if bt167.2.2 = (-1) then ((porticolaw9_RuleRuns.f kj38).bind fun t170 => (some t170)) else (none)) else (none)) else (none)) else (none)) else (none))) else ((rule_All.f kj38 ([] : List (S23)) y132).bind fun bt171 => (if bt164.1 = bt161.1 then (if bt164.2.1.toList = bt161.2.1.toList then (if t137 = bt161.2.2 then (if bt171.1 = 0 then (if bt171.2.2 = (-1) then ((porticolaw9_RuleRuns.f kj38).bind fun t174 => (some t174)) else (none)) else (none)) else (none)) else (none)) else (none)))) else ((rule_All.f kj38 ([] : List (S23)) y132).bind fun bt175 => (if bt164.1 = bt154.1 then (if bt164.2.1.toList = bt154.2.1.toList then (if t137 = bt154.2.2 then (if bt175.1 = 0 then (if bt175.2.2 = (-1) then ((porticolaw9_RuleRuns.f kj38).bind fun t178 => (some t178)) else (none)) else (none)) else (none)) else (none)) else (none))))))) else (none)) else (none))) = some r := by rw [if_neg (show ¬ (false = true) by decide)] at H; exact H
                          clear H
                          have H := H1
                          clear H1
                          replace H := Option.bind_eq_some_iff.mp H
                          obtain ⟨t149, A480, H⟩ := H
                          replace H : (if 0 ≤ t149 then (if t149 ≤ (y125.length : Int) then ((rule_All.f kj38 (y125.take (t149 : Int).toNat) y132).bind fun bt154 => ((rule_All.f kj38 (y125.drop (t149 : Int).toNat) y132).bind fun bt161 => ((rule_All.f kj38 y125 y132).bind fun bt164 => (if bt154.1 = 0 then (if bt161.2.2 ≥ 0 then ((rule_All.f kj38 ([] : List (S23)) y132).bind fun bt167 => (if bt164.1 = bt161.1 then (if bt164.2.1.toList = bt161.2.1.toList then (if t137 = (wrap64 (bt161.2.2 + t149)) then (if bt167.1 = 0 then (if bt167.2.2 = (-1) then ((porticolaw9_RuleRuns.f kj38).bind fun t170 => (some t170)) else (none)) else (none)) else (none)) else (none)) else (none))) else ((rule_All.f kj38 ([] : List (S23)) y132).bind fun bt171 => (if bt164.1 = bt161.1 then (if bt164.2.1.toList = bt161.2.1.toList then (if t137 = bt161.2.2 then (if bt171.1 = 0 then (if bt171.2.2 = (-1) then ((porticolaw9_RuleRuns.f kj38).bind fun t174 => (some t174)) else (none)) else (none)) else (none)) else (none)) else (none)))) else ((rule_All.f kj38 ([] : List (S23)) y132).bind fun bt175 => (if bt164.1 = bt154.1 then (if bt164.2.1.toList = bt154.2.1.toList then (if t137 = bt154.2.2 then (if bt175.1 = 0 then (if bt175.2.2 = (-1) then ((porticolaw9_RuleRuns.f kj38).bind fun t178 => (some t178)) else (none)) else (none)) else (none)) else (none)) else (none))))))) else (none)) else (none)) = some r := H
                          have A48 := Aside0.mk A480
                          clear A480
                          by_cases c49 : 0 ≤ t149
                          · rw [if_pos c49] at H
                            have c49b0 := eq_true c49
                            have c49b1 : decide (0 ≤ t149) = true := decide_eq_true c49
                            clear c49
                            by_cases c50 : t149 ≤ (y125.length : Int)
                            · rw [if_pos c50] at H
                              have c50b0 := eq_true c50
                              have c50b1 : decide (t149 ≤ (y125.length : Int)) = true := decide_eq_true c50
                              clear c50
                              obtain ⟨y150, hy150⟩ : ∃ y_ : List (S23), y_ = (y125.take (t149 : Int).toNat) := ⟨_, rfl⟩
                              replace H : ((rule_All.f kj38 y150 y132).bind fun bt154 => ((rule_All.f kj38 (y125.drop (t149 : Int).toNat) y132).bind fun bt161 => ((rule_All.f kj38 y125 y132).bind fun bt164 => (if bt154.1 = 0 then (if bt161.2.2 ≥ 0 then ((rule_All.f kj38 ([] : List (S23)) y132).bind fun bt167 => (if bt164.1 = bt161.1 then (if bt164.2.1.toList = bt161.2.1.toList then (if t137 = (wrap64 (bt161.2.2 + t149)) then (if bt167.1 = 0 then (if bt167.2.2 = (-1) then ((porticolaw9_RuleRuns.f kj38).bind fun t170 => (some t170)) else (none)) else (none)) else (none)) else (none)) else (none))) else ((rule_All.f kj38 ([] : List (S23)) y132).bind fun bt171 => (if bt164.1 = bt161.1 then (if bt164.2.1.toList = bt161.2.1.toList then (if t137 = bt161.2.2 then (if bt171.1 = 0 then (if bt171.2.2 = (-1) then ((porticolaw9_RuleRuns.f kj38).bind fun t174 => (some t174)) else (none)) else (none)) else (none)) else (none)) else (none)))) else ((rule_All.f kj38 ([] : List (S23)) y132).bind fun bt175 => (if bt164.1 = bt154.1 then (if bt164.2.1.toList = bt154.2.1.toList then (if t137 = bt154.2.2 then (if bt175.1 = 0 then (if bt175.2.2 = (-1) then ((porticolaw9_RuleRuns.f kj38).bind fun t178 => (some t178)) else (none)) else (none)) else (none)) else (none)) else (none))))))) = some r := by first | (rw [hy150]; with_reducible exact H) | (have H2_ := (Option.bind_some _ _).symm.trans H; rw [hy150]; with_reducible exact H2_) | (have H2_ := (Option.bind_some _ _).symm.trans H; with_reducible exact H2_) | with_reducible exact H | (rw [hy150]; exact H) | exact H
                              have Ny150 := Aside0.mk hy150
                              clear hy150
                              replace H := Option.bind_eq_some_iff.mp H
                              obtain ⟨⟨t154, t155, t156⟩, A510, H⟩ := H
                              replace H : ((rule_All.f kj38 (y125.drop (t149 : Int).toNat) y132).bind fun bt161 => ((rule_All.f kj38 y125 y132).bind fun bt164 => (if t154 = 0 then (if bt161.2.2 ≥ 0 then ((rule_All.f kj38 ([] : List (S23)) y132).bind fun bt167 => (if bt164.1 = bt161.1 then (if bt164.2.1.toList = bt161.2.1.toList then (if t137 = (wrap64 (bt161.2.2 + t149)) then (if bt167.1 = 0 then (if bt167.2.2 = (-1) then ((porticolaw9_RuleRuns.f kj38).bind fun t170 => (some t170)) else (none)) else (none)) else (none)) else (none)) else (none))) else ((rule_All.f kj38 ([] : List (S23)) y132).bind fun bt171 => (if bt164.1 = bt161.1 then (if bt164.2.1.toList = bt161.2.1.toList then (if t137 = bt161.2.2 then (if bt171.1 = 0 then (if bt171.2.2 = (-1) then ((porticolaw9_RuleRuns.f kj38).bind fun t174 => (some t174)) else (none)) else (none)) else (none)) else (none)) else (none)))) else ((rule_All.f kj38 ([] : List (S23)) y132).bind fun bt175 => (if bt164.1 = t154 then (if bt164.2.1.toList = t155.toList then (if t137 = t156 then (if bt175.1 = 0 then (if bt175.2.2 = (-1) then ((porticolaw9_RuleRuns.f kj38).bind fun t178 => (some t178)) else (none)) else (none)) else (none)) else (none)) else (none)))))) = some r := H
                              have A51 := Aside0.mk A510
                              clear A510
                              have c52b0 := eq_true (of_decide_eq_true (by first | (with_reducible assumption) | assumption) : 0 ≤ t149)
                              have c53b0 := eq_true (of_decide_eq_true (by first | (with_reducible assumption) | assumption) : t149 ≤ (y125.length : Int))
                              obtain ⟨y157, hy157⟩ : ∃ y_ : List (S23), y_ = (y125.drop (t149 : Int).toNat) := ⟨_, rfl⟩
                              replace H : ((rule_All.f kj38 y157 y132).bind fun bt161 => ((rule_All.f kj38 y125 y132).bind fun bt164 => (if t154 = 0 then (if bt161.2.2 ≥ 0 then ((rule_All.f kj38 ([] : List (S23)) y132).bind fun bt167 => (if bt164.1 = bt161.1 then (if bt164.2.1.toList = bt161.2.1.toList then (if t137 = (wrap64 (bt161.2.2 + t149)) then (if bt167.1 = 0 then (if bt167.2.2 = (-1) then ((porticolaw9_RuleRuns.f kj38).bind fun t170 => (some t170)) else (none)) else (none)) else (none)) else (none)) else (none))) else ((rule_All.f kj38 ([] : List (S23)) y132).bind fun bt171 => (if bt164.1 = bt161.1 then (if bt164.2.1.toList = bt161.2.1.toList then (if t137 = bt161.2.2 then (if bt171.1 = 0 then (if bt171.2.2 = (-1) then ((porticolaw9_RuleRuns.f kj38).bind fun t174 => (some t174)) else (none)) else (none)) else (none)) else (none)) else (none)))) else ((rule_All.f kj38 ([] : List (S23)) y132).bind fun bt175 => (if bt164.1 = t154 then (if bt164.2.1.toList = t155.toList then (if t137 = t156 then (if bt175.1 = 0 then (if bt175.2.2 = (-1) then ((porticolaw9_RuleRuns.f kj38).bind fun t178 => (some t178)) else (none)) else (none)) else (none)) else (none)) else (none)))))) = some r := by first | (rw [hy157]; with_reducible exact H) | (have H2_ := (Option.bind_some _ _).symm.trans H; rw [hy157]; with_reducible exact H2_) | (have H2_ := (Option.bind_some _ _).symm.trans H; with_reducible exact H2_) | with_reducible exact H | (rw [hy157]; exact H) | exact H
                              have Ny157 := Aside0.mk hy157
                              clear hy157
                              replace H := Option.bind_eq_some_iff.mp H
                              obtain ⟨⟨t161, t162, t163⟩, A540, H⟩ := H
                              replace H : ((rule_All.f kj38 y125 y132).bind fun bt164 => (if t154 = 0 then (if t163 ≥ 0 then ((rule_All.f kj38 ([] : List (S23)) y132).bind fun bt167 => (if bt164.1 = t161 then (if bt164.2.1.toList = t162.toList then (if t137 = (wrap64 (t163 + t149)) then (if bt167.1 = 0 then (if bt167.2.2 = (-1) then ((porticolaw9_RuleRuns.f kj38).bind fun t170 => (some t170)) else (none)) else (none)) else (none)) else (none)) else (none))) else ((rule_All.f kj38 ([] : List (S23)) y132).bind fun bt171 => (if bt164.1 = t161 then (if bt164.2.1.toList = t162.toList then (if t137 = t163 then (if bt171.1 = 0 then (if bt171.2.2 = (-1) then ((porticolaw9_RuleRuns.f kj38).bind fun t174 => (some t174)) else (none)) else (none)) else (none)) else (none)) else (none)))) else ((rule_All.f kj38 ([] : List (S23)) y132).bind fun bt175 => (if bt164.1 = t154 then (if bt164.2.1.toList = t155.toList then (if t137 = t156 then (if bt175.1 = 0 then (if bt175.2.2 = (-1) then ((porticolaw9_RuleRuns.f kj38).bind fun t178 => (some t178)) else (none)) else (none)) else (none)) else (none)) else (none))))) = some r := H
                              have A54 := Aside0.mk A540
                              clear A540
                              replace H := Option.bind_eq_some_iff.mp H
                              obtain ⟨⟨t164, t165, t166⟩, A550, H⟩ := H
                              replace H : (if t154 = 0 then (if t163 ≥ 0 then ((rule_All.f kj38 ([] : List (S23)) y132).bind fun bt167 => (if t164 = t161 then (if t165.toList = t162.toList then (if t137 = (wrap64 (t163 + t149)) then (if bt167.1 = 0 then (if bt167.2.2 = (-1) then ((porticolaw9_RuleRuns.f kj38).bind fun t170 => (some t170)) else (none)) else (none)) else (none)) else (none)) else (none))) else ((rule_All.f kj38 ([] : List (S23)) y132).bind fun bt171 => (if t164 = t161 then (if t165.toList = t162.toList then (if t137 = t163 then (if bt171.1 = 0 then (if bt171.2.2 = (-1) then ((porticolaw9_RuleRuns.f kj38).bind fun t174 => (some t174)) else (none)) else (none)) else (none)) else (none)) else (none)))) else ((rule_All.f kj38 ([] : List (S23)) y132).bind fun bt175 => (if t164 = t154 then (if t165.toList = t155.toList then (if t137 = t156 then (if bt175.1 = 0 then (if bt175.2.2 = (-1) then ((porticolaw9_RuleRuns.f kj38).bind fun t178 => (some t178)) else (none)) else (none)) else (none)) else (none)) else (none)))) = some r := H
                              have A55 := Aside0.mk A550
                              clear A550
                              by_cases c56 : t154 = 0
                              · rw [if_pos c56] at H
                                have c56b0 : (t154 == 0) = true := beq_iff_eq.mpr c56
                                have c56b1 : (t154 != 0) = false := bne_eq_false_iff_eq.mpr c56
                                clear c56
                                by_cases c57 : t163 ≥ 0
                                · rw [if_pos c57] at H
                                  have c57b0 : decide (0 ≤ t163) = true := decide_eq_true c57
                                  clear c57
                                  replace H := Option.bind_eq_some_iff.mp H
                                  obtain ⟨⟨t167, t168, t169⟩, A580, H⟩ := H
                                  replace H : (if t164 = t161 then (if t165.toList = t162.toList then (if t137 = (wrap64 (t163 + t149)) then (if t167 = 0 then (if t169 = (-1) then ((porticolaw9_RuleRuns.f kj38).bind fun t170 => (some t170)) else (none)) else (none)) else (none)) else (none)) else (none)) = some r := H
                                  have A58 := Aside0.mk A580
                                  clear A580
                                  by_cases c59 : t164 = t161
                                  · rw [if_pos c59] at H
                                    have c59b0 : (t164 == t161) = true := beq_iff_eq.mpr c59
                                    have c59b1 : (t164 != t161) = false := bne_eq_false_iff_eq.mpr c59
                                    clear c59
                                    by_cases c60 : t165.toList = t162.toList
                                    · rw [if_pos c60] at H
                                      have c60b0 : (t165.toList == t162.toList) = true := beq_iff_eq.mpr c60
                                      have c60b1 : (t165.toList != t162.toList) = false := bne_eq_false_iff_eq.mpr c60
                                      clear c60
                                      by_cases c61 : t137 = (wrap64 (t163 + t149))
                                      · rw [if_pos c61] at H
                                        have c61b0 : (t137 == (wrap64 (t163 + t149))) = true := beq_iff_eq.mpr c61
                                        have c61b1 : (t137 != (wrap64 (t163 + t149))) = false := bne_eq_false_iff_eq.mpr c61
                                        clear c61
                                        by_cases c62 : t167 = 0
                                        · rw [if_pos c62] at H
                                          have c62b0 : (t167 == 0) = true := beq_iff_eq.mpr c62
                                          have c62b1 : (t167 != 0) = false := bne_eq_false_iff_eq.mpr c62
                                          clear c62
                                          by_cases c63 : t169 = (-1)
                                          · rw [if_pos c63] at H
                                            have c63b0 : (t169 == (-1)) = true := beq_iff_eq.mpr c63
                                            have c63b1 : (t169 != (-1)) = false := bne_eq_false_iff_eq.mpr c63
                                            clear c63
                                            replace H := Option.bind_eq_some_iff.mp H
                                            obtain ⟨t170, A640, H⟩ := H
                                            replace H : (some t170) = some r := H
                                            have A64 := Aside0.mk A640
                                            clear A640
                                            obtain rfl := Option.some.inj H
                                            go_wp2_with (first | ((with_reducible refine gate_callee (f := 8) rfl ?_); refine goesL_ (some 97) rfl rfl Try.func8 (by kernel_rfl) rfl #[.int .i64 a3, .int .i64 0, .int .i64 (y125.length : Int)] rfl (by (try simp only [List.map_toArray, List.map_cons, List.map_nil]); first | done | rfl | (simp only [List.length_drop, List.length_take]; rfl)) ?_; (with_reducible refine (porticobook_Within.calls a3 0 (y125.length : Int) t149 _ A48.out).mono ?_); rintro e w' ⟨rfl, ⟨nd, rfl⟩⟩; refine ⟨_, rfl, ?_⟩; have q65 : (t149 : Int) ≤ ((y125.length : Int) : Int) := of_decide_eq_true (by first | (with_reducible assumption) | assumption); obtain ⟨i065, hi065, _, hsz65, _⟩ := info_parts info23; have hroom65 : y125.length ≤ co24 := (Kd.R_reads' HO_9.out).2.1; have hC65 : Kd.C k23 _ Ao24 y125.length y125 := (Kd.R_reads' HO_9.out).2.2; have hcut65 := cut_to (P := Try.prog) 30 23 .i64 Try.underlying30 hi065 Ao24 y125.length co24 t149 (of_decide_eq_true (by first | (with_reducible assumption) | assumption)) q65 hroom65; have hr65 := Kd.C_take (m := (t149 : Int).toNat) hC65 (by omega); have hy65 : y150.length = (t149 : Int).toNat := (by rw [Ny150.out, List.length_take]; omega); rw [← Ny150.out] at hr65; rw [← hy65] at hcut65; have HR153 := Aside0.mk hr65; have HC153 := Aside0.mk (show y150.length ≤ co24 from by omega); clear hr65 hC65 hroom65 hi065 hsz65; have KY65 := Aside0.mk hy65; clear hy65; have KL65 := Aside0.mk (show (t149 : Int).toNat ≤ y125.length from by omega); replace q65 := eq_true q65) | ((with_reducible refine gate_callee (f := 9) rfl ?_); refine goesL_ (some 103) rfl rfl Try.func9 (by kernel_rfl) rfl #[.slice Ao24 y150.length co24, .slice Ao25 y132.length co25] rfl (by (try simp only [List.map_toArray, List.map_cons, List.map_nil]); first | done | rfl | (simp only [List.length_drop, List.length_take]; rfl)) ?_; (with_reducible refine (rule_All.calls kj38 _ _ y150 _ _ y132 t154 t155 t156 _ ?side1 ?side2 ?side3 ?side4 A51.out).mono ?_); (case side1 => repeat (first | exact (by repeat (first | (with_reducible exact HR153.out) | (with_reducible refine Kd.C_alloc ?_ _) | (with_reducible refine Kd.C_drewN ?_ _) | (with_reducible refine Kd.C_drew ?_) | exact HR153.out)) | (with_reducible refine Kd.C_alloc ?_ _) | (with_reducible refine Kd.C_drewN ?_ _) | (with_reducible refine Kd.C_drew ?_))); (case side2 => exact HC153.out); (case side3 => repeat (first | exact (Kd.R_reads' HO_10.out).2.2 | (with_reducible refine Kd.C_alloc ?_ _) | (with_reducible refine Kd.C_drewN ?_ _) | (with_reducible refine Kd.C_drew ?_))); (case side4 => exact (Kd.R_reads' HO_10.out).2.1); rintro e w66 ⟨rfl, hb⟩; refine ⟨_, rfl, ?_⟩; have n0_ := Aside0.mk (Kd.R_below (by (with_reducible repeat (first | apply Kd.R_alloc | apply Kd.R_drewN | apply Kd.R_drew)); exact HO_9.out) hb); have n1_ := Aside0.mk (Kd.R_below (by (with_reducible repeat (first | apply Kd.R_alloc | apply Kd.R_drewN | apply Kd.R_drew)); exact HO_10.out) hb); have n2_ := Aside0.mk (Kd.C_below (by repeat (first | (with_reducible exact HR153.out) | (with_reducible refine Kd.C_alloc ?_ _) | (with_reducible refine Kd.C_drewN ?_ _) | (with_reducible refine Kd.C_drew ?_) | exact HR153.out)) hb); have n3_ := Aside0.mk (below_step (by repeat (first | (with_reducible first | exact HB.out | apply below_alloc | apply pw_below_drewN | apply below_drew1) | exact HB.out)) hb); clear HO_9; clear HO_10; clear HR153; clear HB; have HO_9 := n0_; have HO_10 := n1_; have HR153 := n2_; have HB := n3_; clear n0_ n1_ n2_ n3_; (try clear hb); (try clear hb2); (try clear hk); (try clear hi); have q67 : (t149 : Int) ≤ ((y125.length : Int) : Int) := of_decide_eq_true (by first | (with_reducible assumption) | assumption); obtain ⟨i067, hi067, _, hsz67, _⟩ := info_parts info23; have hroom67 : y125.length ≤ co24 := (Kd.R_reads' HO_9.out).2.1; have hC67 : Kd.C k23 _ Ao24 y125.length y125 := (Kd.R_reads' HO_9.out).2.2; have q067 : (0 : Int) ≤ (t149 : Int) := of_decide_eq_true (by first | (with_reducible assumption) | assumption); have hcut67 := cut_from (P := Try.prog) 30 23 .i64 Try.underlying30 hi067 3 hsz67 Ao24 y125.length co24 t149 q067 q67; have hr67 := Kd.C_drop (m := (t149 : Int).toNat) (c := co24) hC67 (by omega) hroom67; obtain ⟨A67, hA67⟩ : ∃ A1, A1 = (if co24 = (t149 : Int).toNat then Ao24 else (Ao24 : Option Addr).map (·.add ((t149 : Int).toNat * 3))) := ⟨_, rfl⟩; obtain ⟨c67, hc67⟩ : ∃ c1, c1 = co24 - (t149 : Int).toNat := ⟨_, rfl⟩; have hy67 : y157.length = y125.length - (t149 : Int).toNat := (by rw [Ny157.out, List.length_drop] <;> omega); rw [show (y125).drop (t149 : Int).toNat = y157 from Ny157.out.symm] at hr67; replace hr67 : Kd.C k23 _ A67 y157.length y157 := (by rw [hA67]; exact hr67); rw [← hy67, ← hA67, ← hc67] at hcut67; have HR160 := Aside0.mk hr67; have HC160 := Aside0.mk (show y157.length ≤ c67 from by rw [hy67, hc67]; exact Nat.sub_le_sub_right hroom67 _); clear hr67 hC67 hroom67 hi067 hsz67 hc67; have KY67 := Aside0.mk hy67; have KA67 := Aside0.mk hA67; clear hy67 hA67; have KL67 := Aside0.mk (show (t149 : Int).toNat ≤ y125.length from by omega); replace q67 := eq_true q67) | ((with_reducible refine gate_callee (f := 9) rfl ?_); refine goesL_ (some 112) rfl rfl Try.func9 (by kernel_rfl) rfl #[.slice A67 y157.length c67, .slice Ao25 y132.length co25] rfl (by (try simp only [List.map_toArray, List.map_cons, List.map_nil]); first | done | rfl | (simp only [List.length_drop, List.length_take]; rfl)) ?_; (with_reducible refine (rule_All.calls kj38 _ _ y157 _ _ y132 t161 t162 t163 _ ?side1 ?side2 ?side3 ?side4 A54.out).mono ?_); (case side1 => repeat (first | exact (by repeat (first | (with_reducible exact HR160.out) | (with_reducible refine Kd.C_alloc ?_ _) | (with_reducible refine Kd.C_drewN ?_ _) | (with_reducible refine Kd.C_drew ?_) | exact HR160.out)) | (with_reducible refine Kd.C_alloc ?_ _) | (with_reducible refine Kd.C_drewN ?_ _) | (with_reducible refine Kd.C_drew ?_))); (case side2 => exact HC160.out); (case side3 => repeat (first | exact (Kd.R_reads' HO_10.out).2.2 | (with_reducible refine Kd.C_alloc ?_ _) | (with_reducible refine Kd.C_drewN ?_ _) | (with_reducible refine Kd.C_drew ?_))); (case side4 => exact (Kd.R_reads' HO_10.out).2.1); rintro e w68 ⟨rfl, hb⟩; refine ⟨_, rfl, ?_⟩; have n0_ := Aside0.mk (Kd.R_below (by (with_reducible repeat (first | apply Kd.R_alloc | apply Kd.R_drewN | apply Kd.R_drew)); exact HO_9.out) hb); have n1_ := Aside0.mk (Kd.R_below (by (with_reducible repeat (first | apply Kd.R_alloc | apply Kd.R_drewN | apply Kd.R_drew)); exact HO_10.out) hb); have n2_ := Aside0.mk (Kd.C_below (by repeat (first | (with_reducible exact HR153.out) | (with_reducible refine Kd.C_alloc ?_ _) | (with_reducible refine Kd.C_drewN ?_ _) | (with_reducible refine Kd.C_drew ?_) | exact HR153.out)) hb); have n3_ := Aside0.mk (Kd.C_below (by repeat (first | (with_reducible exact HR160.out) | (with_reducible refine Kd.C_alloc ?_ _) | (with_reducible refine Kd.C_drewN ?_ _) | (with_reducible refine Kd.C_drew ?_) | exact HR160.out)) hb); have n4_ := Aside0.mk (below_step (by repeat (first | (with_reducible first | exact HB.out | apply below_alloc | apply pw_below_drewN | apply below_drew1) | exact HB.out)) hb); clear HO_9; clear HO_10; clear HR153; clear HR160; clear HB; have HO_9 := n0_; have HO_10 := n1_; have HR153 := n2_; have HR160 := n3_; have HB := n4_; clear n0_ n1_ n2_ n3_ n4_; (try clear hb); (try clear hb2); (try clear hk); (try clear hi)) | ((with_reducible refine gate_callee (f := 9) rfl ?_); refine goesL_ (some 119) rfl rfl Try.func9 (by kernel_rfl) rfl #[.slice Ao24 y125.length co24, .slice Ao25 y132.length co25] rfl (by (try simp only [List.map_toArray, List.map_cons, List.map_nil]); first | done | rfl | (simp only [List.length_drop, List.length_take]; rfl)) ?_; (with_reducible refine (rule_All.calls kj38 _ _ y125 _ _ y132 t164 t165 t166 _ ?side1 ?side2 ?side3 ?side4 A55.out).mono ?_); (case side1 => repeat (first | exact (Kd.R_reads' HO_9.out).2.2 | (with_reducible refine Kd.C_alloc ?_ _) | (with_reducible refine Kd.C_drewN ?_ _) | (with_reducible refine Kd.C_drew ?_))); (case side2 => exact (Kd.R_reads' HO_9.out).2.1); (case side3 => repeat (first | exact (Kd.R_reads' HO_10.out).2.2 | (with_reducible refine Kd.C_alloc ?_ _) | (with_reducible refine Kd.C_drewN ?_ _) | (with_reducible refine Kd.C_drew ?_))); (case side4 => exact (Kd.R_reads' HO_10.out).2.1); rintro e w69 ⟨rfl, hb⟩; refine ⟨_, rfl, ?_⟩; have n0_ := Aside0.mk (Kd.R_below (by (with_reducible repeat (first | apply Kd.R_alloc | apply Kd.R_drewN | apply Kd.R_drew)); exact HO_9.out) hb); have n1_ := Aside0.mk (Kd.R_below (by (with_reducible repeat (first | apply Kd.R_alloc | apply Kd.R_drewN | apply Kd.R_drew)); exact HO_10.out) hb); have n2_ := Aside0.mk (Kd.C_below (by repeat (first | (with_reducible exact HR153.out) | (with_reducible refine Kd.C_alloc ?_ _) | (with_reducible refine Kd.C_drewN ?_ _) | (with_reducible refine Kd.C_drew ?_) | exact HR153.out)) hb); have n3_ := Aside0.mk (Kd.C_below (by repeat (first | (with_reducible exact HR160.out) | (with_reducible refine Kd.C_alloc ?_ _) | (with_reducible refine Kd.C_drewN ?_ _) | (with_reducible refine Kd.C_drew ?_) | exact HR160.out)) hb); have n4_ := Aside0.mk (below_step (by repeat (first | (with_reducible first | exact HB.out | apply below_alloc | apply pw_below_drewN | apply below_drew1) | exact HB.out)) hb); clear HO_9; clear HO_10; clear HR153; clear HR160; clear HB; have HO_9 := n0_; have HO_10 := n1_; have HR153 := n2_; have HR160 := n3_; have HB := n4_; clear n0_ n1_ n2_ n3_ n4_; (try clear hb); (try clear hb2); (try clear hk); (try clear hi)) | ((with_reducible refine gate_callee (f := 9) rfl ?_); refine goesL_ (some 138) rfl rfl Try.func9 (by kernel_rfl) rfl #[.slice none 0 0, .slice Ao25 y132.length co25] rfl (by (try simp only [List.map_toArray, List.map_cons, List.map_nil]); first | done | rfl | (simp only [List.length_drop, List.length_take]; rfl)) ?_; (refine (rule_All.calls kj38 _ _ ([] : List (S23)) _ _ y132 t167 t168 t169 _ ?side1 ?side2 ?side3 ?side4 A58.out).mono ?_); (case side1 => exact Kd.C_nil _ _); (case side2 => exact Nat.le_refl _); (case side3 => repeat (first | exact (Kd.R_reads' HO_10.out).2.2 | (with_reducible refine Kd.C_alloc ?_ _) | (with_reducible refine Kd.C_drewN ?_ _) | (with_reducible refine Kd.C_drew ?_))); (case side4 => exact (Kd.R_reads' HO_10.out).2.1); rintro e w70 ⟨rfl, hb⟩; refine ⟨_, rfl, ?_⟩; have n0_ := Aside0.mk (Kd.R_below (by (with_reducible repeat (first | apply Kd.R_alloc | apply Kd.R_drewN | apply Kd.R_drew)); exact HO_9.out) hb); have n1_ := Aside0.mk (Kd.R_below (by (with_reducible repeat (first | apply Kd.R_alloc | apply Kd.R_drewN | apply Kd.R_drew)); exact HO_10.out) hb); have n2_ := Aside0.mk (Kd.C_below (by repeat (first | (with_reducible exact HR153.out) | (with_reducible refine Kd.C_alloc ?_ _) | (with_reducible refine Kd.C_drewN ?_ _) | (with_reducible refine Kd.C_drew ?_) | exact HR153.out)) hb); have n3_ := Aside0.mk (Kd.C_below (by repeat (first | (with_reducible exact HR160.out) | (with_reducible refine Kd.C_alloc ?_ _) | (with_reducible refine Kd.C_drewN ?_ _) | (with_reducible refine Kd.C_drew ?_) | exact HR160.out)) hb); have n4_ := Aside0.mk (below_step (by repeat (first | (with_reducible first | exact HB.out | apply below_alloc | apply pw_below_drewN | apply below_drew1) | exact HB.out)) hb); clear HO_9; clear HO_10; clear HR153; clear HR160; clear HB; have HO_9 := n0_; have HO_10 := n1_; have HR153 := n2_; have HR160 := n3_; have HB := n4_; clear n0_ n1_ n2_ n3_ n4_; (try clear hb); (try clear hb2); (try clear hk); (try clear hi)) | (go_at_call 3; (with_reducible refine (porticolaw9_RuleRuns.calls kj38  t170 _ A64.out).mono ?_); rintro e w71 ⟨rfl, hb⟩; have n0_ := Aside0.mk (Kd.R_below (by (with_reducible repeat (first | apply Kd.R_alloc | apply Kd.R_drewN | apply Kd.R_drew)); exact HO_9.out) hb); have n1_ := Aside0.mk (Kd.R_below (by (with_reducible repeat (first | apply Kd.R_alloc | apply Kd.R_drewN | apply Kd.R_drew)); exact HO_10.out) hb); have n2_ := Aside0.mk (Kd.C_below (by repeat (first | (with_reducible exact HR153.out) | (with_reducible refine Kd.C_alloc ?_ _) | (with_reducible refine Kd.C_drewN ?_ _) | (with_reducible refine Kd.C_drew ?_) | exact HR153.out)) hb); have n3_ := Aside0.mk (Kd.C_below (by repeat (first | (with_reducible exact HR160.out) | (with_reducible refine Kd.C_alloc ?_ _) | (with_reducible refine Kd.C_drewN ?_ _) | (with_reducible refine Kd.C_drew ?_) | exact HR160.out)) hb); have n4_ := Aside0.mk (below_step (by repeat (first | (with_reducible first | exact HB.out | apply below_alloc | apply pw_below_drewN | apply below_drew1) | exact HB.out)) hb); clear HO_9; clear HO_10; clear HR153; clear HR160; clear HB; have HO_9 := n0_; have HO_10 := n1_; have HR153 := n2_; have HR160 := n3_; have HB := n4_; clear n0_ n1_ n2_ n3_ n4_; (try clear hb); (try clear hb2); (try clear hk); (try clear hi)))
                                            go_ret
                                            exact ⟨by first | rfl | (simp [errW_none, errW_some] <;> rfl) | (simp only [← hji5, ← hji9]; first | rfl | (simp [errW_none, errW_some] <;> rfl)) | (simp [*, errW_none, errW_some] <;> rfl), by repeat (first | (with_reducible first | exact HB.out | apply below_alloc | apply pw_below_drewN | apply below_drew1) | exact HB.out)⟩
                                          · rw [if_neg c63] at H
                                            exact absurd H (by simp)
                                        · rw [if_neg c62] at H
                                          exact absurd H (by simp)
                                      · rw [if_neg c61] at H
                                        exact absurd H (by simp)
                                    · rw [if_neg c60] at H
                                      exact absurd H (by simp)
                                  · rw [if_neg c59] at H
                                    exact absurd H (by simp)
                                · rw [if_neg c57] at H
                                  have c57b0 : decide (0 ≤ t163) = false := decide_eq_false c57
                                  clear c57
                                  replace H := Option.bind_eq_some_iff.mp H
                                  obtain ⟨⟨t171, t172, t173⟩, A720, H⟩ := H
                                  replace H : (if t164 = t161 then (if t165.toList = t162.toList then (if t137 = t163 then (if t171 = 0 then (if t173 = (-1) then ((porticolaw9_RuleRuns.f kj38).bind fun t174 => (some t174)) else (none)) else (none)) else (none)) else (none)) else (none)) = some r := H
                                  have A72 := Aside0.mk A720
                                  clear A720
                                  by_cases c73 : t164 = t161
                                  · rw [if_pos c73] at H
                                    have c73b0 : (t164 == t161) = true := beq_iff_eq.mpr c73
                                    have c73b1 : (t164 != t161) = false := bne_eq_false_iff_eq.mpr c73
                                    clear c73
                                    by_cases c74 : t165.toList = t162.toList
                                    · rw [if_pos c74] at H
                                      have c74b0 : (t165.toList == t162.toList) = true := beq_iff_eq.mpr c74
                                      have c74b1 : (t165.toList != t162.toList) = false := bne_eq_false_iff_eq.mpr c74
                                      clear c74
                                      by_cases c75 : t137 = t163
                                      · rw [if_pos c75] at H
                                        have c75b0 : (t137 == t163) = true := beq_iff_eq.mpr c75
                                        have c75b1 : (t137 != t163) = false := bne_eq_false_iff_eq.mpr c75
                                        clear c75
                                        by_cases c76 : t171 = 0
                                        · rw [if_pos c76] at H
                                          have c76b0 : (t171 == 0) = true := beq_iff_eq.mpr c76
                                          have c76b1 : (t171 != 0) = false := bne_eq_false_iff_eq.mpr c76
                                          clear c76
                                          by_cases c77 : t173 = (-1)
                                          · rw [if_pos c77] at H
                                            have c77b0 : (t173 == (-1)) = true := beq_iff_eq.mpr c77
                                            have c77b1 : (t173 != (-1)) = false := bne_eq_false_iff_eq.mpr c77
                                            clear c77
                                            replace H := Option.bind_eq_some_iff.mp H
                                            obtain ⟨t174, A780, H⟩ := H
                                            replace H : (some t174) = some r := H
                                            have A78 := Aside0.mk A780
                                            clear A780
                                            obtain rfl := Option.some.inj H
                                            go_wp2_with (first | ((with_reducible refine gate_callee (f := 8) rfl ?_); refine goesL_ (some 97) rfl rfl Try.func8 (by kernel_rfl) rfl #[.int .i64 a3, .int .i64 0, .int .i64 (y125.length : Int)] rfl (by (try simp only [List.map_toArray, List.map_cons, List.map_nil]); first | done | rfl | (simp only [List.length_drop, List.length_take]; rfl)) ?_; (with_reducible refine (porticobook_Within.calls a3 0 (y125.length : Int) t149 _ A48.out).mono ?_); rintro e w' ⟨rfl, ⟨nd, rfl⟩⟩; refine ⟨_, rfl, ?_⟩; have q79 : (t149 : Int) ≤ ((y125.length : Int) : Int) := of_decide_eq_true (by first | (with_reducible assumption) | assumption); obtain ⟨i079, hi079, _, hsz79, _⟩ := info_parts info23; have hroom79 : y125.length ≤ co24 := (Kd.R_reads' HO_9.out).2.1; have hC79 : Kd.C k23 _ Ao24 y125.length y125 := (Kd.R_reads' HO_9.out).2.2; have hcut79 := cut_to (P := Try.prog) 30 23 .i64 Try.underlying30 hi079 Ao24 y125.length co24 t149 (of_decide_eq_true (by first | (with_reducible assumption) | assumption)) q79 hroom79; have hr79 := Kd.C_take (m := (t149 : Int).toNat) hC79 (by omega); have hy79 : y150.length = (t149 : Int).toNat := (by rw [Ny150.out, List.length_take]; omega); rw [← Ny150.out] at hr79; rw [← hy79] at hcut79; have HR153 := Aside0.mk hr79; have HC153 := Aside0.mk (show y150.length ≤ co24 from by omega); clear hr79 hC79 hroom79 hi079 hsz79; have KY79 := Aside0.mk hy79; clear hy79; have KL79 := Aside0.mk (show (t149 : Int).toNat ≤ y125.length from by omega); replace q79 := eq_true q79) | ((with_reducible refine gate_callee (f := 9) rfl ?_); refine goesL_ (some 103) rfl rfl Try.func9 (by kernel_rfl) rfl #[.slice Ao24 y150.length co24, .slice Ao25 y132.length co25] rfl (by (try simp only [List.map_toArray, List.map_cons, List.map_nil]); first | done | rfl | (simp only [List.length_drop, List.length_take]; rfl)) ?_; (with_reducible refine (rule_All.calls kj38 _ _ y150 _ _ y132 t154 t155 t156 _ ?side1 ?side2 ?side3 ?side4 A51.out).mono ?_); (case side1 => repeat (first | exact (by repeat (first | (with_reducible exact HR153.out) | (with_reducible refine Kd.C_alloc ?_ _) | (with_reducible refine Kd.C_drewN ?_ _) | (with_reducible refine Kd.C_drew ?_) | exact HR153.out)) | (with_reducible refine Kd.C_alloc ?_ _) | (with_reducible refine Kd.C_drewN ?_ _) | (with_reducible refine Kd.C_drew ?_))); (case side2 => exact HC153.out); (case side3 => repeat (first | exact (Kd.R_reads' HO_10.out).2.2 | (with_reducible refine Kd.C_alloc ?_ _) | (with_reducible refine Kd.C_drewN ?_ _) | (with_reducible refine Kd.C_drew ?_))); (case side4 => exact (Kd.R_reads' HO_10.out).2.1); rintro e w80 ⟨rfl, hb⟩; refine ⟨_, rfl, ?_⟩; have n0_ := Aside0.mk (Kd.R_below (by (with_reducible repeat (first | apply Kd.R_alloc | apply Kd.R_drewN | apply Kd.R_drew)); exact HO_9.out) hb); have n1_ := Aside0.mk (Kd.R_below (by (with_reducible repeat (first | apply Kd.R_alloc | apply Kd.R_drewN | apply Kd.R_drew)); exact HO_10.out) hb); have n2_ := Aside0.mk (Kd.C_below (by repeat (first | (with_reducible exact HR153.out) | (with_reducible refine Kd.C_alloc ?_ _) | (with_reducible refine Kd.C_drewN ?_ _) | (with_reducible refine Kd.C_drew ?_) | exact HR153.out)) hb); have n3_ := Aside0.mk (below_step (by repeat (first | (with_reducible first | exact HB.out | apply below_alloc | apply pw_below_drewN | apply below_drew1) | exact HB.out)) hb); clear HO_9; clear HO_10; clear HR153; clear HB; have HO_9 := n0_; have HO_10 := n1_; have HR153 := n2_; have HB := n3_; clear n0_ n1_ n2_ n3_; (try clear hb); (try clear hb2); (try clear hk); (try clear hi); have q81 : (t149 : Int) ≤ ((y125.length : Int) : Int) := of_decide_eq_true (by first | (with_reducible assumption) | assumption); obtain ⟨i081, hi081, _, hsz81, _⟩ := info_parts info23; have hroom81 : y125.length ≤ co24 := (Kd.R_reads' HO_9.out).2.1; have hC81 : Kd.C k23 _ Ao24 y125.length y125 := (Kd.R_reads' HO_9.out).2.2; have q081 : (0 : Int) ≤ (t149 : Int) := of_decide_eq_true (by first | (with_reducible assumption) | assumption); have hcut81 := cut_from (P := Try.prog) 30 23 .i64 Try.underlying30 hi081 3 hsz81 Ao24 y125.length co24 t149 q081 q81; have hr81 := Kd.C_drop (m := (t149 : Int).toNat) (c := co24) hC81 (by omega) hroom81; obtain ⟨A81, hA81⟩ : ∃ A1, A1 = (if co24 = (t149 : Int).toNat then Ao24 else (Ao24 : Option Addr).map (·.add ((t149 : Int).toNat * 3))) := ⟨_, rfl⟩; obtain ⟨c81, hc81⟩ : ∃ c1, c1 = co24 - (t149 : Int).toNat := ⟨_, rfl⟩; have hy81 : y157.length = y125.length - (t149 : Int).toNat := (by rw [Ny157.out, List.length_drop] <;> omega); rw [show (y125).drop (t149 : Int).toNat = y157 from Ny157.out.symm] at hr81; replace hr81 : Kd.C k23 _ A81 y157.length y157 := (by rw [hA81]; exact hr81); rw [← hy81, ← hA81, ← hc81] at hcut81; have HR160 := Aside0.mk hr81; have HC160 := Aside0.mk (show y157.length ≤ c81 from by rw [hy81, hc81]; exact Nat.sub_le_sub_right hroom81 _); clear hr81 hC81 hroom81 hi081 hsz81 hc81; have KY81 := Aside0.mk hy81; have KA81 := Aside0.mk hA81; clear hy81 hA81; have KL81 := Aside0.mk (show (t149 : Int).toNat ≤ y125.length from by omega); replace q81 := eq_true q81) | ((with_reducible refine gate_callee (f := 9) rfl ?_); refine goesL_ (some 112) rfl rfl Try.func9 (by kernel_rfl) rfl #[.slice A81 y157.length c81, .slice Ao25 y132.length co25] rfl (by (try simp only [List.map_toArray, List.map_cons, List.map_nil]); first | done | rfl | (simp only [List.length_drop, List.length_take]; rfl)) ?_; (with_reducible refine (rule_All.calls kj38 _ _ y157 _ _ y132 t161 t162 t163 _ ?side1 ?side2 ?side3 ?side4 A54.out).mono ?_); (case side1 => repeat (first | exact (by repeat (first | (with_reducible exact HR160.out) | (with_reducible refine Kd.C_alloc ?_ _) | (with_reducible refine Kd.C_drewN ?_ _) | (with_reducible refine Kd.C_drew ?_) | exact HR160.out)) | (with_reducible refine Kd.C_alloc ?_ _) | (with_reducible refine Kd.C_drewN ?_ _) | (with_reducible refine Kd.C_drew ?_))); (case side2 => exact HC160.out); (case side3 => repeat (first | exact (Kd.R_reads' HO_10.out).2.2 | (with_reducible refine Kd.C_alloc ?_ _) | (with_reducible refine Kd.C_drewN ?_ _) | (with_reducible refine Kd.C_drew ?_))); (case side4 => exact (Kd.R_reads' HO_10.out).2.1); rintro e w82 ⟨rfl, hb⟩; refine ⟨_, rfl, ?_⟩; have n0_ := Aside0.mk (Kd.R_below (by (with_reducible repeat (first | apply Kd.R_alloc | apply Kd.R_drewN | apply Kd.R_drew)); exact HO_9.out) hb); have n1_ := Aside0.mk (Kd.R_below (by (with_reducible repeat (first | apply Kd.R_alloc | apply Kd.R_drewN | apply Kd.R_drew)); exact HO_10.out) hb); have n2_ := Aside0.mk (Kd.C_below (by repeat (first | (with_reducible exact HR153.out) | (with_reducible refine Kd.C_alloc ?_ _) | (with_reducible refine Kd.C_drewN ?_ _) | (with_reducible refine Kd.C_drew ?_) | exact HR153.out)) hb); have n3_ := Aside0.mk (Kd.C_below (by repeat (first | (with_reducible exact HR160.out) | (with_reducible refine Kd.C_alloc ?_ _) | (with_reducible refine Kd.C_drewN ?_ _) | (with_reducible refine Kd.C_drew ?_) | exact HR160.out)) hb); have n4_ := Aside0.mk (below_step (by repeat (first | (with_reducible first | exact HB.out | apply below_alloc | apply pw_below_drewN | apply below_drew1) | exact HB.out)) hb); clear HO_9; clear HO_10; clear HR153; clear HR160; clear HB; have HO_9 := n0_; have HO_10 := n1_; have HR153 := n2_; have HR160 := n3_; have HB := n4_; clear n0_ n1_ n2_ n3_ n4_; (try clear hb); (try clear hb2); (try clear hk); (try clear hi)) | ((with_reducible refine gate_callee (f := 9) rfl ?_); refine goesL_ (some 119) rfl rfl Try.func9 (by kernel_rfl) rfl #[.slice Ao24 y125.length co24, .slice Ao25 y132.length co25] rfl (by (try simp only [List.map_toArray, List.map_cons, List.map_nil]); first | done | rfl | (simp only [List.length_drop, List.length_take]; rfl)) ?_; (with_reducible refine (rule_All.calls kj38 _ _ y125 _ _ y132 t164 t165 t166 _ ?side1 ?side2 ?side3 ?side4 A55.out).mono ?_); (case side1 => repeat (first | exact (Kd.R_reads' HO_9.out).2.2 | (with_reducible refine Kd.C_alloc ?_ _) | (with_reducible refine Kd.C_drewN ?_ _) | (with_reducible refine Kd.C_drew ?_))); (case side2 => exact (Kd.R_reads' HO_9.out).2.1); (case side3 => repeat (first | exact (Kd.R_reads' HO_10.out).2.2 | (with_reducible refine Kd.C_alloc ?_ _) | (with_reducible refine Kd.C_drewN ?_ _) | (with_reducible refine Kd.C_drew ?_))); (case side4 => exact (Kd.R_reads' HO_10.out).2.1); rintro e w83 ⟨rfl, hb⟩; refine ⟨_, rfl, ?_⟩; have n0_ := Aside0.mk (Kd.R_below (by (with_reducible repeat (first | apply Kd.R_alloc | apply Kd.R_drewN | apply Kd.R_drew)); exact HO_9.out) hb); have n1_ := Aside0.mk (Kd.R_below (by (with_reducible repeat (first | apply Kd.R_alloc | apply Kd.R_drewN | apply Kd.R_drew)); exact HO_10.out) hb); have n2_ := Aside0.mk (Kd.C_below (by repeat (first | (with_reducible exact HR153.out) | (with_reducible refine Kd.C_alloc ?_ _) | (with_reducible refine Kd.C_drewN ?_ _) | (with_reducible refine Kd.C_drew ?_) | exact HR153.out)) hb); have n3_ := Aside0.mk (Kd.C_below (by repeat (first | (with_reducible exact HR160.out) | (with_reducible refine Kd.C_alloc ?_ _) | (with_reducible refine Kd.C_drewN ?_ _) | (with_reducible refine Kd.C_drew ?_) | exact HR160.out)) hb); have n4_ := Aside0.mk (below_step (by repeat (first | (with_reducible first | exact HB.out | apply below_alloc | apply pw_below_drewN | apply below_drew1) | exact HB.out)) hb); clear HO_9; clear HO_10; clear HR153; clear HR160; clear HB; have HO_9 := n0_; have HO_10 := n1_; have HR153 := n2_; have HR160 := n3_; have HB := n4_; clear n0_ n1_ n2_ n3_ n4_; (try clear hb); (try clear hb2); (try clear hk); (try clear hi)) | ((with_reducible refine gate_callee (f := 9) rfl ?_); refine goesL_ (some 138) rfl rfl Try.func9 (by kernel_rfl) rfl #[.slice none 0 0, .slice Ao25 y132.length co25] rfl (by (try simp only [List.map_toArray, List.map_cons, List.map_nil]); first | done | rfl | (simp only [List.length_drop, List.length_take]; rfl)) ?_; (refine (rule_All.calls kj38 _ _ ([] : List (S23)) _ _ y132 t171 t172 t173 _ ?side1 ?side2 ?side3 ?side4 A72.out).mono ?_); (case side1 => exact Kd.C_nil _ _); (case side2 => exact Nat.le_refl _); (case side3 => repeat (first | exact (Kd.R_reads' HO_10.out).2.2 | (with_reducible refine Kd.C_alloc ?_ _) | (with_reducible refine Kd.C_drewN ?_ _) | (with_reducible refine Kd.C_drew ?_))); (case side4 => exact (Kd.R_reads' HO_10.out).2.1); rintro e w84 ⟨rfl, hb⟩; refine ⟨_, rfl, ?_⟩; have n0_ := Aside0.mk (Kd.R_below (by (with_reducible repeat (first | apply Kd.R_alloc | apply Kd.R_drewN | apply Kd.R_drew)); exact HO_9.out) hb); have n1_ := Aside0.mk (Kd.R_below (by (with_reducible repeat (first | apply Kd.R_alloc | apply Kd.R_drewN | apply Kd.R_drew)); exact HO_10.out) hb); have n2_ := Aside0.mk (Kd.C_below (by repeat (first | (with_reducible exact HR153.out) | (with_reducible refine Kd.C_alloc ?_ _) | (with_reducible refine Kd.C_drewN ?_ _) | (with_reducible refine Kd.C_drew ?_) | exact HR153.out)) hb); have n3_ := Aside0.mk (Kd.C_below (by repeat (first | (with_reducible exact HR160.out) | (with_reducible refine Kd.C_alloc ?_ _) | (with_reducible refine Kd.C_drewN ?_ _) | (with_reducible refine Kd.C_drew ?_) | exact HR160.out)) hb); have n4_ := Aside0.mk (below_step (by repeat (first | (with_reducible first | exact HB.out | apply below_alloc | apply pw_below_drewN | apply below_drew1) | exact HB.out)) hb); clear HO_9; clear HO_10; clear HR153; clear HR160; clear HB; have HO_9 := n0_; have HO_10 := n1_; have HR153 := n2_; have HR160 := n3_; have HB := n4_; clear n0_ n1_ n2_ n3_ n4_; (try clear hb); (try clear hb2); (try clear hk); (try clear hi)) | (go_at_call 3; (with_reducible refine (porticolaw9_RuleRuns.calls kj38  t174 _ A78.out).mono ?_); rintro e w85 ⟨rfl, hb⟩; have n0_ := Aside0.mk (Kd.R_below (by (with_reducible repeat (first | apply Kd.R_alloc | apply Kd.R_drewN | apply Kd.R_drew)); exact HO_9.out) hb); have n1_ := Aside0.mk (Kd.R_below (by (with_reducible repeat (first | apply Kd.R_alloc | apply Kd.R_drewN | apply Kd.R_drew)); exact HO_10.out) hb); have n2_ := Aside0.mk (Kd.C_below (by repeat (first | (with_reducible exact HR153.out) | (with_reducible refine Kd.C_alloc ?_ _) | (with_reducible refine Kd.C_drewN ?_ _) | (with_reducible refine Kd.C_drew ?_) | exact HR153.out)) hb); have n3_ := Aside0.mk (Kd.C_below (by repeat (first | (with_reducible exact HR160.out) | (with_reducible refine Kd.C_alloc ?_ _) | (with_reducible refine Kd.C_drewN ?_ _) | (with_reducible refine Kd.C_drew ?_) | exact HR160.out)) hb); have n4_ := Aside0.mk (below_step (by repeat (first | (with_reducible first | exact HB.out | apply below_alloc | apply pw_below_drewN | apply below_drew1) | exact HB.out)) hb); clear HO_9; clear HO_10; clear HR153; clear HR160; clear HB; have HO_9 := n0_; have HO_10 := n1_; have HR153 := n2_; have HR160 := n3_; have HB := n4_; clear n0_ n1_ n2_ n3_ n4_; (try clear hb); (try clear hb2); (try clear hk); (try clear hi)))
                                            go_ret
                                            exact ⟨by first | rfl | (simp [errW_none, errW_some] <;> rfl) | (simp only [← hji5, ← hji9]; first | rfl | (simp [errW_none, errW_some] <;> rfl)) | (simp [*, errW_none, errW_some] <;> rfl), by repeat (first | (with_reducible first | exact HB.out | apply below_alloc | apply pw_below_drewN | apply below_drew1) | exact HB.out)⟩
                                          · rw [if_neg c77] at H
                                            exact absurd H (by simp)
                                        · rw [if_neg c76] at H
                                          exact absurd H (by simp)
                                      · rw [if_neg c75] at H
                                        exact absurd H (by simp)
                                    · rw [if_neg c74] at H
                                      exact absurd H (by simp)
                                  · rw [if_neg c73] at H
                                    exact absurd H (by simp)
                              · rw [if_neg c56] at H
                                have c56b0 : (t154 == 0) = false := beq_eq_false_iff_ne.mpr c56
                                have c56b1 : (t154 != 0) = true := bne_iff_ne.mpr c56
                                replace H := Option.bind_eq_some_iff.mp H
                                obtain ⟨⟨t175, t176, t177⟩, A860, H⟩ := H
                                replace H : (if t164 = t154 then (if t165.toList = t155.toList then (if t137 = t156 then (if t175 = 0 then (if t177 = (-1) then ((porticolaw9_RuleRuns.f kj38).bind fun t178 => (some t178)) else (none)) else (none)) else (none)) else (none)) else (none)) = some r := H
                                have A86 := Aside0.mk A860
                                clear A860
                                by_cases c87 : t164 = t154
                                · rw [if_pos c87] at H
                                  have c87b0 : (t164 == t154) = true := beq_iff_eq.mpr c87
                                  have c87b1 : (t164 != t154) = false := bne_eq_false_iff_eq.mpr c87
                                  clear c87
                                  by_cases c88 : t165.toList = t155.toList
                                  · rw [if_pos c88] at H
                                    have c88b0 : (t165.toList == t155.toList) = true := beq_iff_eq.mpr c88
                                    have c88b1 : (t165.toList != t155.toList) = false := bne_eq_false_iff_eq.mpr c88
                                    clear c88
                                    by_cases c89 : t137 = t156
                                    · rw [if_pos c89] at H
                                      have c89b0 : (t137 == t156) = true := beq_iff_eq.mpr c89
                                      have c89b1 : (t137 != t156) = false := bne_eq_false_iff_eq.mpr c89
                                      clear c89
                                      by_cases c90 : t175 = 0
                                      · rw [if_pos c90] at H
                                        have c90b0 : (t175 == 0) = true := beq_iff_eq.mpr c90
                                        have c90b1 : (t175 != 0) = false := bne_eq_false_iff_eq.mpr c90
                                        clear c90
                                        by_cases c91 : t177 = (-1)
                                        · rw [if_pos c91] at H
                                          have c91b0 : (t177 == (-1)) = true := beq_iff_eq.mpr c91
                                          have c91b1 : (t177 != (-1)) = false := bne_eq_false_iff_eq.mpr c91
                                          clear c91
                                          replace H := Option.bind_eq_some_iff.mp H
                                          obtain ⟨t178, A920, H⟩ := H
                                          replace H : (some t178) = some r := H
                                          have A92 := Aside0.mk A920
                                          clear A920
                                          obtain rfl := Option.some.inj H
                                          go_wp2_with (first | ((with_reducible refine gate_callee (f := 8) rfl ?_); refine goesL_ (some 97) rfl rfl Try.func8 (by kernel_rfl) rfl #[.int .i64 a3, .int .i64 0, .int .i64 (y125.length : Int)] rfl (by (try simp only [List.map_toArray, List.map_cons, List.map_nil]); first | done | rfl | (simp only [List.length_drop, List.length_take]; rfl)) ?_; (with_reducible refine (porticobook_Within.calls a3 0 (y125.length : Int) t149 _ A48.out).mono ?_); rintro e w' ⟨rfl, ⟨nd, rfl⟩⟩; refine ⟨_, rfl, ?_⟩; have q93 : (t149 : Int) ≤ ((y125.length : Int) : Int) := of_decide_eq_true (by first | (with_reducible assumption) | assumption); obtain ⟨i093, hi093, _, hsz93, _⟩ := info_parts info23; have hroom93 : y125.length ≤ co24 := (Kd.R_reads' HO_9.out).2.1; have hC93 : Kd.C k23 _ Ao24 y125.length y125 := (Kd.R_reads' HO_9.out).2.2; have hcut93 := cut_to (P := Try.prog) 30 23 .i64 Try.underlying30 hi093 Ao24 y125.length co24 t149 (of_decide_eq_true (by first | (with_reducible assumption) | assumption)) q93 hroom93; have hr93 := Kd.C_take (m := (t149 : Int).toNat) hC93 (by omega); have hy93 : y150.length = (t149 : Int).toNat := (by rw [Ny150.out, List.length_take]; omega); rw [← Ny150.out] at hr93; rw [← hy93] at hcut93; have HR153 := Aside0.mk hr93; have HC153 := Aside0.mk (show y150.length ≤ co24 from by omega); clear hr93 hC93 hroom93 hi093 hsz93; have KY93 := Aside0.mk hy93; clear hy93; have KL93 := Aside0.mk (show (t149 : Int).toNat ≤ y125.length from by omega); replace q93 := eq_true q93) | ((with_reducible refine gate_callee (f := 9) rfl ?_); refine goesL_ (some 103) rfl rfl Try.func9 (by kernel_rfl) rfl #[.slice Ao24 y150.length co24, .slice Ao25 y132.length co25] rfl (by (try simp only [List.map_toArray, List.map_cons, List.map_nil]); first | done | rfl | (simp only [List.length_drop, List.length_take]; rfl)) ?_; (with_reducible refine (rule_All.calls kj38 _ _ y150 _ _ y132 t154 t155 t156 _ ?side1 ?side2 ?side3 ?side4 A51.out).mono ?_); (case side1 => repeat (first | exact (by repeat (first | (with_reducible exact HR153.out) | (with_reducible refine Kd.C_alloc ?_ _) | (with_reducible refine Kd.C_drewN ?_ _) | (with_reducible refine Kd.C_drew ?_) | exact HR153.out)) | (with_reducible refine Kd.C_alloc ?_ _) | (with_reducible refine Kd.C_drewN ?_ _) | (with_reducible refine Kd.C_drew ?_))); (case side2 => exact HC153.out); (case side3 => repeat (first | exact (Kd.R_reads' HO_10.out).2.2 | (with_reducible refine Kd.C_alloc ?_ _) | (with_reducible refine Kd.C_drewN ?_ _) | (with_reducible refine Kd.C_drew ?_))); (case side4 => exact (Kd.R_reads' HO_10.out).2.1); rintro e w94 ⟨rfl, hb⟩; refine ⟨_, rfl, ?_⟩; have n0_ := Aside0.mk (Kd.R_below (by (with_reducible repeat (first | apply Kd.R_alloc | apply Kd.R_drewN | apply Kd.R_drew)); exact HO_9.out) hb); have n1_ := Aside0.mk (Kd.R_below (by (with_reducible repeat (first | apply Kd.R_alloc | apply Kd.R_drewN | apply Kd.R_drew)); exact HO_10.out) hb); have n2_ := Aside0.mk (Kd.C_below (by repeat (first | (with_reducible exact HR153.out) | (with_reducible refine Kd.C_alloc ?_ _) | (with_reducible refine Kd.C_drewN ?_ _) | (with_reducible refine Kd.C_drew ?_) | exact HR153.out)) hb); have n3_ := Aside0.mk (below_step (by repeat (first | (with_reducible first | exact HB.out | apply below_alloc | apply pw_below_drewN | apply below_drew1) | exact HB.out)) hb); clear HO_9; clear HO_10; clear HR153; clear HB; have HO_9 := n0_; have HO_10 := n1_; have HR153 := n2_; have HB := n3_; clear n0_ n1_ n2_ n3_; (try clear hb); (try clear hb2); (try clear hk); (try clear hi); have q95 : (t149 : Int) ≤ ((y125.length : Int) : Int) := of_decide_eq_true (by first | (with_reducible assumption) | assumption); obtain ⟨i095, hi095, _, hsz95, _⟩ := info_parts info23; have hroom95 : y125.length ≤ co24 := (Kd.R_reads' HO_9.out).2.1; have hC95 : Kd.C k23 _ Ao24 y125.length y125 := (Kd.R_reads' HO_9.out).2.2; have q095 : (0 : Int) ≤ (t149 : Int) := of_decide_eq_true (by first | (with_reducible assumption) | assumption); have hcut95 := cut_from (P := Try.prog) 30 23 .i64 Try.underlying30 hi095 3 hsz95 Ao24 y125.length co24 t149 q095 q95; have hr95 := Kd.C_drop (m := (t149 : Int).toNat) (c := co24) hC95 (by omega) hroom95; obtain ⟨A95, hA95⟩ : ∃ A1, A1 = (if co24 = (t149 : Int).toNat then Ao24 else (Ao24 : Option Addr).map (·.add ((t149 : Int).toNat * 3))) := ⟨_, rfl⟩; obtain ⟨c95, hc95⟩ : ∃ c1, c1 = co24 - (t149 : Int).toNat := ⟨_, rfl⟩; have hy95 : y157.length = y125.length - (t149 : Int).toNat := (by rw [Ny157.out, List.length_drop] <;> omega); rw [show (y125).drop (t149 : Int).toNat = y157 from Ny157.out.symm] at hr95; replace hr95 : Kd.C k23 _ A95 y157.length y157 := (by rw [hA95]; exact hr95); rw [← hy95, ← hA95, ← hc95] at hcut95; have HR160 := Aside0.mk hr95; have HC160 := Aside0.mk (show y157.length ≤ c95 from by rw [hy95, hc95]; exact Nat.sub_le_sub_right hroom95 _); clear hr95 hC95 hroom95 hi095 hsz95 hc95; have KY95 := Aside0.mk hy95; have KA95 := Aside0.mk hA95; clear hy95 hA95; have KL95 := Aside0.mk (show (t149 : Int).toNat ≤ y125.length from by omega); replace q95 := eq_true q95) | ((with_reducible refine gate_callee (f := 9) rfl ?_); refine goesL_ (some 112) rfl rfl Try.func9 (by kernel_rfl) rfl #[.slice A95 y157.length c95, .slice Ao25 y132.length co25] rfl (by (try simp only [List.map_toArray, List.map_cons, List.map_nil]); first | done | rfl | (simp only [List.length_drop, List.length_take]; rfl)) ?_; (with_reducible refine (rule_All.calls kj38 _ _ y157 _ _ y132 t161 t162 t163 _ ?side1 ?side2 ?side3 ?side4 A54.out).mono ?_); (case side1 => repeat (first | exact (by repeat (first | (with_reducible exact HR160.out) | (with_reducible refine Kd.C_alloc ?_ _) | (with_reducible refine Kd.C_drewN ?_ _) | (with_reducible refine Kd.C_drew ?_) | exact HR160.out)) | (with_reducible refine Kd.C_alloc ?_ _) | (with_reducible refine Kd.C_drewN ?_ _) | (with_reducible refine Kd.C_drew ?_))); (case side2 => exact HC160.out); (case side3 => repeat (first | exact (Kd.R_reads' HO_10.out).2.2 | (with_reducible refine Kd.C_alloc ?_ _) | (with_reducible refine Kd.C_drewN ?_ _) | (with_reducible refine Kd.C_drew ?_))); (case side4 => exact (Kd.R_reads' HO_10.out).2.1); rintro e w96 ⟨rfl, hb⟩; refine ⟨_, rfl, ?_⟩; have n0_ := Aside0.mk (Kd.R_below (by (with_reducible repeat (first | apply Kd.R_alloc | apply Kd.R_drewN | apply Kd.R_drew)); exact HO_9.out) hb); have n1_ := Aside0.mk (Kd.R_below (by (with_reducible repeat (first | apply Kd.R_alloc | apply Kd.R_drewN | apply Kd.R_drew)); exact HO_10.out) hb); have n2_ := Aside0.mk (Kd.C_below (by repeat (first | (with_reducible exact HR153.out) | (with_reducible refine Kd.C_alloc ?_ _) | (with_reducible refine Kd.C_drewN ?_ _) | (with_reducible refine Kd.C_drew ?_) | exact HR153.out)) hb); have n3_ := Aside0.mk (Kd.C_below (by repeat (first | (with_reducible exact HR160.out) | (with_reducible refine Kd.C_alloc ?_ _) | (with_reducible refine Kd.C_drewN ?_ _) | (with_reducible refine Kd.C_drew ?_) | exact HR160.out)) hb); have n4_ := Aside0.mk (below_step (by repeat (first | (with_reducible first | exact HB.out | apply below_alloc | apply pw_below_drewN | apply below_drew1) | exact HB.out)) hb); clear HO_9; clear HO_10; clear HR153; clear HR160; clear HB; have HO_9 := n0_; have HO_10 := n1_; have HR153 := n2_; have HR160 := n3_; have HB := n4_; clear n0_ n1_ n2_ n3_ n4_; (try clear hb); (try clear hb2); (try clear hk); (try clear hi)) | ((with_reducible refine gate_callee (f := 9) rfl ?_); refine goesL_ (some 119) rfl rfl Try.func9 (by kernel_rfl) rfl #[.slice Ao24 y125.length co24, .slice Ao25 y132.length co25] rfl (by (try simp only [List.map_toArray, List.map_cons, List.map_nil]); first | done | rfl | (simp only [List.length_drop, List.length_take]; rfl)) ?_; (with_reducible refine (rule_All.calls kj38 _ _ y125 _ _ y132 t164 t165 t166 _ ?side1 ?side2 ?side3 ?side4 A55.out).mono ?_); (case side1 => repeat (first | exact (Kd.R_reads' HO_9.out).2.2 | (with_reducible refine Kd.C_alloc ?_ _) | (with_reducible refine Kd.C_drewN ?_ _) | (with_reducible refine Kd.C_drew ?_))); (case side2 => exact (Kd.R_reads' HO_9.out).2.1); (case side3 => repeat (first | exact (Kd.R_reads' HO_10.out).2.2 | (with_reducible refine Kd.C_alloc ?_ _) | (with_reducible refine Kd.C_drewN ?_ _) | (with_reducible refine Kd.C_drew ?_))); (case side4 => exact (Kd.R_reads' HO_10.out).2.1); rintro e w97 ⟨rfl, hb⟩; refine ⟨_, rfl, ?_⟩; have n0_ := Aside0.mk (Kd.R_below (by (with_reducible repeat (first | apply Kd.R_alloc | apply Kd.R_drewN | apply Kd.R_drew)); exact HO_9.out) hb); have n1_ := Aside0.mk (Kd.R_below (by (with_reducible repeat (first | apply Kd.R_alloc | apply Kd.R_drewN | apply Kd.R_drew)); exact HO_10.out) hb); have n2_ := Aside0.mk (Kd.C_below (by repeat (first | (with_reducible exact HR153.out) | (with_reducible refine Kd.C_alloc ?_ _) | (with_reducible refine Kd.C_drewN ?_ _) | (with_reducible refine Kd.C_drew ?_) | exact HR153.out)) hb); have n3_ := Aside0.mk (Kd.C_below (by repeat (first | (with_reducible exact HR160.out) | (with_reducible refine Kd.C_alloc ?_ _) | (with_reducible refine Kd.C_drewN ?_ _) | (with_reducible refine Kd.C_drew ?_) | exact HR160.out)) hb); have n4_ := Aside0.mk (below_step (by repeat (first | (with_reducible first | exact HB.out | apply below_alloc | apply pw_below_drewN | apply below_drew1) | exact HB.out)) hb); clear HO_9; clear HO_10; clear HR153; clear HR160; clear HB; have HO_9 := n0_; have HO_10 := n1_; have HR153 := n2_; have HR160 := n3_; have HB := n4_; clear n0_ n1_ n2_ n3_ n4_; (try clear hb); (try clear hb2); (try clear hk); (try clear hi)) | ((with_reducible refine gate_callee (f := 9) rfl ?_); refine goesL_ (some 138) rfl rfl Try.func9 (by kernel_rfl) rfl #[.slice none 0 0, .slice Ao25 y132.length co25] rfl (by (try simp only [List.map_toArray, List.map_cons, List.map_nil]); first | done | rfl | (simp only [List.length_drop, List.length_take]; rfl)) ?_; (refine (rule_All.calls kj38 _ _ ([] : List (S23)) _ _ y132 t175 t176 t177 _ ?side1 ?side2 ?side3 ?side4 A86.out).mono ?_); (case side1 => exact Kd.C_nil _ _); (case side2 => exact Nat.le_refl _); (case side3 => repeat (first | exact (Kd.R_reads' HO_10.out).2.2 | (with_reducible refine Kd.C_alloc ?_ _) | (with_reducible refine Kd.C_drewN ?_ _) | (with_reducible refine Kd.C_drew ?_))); (case side4 => exact (Kd.R_reads' HO_10.out).2.1); rintro e w98 ⟨rfl, hb⟩; refine ⟨_, rfl, ?_⟩; have n0_ := Aside0.mk (Kd.R_below (by (with_reducible repeat (first | apply Kd.R_alloc | apply Kd.R_drewN | apply Kd.R_drew)); exact HO_9.out) hb); have n1_ := Aside0.mk (Kd.R_below (by (with_reducible repeat (first | apply Kd.R_alloc | apply Kd.R_drewN | apply Kd.R_drew)); exact HO_10.out) hb); have n2_ := Aside0.mk (Kd.C_below (by repeat (first | (with_reducible exact HR153.out) | (with_reducible refine Kd.C_alloc ?_ _) | (with_reducible refine Kd.C_drewN ?_ _) | (with_reducible refine Kd.C_drew ?_) | exact HR153.out)) hb); have n3_ := Aside0.mk (Kd.C_below (by repeat (first | (with_reducible exact HR160.out) | (with_reducible refine Kd.C_alloc ?_ _) | (with_reducible refine Kd.C_drewN ?_ _) | (with_reducible refine Kd.C_drew ?_) | exact HR160.out)) hb); have n4_ := Aside0.mk (below_step (by repeat (first | (with_reducible first | exact HB.out | apply below_alloc | apply pw_below_drewN | apply below_drew1) | exact HB.out)) hb); clear HO_9; clear HO_10; clear HR153; clear HR160; clear HB; have HO_9 := n0_; have HO_10 := n1_; have HR153 := n2_; have HR160 := n3_; have HB := n4_; clear n0_ n1_ n2_ n3_ n4_; (try clear hb); (try clear hb2); (try clear hk); (try clear hi)) | (go_at_call 3; (with_reducible refine (porticolaw9_RuleRuns.calls kj38  t178 _ A92.out).mono ?_); rintro e w99 ⟨rfl, hb⟩; have n0_ := Aside0.mk (Kd.R_below (by (with_reducible repeat (first | apply Kd.R_alloc | apply Kd.R_drewN | apply Kd.R_drew)); exact HO_9.out) hb); have n1_ := Aside0.mk (Kd.R_below (by (with_reducible repeat (first | apply Kd.R_alloc | apply Kd.R_drewN | apply Kd.R_drew)); exact HO_10.out) hb); have n2_ := Aside0.mk (Kd.C_below (by repeat (first | (with_reducible exact HR153.out) | (with_reducible refine Kd.C_alloc ?_ _) | (with_reducible refine Kd.C_drewN ?_ _) | (with_reducible refine Kd.C_drew ?_) | exact HR153.out)) hb); have n3_ := Aside0.mk (Kd.C_below (by repeat (first | (with_reducible exact HR160.out) | (with_reducible refine Kd.C_alloc ?_ _) | (with_reducible refine Kd.C_drewN ?_ _) | (with_reducible refine Kd.C_drew ?_) | exact HR160.out)) hb); have n4_ := Aside0.mk (below_step (by repeat (first | (with_reducible first | exact HB.out | apply below_alloc | apply pw_below_drewN | apply below_drew1) | exact HB.out)) hb); clear HO_9; clear HO_10; clear HR153; clear HR160; clear HB; have HO_9 := n0_; have HO_10 := n1_; have HR153 := n2_; have HR160 := n3_; have HB := n4_; clear n0_ n1_ n2_ n3_ n4_; (try clear hb); (try clear hb2); (try clear hk); (try clear hi)))
                                          go_ret
                                          exact ⟨by first | rfl | (simp [errW_none, errW_some] <;> rfl) | (simp only [← hji5, ← hji9]; first | rfl | (simp [errW_none, errW_some] <;> rfl)) | (simp [*, errW_none, errW_some] <;> rfl), by repeat (first | (with_reducible first | exact HB.out | apply below_alloc | apply pw_below_drewN | apply below_drew1) | exact HB.out)⟩
                                        · rw [if_neg c91] at H
                                          exact absurd H (by simp)
                                      · rw [if_neg c90] at H
                                        exact absurd H (by simp)
                                    · rw [if_neg c89] at H
                                      exact absurd H (by simp)
                                  · rw [if_neg c88] at H
                                    exact absurd H (by simp)
                                · rw [if_neg c87] at H
                                  exact absurd H (by simp)
                            · rw [if_neg c50] at H
                              exact absurd H (by simp)
                          · rw [if_neg c49] at H
                            exact absurd H (by simp)
              · rw [if_neg c14] at H
                exact absurd H (by simp)
            · rw [if_neg c12] at H
              exact absurd H (by simp)
          · rw [if_neg c11] at H
            exact absurd H (by simp)
        · rw [if_neg c10] at H
          exact absurd H (by simp)
      · rw [if_neg c8] at H
        exact absurd H (by simp)
    · rw [if_neg c7] at H
      exact absurd H (by simp)
  · rw [if_neg c6] at H
    exact absurd H (by simp)

end Go.Proofs.Ytkcpnbllgpkejaa.PRuleMore
