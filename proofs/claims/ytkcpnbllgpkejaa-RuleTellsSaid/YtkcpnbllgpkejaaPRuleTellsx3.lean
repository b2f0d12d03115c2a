-- Printed by a program of this session's own (wip/tools: a turned copy of the kit's print).
import Derived.Test.YtkcpnbllgpkejaaPRuleTellsx0
import Derived.Test.YtkcpnbllgpkejaaPRuleTellsx1
import Derived.Test.YtkcpnbllgpkejaaPRuleTellsx2
namespace Go.Proofs.Ytkcpnbllgpkejaa.PRuleTells
open Go.RowKit Go.Proofs.YtkcpnbllgpkejaaW.PrintWords Go.Proofs.YtkcpnbllgpkejaaW.PrintLast Go.Proofs.YtkcpnbllgpkejaaW.PrintMore
attribute [local go_sem] max2_int min2_int max_two min_two max_three min_three max_four min_four   -- for this text's walks alone
set_option linter.unusedVariables false
set_option linter.unusedSimpArgs false

/-! ### porticolaw9_RuleTells: function 6 -/
mutual
def porticolaw9_RuleTells.l0 : Nat → List (S23) → List Bool → Int → ByteArray → Int → List (S23) → Int → Int → Option (Bool)
  | 0, _, _, _, _, _, _, _, _ => none
  | k + 1, x5, x6, x7, x8, x9, x32, x33, x34 => if x34 < x33 then (if 0 ≤ x34 then (if x34 < (x32.length : Int) then ((rule_Ask.f k ((rd_T23 x32 x34).f0) ((rd_T23 x32 x34).f1) ((rd_T23 x32 x34).f2) x6).bind fun bt140 => ((porticoref8_Ask.f k ((rd_T23 x32 x34).f0) ((rd_T23 x32 x34).f1) ((rd_T23 x32 x34).f2) x6).bind fun bt142 => (if bt140.1 = bt142.1 then (porticolaw9_RuleTells.j1 k x5 x6 x7 x8 x9 x34 bt142.1 bt142.2 x32 x33 x34 (bt140.2.toList != bt142.2.toList) ((rd_T23 x32 x34).f0) ((rd_T23 x32 x34).f1) ((rd_T23 x32 x34).f2)) else (porticolaw9_RuleTells.j1 k x5 x6 x7 x8 x9 x34 bt142.1 bt142.2 x32 x33 x34 true ((rd_T23 x32 x34).f0) ((rd_T23 x32 x34).f1) ((rd_T23 x32 x34).f2))))) else (none)) else (none)) else ((rule_All.f k x5 x6).bind fun bt134 => (if bt134.1 = x7 then (if bt134.2.1.toList = x8.toList then (if bt134.2.2 = x9 then ((porticolaw9_RuleRuns.f k).bind fun t137 => (some t137)) else (some false)) else (some false)) else (some false)))
def porticolaw9_RuleTells.j1 : Nat → List (S23) → List Bool → Int → ByteArray → Int → Int → Int → ByteArray → List (S23) → Int → Int → Bool → Int → Int → ByteArray → Option (Bool)
  | 0, _, _, _, _, _, _, _, _, _, _, _, _, _, _, _ => none
  | k + 1, x5, x6, x7, x8, x9, x10, x14, x15, x32, x33, x34, x58, x140000, x140001, x140002 => if x58 = true then (some false) else (if x9 < 0 then (porticolaw9_RuleTells.j2 k x5 x6 x7 x8 x9 x10 x14 x15 x32 x33 x34 (x14 != 0) x140000 x140001 x140002) else (porticolaw9_RuleTells.j2 k x5 x6 x7 x8 x9 x10 x14 x15 x32 x33 x34 false x140000 x140001 x140002))
def porticolaw9_RuleTells.j2 : Nat → List (S23) → List Bool → Int → ByteArray → Int → Int → Int → ByteArray → List (S23) → Int → Int → Bool → Int → Int → ByteArray → Option (Bool)
  | 0, _, _, _, _, _, _, _, _, _, _, _, _, _, _, _ => none
  | k + 1, x5, x6, x7, x8, x9, x10, x14, x15, x32, x33, x34, x64, x140000, x140001, x140002 => if x64 = true then (if x140000 ≥ 0 then (if x140000 ≤ 4 then (if x140001 ≥ 0 then (if x140001 < 8 then (if x140002.toList = ([] : List UInt8) then ((rule_Right.f x140000 x140001 x140002).bind fun t144 => (if (t144 != true) = true then (some false) else (porticolaw9_RuleTells.l0 k x5 x6 x14 x15 x10 x32 x33 (wrap64 (x34 + 1))))) else (if x140000 = 3 then ((rule_Right.f x140000 x140001 x140002).bind fun t145 => (if (t145 != true) = true then (some false) else (porticolaw9_RuleTells.l0 k x5 x6 x14 x15 x10 x32 x33 (wrap64 (x34 + 1))))) else ((rule_Right.f x140000 x140001 x140002).bind fun t146 => (if (t146 != (x140000 == 4)) = true then (some false) else (porticolaw9_RuleTells.l0 k x5 x6 x14 x15 x10 x32 x33 (wrap64 (x34 + 1))))))) else ((rule_Right.f x140000 x140001 x140002).bind fun t147 => (if (t147 != false) = true then (some false) else (porticolaw9_RuleTells.l0 k x5 x6 x14 x15 x10 x32 x33 (wrap64 (x34 + 1)))))) else ((rule_Right.f x140000 x140001 x140002).bind fun t148 => (if (t148 != false) = true then (some false) else (porticolaw9_RuleTells.l0 k x5 x6 x14 x15 x10 x32 x33 (wrap64 (x34 + 1)))))) else ((rule_Right.f x140000 x140001 x140002).bind fun t149 => (if (t149 != false) = true then (some false) else (porticolaw9_RuleTells.l0 k x5 x6 x14 x15 x10 x32 x33 (wrap64 (x34 + 1)))))) else ((rule_Right.f x140000 x140001 x140002).bind fun t150 => (if (t150 != false) = true then (some false) else (porticolaw9_RuleTells.l0 k x5 x6 x14 x15 x10 x32 x33 (wrap64 (x34 + 1)))))) else (if x140000 ≥ 0 then (if x140000 ≤ 4 then (if x140001 ≥ 0 then (if x140001 < 8 then (if x140002.toList = ([] : List UInt8) then ((rule_Right.f x140000 x140001 x140002).bind fun t151 => (if (t151 != true) = true then (some false) else (porticolaw9_RuleTells.l0 k x5 x6 x7 x8 x9 x32 x33 (wrap64 (x34 + 1))))) else (if x140000 = 3 then ((rule_Right.f x140000 x140001 x140002).bind fun t152 => (if (t152 != true) = true then (some false) else (porticolaw9_RuleTells.l0 k x5 x6 x7 x8 x9 x32 x33 (wrap64 (x34 + 1))))) else ((rule_Right.f x140000 x140001 x140002).bind fun t153 => (if (t153 != (x140000 == 4)) = true then (some false) else (porticolaw9_RuleTells.l0 k x5 x6 x7 x8 x9 x32 x33 (wrap64 (x34 + 1))))))) else ((rule_Right.f x140000 x140001 x140002).bind fun t154 => (if (t154 != false) = true then (some false) else (porticolaw9_RuleTells.l0 k x5 x6 x7 x8 x9 x32 x33 (wrap64 (x34 + 1)))))) else ((rule_Right.f x140000 x140001 x140002).bind fun t155 => (if (t155 != false) = true then (some false) else (porticolaw9_RuleTells.l0 k x5 x6 x7 x8 x9 x32 x33 (wrap64 (x34 + 1)))))) else ((rule_Right.f x140000 x140001 x140002).bind fun t156 => (if (t156 != false) = true then (some false) else (porticolaw9_RuleTells.l0 k x5 x6 x7 x8 x9 x32 x33 (wrap64 (x34 + 1)))))) else ((rule_Right.f x140000 x140001 x140002).bind fun t157 => (if (t157 != false) = true then (some false) else (porticolaw9_RuleTells.l0 k x5 x6 x7 x8 x9 x32 x33 (wrap64 (x34 + 1))))))
end
def porticolaw9_RuleTells.f (k : Nat) (l0 : List (S23)) (l1 : List Bool) : Option (Bool) := (some (([] : List (S23)) : List (S23))).bind fun y123 => (if 0 ≤ (mn (l0.length : Int) 8) then (if (mn (l0.length : Int) 8) ≤ (l0.length : Int) then ((some (l0.take ((mn (l0.length : Int) 8) : Int).toNat : List (S23))).bind fun y126 => (if y123.length + y126.length < 4398046511104 then ((some (y123 ++ y126 : List (S23))).bind fun y130 => (if 0 ≤ (mn (l1.length : Int) 10) then (if (mn (l1.length : Int) 10) ≤ (l1.length : Int) then (porticolaw9_RuleTells.l0 k y130 (l1.take ((mn (l1.length : Int) 10) : Int).toNat) 0 (⟨#[]⟩ : ByteArray) (-1) y130 (y130.length : Int) 0) else (none)) else (none))) else (none))) else (none)) else (none))
theorem porticolaw9_RuleTells.mono_l : ∀ k, (∀ y0 y1 y2 y3 y4 y5 y6 y7, LeO (porticolaw9_RuleTells.l0 k y0 y1 y2 y3 y4 y5 y6 y7) (porticolaw9_RuleTells.l0 (k + 1) y0 y1 y2 y3 y4 y5 y6 y7)) ∧ (∀ y0 y1 y2 y3 y4 y5 y6 y7 y8 y9 y10 y11 y12 y13 y14, LeO (porticolaw9_RuleTells.j1 k y0 y1 y2 y3 y4 y5 y6 y7 y8 y9 y10 y11 y12 y13 y14) (porticolaw9_RuleTells.j1 (k + 1) y0 y1 y2 y3 y4 y5 y6 y7 y8 y9 y10 y11 y12 y13 y14)) ∧ (∀ y0 y1 y2 y3 y4 y5 y6 y7 y8 y9 y10 y11 y12 y13 y14, LeO (porticolaw9_RuleTells.j2 k y0 y1 y2 y3 y4 y5 y6 y7 y8 y9 y10 y11 y12 y13 y14) (porticolaw9_RuleTells.j2 (k + 1) y0 y1 y2 y3 y4 y5 y6 y7 y8 y9 y10 y11 y12 y13 y14))
  | 0 => ⟨fun _ _ _ _ _ _ _ _ r h => by simp [porticolaw9_RuleTells.l0] at h, fun _ _ _ _ _ _ _ _ _ _ _ _ _ _ _ r h => by simp [porticolaw9_RuleTells.j1] at h, fun _ _ _ _ _ _ _ _ _ _ _ _ _ _ _ r h => by simp [porticolaw9_RuleTells.j2] at h⟩
  | k + 1 => by
    obtain ⟨ih0, ih1, ih2⟩ := porticolaw9_RuleTells.mono_l k
    refine ⟨?_, ?_, ?_⟩
    · intro y0 y1 y2 y3 y4 y5 y6 y7
      unfold porticolaw9_RuleTells.l0
      repeat' first
      | (with_reducible exact ih0 _ _ _ _ _ _ _ _)
      | (with_reducible exact ih1 _ _ _ _ _ _ _ _ _ _ _ _ _ _ _)
      | (with_reducible exact ih2 _ _ _ _ _ _ _ _ _ _ _ _ _ _ _)
      | (with_reducible exact porticolaw9_RuleRuns.mono _)
      | (with_reducible exact porticoref8_Ask.mono _ _ _ _ _)
      | (with_reducible exact rule_All.mono _ _ _)
      | (with_reducible exact rule_Ask.mono _ _ _ _ _)
      | (with_reducible exact LeO.refl _)
      | (with_reducible exact LeO.none _)
      | (with_reducible refine LeO.ite ?_ ?_)
      | (with_reducible refine LeO.bind ?_ (fun _ => ?_))
      | exact ih0 _ _ _ _ _ _ _ _
      | exact ih1 _ _ _ _ _ _ _ _ _ _ _ _ _ _ _
      | exact ih2 _ _ _ _ _ _ _ _ _ _ _ _ _ _ _
      | exact porticolaw9_RuleRuns.mono _
      | exact porticoref8_Ask.mono _ _ _ _ _
      | exact rule_All.mono _ _ _
      | exact rule_Ask.mono _ _ _ _ _
      | exact LeO.none _
      | refine LeO.ite ?_ ?_
      | refine LeO.bind ?_ (fun _ => ?_)
    · intro y0 y1 y2 y3 y4 y5 y6 y7 y8 y9 y10 y11 y12 y13 y14
      unfold porticolaw9_RuleTells.j1
      repeat' first
      | (with_reducible exact ih0 _ _ _ _ _ _ _ _)
      | (with_reducible exact ih1 _ _ _ _ _ _ _ _ _ _ _ _ _ _ _)
      | (with_reducible exact ih2 _ _ _ _ _ _ _ _ _ _ _ _ _ _ _)
      | (with_reducible exact porticolaw9_RuleRuns.mono _)
      | (with_reducible exact porticoref8_Ask.mono _ _ _ _ _)
      | (with_reducible exact rule_All.mono _ _ _)
      | (with_reducible exact rule_Ask.mono _ _ _ _ _)
      | (with_reducible exact LeO.refl _)
      | (with_reducible exact LeO.none _)
      | (with_reducible refine LeO.ite ?_ ?_)
      | (with_reducible refine LeO.bind ?_ (fun _ => ?_))
      | exact ih0 _ _ _ _ _ _ _ _
      | exact ih1 _ _ _ _ _ _ _ _ _ _ _ _ _ _ _
      | exact ih2 _ _ _ _ _ _ _ _ _ _ _ _ _ _ _
      | exact porticolaw9_RuleRuns.mono _
      | exact porticoref8_Ask.mono _ _ _ _ _
      | exact rule_All.mono _ _ _
      | exact rule_Ask.mono _ _ _ _ _
      | exact LeO.none _
      | refine LeO.ite ?_ ?_
      | refine LeO.bind ?_ (fun _ => ?_)
    · intro y0 y1 y2 y3 y4 y5 y6 y7 y8 y9 y10 y11 y12 y13 y14
      unfold porticolaw9_RuleTells.j2
      repeat' first
      | (with_reducible exact ih0 _ _ _ _ _ _ _ _)
      | (with_reducible exact ih1 _ _ _ _ _ _ _ _ _ _ _ _ _ _ _)
      | (with_reducible exact ih2 _ _ _ _ _ _ _ _ _ _ _ _ _ _ _)
      | (with_reducible exact porticolaw9_RuleRuns.mono _)
      | (with_reducible exact porticoref8_Ask.mono _ _ _ _ _)
      | (with_reducible exact rule_All.mono _ _ _)
      | (with_reducible exact rule_Ask.mono _ _ _ _ _)
      | (with_reducible exact LeO.refl _)
      | (with_reducible exact LeO.none _)
      | (with_reducible refine LeO.ite ?_ ?_)
      | (with_reducible refine LeO.bind ?_ (fun _ => ?_))
      | exact ih0 _ _ _ _ _ _ _ _
      | exact ih1 _ _ _ _ _ _ _ _ _ _ _ _ _ _ _
      | exact ih2 _ _ _ _ _ _ _ _ _ _ _ _ _ _ _
      | exact porticolaw9_RuleRuns.mono _
      | exact porticoref8_Ask.mono _ _ _ _ _
      | exact rule_All.mono _ _ _
      | exact rule_Ask.mono _ _ _ _ _
      | exact LeO.none _
      | refine LeO.ite ?_ ?_
      | refine LeO.bind ?_ (fun _ => ?_)
theorem porticolaw9_RuleTells.mono : ∀ a0 a1 k, LeO (porticolaw9_RuleTells.f k a0 a1) (porticolaw9_RuleTells.f (k + 1) a0 a1) := by
  intro a0 a1 k
  obtain ⟨ih0, ih1, ih2⟩ := porticolaw9_RuleTells.mono_l k
  unfold porticolaw9_RuleTells.f
  repeat' first
      | (with_reducible exact ih0 _ _ _ _ _ _ _ _)
      | (with_reducible exact ih1 _ _ _ _ _ _ _ _ _ _ _ _ _ _ _)
      | (with_reducible exact ih2 _ _ _ _ _ _ _ _ _ _ _ _ _ _ _)
      | (with_reducible exact porticolaw9_RuleRuns.mono _)
      | (with_reducible exact porticoref8_Ask.mono _ _ _ _ _)
      | (with_reducible exact rule_All.mono _ _ _)
      | (with_reducible exact rule_Ask.mono _ _ _ _ _)
      | (with_reducible exact LeO.refl _)
      | (with_reducible exact LeO.none _)
      | (with_reducible refine LeO.ite ?_ ?_)
      | (with_reducible refine LeO.bind ?_ (fun _ => ?_))
      | exact ih0 _ _ _ _ _ _ _ _
      | exact ih1 _ _ _ _ _ _ _ _ _ _ _ _ _ _ _
      | exact ih2 _ _ _ _ _ _ _ _ _ _ _ _ _ _ _
      | exact porticolaw9_RuleRuns.mono _
      | exact porticoref8_Ask.mono _ _ _ _ _
      | exact rule_All.mono _ _ _
      | exact rule_Ask.mono _ _ _ _ _
      | exact LeO.none _
      | refine LeO.ite ?_ ?_
      | refine LeO.bind ?_ (fun _ => ?_)
def porticolaw9_RuleTells.T1 : Bool × List (List Nat × List Nat) := (true, [([], []), ([], []), ([], []), ([2], [2]), ([3], [3]), ([1, 4], [1, 4]), ([0, 5], [0, 5]), ([], []), ([], []), ([8], [8]), ([9], [9]), ([7, 10], [7, 10]), ([6, 6, 0, 1, 2, 3, 4, 5, 6], [6]), ([11, 12, 0, 1, 2, 3, 4, 5, 6, 7, 8, 9, 10, 11, 12], [11])])
def porticolaw9_RuleTells.B1 : List Nat := [0, 0, 0, 4, 12, 30, 63, 0, 0, 256, 768, 1920, 127, 8191]
theorem porticolaw9_RuleTells.tab1 : rtab .any (opsOf Try.f6 1) = porticolaw9_RuleTells.T1 := by kernel_rfl
theorem porticolaw9_RuleTells.bits1 : waitsOk porticolaw9_RuleTells.T1.2 porticolaw9_RuleTells.B1 = true := by kernel_rfl
set_option maxHeartbeats 8000000 in
set_option maxRecDepth 100000 in
theorem porticolaw9_RuleTells.calls (k : Nat) (A0 : Option Addr) (c0 : Nat) (l0 : List (S23)) (A1 : Option Addr) (c1 : Nat) (l1 : List Bool) (r : Bool) (w : World) (hr0 : Kd.C k23 w A0 l0.length l0) (hc0 : l0.length ≤ c0) (hr1 : Kd.C Kd.bool w A1 l1.length l1) (hc1 : l1.length ≤ c1) (h : porticolaw9_RuleTells.f k l0 l1 = some r) :
    Calls Try.prog 6 #[.slice A0 l0.length c0, .slice A1 l1.length c1] w fun e w' => e = .returned (.bool r) ∧ Below w.heap.size w w' := by
  have hu23 := Try.underlying23
  have HR0 := Aside0.mk hr0
  have HC0 := Aside0.mk hc0
  clear hr0 hc0
  have HR1 := Aside0.mk hr1
  have HC1 := Aside0.mk hc1
  clear hr1 hc1
  have HB := Aside0.mk (Below.refl w.heap.size w)
  have H : ((some (([] : List (S23)) : List (S23))).bind fun y123 => (if 0 ≤ (mn (l0.length : Int) 8) then (if (mn (l0.length : Int) 8) ≤ (l0.length : Int) then ((some (l0.take ((mn (l0.length : Int) 8) : Int).toNat : List (S23))).bind fun y126 => (if y123.length + y126.length < 4398046511104 then ((some (y123 ++ y126 : List (S23))).bind fun y130 => (if 0 ≤ (mn (l1.length : Int) 10) then (if (mn (l1.length : Int) 10) ≤ (l1.length : Int) then (porticolaw9_RuleTells.l0 k y130 (l1.take ((mn (l1.length : Int) 10) : Int).toNat) 0 (⟨#[]⟩ : ByteArray) (-1) y130 (y130.length : Int) 0) else (none)) else (none))) else (none))) else (none)) else (none))) = some r := h
  clear h
  obtain ⟨y123, hy123⟩ : ∃ y_ : List (S23), y_ = (([] : List (S23))) := ⟨_, rfl⟩
  replace H : (if 0 ≤ (mn (l0.length : Int) 8) then (if (mn (l0.length : Int) 8) ≤ (l0.length : Int) then ((some (l0.take ((mn (l0.length : Int) 8) : Int).toNat : List (S23))).bind fun y126 => (if y123.length + y126.length < 4398046511104 then ((some (y123 ++ y126 : List (S23))).bind fun y130 => (if 0 ≤ (mn (l1.length : Int) 10) then (if (mn (l1.length : Int) 10) ≤ (l1.length : Int) then (porticolaw9_RuleTells.l0 k y130 (l1.take ((mn (l1.length : Int) 10) : Int).toNat) 0 (⟨#[]⟩ : ByteArray) (-1) y130 (y130.length : Int) 0) else (none)) else (none))) else (none))) else (none)) else (none)) = some r := by first | (rw [hy123]; with_reducible exact H) | (have H2_ := (Option.bind_some _ _).symm.trans H; rw [hy123]; with_reducible exact H2_) | (have H2_ := (Option.bind_some _ _).symm.trans H; with_reducible exact H2_) | with_reducible exact H | (rw [hy123]; exact H) | exact H
  have Ny123 := Aside0.mk hy123
  clear hy123
  obtain ⟨ji3, hji3⟩ : ∃ j_ : Int, (mn (l0.length : Int) 8) = j_ := ⟨_, rfl⟩
  replace H : (if 0 ≤ (ji3) then (if (ji3) ≤ (l0.length : Int) then ((some (l0.take ((ji3) : Int).toNat : List (S23))).bind fun y126 => (if y123.length + y126.length < 4398046511104 then ((some (y123 ++ y126 : List (S23))).bind fun y130 => (if 0 ≤ (mn (l1.length : Int) 10) then (if (mn (l1.length : Int) 10) ≤ (l1.length : Int) then (porticolaw9_RuleTells.l0 k y130 (l1.take ((mn (l1.length : Int) 10) : Int).toNat) 0 (⟨#[]⟩ : ByteArray) (-1) y130 (y130.length : Int) 0) else (none)) else (none))) else (none))) else (none)) else (none)) = some r := by first | (rw [hji3] at H; exact H) | (simp only [hji3] at H ⊢; exact H)
  (try (have hji3h : ji3 ≤ 8 := by (rw [← hji3]; unfold mn; (repeat' split) <;> omega)))
  (try (have hji3g : ji3 ≤ 64 := by omega))
  (try (have hji3l : 0 ≤ ji3 := by (rw [← hji3]; unfold mn; (repeat' split) <;> omega)))
  (try (have hji3m : 0 ≤ ji3 := by omega))
  (try (have hji3na : ji3 ≤ (l0.length : Int) := by (rw [← hji3]; unfold mn; (repeat' split) <;> omega)))
  have hji3_ : (if 8 < (l0.length : Int) then 8 else (l0.length : Int)) = ji3 := hji3
  by_cases c4 : 0 ≤ (ji3)
  · rw [if_pos c4] at H
    have c4b0 := eq_true c4
    have c4b1 : decide (0 ≤ (ji3)) = true := decide_eq_true c4
    clear c4
    by_cases c5 : (ji3) ≤ (l0.length : Int)
    · rw [if_pos c5] at H
      have c5b0 := eq_true c5
      have c5b1 : decide ((ji3) ≤ (l0.length : Int)) = true := decide_eq_true c5
      clear c5
      obtain ⟨y126, hy126⟩ : ∃ y_ : List (S23), y_ = (l0.take ((ji3) : Int).toNat) := ⟨_, rfl⟩
      replace H : (if y123.length + y126.length < 4398046511104 then ((some (y123 ++ y126 : List (S23))).bind fun y130 => (if 0 ≤ (mn (l1.length : Int) 10) then (if (mn (l1.length : Int) 10) ≤ (l1.length : Int) then (porticolaw9_RuleTells.l0 k y130 (l1.take ((mn (l1.length : Int) 10) : Int).toNat) 0 (⟨#[]⟩ : ByteArray) (-1) y130 (y130.length : Int) 0) else (none)) else (none))) else (none)) = some r := by first | (rw [hy126]; with_reducible exact H) | (have H2_ := (Option.bind_some _ _).symm.trans H; rw [hy126]; with_reducible exact H2_) | (have H2_ := (Option.bind_some _ _).symm.trans H; with_reducible exact H2_) | with_reducible exact H | (rw [hy126]; exact H) | exact H
      have Ny126 := Aside0.mk hy126
      clear hy126
      by_cases c6 : y123.length + y126.length < 4398046511104
      · rw [if_pos c6] at H
        have LMc6 := Aside0.mk c6
        clear c6
        obtain ⟨y130, hy130⟩ : ∃ y_ : List (S23), y_ = (y123 ++ y126) := ⟨_, rfl⟩
        replace H : (if 0 ≤ (mn (l1.length : Int) 10) then (if (mn (l1.length : Int) 10) ≤ (l1.length : Int) then (porticolaw9_RuleTells.l0 k y130 (l1.take ((mn (l1.length : Int) 10) : Int).toNat) 0 (⟨#[]⟩ : ByteArray) (-1) y130 (y130.length : Int) 0) else (none)) else (none)) = some r := by first | (rw [hy130]; with_reducible exact H) | (have H2_ := (Option.bind_some _ _).symm.trans H; rw [hy130]; with_reducible exact H2_) | (have H2_ := (Option.bind_some _ _).symm.trans H; with_reducible exact H2_) | with_reducible exact H | (rw [hy130]; exact H) | exact H
        have Ny130 := Aside0.mk hy130
        clear hy130
        obtain ⟨ji7, hji7⟩ : ∃ j_ : Int, (mn (l1.length : Int) 10) = j_ := ⟨_, rfl⟩
        replace H : (if 0 ≤ (ji7) then (if (ji7) ≤ (l1.length : Int) then (porticolaw9_RuleTells.l0 k y130 (l1.take ((ji7) : Int).toNat) 0 (⟨#[]⟩ : ByteArray) (-1) y130 (y130.length : Int) 0) else (none)) else (none)) = some r := by first | (rw [hji7] at H; exact H) | (simp only [hji7] at H ⊢; exact H)
        (try (have hji7h : ji7 ≤ 10 := by (rw [← hji7]; unfold mn; (repeat' split) <;> omega)))
        (try (have hji7g : ji7 ≤ 64 := by omega))
        (try (have hji7l : 0 ≤ ji7 := by (rw [← hji7]; unfold mn; (repeat' split) <;> omega)))
        (try (have hji7m : 0 ≤ ji7 := by omega))
        (try (have hji7na : ji7 ≤ (l1.length : Int) := by (rw [← hji7]; unfold mn; (repeat' split) <;> omega)))
        have hji7_ : (if 10 < (l1.length : Int) then 10 else (l1.length : Int)) = ji7 := hji7
        by_cases c8 : 0 ≤ (ji7)
        · rw [if_pos c8] at H
          have c8b0 := eq_true c8
          have c8b1 : decide (0 ≤ (ji7)) = true := decide_eq_true c8
          clear c8
          by_cases c9 : (ji7) ≤ (l1.length : Int)
          · rw [if_pos c9] at H
            have c9b0 := eq_true c9
            have c9b1 : decide ((ji7) ≤ (l1.length : Int)) = true := decide_eq_true c9
            clear c9
            have H' := Aside0.mk H
            clear H
            go_enter Try.func6, Try.ntmps6
            try go_wp2
            have n0_ := Aside0.mk (below_drew1 HB.out)
            clear HB
            have HB := n0_
            clear n0_
            have q11 : ((ji3) : Int) ≤ ((l0.length : Int) : Int) := of_decide_eq_true (by first | (with_reducible assumption) | assumption)
            obtain ⟨i011, hi011, _, hsz11, _⟩ := info_parts info23
            have hroom11 : l0.length ≤ c0 := HC0.out
            have hC11 : Kd.C k23 _ A0 l0.length l0 := HR0.out
            have hcut11 := cut_to (P := Try.prog) 30 23 .i64 Try.underlying30 hi011 A0 l0.length c0 (ji3) (of_decide_eq_true (by first | (with_reducible assumption) | assumption)) q11 hroom11
            have hr11 := Kd.C_take (m := ((ji3) : Int).toNat) hC11 (by omega)
            have hy11 : y126.length = ((ji3) : Int).toNat := (by rw [Ny126.out, List.length_take]; omega)
            rw [← Ny126.out] at hr11
            rw [← hy11] at hcut11
            have HR129 := Aside0.mk hr11
            have HC129 := Aside0.mk (show y126.length ≤ c0 from by omega)
            clear hr11 hC11 hroom11 hi011 hsz11
            have KY11 := Aside0.mk hy11
            clear hy11
            replace q11 := eq_true q11
            obtain ⟨i012, hi012, _, hsz12, _⟩ := info_parts info4
            obtain ⟨hcut12, hA12, hC12⟩ := print_take_of (P := Try.prog) Value.bool false 27 4 .i64 Try.underlying27 hi012 hsz12 A1 c1 l1 (ji7) (of_decide_eq_true (by first | (with_reducible assumption) | assumption)) (of_decide_eq_true (by first | (with_reducible assumption) | assumption)) HC1.out
            have HR133 := Aside0.mk (Kd.C_of_reads (h1 := fun _ => rfl) (hA12 _ (Kd.reads_of_C HR1.out)))
            have HC133 := Aside0.mk hC12
            clear hA12 hC12 hi012 hsz12
            refine start_ (n := 14) (S := fun w' => True) (ds := []) #[false, false, false, false, false, false, false, false, false, false, false, false, false, false] (by kernel_rfl) rfl rfl trivial (fun hHeld => ?_); refine with_tabW porticolaw9_RuleTells.tab1 porticolaw9_RuleTells.bits1 (fun HT_ HW_ => ?_)
            generalize w.drew = w10 at HB HR129 HR133 hHeld ⊢
            refine pure_ (i := 1) (N := some 21) (v := ?_) (a' := ?_) #[false, true, false, false, false, false, false, false, false, false, false, false, false, false] rfl rfl (any_of HT_.out (by kernel_rfl)) (fun _ _ _ h => h) (Or.inl ⟨by rfl, ?_⟩) ?_ ?_
            rotate_left
            · intro w'
              go_simp
              with_reducible rfl
            rotate_left
            · simp only [Act.put, List.setIfInBounds_toArray, List.set_cons_zero, List.set_cons_succ, i64_w, i32_w]
              rfl
            refine pure_ (i := 2) (N := some 22) (v := ?_) (a' := ?_) #[false, true, true, false, false, false, false, false, false, false, false, false, false, false] rfl rfl (any_of HT_.out (by kernel_rfl)) (fun _ _ _ h => h) (Or.inl ⟨by rfl, ?_⟩) ?_ ?_
            rotate_left
            · intro w'
              go_simp
              with_reducible rfl
            rotate_left
            · simp only [Act.put, List.setIfInBounds_toArray, List.set_cons_zero, List.set_cons_succ, i64_w, i32_w]
              rfl
            refine pure_ (i := 3) (N := some 23) (v := ?_) (a' := ?_) #[false, true, true, true, false, false, false, false, false, false, false, false, false, false] rfl rfl (any_of HT_.out (by kernel_rfl)) (fun _ _ _ h => h) (Or.inl ⟨by rfl, ?_⟩) ?_ ?_
            rotate_left
            · intro w'
              go_simp
              with_reducible rfl
            rotate_left
            · simp only [Act.put, List.setIfInBounds_toArray, List.set_cons_zero, List.set_cons_succ, i64_w, i32_w]
              rfl
            refine pure_ (i := 4) (N := some 24) (v := ?_) (a' := ?_) #[false, true, true, true, true, false, false, false, false, false, false, false, false, false] rfl rfl (any_of HT_.out (by kernel_rfl)) (fun _ _ _ h => h) (Or.inl ⟨by rfl, ?_⟩) ?_ ?_
            rotate_left
            · intro w'
              go_simp
              with_reducible rfl
            rotate_left
            · simp only [Act.put, List.setIfInBounds_toArray, List.set_cons_zero, List.set_cons_succ, i64_w, i32_w]
              rfl
            refine pure_ (i := 5) (N := some 25) (v := ?_) (a' := ?_) #[false, true, true, true, true, true, false, false, false, false, false, false, false, false] rfl rfl (any_of HT_.out (by kernel_rfl)) (fun _ _ _ h => h) (Or.inl ⟨by rfl, ?_⟩) ?_ ?_
            rotate_left
            · intro w'
              go_simp
              with_reducible rfl
            rotate_left
            · simp only [Act.put, List.setIfInBounds_toArray, List.set_cons_zero, List.set_cons_succ, i64_w, i32_w]
              rfl
            refine pure_ (i := 7) (N := some 27) (v := ?_) (a' := ?_) #[false, true, true, true, true, true, false, true, false, false, false, false, false, false] rfl rfl (any_of HT_.out (by kernel_rfl)) (fun _ _ _ h => h) (Or.inl ⟨by rfl, ?_⟩) ?_ ?_
            rotate_left
            · intro w'
              go_simp
              with_reducible rfl
            rotate_left
            · simp only [Act.put, List.setIfInBounds_toArray, List.set_cons_zero, List.set_cons_succ, i64_w, i32_w]
              rfl
            refine pure_ (i := 8) (N := some 28) (v := ?_) (a' := ?_) #[false, true, true, true, true, true, false, true, true, false, false, false, false, false] rfl rfl (any_of HT_.out (by kernel_rfl)) (fun _ _ _ h => h) (Or.inl ⟨by rfl, ?_⟩) ?_ ?_
            rotate_left
            · intro w'
              go_simp
              with_reducible rfl
            rotate_left
            · simp only [Act.put, List.setIfInBounds_toArray, List.set_cons_zero, List.set_cons_succ, i64_w, i32_w]
              rfl
            refine pure_ (i := 9) (N := some 29) (v := ?_) (a' := ?_) #[false, true, true, true, true, true, false, true, true, true, false, false, false, false] rfl rfl (any_of HT_.out (by kernel_rfl)) (fun _ _ _ h => h) (Or.inl ⟨by rfl, ?_⟩) ?_ ?_
            rotate_left
            · intro w'
              go_simp
              with_reducible rfl
            rotate_left
            · simp only [Act.put, List.setIfInBounds_toArray, List.set_cons_zero, List.set_cons_succ, i64_w, i32_w]
              rfl
            refine pure_ (i := 10) (N := some 30) (v := ?_) (a' := ?_) #[false, true, true, true, true, true, false, true, true, true, true, false, false, false] rfl rfl (any_of HT_.out (by kernel_rfl)) (fun _ _ _ h => h) (Or.inl ⟨by rfl, ?_⟩) ?_ ?_
            rotate_left
            · intro w'
              go_simp
              with_reducible rfl
            rotate_left
            · simp only [Act.put, List.setIfInBounds_toArray, List.set_cons_zero, List.set_cons_succ, i64_w, i32_w]
              rfl
            refine pure_ (i := 11) (N := some 31) (v := ?_) (a' := ?_) #[false, true, true, true, true, true, false, true, true, true, true, true, false, false] rfl rfl (any_of HT_.out (by kernel_rfl)) (fun _ _ _ h => h) (Or.inl ⟨by rfl, ?_⟩) ?_ ?_
            rotate_left
            · intro w'
              go_simp
              with_reducible rfl
            rotate_left
            · simp only [Act.put, List.setIfInBounds_toArray, List.set_cons_zero, List.set_cons_succ, i64_w, i32_w]
              rfl
            refine one_ (i := 0) (N := some 20) #[true, true, true, true, true, true, false, true, true, true, true, true, false, false] rfl rfl (one_of HT_.out (by kernel_rfl)) (by decide) (fun K hK => ?_)
            refine Kd.R_lit_step k23 _ 23 ?hg (N := 20) ?hd (xs := ([] : List (S23))) (inner := []) (ok := fun _ => True) (okp := fun _ => True) ?hr ?hp (fun _ hk => hk) trivial (Below.refl _ _) (Nat.le_refl _) (by simp) ?_; (case hd => rfl); (case hg => rfl); (case hr => first | (go_simp; done) | (go_simp; rfl)); (case hp => exact (Reps.none _ _))
            intro v124 w13 ho14 hb hg_ hnew_
            clear hg_ hnew_
            (first | rw [← Ny123.out] at ho14 | (simp only [Int.reduceToNat] at ho14; rw [← Ny123.out] at ho14))
            have n0_ := Aside0.mk (Kd.R_lower ho14 (below_size (by repeat (first | (with_reducible first | exact HB.out | apply below_alloc | apply pw_below_drewN | apply below_drew1) | exact HB.out))))
            have n1_ := Aside0.mk (below_step (by repeat (first | (with_reducible first | exact HB.out | apply below_alloc | apply pw_below_drewN | apply below_drew1) | exact HB.out)) hb)
            clear HB
            have HO125 := n0_
            have HB := n1_
            clear n0_ n1_
            clear hb ho14
            refine hK.out _ _ trivial (fun hHeld => ?_)
            clear hK K
            refine norm_ (a' := ?_) ?_ ?_
            rotate_left
            · show Act.put _ (some 20) _ = _
              simp only [Act.put, List.setIfInBounds_toArray, List.set_cons_zero, List.set_cons_succ, i64_w, i32_w]
              rfl
            refine one_ (i := 6) (N := some 26) #[true, true, true, true, true, true, true, true, true, true, true, true, false, false] rfl rfl (one_of HT_.out (by kernel_rfl)) (by decide) (fun K hK => ?_)
            refine Kd.R_append_rows_step k23 (w0 := w) w.heap.size (by rfl) (.tmp 20) (.tmp 25) 30 23 (.agg #[(.int .i64 0), (.int .i64 0), (.string ⟨#[]⟩)]) 32 rfl Try.underlying30 info23 rfl (by decide) (by omega) v124 y123 y126 _ _ _ (fun _ => True) (fun _ => False) rfl rfl ?aO ?aR (fun _ _ h => h) (fun _ h => h.elim) ?aF ?aB ?aS ?aL ?_
            (case aR => repeat (first | exact (Kd.C_below HR129.out HB.out) | (with_reducible refine Kd.C_alloc ?_ _) | (with_reducible refine Kd.C_drewN ?_ _) | (with_reducible refine Kd.C_drew ?_)))
            (case aB => exact (by repeat (first | (with_reducible first | exact HB.out | apply below_alloc | apply pw_below_drewN | apply below_drew1) | exact HB.out)))
            (case aF => exact (fun _ _ => trivial))
            (case aO => exact (by (with_reducible repeat (first | apply Kd.R_alloc | apply Kd.R_drewN | apply Kd.R_drew)); exact HO125.out))
            (case aS => exact (below_size (by repeat (first | (with_reducible first | exact HB.out | apply below_alloc | apply pw_below_drewN | apply below_drew1) | exact HB.out))))
            (case aL => have := LMc6.out; omega)
            intro v131 w15 ho hb hg hat
            rw [← Ny130.out] at ho
            have n0_ := Aside0.mk (hb)
            have n1_ := Aside0.mk (ho)
            clear HB
            clear HO125
            have HB := n0_
            have HO132 := n1_
            clear n0_ n1_
            clear ho hb hg hat
            refine hK.out _ _ trivial (fun hHeld => ?_)
            clear hK K
            refine norm_ (a' := ?_) ?_ ?_
            rotate_left
            · show Act.put _ (some 26) _ = _
              simp only [Act.put, List.setIfInBounds_toArray, List.set_cons_zero, List.set_cons_succ, i64_w, i32_w]
              rfl
            refine pure_ (i := 12) (N := some 5) (v := ?_) (a' := ?_) #[true, true, true, true, true, true, true, true, true, true, true, true, true, false] rfl rfl (any_of HT_.out (by kernel_rfl)) (fun _ _ _ h => h) (Or.inl ⟨by rfl, ?_⟩) ?_ ?_
            rotate_left
            · intro w'
              go_simp
              with_reducible rfl
            rotate_left
            · simp only [Act.put, List.setIfInBounds_toArray, List.set_cons_zero, List.set_cons_succ, i64_w, i32_w]
              rfl
            refine pure_ (i := 13) (N := some 6) (v := ?_) (a' := ?_) #[true, true, true, true, true, true, true, true, true, true, true, true, true, true] rfl rfl (any_of HT_.out (by kernel_rfl)) (fun _ _ _ h => h) (Or.inl ⟨by rfl, ?_⟩) ?_ ?_
            rotate_left
            · intro w'
              go_simp
              with_reducible rfl
            rotate_left
            · simp only [Act.put, List.setIfInBounds_toArray, List.set_cons_zero, List.set_cons_succ, i64_w, i32_w]
              rfl
            refine done_ (done_of HT_.out (by kernel_rfl)) ?_
            obtain ⟨Ao16, co16, eo16⟩ := Kd.R_slice HO132.out
            subst eo16
            try go_wp2
            go_loopg [7, 8, 9, 34] k (fun kq v7 v8 v9 v34 w' => ∃ (x7_1 : Int) (x8_1 : ByteArray) (x9_1 : Int) (x34_1 : Int), v7 = .int .i64 x7_1 ∧ v8 = .string x8_1 ∧ v9 = .int .i64 x9_1 ∧ v34 = .int .i64 x34_1 ∧ Aside0 (porticolaw9_RuleTells.l0 kq y130 (l1.take ((ji7) : Int).toNat) x7_1 x8_1 x9_1 y130 (y130.length : Int) x34_1 = some r) ∧ Aside0 (kq ≤ k) ∧ Aside0 (Kd.R k23 23 w' w.heap.size (fun _ => True) (.slice Ao16 y130.length co16) y130) ∧ Aside0 (Kd.R k23 23 w' w.heap.size (fun _ => True) (.slice Ao16 y130.length co16) y130) ∧ Aside0 (Below w.heap.size w w'))
            case atStart => exact ⟨(0), ((⟨#[]⟩ : ByteArray)), ((-1)), (0), (by first | rfl | (simp; done) | (simp [*]; done)), (by first | rfl | (simp; done) | (simp [*]; done)), (by first | rfl | (simp; done) | (simp [*]; done)), (by first | rfl | (simp; done) | (simp [*]; done)), H', ⟨Nat.le_refl _⟩, ⟨by (with_reducible repeat (first | apply Kd.R_alloc | apply Kd.R_drewN | apply Kd.R_drew)); exact HO132.out⟩, ⟨by (with_reducible repeat (first | apply Kd.R_alloc | apply Kd.R_drewN | apply Kd.R_drew)); exact HO132.out⟩, ⟨by repeat (first | (with_reducible first | exact HB.out | apply below_alloc | apply pw_below_drewN | apply below_drew1) | exact HB.out)⟩⟩
            case round =>
              clear H'
              try clear c1
              try clear q1
              try clear p2
              try clear c4
              try clear c4b0
              try clear c4b1
              try clear c5
              try clear c5b0
              try clear c5b1
              try clear c6
              try clear c8
              try clear c8b0
              try clear c8b1
              try clear c9
              try clear c9b0
              try clear c9b1
              try clear q11
              try clear q11
              obtain ⟨x7_1, x8_1, x9_1, x34_1, rfl, rfl, rfl, rfl, HA, HK1, HO_5, HO_32, HB⟩ := hrel
              cases gk with
              | zero => exact absurd HA.out (by simp [porticolaw9_RuleTells.l0])
              | succ k1 =>
                have H := HA.out
                clear HA
                simp only [porticolaw9_RuleTells.l0] at H
                by_cases c17 : x34_1 < (y130.length : Int)
                · rw [if_pos c17] at H
                  have c17b0 : decide (x34_1 < (y130.length : Int)) = true := decide_eq_true c17
                  clear c17
                  by_cases c18 : 0 ≤ x34_1
                  · rw [if_pos c18] at H
                    have c18b0 : decide (0 ≤ x34_1) = true := decide_eq_true c18
                    clear c18
                    by_cases c19 : x34_1 < (y130.length : Int)
                    · rw [if_pos c19] at H
                      have c19b0 : decide (x34_1 < (y130.length : Int)) = true := decide_eq_true c19
                      clear c19
                      replace H := Option.bind_eq_some_iff.mp H
                      obtain ⟨⟨t140, t141⟩, A200, H⟩ := H
                      replace H : ((porticoref8_Ask.f k1 ((rd_T23 y130 x34_1).f0) ((rd_T23 y130 x34_1).f1) ((rd_T23 y130 x34_1).f2) (l1.take ((ji7) : Int).toNat)).bind fun bt142 => (if t140 = bt142.1 then (porticolaw9_RuleTells.j1 k1 y130 (l1.take ((ji7) : Int).toNat) x7_1 x8_1 x9_1 x34_1 bt142.1 bt142.2 y130 (y130.length : Int) x34_1 (t141.toList != bt142.2.toList) ((rd_T23 y130 x34_1).f0) ((rd_T23 y130 x34_1).f1) ((rd_T23 y130 x34_1).f2)) else (porticolaw9_RuleTells.j1 k1 y130 (l1.take ((ji7) : Int).toNat) x7_1 x8_1 x9_1 x34_1 bt142.1 bt142.2 y130 (y130.length : Int) x34_1 true ((rd_T23 y130 x34_1).f0) ((rd_T23 y130 x34_1).f1) ((rd_T23 y130 x34_1).f2)))) = some r := H
                      have A20 := Aside0.mk A200
                      clear A200
                      replace H := Option.bind_eq_some_iff.mp H
                      obtain ⟨⟨t142, t143⟩, A210, H⟩ := H
                      replace H : (if t140 = t142 then (porticolaw9_RuleTells.j1 k1 y130 (l1.take ((ji7) : Int).toNat) x7_1 x8_1 x9_1 x34_1 t142 t143 y130 (y130.length : Int) x34_1 (t141.toList != t143.toList) ((rd_T23 y130 x34_1).f0) ((rd_T23 y130 x34_1).f1) ((rd_T23 y130 x34_1).f2)) else (porticolaw9_RuleTells.j1 k1 y130 (l1.take ((ji7) : Int).toNat) x7_1 x8_1 x9_1 x34_1 t142 t143 y130 (y130.length : Int) x34_1 true ((rd_T23 y130 x34_1).f0) ((rd_T23 y130 x34_1).f1) ((rd_T23 y130 x34_1).f2))) = some r := H
                      have A21 := Aside0.mk A210
                      clear A210
                      have HC22 := Aside0.mk H
                      clear H
                      have p138 : 0 ≤ (x34_1 : Int) := of_decide_eq_true (by first | (with_reducible assumption) | assumption)
                      have q138 : x34_1 < (y130.length : Int) := of_decide_eq_true (by first | (with_reducible assumption) | assumption)
                      obtain ⟨ad138, e138, hx138_0, hx138_1, hx138_2⟩ := at_T23 (Kd.R_reads' HO_32.out).2.2 x34_1 p138 q138
                      cases e138
                      replace p138 := eq_true p138
                      replace q138 := eq_true q138
                      go_upto_region 8 with (first | ((with_reducible refine gate_dst (N := 11) rfl ?_); refine box_event ?hg (N := 11) ?hd (cs := #[.int .i64 0, .int .i64 0, .string (⟨#[]⟩ : ByteArray)]) (t := 23) ?hr ?_; (case hd => rfl); (case hg => rfl); (case hr => first | (go_simp; done) | (go_simp; rfl)); intro gb139 hg w23 hbox hb; have n0_ := Aside0.mk (Kd.R_below (Kd.R_elderB (by (with_reducible repeat (first | apply Kd.R_alloc | apply Kd.R_drewN | apply Kd.R_drew)); exact HO_5.out) gb139 (Nat.le_of_eq hg.symm)) hb); have n1_ := Aside0.mk (Kd.R_below (Kd.R_elderB (by (with_reducible repeat (first | apply Kd.R_alloc | apply Kd.R_drewN | apply Kd.R_drew)); exact HO_32.out) gb139 (Nat.le_of_eq hg.symm)) hb); have n2_ := Aside0.mk (below_step (by repeat (first | (with_reducible first | exact HB.out | apply below_alloc | apply pw_below_drewN | apply below_drew1) | exact HB.out)) hb); have n3_ := Aside0.mk (hbox); have n4_ := Aside0.mk ((by rw [hg]; exact (below_size (by repeat (first | (with_reducible first | exact HB.out | apply below_alloc | apply pw_below_drewN | apply below_drew1) | exact HB.out))) : w.heap.size ≤ gb139)); have n5_ := Aside0.mk ((by rw [hg]; exact (below_size (by repeat (first | (with_reducible first | exact HB.out | apply below_alloc | apply pw_below_drewN | apply below_drew1) | exact HB.out))) : w.heap.size ≤ gb139)); clear HO_5; clear HO_32; clear HB; have HO_5 := n0_; have HO_32 := n1_; have HB := n2_; have BK139 := n3_; have GW139 := n4_; have GE139 := n5_; clear n0_ n1_ n2_ n3_ n4_ n5_; clear hb hbox hg; have hcz24_0 : w23.cell? ⟨gb139, 0, none⟩ = some (.int .i64 0) := (blk_cell BK139.out 0).trans rfl; have hcz24_1 : w23.cell? ⟨gb139, 1, none⟩ = some (.int .i64 0) := (blk_cell BK139.out 1).trans rfl; have hcz24_2 : w23.cell? ⟨gb139, 2, none⟩ = some (.string (⟨#[]⟩ : ByteArray)) := (blk_cell BK139.out 2).trans rfl; have hfz24_0 := blk_frozen BK139.out 0; have hfz24_1 := blk_frozen BK139.out 1; have hfz24_2 := blk_frozen BK139.out 2) | ((with_reducible refine gate_callee (f := 7) rfl ?_); refine goesL_ (some 42) rfl rfl Try.func7 (by kernel_rfl) rfl #[.agg #[.int .i64 ((rd_T23 y130 x34_1).f0), .int .i64 ((rd_T23 y130 x34_1).f1), .string ((rd_T23 y130 x34_1).f2)], .slice A1 (l1.take ((ji7) : Int).toNat).length c1] rfl (by (try simp only [List.map_toArray, List.map_cons, List.map_nil]); first | done | (rw [show (l1.take ((ji7) : Int).toNat).length = (ji7).toNat from (by rw [List.length_take]; have h_ : ((ji7) : Int) ≤ (l1.length : Int) := (by first | (with_reducible assumption) | omega | exact of_decide_eq_true (by first | (with_reducible assumption) | assumption)); omega)] <;> rfl) | (simp only [hji7]; rfl) | rfl | (simp only [List.length_drop, List.length_take]; rfl)) ?_; (with_reducible refine (rule_Ask.calls k1 ((rd_T23 y130 x34_1).f0) ((rd_T23 y130 x34_1).f1) ((rd_T23 y130 x34_1).f2) _ _ (l1.take ((ji7) : Int).toNat) t140 t141 _ ?side1 ?side2 A20.out).mono ?_); (case side1 => exact Kd.C_below HR133.out (by repeat (first | (with_reducible first | exact HB.out | apply below_alloc | apply pw_below_drewN | apply below_drew1 | refine below_set ?_ GE139.out) | exact HB.out))); (case side2 => exact HC133.out); rintro e w25 ⟨rfl, hb⟩; refine ⟨_, rfl, ?_⟩; have n0_ := Aside0.mk (Kd.R_below (by (with_reducible repeat (first | apply Kd.R_alloc | apply Kd.R_drewN | apply Kd.R_drew)); exact (Kd.R_mono (Kd.R_far (p := ⟨gb139, 2, none⟩) (Kd.R_far (p := ⟨gb139, 1, none⟩) (Kd.R_far (p := ⟨gb139, 0, none⟩) (Kd.R_mono HO_5.out (fun k_ hk => (⟨hk, hk.2⟩ : _ ∧ k_ ≠ gb139))) (fun _ hk => hk.2) (.int .i64 ((rd_T23 y130 x34_1).f0))) (fun _ hk => hk.2) (.int .i64 ((rd_T23 y130 x34_1).f1))) (fun _ hk => hk.2) (.string ((rd_T23 y130 x34_1).f2))) (fun _ h_ => h_.1))) hb); have n1_ := Aside0.mk (Kd.R_below (by (with_reducible repeat (first | apply Kd.R_alloc | apply Kd.R_drewN | apply Kd.R_drew)); exact (Kd.R_mono (Kd.R_far (p := ⟨gb139, 2, none⟩) (Kd.R_far (p := ⟨gb139, 1, none⟩) (Kd.R_far (p := ⟨gb139, 0, none⟩) (Kd.R_mono HO_32.out (fun k_ hk => (⟨hk, hk.2⟩ : _ ∧ k_ ≠ gb139))) (fun _ hk => hk.2) (.int .i64 ((rd_T23 y130 x34_1).f0))) (fun _ hk => hk.2) (.int .i64 ((rd_T23 y130 x34_1).f1))) (fun _ hk => hk.2) (.string ((rd_T23 y130 x34_1).f2))) (fun _ h_ => h_.1))) hb); have n2_ := Aside0.mk (blk_below (g := gb139) (o := .cells #[.int .i64 ((rd_T23 y130 x34_1).f0), .int .i64 ((rd_T23 y130 x34_1).f1), .string ((rd_T23 y130 x34_1).f2)] 23 (0, 0)) (by (with_reducible repeat (first | refine blk_drewN ?_ _ | refine blk_drew ?_ | refine blk_alloc ?_ _)); refine blk_put (cs := #[.int .i64 ((rd_T23 y130 x34_1).f0), .int .i64 ((rd_T23 y130 x34_1).f1), .string (⟨#[]⟩ : ByteArray)]) ?_ 2 _ rfl; (with_reducible repeat (first | refine blk_drewN ?_ _ | refine blk_drew ?_ | refine blk_alloc ?_ _)); refine blk_put (cs := #[.int .i64 ((rd_T23 y130 x34_1).f0), .int .i64 0, .string (⟨#[]⟩ : ByteArray)]) ?_ 1 _ rfl; (with_reducible repeat (first | refine blk_drewN ?_ _ | refine blk_drew ?_ | refine blk_alloc ?_ _)); refine blk_put (cs := #[.int .i64 0, .int .i64 0, .string (⟨#[]⟩ : ByteArray)]) ?_ 0 _ rfl; (with_reducible repeat (first | refine blk_drewN ?_ _ | refine blk_drew ?_ | refine blk_alloc ?_ _)); exact BK139.out) hb); have n3_ := Aside0.mk (below_step (by repeat (first | (with_reducible first | exact HB.out | apply below_alloc | apply pw_below_drewN | apply below_drew1 | refine below_set ?_ GE139.out) | exact HB.out)) hb); clear HO_5; clear HO_32; clear BK139; clear HB; have HO_5 := n0_; have HO_32 := n1_; have BK139 := n2_; have HB := n3_; clear n0_ n1_ n2_ n3_; (try clear hb); (try clear hb2); (try clear hk); (try clear hi); have hcz26_0 : w25.cell? ⟨gb139, 0, none⟩ = some (.int .i64 ((rd_T23 y130 x34_1).f0)) := (blk_cell BK139.out 0).trans rfl; have hcz26_1 : w25.cell? ⟨gb139, 1, none⟩ = some (.int .i64 ((rd_T23 y130 x34_1).f1)) := (blk_cell BK139.out 1).trans rfl; have hcz26_2 : w25.cell? ⟨gb139, 2, none⟩ = some (.string ((rd_T23 y130 x34_1).f2)) := (blk_cell BK139.out 2).trans rfl; have hfz26_0 := blk_frozen BK139.out 0; have hfz26_1 := blk_frozen BK139.out 1; have hfz26_2 := blk_frozen BK139.out 2) | ((with_reducible refine gate_callee (f := 10) rfl ?_); refine goesL_ (some 48) rfl rfl Try.func10 (by kernel_rfl) rfl #[.agg #[.int .i64 ((rd_T23 y130 x34_1).f0), .int .i64 ((rd_T23 y130 x34_1).f1), .string ((rd_T23 y130 x34_1).f2)], .slice A1 (l1.take ((ji7) : Int).toNat).length c1] rfl (by (try simp only [List.map_toArray, List.map_cons, List.map_nil]); first | done | (rw [show (l1.take ((ji7) : Int).toNat).length = (ji7).toNat from (by rw [List.length_take]; have h_ : ((ji7) : Int) ≤ (l1.length : Int) := (by first | (with_reducible assumption) | omega | exact of_decide_eq_true (by first | (with_reducible assumption) | assumption)); omega)] <;> rfl) | (simp only [hji7]; rfl) | rfl | (simp only [List.length_drop, List.length_take]; rfl)) ?_; (with_reducible refine (porticoref8_Ask.calls k1 ((rd_T23 y130 x34_1).f0) ((rd_T23 y130 x34_1).f1) ((rd_T23 y130 x34_1).f2) _ _ (l1.take ((ji7) : Int).toNat) t142 t143 _ ?side1 ?side2 A21.out).mono ?_); (case side1 => repeat (first | exact (Kd.C_below HR133.out HB.out) | (with_reducible refine Kd.C_alloc ?_ _) | (with_reducible refine Kd.C_drewN ?_ _) | (with_reducible refine Kd.C_drew ?_))); (case side2 => exact HC133.out); rintro e w27 ⟨rfl, hb⟩; refine ⟨_, rfl, ?_⟩; have n0_ := Aside0.mk (Kd.R_below (by (with_reducible repeat (first | apply Kd.R_alloc | apply Kd.R_drewN | apply Kd.R_drew)); exact HO_5.out) hb); have n1_ := Aside0.mk (Kd.R_below (by (with_reducible repeat (first | apply Kd.R_alloc | apply Kd.R_drewN | apply Kd.R_drew)); exact HO_32.out) hb); have n2_ := Aside0.mk (blk_below (g := gb139) (o := .cells #[.int .i64 ((rd_T23 y130 x34_1).f0), .int .i64 ((rd_T23 y130 x34_1).f1), .string ((rd_T23 y130 x34_1).f2)] 23 (0, 0)) (by (with_reducible repeat (first | refine blk_drewN ?_ _ | refine blk_drew ?_ | refine blk_alloc ?_ _)); exact BK139.out) hb); have n3_ := Aside0.mk (below_step (by repeat (first | (with_reducible first | exact HB.out | apply below_alloc | apply pw_below_drewN | apply below_drew1 | refine below_set ?_ GE139.out) | exact HB.out)) hb); clear HO_5; clear HO_32; clear BK139; clear HB; have HO_5 := n0_; have HO_32 := n1_; have BK139 := n2_; have HB := n3_; clear n0_ n1_ n2_ n3_; (try clear hb); (try clear hb2); (try clear hk); (try clear hi)))
                      (try simp only [Act.put, List.setIfInBounds_toArray, List.set_cons_zero, List.set_cons_succ])
                      go_cut [58] (fun v58 wc => ∃ (kq : Nat) (x58_21 : Bool), v58 = .bool x58_21 ∧ Aside0 (porticolaw9_RuleTells.j1 kq y130 (l1.take ((ji7) : Int).toNat) x7_1 x8_1 x9_1 x34_1 t142 t143 y130 (y130.length : Int) x34_1 x58_21 ((rd_T23 y130 x34_1).f0) ((rd_T23 y130 x34_1).f1) ((rd_T23 y130 x34_1).f2) = some r) ∧ Aside0 (kq ≤ k1) ∧ Aside0 (Kd.R k23 23 wc w.heap.size (fun k_ => k_ ≠ gb139) (.slice (some ad138) y130.length co16) y130) ∧ Aside0 (Kd.R k23 23 wc w.heap.size (fun k_ => k_ ≠ gb139) (.slice (some ad138) y130.length co16) y130) ∧ Aside0 (wc.heap[gb139]? = some (.cells #[.int .i64 ((rd_T23 y130 x34_1).f0), .int .i64 ((rd_T23 y130 x34_1).f1), .string ((rd_T23 y130 x34_1).f2)] 23 (0, 0))) ∧ Aside0 (Below w.heap.size w wc))
                      case first =>
                        have H := HC22.out
                        clear HC22
                        by_cases c28 : t140 = t142
                        · rw [if_pos c28] at H
                          have c28b0 : (t140 == t142) = true := beq_iff_eq.mpr c28
                          have c28b1 : (t140 != t142) = false := bne_eq_false_iff_eq.mpr c28
                          clear c28
                          (first | rw [c28b0] | (simp only [i64_w, i32_w]; rw [c28b0]) | rw [c28b1] | skip)
                          have H' := Aside0.mk H
                          clear H
                          go_wp2
                          go_meet
                          case rel => exact ⟨_, ((t141.toList != t143.toList)), (by first | rfl | (simp; done) | (simp [*]; done)), H', ⟨by have := HK1.out; first | omega | exact Nat.le_refl _⟩, ⟨by (with_reducible repeat (first | apply Kd.R_alloc | apply Kd.R_drewN | apply Kd.R_drew)); exact Kd.R_mono HO_5.out (fun _ hk => hk.2)⟩, ⟨by (with_reducible repeat (first | apply Kd.R_alloc | apply Kd.R_drewN | apply Kd.R_drew)); exact Kd.R_mono HO_32.out (fun _ hk => hk.2)⟩, ⟨by (with_reducible repeat (first | refine blk_drewN ?_ _ | refine blk_drew ?_ | refine blk_alloc ?_ _)); exact BK139.out⟩, ⟨by repeat (first | (with_reducible first | exact HB.out | apply below_alloc | apply pw_below_drewN | apply below_drew1 | refine below_set ?_ GE139.out) | exact HB.out)⟩⟩
                        · rw [if_neg c28] at H
                          have c28b0 : (t140 == t142) = false := beq_eq_false_iff_ne.mpr c28
                          have c28b1 : (t140 != t142) = true := bne_iff_ne.mpr c28
                          (first | rw [c28b0] | (simp only [i64_w, i32_w]; rw [c28b0]) | rw [c28b1] | skip)
                          have H' := Aside0.mk H
                          clear H
                          go_wp2
                          go_meet
                          case rel => exact ⟨_, (true), (by first | rfl | (simp; done) | (simp [*]; done)), H', ⟨by have := HK1.out; first | omega | exact Nat.le_refl _⟩, ⟨by (with_reducible repeat (first | apply Kd.R_alloc | apply Kd.R_drewN | apply Kd.R_drew)); exact Kd.R_mono HO_5.out (fun _ hk => hk.2)⟩, ⟨by (with_reducible repeat (first | apply Kd.R_alloc | apply Kd.R_drewN | apply Kd.R_drew)); exact Kd.R_mono HO_32.out (fun _ hk => hk.2)⟩, ⟨by (with_reducible repeat (first | refine blk_drewN ?_ _ | refine blk_drew ?_ | refine blk_alloc ?_ _)); exact BK139.out⟩, ⟨by repeat (first | (with_reducible first | exact HB.out | apply below_alloc | apply pw_below_drewN | apply below_drew1 | refine below_set ?_ GE139.out) | exact HB.out)⟩⟩
                      case rest =>
                        clear HC22
                        try clear c1
                        try clear p1
                        try clear q1
                        try clear hx1
                        try clear c2
                        try clear p2
                        try clear c4
                        try clear c4b0
                        try clear c4b1
                        try clear c5
                        try clear c5b0
                        try clear c5b1
                        try clear c6
                        try clear c7
                        try clear c8
                        try clear c8b0
                        try clear c8b1
                        try clear c9
                        try clear c9b0
                        try clear c9b1
                        try clear c10
                        try clear q11
                        try clear p13
                        try clear q13
                        try clear hx13
                        try clear c17
                        try clear c17b0
                        try clear c18
                        try clear c18b0
                        try clear c19
                        try clear c19b0
                        try clear c28
                        try clear c28b0
                        try clear c28b1
                        try clear hcz24_0
                        try clear hcz24_1
                        try clear hcz24_2
                        try clear hcz26_0
                        try clear hcz26_1
                        try clear hcz26_2
                        try clear hfz24_0
                        try clear hfz24_1
                        try clear hfz24_2
                        try clear hfz26_0
                        try clear hfz26_1
                        try clear hfz26_2
                        try clear hx138_0
                        try clear hx138_1
                        try clear hx138_2
                        try clear p138
                        try clear p2
                        try clear q1
                        try clear q11
                        try clear q138
                        obtain ⟨kq, x58_21, rfl, HA, HJ21, HO_5, HO_32, BK139, HB⟩ := hcut
                        cases kq with
                        | zero => exact absurd HA.out (by simp [porticolaw9_RuleTells.j1])
                        | succ kj21 =>
                          have H := HA.out
                          clear HA
                          simp only [porticolaw9_RuleTells.j1] at H
                          by_cases c29 : x58_21 = true
                          · subst c29
                            have H1 : (some false) = some r := by rw [if_pos rfl] at H; exact H
                            clear H
                            have H := H1
                            clear H1
                            obtain rfl := Option.some.inj H
                            go_wp2
                            go_ret
                            exact ⟨by first | rfl | (simp [errW_none, errW_some] <;> rfl) | (simp only [← hji3, ← hji7]; first | rfl | (simp [errW_none, errW_some] <;> rfl)) | (simp [*, errW_none, errW_some] <;> rfl), by repeat (first | (with_reducible first | exact HB.out | apply below_alloc | apply pw_below_drewN | apply below_drew1 | refine below_set ?_ GE139.out) | exact HB.out)⟩
                          · replace c29 := Bool.eq_false_iff.mpr c29
                            subst c29
                            have H1 : (if x9_1 < 0 then (porticolaw9_RuleTells.j2 kj21 y130 (l1.take ((ji7) : Int).toNat) x7_1 x8_1 x9_1 x34_1 t142 t143 y130 (y130.length : Int) x34_1 (t142 != 0) ((rd_T23 y130 x34_1).f0) ((rd_T23 y130 x34_1).f1) ((rd_T23 y130 x34_1).f2)) else (porticolaw9_RuleTells.j2 kj21 y130 (l1.take ((ji7) : Int).toNat) x7_1 x8_1 x9_1 x34_1 t142 t143 y130 (y130.length : Int) x34_1 false ((rd_T23 y130 x34_1).f0) ((rd_T23 y130 x34_1).f1) ((rd_T23 y130 x34_1).f2))) = some r := by rw [if_neg (show ¬ (false = true) by decide)] at H; exact H
                            clear H
                            have H := H1
                            clear H1
                            have HC30 := Aside0.mk H
                            clear H
                            go_upto_region 10 with (fail)
                            go_cut [64] (fun v64 wc => ∃ (kq : Nat) (x64_29 : Bool), v64 = .bool x64_29 ∧ Aside0 (porticolaw9_RuleTells.j2 kq y130 (l1.take ((ji7) : Int).toNat) x7_1 x8_1 x9_1 x34_1 t142 t143 y130 (y130.length : Int) x34_1 x64_29 ((rd_T23 y130 x34_1).f0) ((rd_T23 y130 x34_1).f1) ((rd_T23 y130 x34_1).f2) = some r) ∧ Aside0 (kq ≤ kj21) ∧ Aside0 (Kd.R k23 23 wc w.heap.size (fun k_ => k_ ≠ gb139) (.slice (some ad138) y130.length co16) y130) ∧ Aside0 (Kd.R k23 23 wc w.heap.size (fun k_ => k_ ≠ gb139) (.slice (some ad138) y130.length co16) y130) ∧ Aside0 (wc.heap[gb139]? = some (.cells #[.int .i64 ((rd_T23 y130 x34_1).f0), .int .i64 ((rd_T23 y130 x34_1).f1), .string ((rd_T23 y130 x34_1).f2)] 23 (0, 0))) ∧ Aside0 (Below w.heap.size w wc))
                            case first =>
                              have H := HC30.out
                              clear HC30
                              by_cases c31 : x9_1 < 0
                              · rw [if_pos c31] at H
                                have c31b0 : decide (x9_1 < 0) = true := decide_eq_true c31
                                clear c31
                                (first | rw [c31b0] | (simp only [i64_w, i32_w]; rw [c31b0]) | skip)
                                have H' := Aside0.mk H
                                clear H
                                go_wp2
                                go_meet
                                case rel => exact ⟨_, ((t142 != 0)), (by first | rfl | (simp; done) | (simp [*]; done)), H', ⟨by have := HK1.out; have := HJ21.out; first | omega | exact Nat.le_refl _⟩, ⟨by (with_reducible repeat (first | apply Kd.R_alloc | apply Kd.R_drewN | apply Kd.R_drew)); exact HO_5.out⟩, ⟨by (with_reducible repeat (first | apply Kd.R_alloc | apply Kd.R_drewN | apply Kd.R_drew)); exact HO_32.out⟩, ⟨by (with_reducible repeat (first | refine blk_drewN ?_ _ | refine blk_drew ?_ | refine blk_alloc ?_ _)); exact BK139.out⟩, ⟨by repeat (first | (with_reducible first | exact HB.out | apply below_alloc | apply pw_below_drewN | apply below_drew1 | refine below_set ?_ GE139.out) | exact HB.out)⟩⟩
                              · rw [if_neg c31] at H
                                have c31b0 : decide (x9_1 < 0) = false := decide_eq_false c31
                                clear c31
                                (first | rw [c31b0] | (simp only [i64_w, i32_w]; rw [c31b0]) | skip)
                                have H' := Aside0.mk H
                                clear H
                                go_wp2
                                go_meet
                                case rel => exact ⟨_, (false), (by first | rfl | (simp; done) | (simp [*]; done)), H', ⟨by have := HK1.out; have := HJ21.out; first | omega | exact Nat.le_refl _⟩, ⟨by (with_reducible repeat (first | apply Kd.R_alloc | apply Kd.R_drewN | apply Kd.R_drew)); exact HO_5.out⟩, ⟨by (with_reducible repeat (first | apply Kd.R_alloc | apply Kd.R_drewN | apply Kd.R_drew)); exact HO_32.out⟩, ⟨by (with_reducible repeat (first | refine blk_drewN ?_ _ | refine blk_drew ?_ | refine blk_alloc ?_ _)); exact BK139.out⟩, ⟨by repeat (first | (with_reducible first | exact HB.out | apply below_alloc | apply pw_below_drewN | apply below_drew1 | refine below_set ?_ GE139.out) | exact HB.out)⟩⟩
                            case rest =>
                              clear HC30
                              try clear c1
                              try clear p1
                              try clear q1
                              try clear hx1
                              try clear c2
                              try clear p2
                              try clear c3
                              try clear c4
                              try clear c4b0
                              try clear c4b1
                              try clear c5
                              try clear c5b0
                              try clear c5b1
                              try clear c6
                              try clear c7
                              try clear c8
                              try clear c8b0
                              try clear c8b1
                              try clear c9
                              try clear c9b0
                              try clear c9b1
                              try clear c10
                              try clear q11
                              try clear p13
                              try clear q13
                              try clear hx13
                              try clear c17
                              try clear c17b0
                              try clear c18
                              try clear c18b0
                              try clear c19
                              try clear c19b0
                              try clear c28
                              try clear c28b0
                              try clear c28b1
                              try clear c29
                              try clear c31
                              try clear c31b0
                              try clear hcz24_0
                              try clear hcz24_1
                              try clear hcz24_2
                              try clear hcz26_0
                              try clear hcz26_1
                              try clear hcz26_2
                              try clear hfz24_0
                              try clear hfz24_1
                              try clear hfz24_2
                              try clear hfz26_0
                              try clear hfz26_1
                              try clear hfz26_2
                              try clear hx138_0
                              try clear hx138_1
                              try clear hx138_2
                              try clear p1
                              try clear p13
                              try clear p138
                              try clear p2
                              try clear q1
                              try clear q11
                              try clear q13
                              try clear q138
                              obtain ⟨kq, x64_29, rfl, HA, HJ29, HO_5, HO_32, BK139, HB⟩ := hcut
                              cases kq with
                              | zero => exact absurd HA.out (by simp [porticolaw9_RuleTells.j2])
                              | succ kj29 =>
                                have H := HA.out
                                clear HA
                                simp only [porticolaw9_RuleTells.j2] at H
                                by_cases c32 : x64_29 = true
                                · subst c32
                                  have H1 : (if ((rd_T23 y130 x34_1).f0) ≥ 0 then (if ((rd_T23 y130 x34_1).f0) ≤ 4 then (if ((rd_T23 y130 x34_1).f1) ≥ 0 then (if ((rd_T23 y130 x34_1).f1) < 8 then (if ((rd_T23 y130 x34_1).f2).toList = ([] : List UInt8) then ((rule_Right.f ((rd_T23 y130 x34_1).f0) ((rd_T23 y130 x34_1).f1) ((rd_T23 y130 x34_1).f2)).bind fun t144 => (if (t144 != true) = true then (some false) else (porticolaw9_RuleTells.l0 kj29 y130 (l1.take ((ji7) : Int).toNat) t142 t143 x34_1 y130 (y130.length : Int) (wrap64 (x34_1 + 1))))) else (if ((rd_T23 y130 x34_1).f0) = 3 then ((rule_Right.f ((rd_T23 y130 x34_1).f0) ((rd_T23 y130 x34_1).f1) ((rd_T23 y130 x34_1).f2)).bind fun t145 => (if (t145 != true) = true then (some false) else (porticolaw9_RuleTells.l0 kj29 y130 (l1.take ((ji7) : Int).toNat) t142 t143 x34_1 y130 (y130.length : Int) (wrap64 (x34_1 + 1))))) else ((rule_Right.f ((rd_T23 y130 x34_1).f0) ((rd_T23 y130 x34_1).f1) ((rd_T23 y130 x34_1).f2)).bind fun t146 => (if (t146 != (((rd_T23 y130 x34_1).f0) == 4)) = true then (some false) else (porticolaw9_RuleTells.l0 kj29 y130 (l1.take ((ji7) : Int).toNat) t142 t143 x34_1 y130 (y130.length : Int) (wrap64 (x34_1 + 1))))))) else ((rule_Right.f ((rd_T23 y130 x34_1).f0) ((rd_T23 y130 x34_1).f1) ((rd_T23 y130 x34_1).f2)).bind fun t147 => (if (t147 != false) = true then (some false) else (porticolaw9_RuleTells.l0 kj29 y130 (l1.take ((ji7) : Int).toNat) t142 t143 x34_1 y130 (y130.length : Int) (wrap64 (x34_1 + 1)))))) else ((rule_Right.f ((rd_T23 y130 x34_1).f0) ((rd_T23 y130 x34_1).f1) ((rd_T23 y130 x34_1).f2)).bind fun t148 => (if (t148 != false) = true then (some false) else (porticolaw9_RuleTells.l0 kj29 y130 (l1.take ((ji7) : Int).toNat) t142 t143 x34_1 y130 (y130.length : Int) (wrap64 (x34_1 + 1)))))) else ((rule_Right.f ((rd_T23 y130 x34_1).f0) ((rd_T23 y130 x34_1).f1) ((rd_T23 y130 x34_1).f2)).bind fun t149 => (if (t149 != false) = true then (some false) else (porticolaw9_RuleTells.l0 kj29 y130 (l1.take ((ji7) : Int).toNat) t142 t143 x34_1 y130 (y130.length : Int) (wrap64 (x34_1 + 1)))))) else ((rule_Right.f ((rd_T23 y130 x34_1).f0) ((rd_T23 y130 x34_1).f1) ((rd_T23 y130 x34_1).f2)).bind fun t150 => (if (t150 != false) = true then (some false) else (porticolaw9_RuleTells.l0 kj29 y130 (l1.take ((ji7) : Int).toNat) t142 t143 x34_1 y130 (y130.length : Int) (wrap64 (x34_1 + 1)))))) = some r := by rw [if_pos rfl] at H; exact H
                                  clear H
                                  have H := H1
                                  clear H1
                                  by_cases c33 : ((rd_T23 y130 x34_1).f0) ≥ 0
                                  · rw [if_pos c33] at H
                                    have c33b0 : decide (0 ≤ ((rd_T23 y130 x34_1).f0)) = true := decide_eq_true c33
                                    clear c33
                                    by_cases c34 : ((rd_T23 y130 x34_1).f0) ≤ 4
                                    · rw [if_pos c34] at H
                                      have c34b0 : decide (((rd_T23 y130 x34_1).f0) ≤ 4) = true := decide_eq_true c34
                                      clear c34
                                      by_cases c35 : ((rd_T23 y130 x34_1).f1) ≥ 0
                                      · rw [if_pos c35] at H
                                        have c35b0 : decide (0 ≤ ((rd_T23 y130 x34_1).f1)) = true := decide_eq_true c35
                                        clear c35
                                        by_cases c36 : ((rd_T23 y130 x34_1).f1) < 8
                                        · rw [if_pos c36] at H
                                          have c36b0 : decide (((rd_T23 y130 x34_1).f1) < 8) = true := decide_eq_true c36
                                          clear c36
                                          by_cases c37 : ((rd_T23 y130 x34_1).f2).toList = ([] : List UInt8)
                                          · rw [if_pos c37] at H
                                            have c37b0 : (((rd_T23 y130 x34_1).f2).toList == ([] : List UInt8)) = true := beq_iff_eq.mpr c37
                                            have c37b1 : (((rd_T23 y130 x34_1).f2).toList != ([] : List UInt8)) = false := bne_eq_false_iff_eq.mpr c37
                                            clear c37
                                            replace H := Option.bind_eq_some_iff.mp H
                                            obtain ⟨t144, A380, H⟩ := H
                                            replace H : (if (t144 != true) = true then (some false) else (porticolaw9_RuleTells.l0 kj29 y130 (l1.take ((ji7) : Int).toNat) t142 t143 x34_1 y130 (y130.length : Int) (wrap64 (x34_1 + 1)))) = some r := H
                                            have A38 := Aside0.mk A380
                                            clear A380
                                            by_cases c39 : (t144 != true) = true
                                            · rw [if_pos c39] at H
                                              have c39b0 : (t144 != true) = true := c39
                                              (try (have c39b1 : decide (t144 = true) = false := by simpa using c39))
                                              (try (have c39b2 : (t144 == true) = false := by simpa using c39))
                                              (try (have c39b3 : ¬ (t144 = true) := by simpa using c39))
                                              clear c39
                                              obtain rfl := Option.some.inj H
                                              have hcz40_0 : wc.cell? ⟨gb139, 0, none⟩ = some (.int .i64 ((rd_T23 y130 x34_1).f0)) := (blk_cell BK139.out 0).trans rfl
                                              have hcz40_1 : wc.cell? ⟨gb139, 1, none⟩ = some (.int .i64 ((rd_T23 y130 x34_1).f1)) := (blk_cell BK139.out 1).trans rfl
                                              have hcz40_2 : wc.cell? ⟨gb139, 2, none⟩ = some (.string ((rd_T23 y130 x34_1).f2)) := (blk_cell BK139.out 2).trans rfl
                                              have hfz40_0 := blk_frozen BK139.out 0
                                              have hfz40_1 := blk_frozen BK139.out 1
                                              have hfz40_2 := blk_frozen BK139.out 2
                                              go_wp2_with (first | ((with_reducible refine gate_callee (f := 11) rfl ?_); refine goesL_ (some 102) rfl rfl Try.func11 (by kernel_rfl) rfl #[.agg #[.int .i64 ((rd_T23 y130 x34_1).f0), .int .i64 ((rd_T23 y130 x34_1).f1), .string ((rd_T23 y130 x34_1).f2)]] rfl (by (try simp only [List.map_toArray, List.map_cons, List.map_nil]); first | done | rfl | (simp only [List.length_drop, List.length_take]; rfl)) ?_; (with_reducible refine (rule_Right.calls ((rd_T23 y130 x34_1).f0) ((rd_T23 y130 x34_1).f1) ((rd_T23 y130 x34_1).f2) t144 _ A38.out).mono ?_); rintro e w41 ⟨rfl, hb⟩; refine ⟨_, rfl, ?_⟩; have n0_ := Aside0.mk (Kd.R_below (by (with_reducible repeat (first | apply Kd.R_alloc | apply Kd.R_drewN | apply Kd.R_drew)); exact HO_5.out) hb); have n1_ := Aside0.mk (Kd.R_below (by (with_reducible repeat (first | apply Kd.R_alloc | apply Kd.R_drewN | apply Kd.R_drew)); exact HO_32.out) hb); have n2_ := Aside0.mk (blk_below (g := gb139) (o := .cells #[.int .i64 ((rd_T23 y130 x34_1).f0), .int .i64 ((rd_T23 y130 x34_1).f1), .string ((rd_T23 y130 x34_1).f2)] 23 (0, 0)) (by (with_reducible repeat (first | refine blk_drewN ?_ _ | refine blk_drew ?_ | refine blk_alloc ?_ _)); exact BK139.out) hb); have n3_ := Aside0.mk (below_step (by repeat (first | (with_reducible first | exact HB.out | apply below_alloc | apply pw_below_drewN | apply below_drew1 | refine below_set ?_ GE139.out) | exact HB.out)) hb); clear HO_5; clear HO_32; clear BK139; clear HB; have HO_5 := n0_; have HO_32 := n1_; have BK139 := n2_; have HB := n3_; clear n0_ n1_ n2_ n3_; (try clear hb); (try clear hb2); (try clear hk); (try clear hi)))
                                              go_ret
                                              exact ⟨by first | rfl | (simp [errW_none, errW_some] <;> rfl) | (simp only [← hji3, ← hji7]; first | rfl | (simp [errW_none, errW_some] <;> rfl)) | (simp [*, errW_none, errW_some] <;> rfl), by repeat (first | (with_reducible first | exact HB.out | apply below_alloc | apply pw_below_drewN | apply below_drew1 | refine below_set ?_ GE139.out) | exact HB.out)⟩
                                            · rw [if_neg c39] at H
                                              have c39b0 : (t144 != true) = false := by simpa using c39
                                              (try (have c39b1 : decide (t144 = true) = true := by simpa using c39))
                                              (try (have c39b2 : (t144 == true) = true := by simpa using c39))
                                              clear c39
                                              have H' := Aside0.mk H
                                              clear H
                                              have hcz42_0 : wc.cell? ⟨gb139, 0, none⟩ = some (.int .i64 ((rd_T23 y130 x34_1).f0)) := (blk_cell BK139.out 0).trans rfl
                                              have hcz42_1 : wc.cell? ⟨gb139, 1, none⟩ = some (.int .i64 ((rd_T23 y130 x34_1).f1)) := (blk_cell BK139.out 1).trans rfl
                                              have hcz42_2 : wc.cell? ⟨gb139, 2, none⟩ = some (.string ((rd_T23 y130 x34_1).f2)) := (blk_cell BK139.out 2).trans rfl
                                              have hfz42_0 := blk_frozen BK139.out 0
                                              have hfz42_1 := blk_frozen BK139.out 1
                                              have hfz42_2 := blk_frozen BK139.out 2
                                              go_wp2_with (first | ((with_reducible refine gate_callee (f := 11) rfl ?_); refine goesL_ (some 102) rfl rfl Try.func11 (by kernel_rfl) rfl #[.agg #[.int .i64 ((rd_T23 y130 x34_1).f0), .int .i64 ((rd_T23 y130 x34_1).f1), .string ((rd_T23 y130 x34_1).f2)]] rfl (by (try simp only [List.map_toArray, List.map_cons, List.map_nil]); first | done | rfl | (simp only [List.length_drop, List.length_take]; rfl)) ?_; (with_reducible refine (rule_Right.calls ((rd_T23 y130 x34_1).f0) ((rd_T23 y130 x34_1).f1) ((rd_T23 y130 x34_1).f2) t144 _ A38.out).mono ?_); rintro e w43 ⟨rfl, hb⟩; refine ⟨_, rfl, ?_⟩; have n0_ := Aside0.mk (Kd.R_below (by (with_reducible repeat (first | apply Kd.R_alloc | apply Kd.R_drewN | apply Kd.R_drew)); exact HO_5.out) hb); have n1_ := Aside0.mk (Kd.R_below (by (with_reducible repeat (first | apply Kd.R_alloc | apply Kd.R_drewN | apply Kd.R_drew)); exact HO_32.out) hb); have n2_ := Aside0.mk (blk_below (g := gb139) (o := .cells #[.int .i64 ((rd_T23 y130 x34_1).f0), .int .i64 ((rd_T23 y130 x34_1).f1), .string ((rd_T23 y130 x34_1).f2)] 23 (0, 0)) (by (with_reducible repeat (first | refine blk_drewN ?_ _ | refine blk_drew ?_ | refine blk_alloc ?_ _)); exact BK139.out) hb); have n3_ := Aside0.mk (below_step (by repeat (first | (with_reducible first | exact HB.out | apply below_alloc | apply pw_below_drewN | apply below_drew1 | refine below_set ?_ GE139.out) | exact HB.out)) hb); clear HO_5; clear HO_32; clear BK139; clear HB; have HO_5 := n0_; have HO_32 := n1_; have BK139 := n2_; have HB := n3_; clear n0_ n1_ n2_ n3_; (try clear hb); (try clear hb2); (try clear hk); (try clear hi)))
                                              go_roundg kj29
                                              case measure => have := HK1.out; have := HJ21.out; have := HJ29.out; omega
                                              case rel => exact ⟨(t142), (t143), (x34_1), (wrap64 (x34_1 + 1)), (by first | rfl | (simp; done) | (simp [*]; done)), (by first | rfl | (simp; done) | (simp [*]; done)), (by first | rfl | (simp; done) | (simp [*]; done)), (by first | rfl | (simp; done) | (simp [*]; done)), H', ⟨by have := HK1.out; have := HJ21.out; have := HJ29.out; omega⟩, ⟨by (with_reducible repeat (first | apply Kd.R_alloc | apply Kd.R_drewN | apply Kd.R_drew)); exact Kd.R_mono HO_5.out (fun _ hk => trivial)⟩, ⟨by (with_reducible repeat (first | apply Kd.R_alloc | apply Kd.R_drewN | apply Kd.R_drew)); exact Kd.R_mono HO_32.out (fun _ hk => trivial)⟩, ⟨by repeat (first | (with_reducible first | exact HB.out | apply below_alloc | apply pw_below_drewN | apply below_drew1 | refine below_set ?_ GE139.out) | exact HB.out)⟩⟩
                                          · rw [if_neg c37] at H
                                            have c37b0 : (((rd_T23 y130 x34_1).f2).toList == ([] : List UInt8)) = false := beq_eq_false_iff_ne.mpr c37
                                            have c37b1 : (((rd_T23 y130 x34_1).f2).toList != ([] : List UInt8)) = true := bne_iff_ne.mpr c37
                                            by_cases c44 : ((rd_T23 y130 x34_1).f0) = 3
                                            · rw [if_pos c44] at H
                                              have c44b0 : (((rd_T23 y130 x34_1).f0) == 3) = true := beq_iff_eq.mpr c44
                                              have c44b1 : (((rd_T23 y130 x34_1).f0) != 3) = false := bne_eq_false_iff_eq.mpr c44
                                              clear c44
                                              replace H := Option.bind_eq_some_iff.mp H
                                              obtain ⟨t145, A450, H⟩ := H
                                              replace H : (if (t145 != true) = true then (some false) else (porticolaw9_RuleTells.l0 kj29 y130 (l1.take ((ji7) : Int).toNat) t142 t143 x34_1 y130 (y130.length : Int) (wrap64 (x34_1 + 1)))) = some r := H
                                              have A45 := Aside0.mk A450
                                              clear A450
                                              by_cases c46 : (t145 != true) = true
                                              · rw [if_pos c46] at H
                                                have c46b0 : (t145 != true) = true := c46
                                                (try (have c46b1 : decide (t145 = true) = false := by simpa using c46))
                                                (try (have c46b2 : (t145 == true) = false := by simpa using c46))
                                                (try (have c46b3 : ¬ (t145 = true) := by simpa using c46))
                                                clear c46
                                                obtain rfl := Option.some.inj H
                                                have hcz47_0 : wc.cell? ⟨gb139, 0, none⟩ = some (.int .i64 ((rd_T23 y130 x34_1).f0)) := (blk_cell BK139.out 0).trans rfl
                                                have hcz47_1 : wc.cell? ⟨gb139, 1, none⟩ = some (.int .i64 ((rd_T23 y130 x34_1).f1)) := (blk_cell BK139.out 1).trans rfl
                                                have hcz47_2 : wc.cell? ⟨gb139, 2, none⟩ = some (.string ((rd_T23 y130 x34_1).f2)) := (blk_cell BK139.out 2).trans rfl
                                                have hfz47_0 := blk_frozen BK139.out 0
                                                have hfz47_1 := blk_frozen BK139.out 1
                                                have hfz47_2 := blk_frozen BK139.out 2
                                                go_wp2_with (first | ((with_reducible refine gate_callee (f := 11) rfl ?_); refine goesL_ (some 102) rfl rfl Try.func11 (by kernel_rfl) rfl #[.agg #[.int .i64 ((rd_T23 y130 x34_1).f0), .int .i64 ((rd_T23 y130 x34_1).f1), .string ((rd_T23 y130 x34_1).f2)]] rfl (by (try simp only [List.map_toArray, List.map_cons, List.map_nil]); first | done | rfl | (simp only [List.length_drop, List.length_take]; rfl)) ?_; (with_reducible refine (rule_Right.calls ((rd_T23 y130 x34_1).f0) ((rd_T23 y130 x34_1).f1) ((rd_T23 y130 x34_1).f2) t145 _ A45.out).mono ?_); rintro e w48 ⟨rfl, hb⟩; refine ⟨_, rfl, ?_⟩; have n0_ := Aside0.mk (Kd.R_below (by (with_reducible repeat (first | apply Kd.R_alloc | apply Kd.R_drewN | apply Kd.R_drew)); exact HO_5.out) hb); have n1_ := Aside0.mk (Kd.R_below (by (with_reducible repeat (first | apply Kd.R_alloc | apply Kd.R_drewN | apply Kd.R_drew)); exact HO_32.out) hb); have n2_ := Aside0.mk (blk_below (g := gb139) (o := .cells #[.int .i64 ((rd_T23 y130 x34_1).f0), .int .i64 ((rd_T23 y130 x34_1).f1), .string ((rd_T23 y130 x34_1).f2)] 23 (0, 0)) (by (with_reducible repeat (first | refine blk_drewN ?_ _ | refine blk_drew ?_ | refine blk_alloc ?_ _)); exact BK139.out) hb); have n3_ := Aside0.mk (below_step (by repeat (first | (with_reducible first | exact HB.out | apply below_alloc | apply pw_below_drewN | apply below_drew1 | refine below_set ?_ GE139.out) | exact HB.out)) hb); clear HO_5; clear HO_32; clear BK139; clear HB; have HO_5 := n0_; have HO_32 := n1_; have BK139 := n2_; have HB := n3_; clear n0_ n1_ n2_ n3_; (try clear hb); (try clear hb2); (try clear hk); (try clear hi)))
                                                go_ret
                                                exact ⟨by first | rfl | (simp [errW_none, errW_some] <;> rfl) | (simp only [← hji3, ← hji7]; first | rfl | (simp [errW_none, errW_some] <;> rfl)) | (simp [*, errW_none, errW_some] <;> rfl), by repeat (first | (with_reducible first | exact HB.out | apply below_alloc | apply pw_below_drewN | apply below_drew1 | refine below_set ?_ GE139.out) | exact HB.out)⟩
                                              · rw [if_neg c46] at H
                                                have c46b0 : (t145 != true) = false := by simpa using c46
                                                (try (have c46b1 : decide (t145 = true) = true := by simpa using c46))
                                                (try (have c46b2 : (t145 == true) = true := by simpa using c46))
                                                clear c46
                                                have H' := Aside0.mk H
                                                clear H
                                                have hcz49_0 : wc.cell? ⟨gb139, 0, none⟩ = some (.int .i64 ((rd_T23 y130 x34_1).f0)) := (blk_cell BK139.out 0).trans rfl
                                                have hcz49_1 : wc.cell? ⟨gb139, 1, none⟩ = some (.int .i64 ((rd_T23 y130 x34_1).f1)) := (blk_cell BK139.out 1).trans rfl
                                                have hcz49_2 : wc.cell? ⟨gb139, 2, none⟩ = some (.string ((rd_T23 y130 x34_1).f2)) := (blk_cell BK139.out 2).trans rfl
                                                have hfz49_0 := blk_frozen BK139.out 0
                                                have hfz49_1 := blk_frozen BK139.out 1
                                                have hfz49_2 := blk_frozen BK139.out 2
                                                go_wp2_with (first | ((with_reducible refine gate_callee (f := 11) rfl ?_); refine goesL_ (some 102) rfl rfl Try.func11 (by kernel_rfl) rfl #[.agg #[.int .i64 ((rd_T23 y130 x34_1).f0), .int .i64 ((rd_T23 y130 x34_1).f1), .string ((rd_T23 y130 x34_1).f2)]] rfl (by (try simp only [List.map_toArray, List.map_cons, List.map_nil]); first | done | rfl | (simp only [List.length_drop, List.length_take]; rfl)) ?_; (with_reducible refine (rule_Right.calls ((rd_T23 y130 x34_1).f0) ((rd_T23 y130 x34_1).f1) ((rd_T23 y130 x34_1).f2) t145 _ A45.out).mono ?_); rintro e w50 ⟨rfl, hb⟩; refine ⟨_, rfl, ?_⟩; have n0_ := Aside0.mk (Kd.R_below (by (with_reducible repeat (first | apply Kd.R_alloc | apply Kd.R_drewN | apply Kd.R_drew)); exact HO_5.out) hb); have n1_ := Aside0.mk (Kd.R_below (by (with_reducible repeat (first | apply Kd.R_alloc | apply Kd.R_drewN | apply Kd.R_drew)); exact HO_32.out) hb); have n2_ := Aside0.mk (blk_below (g := gb139) (o := .cells #[.int .i64 ((rd_T23 y130 x34_1).f0), .int .i64 ((rd_T23 y130 x34_1).f1), .string ((rd_T23 y130 x34_1).f2)] 23 (0, 0)) (by (with_reducible repeat (first | refine blk_drewN ?_ _ | refine blk_drew ?_ | refine blk_alloc ?_ _)); exact BK139.out) hb); have n3_ := Aside0.mk (below_step (by repeat (first | (with_reducible first | exact HB.out | apply below_alloc | apply pw_below_drewN | apply below_drew1 | refine below_set ?_ GE139.out) | exact HB.out)) hb); clear HO_5; clear HO_32; clear BK139; clear HB; have HO_5 := n0_; have HO_32 := n1_; have BK139 := n2_; have HB := n3_; clear n0_ n1_ n2_ n3_; (try clear hb); (try clear hb2); (try clear hk); (try clear hi)))
                                                go_roundg kj29
                                                case measure => have := HK1.out; have := HJ21.out; have := HJ29.out; omega
                                                case rel => exact ⟨(t142), (t143), (x34_1), (wrap64 (x34_1 + 1)), (by first | rfl | (simp; done) | (simp [*]; done)), (by first | rfl | (simp; done) | (simp [*]; done)), (by first | rfl | (simp; done) | (simp [*]; done)), (by first | rfl | (simp; done) | (simp [*]; done)), H', ⟨by have := HK1.out; have := HJ21.out; have := HJ29.out; omega⟩, ⟨by (with_reducible repeat (first | apply Kd.R_alloc | apply Kd.R_drewN | apply Kd.R_drew)); exact Kd.R_mono HO_5.out (fun _ hk => trivial)⟩, ⟨by (with_reducible repeat (first | apply Kd.R_alloc | apply Kd.R_drewN | apply Kd.R_drew)); exact Kd.R_mono HO_32.out (fun _ hk => trivial)⟩, ⟨by repeat (first | (with_reducible first | exact HB.out | apply below_alloc | apply pw_below_drewN | apply below_drew1 | refine below_set ?_ GE139.out) | exact HB.out)⟩⟩
                                            · rw [if_neg c44] at H
                                              have c44b0 : (((rd_T23 y130 x34_1).f0) == 3) = false := beq_eq_false_iff_ne.mpr c44
                                              have c44b1 : (((rd_T23 y130 x34_1).f0) != 3) = true := bne_iff_ne.mpr c44
                                              replace H := Option.bind_eq_some_iff.mp H
                                              obtain ⟨t146, A510, H⟩ := H
                                              replace H : (if (t146 != (((rd_T23 y130 x34_1).f0) == 4)) = true then (some false) else (porticolaw9_RuleTells.l0 kj29 y130 (l1.take ((ji7) : Int).toNat) t142 t143 x34_1 y130 (y130.length : Int) (wrap64 (x34_1 + 1)))) = some r := H
                                              have A51 := Aside0.mk A510
                                              clear A510
                                              by_cases c52 : (t146 != (((rd_T23 y130 x34_1).f0) == 4)) = true
                                              · rw [if_pos c52] at H
                                                have c52b0 : (t146 != (((rd_T23 y130 x34_1).f0) == 4)) = true := c52
                                                (try (have c52b1 : decide (t146 = (((rd_T23 y130 x34_1).f0) == 4)) = false := by simpa using c52))
                                                (try (have c52b2 : (t146 == (((rd_T23 y130 x34_1).f0) == 4)) = false := by simpa using c52))
                                                (try (have c52b3 : ¬ (t146 = (((rd_T23 y130 x34_1).f0) == 4)) := by simpa using c52))
                                                clear c52
                                                obtain rfl := Option.some.inj H
                                                have hcz53_0 : wc.cell? ⟨gb139, 0, none⟩ = some (.int .i64 ((rd_T23 y130 x34_1).f0)) := (blk_cell BK139.out 0).trans rfl
                                                have hcz53_1 : wc.cell? ⟨gb139, 1, none⟩ = some (.int .i64 ((rd_T23 y130 x34_1).f1)) := (blk_cell BK139.out 1).trans rfl
                                                have hcz53_2 : wc.cell? ⟨gb139, 2, none⟩ = some (.string ((rd_T23 y130 x34_1).f2)) := (blk_cell BK139.out 2).trans rfl
                                                have hfz53_0 := blk_frozen BK139.out 0
                                                have hfz53_1 := blk_frozen BK139.out 1
                                                have hfz53_2 := blk_frozen BK139.out 2
                                                go_wp2_with (first | ((with_reducible refine gate_callee (f := 11) rfl ?_); refine goesL_ (some 102) rfl rfl Try.func11 (by kernel_rfl) rfl #[.agg #[.int .i64 ((rd_T23 y130 x34_1).f0), .int .i64 ((rd_T23 y130 x34_1).f1), .string ((rd_T23 y130 x34_1).f2)]] rfl (by (try simp only [List.map_toArray, List.map_cons, List.map_nil]); first | done | rfl | (simp only [List.length_drop, List.length_take]; rfl)) ?_; (with_reducible refine (rule_Right.calls ((rd_T23 y130 x34_1).f0) ((rd_T23 y130 x34_1).f1) ((rd_T23 y130 x34_1).f2) t146 _ A51.out).mono ?_); rintro e w54 ⟨rfl, hb⟩; refine ⟨_, rfl, ?_⟩; have n0_ := Aside0.mk (Kd.R_below (by (with_reducible repeat (first | apply Kd.R_alloc | apply Kd.R_drewN | apply Kd.R_drew)); exact HO_5.out) hb); have n1_ := Aside0.mk (Kd.R_below (by (with_reducible repeat (first | apply Kd.R_alloc | apply Kd.R_drewN | apply Kd.R_drew)); exact HO_32.out) hb); have n2_ := Aside0.mk (blk_below (g := gb139) (o := .cells #[.int .i64 ((rd_T23 y130 x34_1).f0), .int .i64 ((rd_T23 y130 x34_1).f1), .string ((rd_T23 y130 x34_1).f2)] 23 (0, 0)) (by (with_reducible repeat (first | refine blk_drewN ?_ _ | refine blk_drew ?_ | refine blk_alloc ?_ _)); exact BK139.out) hb); have n3_ := Aside0.mk (below_step (by repeat (first | (with_reducible first | exact HB.out | apply below_alloc | apply pw_below_drewN | apply below_drew1 | refine below_set ?_ GE139.out) | exact HB.out)) hb); clear HO_5; clear HO_32; clear BK139; clear HB; have HO_5 := n0_; have HO_32 := n1_; have BK139 := n2_; have HB := n3_; clear n0_ n1_ n2_ n3_; (try clear hb); (try clear hb2); (try clear hk); (try clear hi)))
                                                go_ret
                                                exact ⟨by first | rfl | (simp [errW_none, errW_some] <;> rfl) | (simp only [← hji3, ← hji7]; first | rfl | (simp [errW_none, errW_some] <;> rfl)) | (simp [*, errW_none, errW_some] <;> rfl), by repeat (first | (with_reducible first | exact HB.out | apply below_alloc | apply pw_below_drewN | apply below_drew1 | refine below_set ?_ GE139.out) | exact HB.out)⟩
                                              · rw [if_neg c52] at H
                                                have c52b0 : (t146 != (((rd_T23 y130 x34_1).f0) == 4)) = false := by simpa using c52
                                                (try (have c52b1 : decide (t146 = (((rd_T23 y130 x34_1).f0) == 4)) = true := by simpa using c52))
                                                (try (have c52b2 : (t146 == (((rd_T23 y130 x34_1).f0) == 4)) = true := by simpa using c52))
                                                clear c52
                                                have H' := Aside0.mk H
                                                clear H
                                                have hcz55_0 : wc.cell? ⟨gb139, 0, none⟩ = some (.int .i64 ((rd_T23 y130 x34_1).f0)) := (blk_cell BK139.out 0).trans rfl
                                                have hcz55_1 : wc.cell? ⟨gb139, 1, none⟩ = some (.int .i64 ((rd_T23 y130 x34_1).f1)) := (blk_cell BK139.out 1).trans rfl
                                                have hcz55_2 : wc.cell? ⟨gb139, 2, none⟩ = some (.string ((rd_T23 y130 x34_1).f2)) := (blk_cell BK139.out 2).trans rfl
                                                have hfz55_0 := blk_frozen BK139.out 0
                                                have hfz55_1 := blk_frozen BK139.out 1
                                                have hfz55_2 := blk_frozen BK139.out 2
                                                go_wp2_with (first | ((with_reducible refine gate_callee (f := 11) rfl ?_); refine goesL_ (some 102) rfl rfl Try.func11 (by kernel_rfl) rfl #[.agg #[.int .i64 ((rd_T23 y130 x34_1).f0), .int .i64 ((rd_T23 y130 x34_1).f1), .string ((rd_T23 y130 x34_1).f2)]] rfl (by (try simp only [List.map_toArray, List.map_cons, List.map_nil]); first | done | rfl | (simp only [List.length_drop, List.length_take]; rfl)) ?_; (with_reducible refine (rule_Right.calls ((rd_T23 y130 x34_1).f0) ((rd_T23 y130 x34_1).f1) ((rd_T23 y130 x34_1).f2) t146 _ A51.out).mono ?_); rintro e w56 ⟨rfl, hb⟩; refine ⟨_, rfl, ?_⟩; have n0_ := Aside0.mk (Kd.R_below (by (with_reducible repeat (first | apply Kd.R_alloc | apply Kd.R_drewN | apply Kd.R_drew)); exact HO_5.out) hb); have n1_ := Aside0.mk (Kd.R_below (by (with_reducible repeat (first | apply Kd.R_alloc | apply Kd.R_drewN | apply Kd.R_drew)); exact HO_32.out) hb); have n2_ := Aside0.mk (blk_below (g := gb139) (o := .cells #[.int .i64 ((rd_T23 y130 x34_1).f0), .int .i64 ((rd_T23 y130 x34_1).f1), .string ((rd_T23 y130 x34_1).f2)] 23 (0, 0)) (by (with_reducible repeat (first | refine blk_drewN ?_ _ | refine blk_drew ?_ | refine blk_alloc ?_ _)); exact BK139.out) hb); have n3_ := Aside0.mk (below_step (by repeat (first | (with_reducible first | exact HB.out | apply below_alloc | apply pw_below_drewN | apply below_drew1 | refine below_set ?_ GE139.out) | exact HB.out)) hb); clear HO_5; clear HO_32; clear BK139; clear HB; have HO_5 := n0_; have HO_32 := n1_; have BK139 := n2_; have HB := n3_; clear n0_ n1_ n2_ n3_; (try clear hb); (try clear hb2); (try clear hk); (try clear hi)))
                                                go_roundg kj29
                                                case measure => have := HK1.out; have := HJ21.out; have := HJ29.out; omega
                                                case rel => exact ⟨(t142), (t143), (x34_1), (wrap64 (x34_1 + 1)), (by first | rfl | (simp; done) | (simp [*]; done)), (by first | rfl | (simp; done) | (simp [*]; done)), (by first | rfl | (simp; done) | (simp [*]; done)), (by first | rfl | (simp; done) | (simp [*]; done)), H', ⟨by have := HK1.out; have := HJ21.out; have := HJ29.out; omega⟩, ⟨by (with_reducible repeat (first | apply Kd.R_alloc | apply Kd.R_drewN | apply Kd.R_drew)); exact Kd.R_mono HO_5.out (fun _ hk => trivial)⟩, ⟨by (with_reducible repeat (first | apply Kd.R_alloc | apply Kd.R_drewN | apply Kd.R_drew)); exact Kd.R_mono HO_32.out (fun _ hk => trivial)⟩, ⟨by repeat (first | (with_reducible first | exact HB.out | apply below_alloc | apply pw_below_drewN | apply below_drew1 | refine below_set ?_ GE139.out) | exact HB.out)⟩⟩
                                        · rw [if_neg c36] at H
                                          have c36b0 : decide (((rd_T23 y130 x34_1).f1) < 8) = false := decide_eq_false c36
                                          clear c36
                                          replace H := Option.bind_eq_some_iff.mp H
                                          obtain ⟨t147, A570, H⟩ := H
                                          replace H : (if (t147 != false) = true then (some false) else (porticolaw9_RuleTells.l0 kj29 y130 (l1.take ((ji7) : Int).toNat) t142 t143 x34_1 y130 (y130.length : Int) (wrap64 (x34_1 + 1)))) = some r := H
                                          have A57 := Aside0.mk A570
                                          clear A570
                                          by_cases c58 : (t147 != false) = true
                                          · rw [if_pos c58] at H
                                            have c58b0 : (t147 != false) = true := c58
                                            (try (have c58b1 : decide (t147 = false) = false := by simpa using c58))
                                            (try (have c58b2 : (t147 == false) = false := by simpa using c58))
                                            (try (have c58b3 : ¬ (t147 = false) := by simpa using c58))
                                            clear c58
                                            obtain rfl := Option.some.inj H
                                            have hcz59_0 : wc.cell? ⟨gb139, 0, none⟩ = some (.int .i64 ((rd_T23 y130 x34_1).f0)) := (blk_cell BK139.out 0).trans rfl
                                            have hcz59_1 : wc.cell? ⟨gb139, 1, none⟩ = some (.int .i64 ((rd_T23 y130 x34_1).f1)) := (blk_cell BK139.out 1).trans rfl
                                            have hcz59_2 : wc.cell? ⟨gb139, 2, none⟩ = some (.string ((rd_T23 y130 x34_1).f2)) := (blk_cell BK139.out 2).trans rfl
                                            have hfz59_0 := blk_frozen BK139.out 0
                                            have hfz59_1 := blk_frozen BK139.out 1
                                            have hfz59_2 := blk_frozen BK139.out 2
                                            go_wp2_with (first | ((with_reducible refine gate_callee (f := 11) rfl ?_); refine goesL_ (some 102) rfl rfl Try.func11 (by kernel_rfl) rfl #[.agg #[.int .i64 ((rd_T23 y130 x34_1).f0), .int .i64 ((rd_T23 y130 x34_1).f1), .string ((rd_T23 y130 x34_1).f2)]] rfl (by (try simp only [List.map_toArray, List.map_cons, List.map_nil]); first | done | rfl | (simp only [List.length_drop, List.length_take]; rfl)) ?_; (with_reducible refine (rule_Right.calls ((rd_T23 y130 x34_1).f0) ((rd_T23 y130 x34_1).f1) ((rd_T23 y130 x34_1).f2) t147 _ A57.out).mono ?_); rintro e w60 ⟨rfl, hb⟩; refine ⟨_, rfl, ?_⟩; have n0_ := Aside0.mk (Kd.R_below (by (with_reducible repeat (first | apply Kd.R_alloc | apply Kd.R_drewN | apply Kd.R_drew)); exact HO_5.out) hb); have n1_ := Aside0.mk (Kd.R_below (by (with_reducible repeat (first | apply Kd.R_alloc | apply Kd.R_drewN | apply Kd.R_drew)); exact HO_32.out) hb); have n2_ := Aside0.mk (blk_below (g := gb139) (o := .cells #[.int .i64 ((rd_T23 y130 x34_1).f0), .int .i64 ((rd_T23 y130 x34_1).f1), .string ((rd_T23 y130 x34_1).f2)] 23 (0, 0)) (by (with_reducible repeat (first | refine blk_drewN ?_ _ | refine blk_drew ?_ | refine blk_alloc ?_ _)); exact BK139.out) hb); have n3_ := Aside0.mk (below_step (by repeat (first | (with_reducible first | exact HB.out | apply below_alloc | apply pw_below_drewN | apply below_drew1 | refine below_set ?_ GE139.out) | exact HB.out)) hb); clear HO_5; clear HO_32; clear BK139; clear HB; have HO_5 := n0_; have HO_32 := n1_; have BK139 := n2_; have HB := n3_; clear n0_ n1_ n2_ n3_; (try clear hb); (try clear hb2); (try clear hk); (try clear hi)))
                                            go_ret
                                            exact ⟨by first | rfl | (simp [errW_none, errW_some] <;> rfl) | (simp only [← hji3, ← hji7]; first | rfl | (simp [errW_none, errW_some] <;> rfl)) | (simp [*, errW_none, errW_some] <;> rfl), by repeat (first | (with_reducible first | exact HB.out | apply below_alloc | apply pw_below_drewN | apply below_drew1 | refine below_set ?_ GE139.out) | exact HB.out)⟩
                                          · rw [if_neg c58] at H
                                            have c58b0 : (t147 != false) = false := by simpa using c58
                                            (try (have c58b1 : decide (t147 = false) = true := by simpa using c58))
                                            (try (have c58b2 : (t147 == false) = true := by simpa using c58))
                                            clear c58
                                            have H' := Aside0.mk H
                                            clear H
                                            have hcz61_0 : wc.cell? ⟨gb139, 0, none⟩ = some (.int .i64 ((rd_T23 y130 x34_1).f0)) := (blk_cell BK139.out 0).trans rfl
                                            have hcz61_1 : wc.cell? ⟨gb139, 1, none⟩ = some (.int .i64 ((rd_T23 y130 x34_1).f1)) := (blk_cell BK139.out 1).trans rfl
                                            have hcz61_2 : wc.cell? ⟨gb139, 2, none⟩ = some (.string ((rd_T23 y130 x34_1).f2)) := (blk_cell BK139.out 2).trans rfl
                                            have hfz61_0 := blk_frozen BK139.out 0
                                            have hfz61_1 := blk_frozen BK139.out 1
                                            have hfz61_2 := blk_frozen BK139.out 2
                                            go_wp2_with (first | ((with_reducible refine gate_callee (f := 11) rfl ?_); refine goesL_ (some 102) rfl rfl Try.func11 (by kernel_rfl) rfl #[.agg #[.int .i64 ((rd_T23 y130 x34_1).f0), .int .i64 ((rd_T23 y130 x34_1).f1), .string ((rd_T23 y130 x34_1).f2)]] rfl (by (try simp only [List.map_toArray, List.map_cons, List.map_nil]); first | done | rfl | (simp only [List.length_drop, List.length_take]; rfl)) ?_; (with_reducible refine (rule_Right.calls ((rd_T23 y130 x34_1).f0) ((rd_T23 y130 x34_1).f1) ((rd_T23 y130 x34_1).f2) t147 _ A57.out).mono ?_); rintro e w62 ⟨rfl, hb⟩; refine ⟨_, rfl, ?_⟩; have n0_ := Aside0.mk (Kd.R_below (by (with_reducible repeat (first | apply Kd.R_alloc | apply Kd.R_drewN | apply Kd.R_drew)); exact HO_5.out) hb); have n1_ := Aside0.mk (Kd.R_below (by (with_reducible repeat (first | apply Kd.R_alloc | apply Kd.R_drewN | apply Kd.R_drew)); exact HO_32.out) hb); have n2_ := Aside0.mk (blk_below (g := gb139) (o := .cells #[.int .i64 ((rd_T23 y130 x34_1).f0), .int .i64 ((rd_T23 y130 x34_1).f1), .string ((rd_T23 y130 x34_1).f2)] 23 (0, 0)) (by (with_reducible repeat (first | refine blk_drewN ?_ _ | refine blk_drew ?_ | refine blk_alloc ?_ _)); exact BK139.out) hb); have n3_ := Aside0.mk (below_step (by repeat (first | (with_reducible first | exact HB.out | apply below_alloc | apply pw_below_drewN | apply below_drew1 | refine below_set ?_ GE139.out) | exact HB.out)) hb); clear HO_5; clear HO_32; clear BK139; clear HB; have HO_5 := n0_; have HO_32 := n1_; have BK139 := n2_; have HB := n3_; clear n0_ n1_ n2_ n3_; (try clear hb); (try clear hb2); (try clear hk); (try clear hi)))
                                            go_roundg kj29
                                            case measure => have := HK1.out; have := HJ21.out; have := HJ29.out; omega
                                            case rel => exact ⟨(t142), (t143), (x34_1), (wrap64 (x34_1 + 1)), (by first | rfl | (simp; done) | (simp [*]; done)), (by first | rfl | (simp; done) | (simp [*]; done)), (by first | rfl | (simp; done) | (simp [*]; done)), (by first | rfl | (simp; done) | (simp [*]; done)), H', ⟨by have := HK1.out; have := HJ21.out; have := HJ29.out; omega⟩, ⟨by (with_reducible repeat (first | apply Kd.R_alloc | apply Kd.R_drewN | apply Kd.R_drew)); exact Kd.R_mono HO_5.out (fun _ hk => trivial)⟩, ⟨by (with_reducible repeat (first | apply Kd.R_alloc | apply Kd.R_drewN | apply Kd.R_drew)); exact Kd.R_mono HO_32.out (fun _ hk => trivial)⟩, ⟨by repeat (first | (with_reducible first | exact HB.out | apply below_alloc | apply pw_below_drewN | apply below_drew1 | refine below_set ?_ GE139.out) | exact HB.out)⟩⟩
                                      · rw [if_neg c35] at H
                                        have c35b0 : decide (0 ≤ ((rd_T23 y130 x34_1).f1)) = false := decide_eq_false c35
                                        clear c35
                                        replace H := Option.bind_eq_some_iff.mp H
                                        obtain ⟨t148, A630, H⟩ := H
                                        replace H : (if (t148 != false) = true then (some false) else (porticolaw9_RuleTells.l0 kj29 y130 (l1.take ((ji7) : Int).toNat) t142 t143 x34_1 y130 (y130.length : Int) (wrap64 (x34_1 + 1)))) = some r := H
                                        have A63 := Aside0.mk A630
                                        clear A630
                                        by_cases c64 : (t148 != false) = true
                                        · rw [if_pos c64] at H
                                          have c64b0 : (t148 != false) = true := c64
                                          (try (have c64b1 : decide (t148 = false) = false := by simpa using c64))
                                          (try (have c64b2 : (t148 == false) = false := by simpa using c64))
                                          (try (have c64b3 : ¬ (t148 = false) := by simpa using c64))
                                          clear c64
                                          obtain rfl := Option.some.inj H
                                          have hcz65_0 : wc.cell? ⟨gb139, 0, none⟩ = some (.int .i64 ((rd_T23 y130 x34_1).f0)) := (blk_cell BK139.out 0).trans rfl
                                          have hcz65_1 : wc.cell? ⟨gb139, 1, none⟩ = some (.int .i64 ((rd_T23 y130 x34_1).f1)) := (blk_cell BK139.out 1).trans rfl
                                          have hcz65_2 : wc.cell? ⟨gb139, 2, none⟩ = some (.string ((rd_T23 y130 x34_1).f2)) := (blk_cell BK139.out 2).trans rfl
                                          have hfz65_0 := blk_frozen BK139.out 0
                                          have hfz65_1 := blk_frozen BK139.out 1
                                          have hfz65_2 := blk_frozen BK139.out 2
                                          go_wp2_with (first | ((with_reducible refine gate_callee (f := 11) rfl ?_); refine goesL_ (some 102) rfl rfl Try.func11 (by kernel_rfl) rfl #[.agg #[.int .i64 ((rd_T23 y130 x34_1).f0), .int .i64 ((rd_T23 y130 x34_1).f1), .string ((rd_T23 y130 x34_1).f2)]] rfl (by (try simp only [List.map_toArray, List.map_cons, List.map_nil]); first | done | rfl | (simp only [List.length_drop, List.length_take]; rfl)) ?_; (with_reducible refine (rule_Right.calls ((rd_T23 y130 x34_1).f0) ((rd_T23 y130 x34_1).f1) ((rd_T23 y130 x34_1).f2) t148 _ A63.out).mono ?_); rintro e w66 ⟨rfl, hb⟩; refine ⟨_, rfl, ?_⟩; have n0_ := Aside0.mk (Kd.R_below (by (with_reducible repeat (first | apply Kd.R_alloc | apply Kd.R_drewN | apply Kd.R_drew)); exact HO_5.out) hb); have n1_ := Aside0.mk (Kd.R_below (by (with_reducible repeat (first | apply Kd.R_alloc | apply Kd.R_drewN | apply Kd.R_drew)); exact HO_32.out) hb); have n2_ := Aside0.mk (blk_below (g := gb139) (o := .cells #[.int .i64 ((rd_T23 y130 x34_1).f0), .int .i64 ((rd_T23 y130 x34_1).f1), .string ((rd_T23 y130 x34_1).f2)] 23 (0, 0)) (by (with_reducible repeat (first | refine blk_drewN ?_ _ | refine blk_drew ?_ | refine blk_alloc ?_ _)); exact BK139.out) hb); have n3_ := Aside0.mk (below_step (by repeat (first | (with_reducible first | exact HB.out | apply below_alloc | apply pw_below_drewN | apply below_drew1 | refine below_set ?_ GE139.out) | exact HB.out)) hb); clear HO_5; clear HO_32; clear BK139; clear HB; have HO_5 := n0_; have HO_32 := n1_; have BK139 := n2_; have HB := n3_; clear n0_ n1_ n2_ n3_; (try clear hb); (try clear hb2); (try clear hk); (try clear hi)))
                                          go_ret
                                          exact ⟨by first | rfl | (simp [errW_none, errW_some] <;> rfl) | (simp only [← hji3, ← hji7]; first | rfl | (simp [errW_none, errW_some] <;> rfl)) | (simp [*, errW_none, errW_some] <;> rfl), by repeat (first | (with_reducible first | exact HB.out | apply below_alloc | apply pw_below_drewN | apply below_drew1 | refine below_set ?_ GE139.out) | exact HB.out)⟩
                                        · rw [if_neg c64] at H
                                          have c64b0 : (t148 != false) = false := by simpa using c64
                                          (try (have c64b1 : decide (t148 = false) = true := by simpa using c64))
                                          (try (have c64b2 : (t148 == false) = true := by simpa using c64))
                                          clear c64
                                          have H' := Aside0.mk H
                                          clear H
                                          have hcz67_0 : wc.cell? ⟨gb139, 0, none⟩ = some (.int .i64 ((rd_T23 y130 x34_1).f0)) := (blk_cell BK139.out 0).trans rfl
                                          have hcz67_1 : wc.cell? ⟨gb139, 1, none⟩ = some (.int .i64 ((rd_T23 y130 x34_1).f1)) := (blk_cell BK139.out 1).trans rfl
                                          have hcz67_2 : wc.cell? ⟨gb139, 2, none⟩ = some (.string ((rd_T23 y130 x34_1).f2)) := (blk_cell BK139.out 2).trans rfl
                                          have hfz67_0 := blk_frozen BK139.out 0
                                          have hfz67_1 := blk_frozen BK139.out 1
                                          have hfz67_2 := blk_frozen BK139.out 2
                                          go_wp2_with (first | ((with_reducible refine gate_callee (f := 11) rfl ?_); refine goesL_ (some 102) rfl rfl Try.func11 (by kernel_rfl) rfl #[.agg #[.int .i64 ((rd_T23 y130 x34_1).f0), .int .i64 ((rd_T23 y130 x34_1).f1), .string ((rd_T23 y130 x34_1).f2)]] rfl (by (try simp only [List.map_toArray, List.map_cons, List.map_nil]); first | done | rfl | (simp only [List.length_drop, List.length_take]; rfl)) ?_; (with_reducible refine (rule_Right.calls ((rd_T23 y130 x34_1).f0) ((rd_T23 y130 x34_1).f1) ((rd_T23 y130 x34_1).f2) t148 _ A63.out).mono ?_); rintro e w68 ⟨rfl, hb⟩; refine ⟨_, rfl, ?_⟩; have n0_ := Aside0.mk (Kd.R_below (by (with_reducible repeat (first | apply Kd.R_alloc | apply Kd.R_drewN | apply Kd.R_drew)); exact HO_5.out) hb); have n1_ := Aside0.mk (Kd.R_below (by (with_reducible repeat (first | apply Kd.R_alloc | apply Kd.R_drewN | apply Kd.R_drew)); exact HO_32.out) hb); have n2_ := Aside0.mk (blk_below (g := gb139) (o := .cells #[.int .i64 ((rd_T23 y130 x34_1).f0), .int .i64 ((rd_T23 y130 x34_1).f1), .string ((rd_T23 y130 x34_1).f2)] 23 (0, 0)) (by (with_reducible repeat (first | refine blk_drewN ?_ _ | refine blk_drew ?_ | refine blk_alloc ?_ _)); exact BK139.out) hb); have n3_ := Aside0.mk (below_step (by repeat (first | (with_reducible first | exact HB.out | apply below_alloc | apply pw_below_drewN | apply below_drew1 | refine below_set ?_ GE139.out) | exact HB.out)) hb); clear HO_5; clear HO_32; clear BK139; clear HB; have HO_5 := n0_; have HO_32 := n1_; have BK139 := n2_; have HB := n3_; clear n0_ n1_ n2_ n3_; (try clear hb); (try clear hb2); (try clear hk); (try clear hi)))
                                          go_roundg kj29
                                          case measure => have := HK1.out; have := HJ21.out; have := HJ29.out; omega
                                          case rel => exact ⟨(t142), (t143), (x34_1), (wrap64 (x34_1 + 1)), (by first | rfl | (simp; done) | (simp [*]; done)), (by first | rfl | (simp; done) | (simp [*]; done)), (by first | rfl | (simp; done) | (simp [*]; done)), (by first | rfl | (simp; done) | (simp [*]; done)), H', ⟨by have := HK1.out; have := HJ21.out; have := HJ29.out; omega⟩, ⟨by (with_reducible repeat (first | apply Kd.R_alloc | apply Kd.R_drewN | apply Kd.R_drew)); exact Kd.R_mono HO_5.out (fun _ hk => trivial)⟩, ⟨by (with_reducible repeat (first | apply Kd.R_alloc | apply Kd.R_drewN | apply Kd.R_drew)); exact Kd.R_mono HO_32.out (fun _ hk => trivial)⟩, ⟨by repeat (first | (with_reducible first | exact HB.out | apply below_alloc | apply pw_below_drewN | apply below_drew1 | refine below_set ?_ GE139.out) | exact HB.out)⟩⟩
                                    · rw [if_neg c34] at H
                                      have c34b0 : decide (((rd_T23 y130 x34_1).f0) ≤ 4) = false := decide_eq_false c34
                                      clear c34
                                      replace H := Option.bind_eq_some_iff.mp H
                                      obtain ⟨t149, A690, H⟩ := H
                                      replace H : (if (t149 != false) = true then (some false) else (porticolaw9_RuleTells.l0 kj29 y130 (l1.take ((ji7) : Int).toNat) t142 t143 x34_1 y130 (y130.length : Int) (wrap64 (x34_1 + 1)))) = some r := H
                                      have A69 := Aside0.mk A690
                                      clear A690
                                      by_cases c70 : (t149 != false) = true
                                      · rw [if_pos c70] at H
                                        have c70b0 : (t149 != false) = true := c70
                                        (try (have c70b1 : decide (t149 = false) = false := by simpa using c70))
                                        (try (have c70b2 : (t149 == false) = false := by simpa using c70))
                                        (try (have c70b3 : ¬ (t149 = false) := by simpa using c70))
                                        clear c70
                                        obtain rfl := Option.some.inj H
                                        have hcz71_0 : wc.cell? ⟨gb139, 0, none⟩ = some (.int .i64 ((rd_T23 y130 x34_1).f0)) := (blk_cell BK139.out 0).trans rfl
                                        have hcz71_1 : wc.cell? ⟨gb139, 1, none⟩ = some (.int .i64 ((rd_T23 y130 x34_1).f1)) := (blk_cell BK139.out 1).trans rfl
                                        have hcz71_2 : wc.cell? ⟨gb139, 2, none⟩ = some (.string ((rd_T23 y130 x34_1).f2)) := (blk_cell BK139.out 2).trans rfl
                                        have hfz71_0 := blk_frozen BK139.out 0
                                        have hfz71_1 := blk_frozen BK139.out 1
                                        have hfz71_2 := blk_frozen BK139.out 2
                                        go_wp2_with (first | ((with_reducible refine gate_callee (f := 11) rfl ?_); refine goesL_ (some 102) rfl rfl Try.func11 (by kernel_rfl) rfl #[.agg #[.int .i64 ((rd_T23 y130 x34_1).f0), .int .i64 ((rd_T23 y130 x34_1).f1), .string ((rd_T23 y130 x34_1).f2)]] rfl (by (try simp only [List.map_toArray, List.map_cons, List.map_nil]); first | done | rfl | (simp only [List.length_drop, List.length_take]; rfl)) ?_; (with_reducible refine (rule_Right.calls ((rd_T23 y130 x34_1).f0) ((rd_T23 y130 x34_1).f1) ((rd_T23 y130 x34_1).f2) t149 _ A69.out).mono ?_); rintro e w72 ⟨rfl, hb⟩; refine ⟨_, rfl, ?_⟩; have n0_ := Aside0.mk (Kd.R_below (by (with_reducible repeat (first | apply Kd.R_alloc | apply Kd.R_drewN | apply Kd.R_drew)); exact HO_5.out) hb); have n1_ := Aside0.mk (Kd.R_below (by (with_reducible repeat (first | apply Kd.R_alloc | apply Kd.R_drewN | apply Kd.R_drew)); exact HO_32.out) hb); have n2_ := Aside0.mk (blk_below (g := gb139) (o := .cells #[.int .i64 ((rd_T23 y130 x34_1).f0), .int .i64 ((rd_T23 y130 x34_1).f1), .string ((rd_T23 y130 x34_1).f2)] 23 (0, 0)) (by (with_reducible repeat (first | refine blk_drewN ?_ _ | refine blk_drew ?_ | refine blk_alloc ?_ _)); exact BK139.out) hb); have n3_ := Aside0.mk (below_step (by repeat (first | (with_reducible first | exact HB.out | apply below_alloc | apply pw_below_drewN | apply below_drew1 | refine below_set ?_ GE139.out) | exact HB.out)) hb); clear HO_5; clear HO_32; clear BK139; clear HB; have HO_5 := n0_; have HO_32 := n1_; have BK139 := n2_; have HB := n3_; clear n0_ n1_ n2_ n3_; (try clear hb); (try clear hb2); (try clear hk); (try clear hi)))
                                        go_ret
                                        exact ⟨by first | rfl | (simp [errW_none, errW_some] <;> rfl) | (simp only [← hji3, ← hji7]; first | rfl | (simp [errW_none, errW_some] <;> rfl)) | (simp [*, errW_none, errW_some] <;> rfl), by repeat (first | (with_reducible first | exact HB.out | apply below_alloc | apply pw_below_drewN | apply below_drew1 | refine below_set ?_ GE139.out) | exact HB.out)⟩
                                      · rw [if_neg c70] at H
                                        have c70b0 : (t149 != false) = false := by simpa using c70
                                        (try (have c70b1 : decide (t149 = false) = true := by simpa using c70))
                                        (try (have c70b2 : (t149 == false) = true := by simpa using c70))
                                        clear c70
                                        have H' := Aside0.mk H
                                        clear H
                                        have hcz73_0 : wc.cell? ⟨gb139, 0, none⟩ = some (.int .i64 ((rd_T23 y130 x34_1).f0)) := (blk_cell BK139.out 0).trans rfl
                                        have hcz73_1 : wc.cell? ⟨gb139, 1, none⟩ = some (.int .i64 ((rd_T23 y130 x34_1).f1)) := (blk_cell BK139.out 1).trans rfl
                                        have hcz73_2 : wc.cell? ⟨gb139, 2, none⟩ = some (.string ((rd_T23 y130 x34_1).f2)) := (blk_cell BK139.out 2).trans rfl
                                        have hfz73_0 := blk_frozen BK139.out 0
                                        have hfz73_1 := blk_frozen BK139.out 1
                                        have hfz73_2 := blk_frozen BK139.out 2
                                        go_wp2_with (first | ((with_reducible refine gate_callee (f := 11) rfl ?_); refine goesL_ (some 102) rfl rfl Try.func11 (by kernel_rfl) rfl #[.agg #[.int .i64 ((rd_T23 y130 x34_1).f0), .int .i64 ((rd_T23 y130 x34_1).f1), .string ((rd_T23 y130 x34_1).f2)]] rfl (by (try simp only [List.map_toArray, List.map_cons, List.map_nil]); first | done | rfl | (simp only [List.length_drop, List.length_take]; rfl)) ?_; (with_reducible refine (rule_Right.calls ((rd_T23 y130 x34_1).f0) ((rd_T23 y130 x34_1).f1) ((rd_T23 y130 x34_1).f2) t149 _ A69.out).mono ?_); rintro e w74 ⟨rfl, hb⟩; refine ⟨_, rfl, ?_⟩; have n0_ := Aside0.mk (Kd.R_below (by (with_reducible repeat (first | apply Kd.R_alloc | apply Kd.R_drewN | apply Kd.R_drew)); exact HO_5.out) hb); have n1_ := Aside0.mk (Kd.R_below (by (with_reducible repeat (first | apply Kd.R_alloc | apply Kd.R_drewN | apply Kd.R_drew)); exact HO_32.out) hb); have n2_ := Aside0.mk (blk_below (g := gb139) (o := .cells #[.int .i64 ((rd_T23 y130 x34_1).f0), .int .i64 ((rd_T23 y130 x34_1).f1), .string ((rd_T23 y130 x34_1).f2)] 23 (0, 0)) (by (with_reducible repeat (first | refine blk_drewN ?_ _ | refine blk_drew ?_ | refine blk_alloc ?_ _)); exact BK139.out) hb); have n3_ := Aside0.mk (below_step (by repeat (first | (with_reducible first | exact HB.out | apply below_alloc | apply pw_below_drewN | apply below_drew1 | refine below_set ?_ GE139.out) | exact HB.out)) hb); clear HO_5; clear HO_32; clear BK139; clear HB; have HO_5 := n0_; have HO_32 := n1_; have BK139 := n2_; have HB := n3_; clear n0_ n1_ n2_ n3_; (try clear hb); (try clear hb2); (try clear hk); (try clear hi)))
                                        go_roundg kj29
                                        case measure => have := HK1.out; have := HJ21.out; have := HJ29.out; omega
                                        case rel => exact ⟨(t142), (t143), (x34_1), (wrap64 (x34_1 + 1)), (by first | rfl | (simp; done) | (simp [*]; done)), (by first | rfl | (simp; done) | (simp [*]; done)), (by first | rfl | (simp; done) | (simp [*]; done)), (by first | rfl | (simp; done) | (simp [*]; done)), H', ⟨by have := HK1.out; have := HJ21.out; have := HJ29.out; omega⟩, ⟨by (with_reducible repeat (first | apply Kd.R_alloc | apply Kd.R_drewN | apply Kd.R_drew)); exact Kd.R_mono HO_5.out (fun _ hk => trivial)⟩, ⟨by (with_reducible repeat (first | apply Kd.R_alloc | apply Kd.R_drewN | apply Kd.R_drew)); exact Kd.R_mono HO_32.out (fun _ hk => trivial)⟩, ⟨by repeat (first | (with_reducible first | exact HB.out | apply below_alloc | apply pw_below_drewN | apply below_drew1 | refine below_set ?_ GE139.out) | exact HB.out)⟩⟩
                                  · rw [if_neg c33] at H
                                    have c33b0 : decide (0 ≤ ((rd_T23 y130 x34_1).f0)) = false := decide_eq_false c33
                                    clear c33
                                    replace H := Option.bind_eq_some_iff.mp H
                                    obtain ⟨t150, A750, H⟩ := H
                                    replace H : (if (t150 != false) = true then (some false) else (porticolaw9_RuleTells.l0 kj29 y130 (l1.take ((ji7) : Int).toNat) t142 t143 x34_1 y130 (y130.length : Int) (wrap64 (x34_1 + 1)))) = some r := H
                                    have A75 := Aside0.mk A750
                                    clear A750
                                    by_cases c76 : (t150 != false) = true
                                    · rw [if_pos c76] at H
                                      have c76b0 : (t150 != false) = true := c76
                                      (try (have c76b1 : decide (t150 = false) = false := by simpa using c76))
                                      (try (have c76b2 : (t150 == false) = false := by simpa using c76))
                                      (try (have c76b3 : ¬ (t150 = false) := by simpa using c76))
                                      clear c76
                                      obtain rfl := Option.some.inj H
                                      have hcz77_0 : wc.cell? ⟨gb139, 0, none⟩ = some (.int .i64 ((rd_T23 y130 x34_1).f0)) := (blk_cell BK139.out 0).trans rfl
                                      have hcz77_1 : wc.cell? ⟨gb139, 1, none⟩ = some (.int .i64 ((rd_T23 y130 x34_1).f1)) := (blk_cell BK139.out 1).trans rfl
                                      have hcz77_2 : wc.cell? ⟨gb139, 2, none⟩ = some (.string ((rd_T23 y130 x34_1).f2)) := (blk_cell BK139.out 2).trans rfl
                                      have hfz77_0 := blk_frozen BK139.out 0
                                      have hfz77_1 := blk_frozen BK139.out 1
                                      have hfz77_2 := blk_frozen BK139.out 2
                                      go_wp2_with (first | ((with_reducible refine gate_callee (f := 11) rfl ?_); refine goesL_ (some 102) rfl rfl Try.func11 (by kernel_rfl) rfl #[.agg #[.int .i64 ((rd_T23 y130 x34_1).f0), .int .i64 ((rd_T23 y130 x34_1).f1), .string ((rd_T23 y130 x34_1).f2)]] rfl (by (try simp only [List.map_toArray, List.map_cons, List.map_nil]); first | done | rfl | (simp only [List.length_drop, List.length_take]; rfl)) ?_; (with_reducible refine (rule_Right.calls ((rd_T23 y130 x34_1).f0) ((rd_T23 y130 x34_1).f1) ((rd_T23 y130 x34_1).f2) t150 _ A75.out).mono ?_); rintro e w78 ⟨rfl, hb⟩; refine ⟨_, rfl, ?_⟩; have n0_ := Aside0.mk (Kd.R_below (by (with_reducible repeat (first | apply Kd.R_alloc | apply Kd.R_drewN | apply Kd.R_drew)); exact HO_5.out) hb); have n1_ := Aside0.mk (Kd.R_below (by (with_reducible repeat (first | apply Kd.R_alloc | apply Kd.R_drewN | apply Kd.R_drew)); exact HO_32.out) hb); have n2_ := Aside0.mk (blk_below (g := gb139) (o := .cells #[.int .i64 ((rd_T23 y130 x34_1).f0), .int .i64 ((rd_T23 y130 x34_1).f1), .string ((rd_T23 y130 x34_1).f2)] 23 (0, 0)) (by (with_reducible repeat (first | refine blk_drewN ?_ _ | refine blk_drew ?_ | refine blk_alloc ?_ _)); exact BK139.out) hb); have n3_ := Aside0.mk (below_step (by repeat (first | (with_reducible first | exact HB.out | apply below_alloc | apply pw_below_drewN | apply below_drew1 | refine below_set ?_ GE139.out) | exact HB.out)) hb); clear HO_5; clear HO_32; clear BK139; clear HB; have HO_5 := n0_; have HO_32 := n1_; have BK139 := n2_; have HB := n3_; clear n0_ n1_ n2_ n3_; (try clear hb); (try clear hb2); (try clear hk); (try clear hi)))
                                      go_ret
                                      exact ⟨by first | rfl | (simp [errW_none, errW_some] <;> rfl) | (simp only [← hji3, ← hji7]; first | rfl | (simp [errW_none, errW_some] <;> rfl)) | (simp [*, errW_none, errW_some] <;> rfl), by repeat (first | (with_reducible first | exact HB.out | apply below_alloc | apply pw_below_drewN | apply below_drew1 | refine below_set ?_ GE139.out) | exact HB.out)⟩
                                    · rw [if_neg c76] at H
                                      have c76b0 : (t150 != false) = false := by simpa using c76
                                      (try (have c76b1 : decide (t150 = false) = true := by simpa using c76))
                                      (try (have c76b2 : (t150 == false) = true := by simpa using c76))
                                      clear c76
                                      have H' := Aside0.mk H
                                      clear H
                                      have hcz79_0 : wc.cell? ⟨gb139, 0, none⟩ = some (.int .i64 ((rd_T23 y130 x34_1).f0)) := (blk_cell BK139.out 0).trans rfl
                                      have hcz79_1 : wc.cell? ⟨gb139, 1, none⟩ = some (.int .i64 ((rd_T23 y130 x34_1).f1)) := (blk_cell BK139.out 1).trans rfl
                                      have hcz79_2 : wc.cell? ⟨gb139, 2, none⟩ = some (.string ((rd_T23 y130 x34_1).f2)) := (blk_cell BK139.out 2).trans rfl
                                      have hfz79_0 := blk_frozen BK139.out 0
                                      have hfz79_1 := blk_frozen BK139.out 1
                                      have hfz79_2 := blk_frozen BK139.out 2
                                      go_wp2_with (first | ((with_reducible refine gate_callee (f := 11) rfl ?_); refine goesL_ (some 102) rfl rfl Try.func11 (by kernel_rfl) rfl #[.agg #[.int .i64 ((rd_T23 y130 x34_1).f0), .int .i64 ((rd_T23 y130 x34_1).f1), .string ((rd_T23 y130 x34_1).f2)]] rfl (by (try simp only [List.map_toArray, List.map_cons, List.map_nil]); first | done | rfl | (simp only [List.length_drop, List.length_take]; rfl)) ?_; (with_reducible refine (rule_Right.calls ((rd_T23 y130 x34_1).f0) ((rd_T23 y130 x34_1).f1) ((rd_T23 y130 x34_1).f2) t150 _ A75.out).mono ?_); rintro e w80 ⟨rfl, hb⟩; refine ⟨_, rfl, ?_⟩; have n0_ := Aside0.mk (Kd.R_below (by (with_reducible repeat (first | apply Kd.R_alloc | apply Kd.R_drewN | apply Kd.R_drew)); exact HO_5.out) hb); have n1_ := Aside0.mk (Kd.R_below (by (with_reducible repeat (first | apply Kd.R_alloc | apply Kd.R_drewN | apply Kd.R_drew)); exact HO_32.out) hb); have n2_ := Aside0.mk (blk_below (g := gb139) (o := .cells #[.int .i64 ((rd_T23 y130 x34_1).f0), .int .i64 ((rd_T23 y130 x34_1).f1), .string ((rd_T23 y130 x34_1).f2)] 23 (0, 0)) (by (with_reducible repeat (first | refine blk_drewN ?_ _ | refine blk_drew ?_ | refine blk_alloc ?_ _)); exact BK139.out) hb); have n3_ := Aside0.mk (below_step (by repeat (first | (with_reducible first | exact HB.out | apply below_alloc | apply pw_below_drewN | apply below_drew1 | refine below_set ?_ GE139.out) | exact HB.out)) hb); clear HO_5; clear HO_32; clear BK139; clear HB; have HO_5 := n0_; have HO_32 := n1_; have BK139 := n2_; have HB := n3_; clear n0_ n1_ n2_ n3_; (try clear hb); (try clear hb2); (try clear hk); (try clear hi)))
                                      go_roundg kj29
                                      case measure => have := HK1.out; have := HJ21.out; have := HJ29.out; omega
                                      case rel => exact ⟨(t142), (t143), (x34_1), (wrap64 (x34_1 + 1)), (by first | rfl | (simp; done) | (simp [*]; done)), (by first | rfl | (simp; done) | (simp [*]; done)), (by first | rfl | (simp; done) | (simp [*]; done)), (by first | rfl | (simp; done) | (simp [*]; done)), H', ⟨by have := HK1.out; have := HJ21.out; have := HJ29.out; omega⟩, ⟨by (with_reducible repeat (first | apply Kd.R_alloc | apply Kd.R_drewN | apply Kd.R_drew)); exact Kd.R_mono HO_5.out (fun _ hk => trivial)⟩, ⟨by (with_reducible repeat (first | apply Kd.R_alloc | apply Kd.R_drewN | apply Kd.R_drew)); exact Kd.R_mono HO_32.out (fun _ hk => trivial)⟩, ⟨by repeat (first | (with_reducible first | exact HB.out | apply below_alloc | apply pw_below_drewN | apply below_drew1 | refine below_set ?_ GE139.out) | exact HB.out)⟩⟩
                                · replace c32 := Bool.eq_false_iff.mpr c32
                                  subst c32
                                  have H1 : (if ((rd_T23 y130 x34_1).f0) ≥ 0 then (if ((rd_T23 y130 x34_1).f0) ≤ 4 then (if ((rd_T23 y130 x34_1).f1) ≥ 0 then (if ((rd_T23 y130 x34_1).f1) < 8 then (if ((rd_T23 y130 x34_1).f2).toList = ([] : List UInt8) then ((rule_Right.f ((rd_T23 y130 x34_1).f0) ((rd_T23 y130 x34_1).f1) ((rd_T23 y130 x34_1).f2)).bind fun t151 => (if (t151 != true) = true then (some false) else (porticolaw9_RuleTells.l0 kj29 y130 (l1.take ((ji7) : Int).toNat) x7_1 x8_1 x9_1 y130 (y130.length : Int) (wrap64 (x34_1 + 1))))) else (if ((rd_T23 y130 x34_1).f0) = 3 then ((rule_Right.f ((rd_T23 y130 x34_1).f0) ((rd_T23 y130 x34_1).f1) ((rd_T23 y130 x34_1).f2)).bind fun t152 => (if (t152 != true) = true then (some false) else (porticolaw9_RuleTells.l0 kj29 y130 (l1.take ((ji7) : Int).toNat) x7_1 x8_1 x9_1 y130 (y130.length : Int) (wrap64 (x34_1 + 1))))) else ((rule_Right.f ((rd_T23 y130 x34_1).f0) ((rd_T23 y130 x34_1).f1) ((rd_T23 y130 x34_1).f2)).bind fun t153 => (if (t153 != (((rd_T23 y130 x34_1).f0) == 4)) = true then (some false) else (porticolaw9_RuleTells.l0 kj29 y130 (l1.take ((ji7) : Int).toNat) x7_1 x8_1 x9_1 y130 (y130.length : Int) (wrap64 (x34_1 + 1))))))) else ((rule_Right.f ((rd_T23 y130 x34_1).f0) ((rd_T23 y130 x34_1).f1) ((rd_T23 y130 x34_1).f2)).bind fun t154 => (if (t154 != false) = true then (some false) else (porticolaw9_RuleTells.l0 kj29 y130 (l1.take ((ji7) : Int).toNat) x7_1 x8_1 x9_1 y130 (y130.length : Int) (wrap64 (x34_1 + 1)))))) else ((rule_Right.f ((rd_T23 y130 x34_1).f0) ((rd_T23 y130 x34_1).f1) ((rd_T23 y130 x34_1).f2)).bind fun t155 => (if (t155 != false) = true then (some false) else (porticolaw9_RuleTells.l0 kj29 y130 (l1.take ((ji7) : Int).toNat) x7_1 x8_1 x9_1 y130 (y130.length : Int) (wrap64 (x34_1 + 1)))))) else ((rule_Right.f ((rd_T23 y130 x34_1).f0) ((rd_T23 y130 x34_1).f1) ((rd_T23 y130 x34_1).f2)).bind fun t156 => (if (t156 != false) = true then (some false) else (porticolaw9_RuleTells.l0 kj29 y130 (l1.take ((ji7) : Int).toNat) x7_1 x8_1 x9_1 y130 (y130.length : Int) (wrap64 (x34_1 + 1)))))) else ((rule_Right.f ((rd_T23 y130 x34_1).f0) ((rd_T23 y130 x34_1).f1) ((rd_T23 y130 x34_1).f2)).bind fun t157 => (if (t157 != false) = true then (some false) else (porticolaw9_RuleTells.l0 kj29 y130 (l1.take ((ji7) : Int).toNat) x7_1 x8_1 x9_1 y130 (y130.length : Int) (wrap64 (x34_1 + 1)))))) = some r := by rw [if_neg (show ¬ (false = true) by decide)] at H; exact H
                                  clear H
                                  have H := H1
                                  clear H1
                                  by_cases c81 : ((rd_T23 y130 x34_1).f0) ≥ 0
                                  · rw [if_pos c81] at H
                                    have c81b0 : decide (0 ≤ ((rd_T23 y130 x34_1).f0)) = true := decide_eq_true c81
                                    clear c81
                                    by_cases c82 : ((rd_T23 y130 x34_1).f0) ≤ 4
                                    · rw [if_pos c82] at H
                                      have c82b0 : decide (((rd_T23 y130 x34_1).f0) ≤ 4) = true := decide_eq_true c82
                                      clear c82
                                      by_cases c83 : ((rd_T23 y130 x34_1).f1) ≥ 0
                                      · rw [if_pos c83] at H
                                        have c83b0 : decide (0 ≤ ((rd_T23 y130 x34_1).f1)) = true := decide_eq_true c83
                                        clear c83
                                        by_cases c84 : ((rd_T23 y130 x34_1).f1) < 8
                                        · rw [if_pos c84] at H
                                          have c84b0 : decide (((rd_T23 y130 x34_1).f1) < 8) = true := decide_eq_true c84
                                          clear c84
                                          by_cases c85 : ((rd_T23 y130 x34_1).f2).toList = ([] : List UInt8)
                                          · rw [if_pos c85] at H
                                            have c85b0 : (((rd_T23 y130 x34_1).f2).toList == ([] : List UInt8)) = true := beq_iff_eq.mpr c85
                                            have c85b1 : (((rd_T23 y130 x34_1).f2).toList != ([] : List UInt8)) = false := bne_eq_false_iff_eq.mpr c85
                                            clear c85
                                            replace H := Option.bind_eq_some_iff.mp H
                                            obtain ⟨t151, A860, H⟩ := H
                                            replace H : (if (t151 != true) = true then (some false) else (porticolaw9_RuleTells.l0 kj29 y130 (l1.take ((ji7) : Int).toNat) x7_1 x8_1 x9_1 y130 (y130.length : Int) (wrap64 (x34_1 + 1)))) = some r := H
                                            have A86 := Aside0.mk A860
                                            clear A860
                                            by_cases c87 : (t151 != true) = true
                                            · rw [if_pos c87] at H
                                              have c87b0 : (t151 != true) = true := c87
                                              (try (have c87b1 : decide (t151 = true) = false := by simpa using c87))
                                              (try (have c87b2 : (t151 == true) = false := by simpa using c87))
                                              (try (have c87b3 : ¬ (t151 = true) := by simpa using c87))
                                              clear c87
                                              obtain rfl := Option.some.inj H
                                              have hcz88_0 : wc.cell? ⟨gb139, 0, none⟩ = some (.int .i64 ((rd_T23 y130 x34_1).f0)) := (blk_cell BK139.out 0).trans rfl
                                              have hcz88_1 : wc.cell? ⟨gb139, 1, none⟩ = some (.int .i64 ((rd_T23 y130 x34_1).f1)) := (blk_cell BK139.out 1).trans rfl
                                              have hcz88_2 : wc.cell? ⟨gb139, 2, none⟩ = some (.string ((rd_T23 y130 x34_1).f2)) := (blk_cell BK139.out 2).trans rfl
                                              have hfz88_0 := blk_frozen BK139.out 0
                                              have hfz88_1 := blk_frozen BK139.out 1
                                              have hfz88_2 := blk_frozen BK139.out 2
                                              go_wp2_with (first | ((with_reducible refine gate_callee (f := 11) rfl ?_); refine goesL_ (some 102) rfl rfl Try.func11 (by kernel_rfl) rfl #[.agg #[.int .i64 ((rd_T23 y130 x34_1).f0), .int .i64 ((rd_T23 y130 x34_1).f1), .string ((rd_T23 y130 x34_1).f2)]] rfl (by (try simp only [List.map_toArray, List.map_cons, List.map_nil]); first | done | rfl | (simp only [List.length_drop, List.length_take]; rfl)) ?_; (with_reducible refine (rule_Right.calls ((rd_T23 y130 x34_1).f0) ((rd_T23 y130 x34_1).f1) ((rd_T23 y130 x34_1).f2) t151 _ A86.out).mono ?_); rintro e w89 ⟨rfl, hb⟩; refine ⟨_, rfl, ?_⟩; have n0_ := Aside0.mk (Kd.R_below (by (with_reducible repeat (first | apply Kd.R_alloc | apply Kd.R_drewN | apply Kd.R_drew)); exact HO_5.out) hb); have n1_ := Aside0.mk (Kd.R_below (by (with_reducible repeat (first | apply Kd.R_alloc | apply Kd.R_drewN | apply Kd.R_drew)); exact HO_32.out) hb); have n2_ := Aside0.mk (blk_below (g := gb139) (o := .cells #[.int .i64 ((rd_T23 y130 x34_1).f0), .int .i64 ((rd_T23 y130 x34_1).f1), .string ((rd_T23 y130 x34_1).f2)] 23 (0, 0)) (by (with_reducible repeat (first | refine blk_drewN ?_ _ | refine blk_drew ?_ | refine blk_alloc ?_ _)); exact BK139.out) hb); have n3_ := Aside0.mk (below_step (by repeat (first | (with_reducible first | exact HB.out | apply below_alloc | apply pw_below_drewN | apply below_drew1 | refine below_set ?_ GE139.out) | exact HB.out)) hb); clear HO_5; clear HO_32; clear BK139; clear HB; have HO_5 := n0_; have HO_32 := n1_; have BK139 := n2_; have HB := n3_; clear n0_ n1_ n2_ n3_; (try clear hb); (try clear hb2); (try clear hk); (try clear hi)))
                                              go_ret
                                              exact ⟨by first | rfl | (simp [errW_none, errW_some] <;> rfl) | (simp only [← hji3, ← hji7]; first | rfl | (simp [errW_none, errW_some] <;> rfl)) | (simp [*, errW_none, errW_some] <;> rfl), by repeat (first | (with_reducible first | exact HB.out | apply below_alloc | apply pw_below_drewN | apply below_drew1 | refine below_set ?_ GE139.out) | exact HB.out)⟩
                                            · rw [if_neg c87] at H
                                              have c87b0 : (t151 != true) = false := by simpa using c87
                                              (try (have c87b1 : decide (t151 = true) = true := by simpa using c87))
                                              (try (have c87b2 : (t151 == true) = true := by simpa using c87))
                                              clear c87
                                              have H' := Aside0.mk H
                                              clear H
                                              have hcz90_0 : wc.cell? ⟨gb139, 0, none⟩ = some (.int .i64 ((rd_T23 y130 x34_1).f0)) := (blk_cell BK139.out 0).trans rfl
                                              have hcz90_1 : wc.cell? ⟨gb139, 1, none⟩ = some (.int .i64 ((rd_T23 y130 x34_1).f1)) := (blk_cell BK139.out 1).trans rfl
                                              have hcz90_2 : wc.cell? ⟨gb139, 2, none⟩ = some (.string ((rd_T23 y130 x34_1).f2)) := (blk_cell BK139.out 2).trans rfl
                                              have hfz90_0 := blk_frozen BK139.out 0
                                              have hfz90_1 := blk_frozen BK139.out 1
                                              have hfz90_2 := blk_frozen BK139.out 2
                                              go_wp2_with (first | ((with_reducible refine gate_callee (f := 11) rfl ?_); refine goesL_ (some 102) rfl rfl Try.func11 (by kernel_rfl) rfl #[.agg #[.int .i64 ((rd_T23 y130 x34_1).f0), .int .i64 ((rd_T23 y130 x34_1).f1), .string ((rd_T23 y130 x34_1).f2)]] rfl (by (try simp only [List.map_toArray, List.map_cons, List.map_nil]); first | done | rfl | (simp only [List.length_drop, List.length_take]; rfl)) ?_; (with_reducible refine (rule_Right.calls ((rd_T23 y130 x34_1).f0) ((rd_T23 y130 x34_1).f1) ((rd_T23 y130 x34_1).f2) t151 _ A86.out).mono ?_); rintro e w91 ⟨rfl, hb⟩; refine ⟨_, rfl, ?_⟩; have n0_ := Aside0.mk (Kd.R_below (by (with_reducible repeat (first | apply Kd.R_alloc | apply Kd.R_drewN | apply Kd.R_drew)); exact HO_5.out) hb); have n1_ := Aside0.mk (Kd.R_below (by (with_reducible repeat (first | apply Kd.R_alloc | apply Kd.R_drewN | apply Kd.R_drew)); exact HO_32.out) hb); have n2_ := Aside0.mk (blk_below (g := gb139) (o := .cells #[.int .i64 ((rd_T23 y130 x34_1).f0), .int .i64 ((rd_T23 y130 x34_1).f1), .string ((rd_T23 y130 x34_1).f2)] 23 (0, 0)) (by (with_reducible repeat (first | refine blk_drewN ?_ _ | refine blk_drew ?_ | refine blk_alloc ?_ _)); exact BK139.out) hb); have n3_ := Aside0.mk (below_step (by repeat (first | (with_reducible first | exact HB.out | apply below_alloc | apply pw_below_drewN | apply below_drew1 | refine below_set ?_ GE139.out) | exact HB.out)) hb); clear HO_5; clear HO_32; clear BK139; clear HB; have HO_5 := n0_; have HO_32 := n1_; have BK139 := n2_; have HB := n3_; clear n0_ n1_ n2_ n3_; (try clear hb); (try clear hb2); (try clear hk); (try clear hi)))
                                              go_roundg kj29
                                              case measure => have := HK1.out; have := HJ21.out; have := HJ29.out; omega
                                              case rel => exact ⟨(x7_1), (x8_1), (x9_1), (wrap64 (x34_1 + 1)), (by first | rfl | (simp; done) | (simp [*]; done)), (by first | rfl | (simp; done) | (simp [*]; done)), (by first | rfl | (simp; done) | (simp [*]; done)), (by first | rfl | (simp; done) | (simp [*]; done)), H', ⟨by have := HK1.out; have := HJ21.out; have := HJ29.out; omega⟩, ⟨by (with_reducible repeat (first | apply Kd.R_alloc | apply Kd.R_drewN | apply Kd.R_drew)); exact Kd.R_mono HO_5.out (fun _ hk => trivial)⟩, ⟨by (with_reducible repeat (first | apply Kd.R_alloc | apply Kd.R_drewN | apply Kd.R_drew)); exact Kd.R_mono HO_32.out (fun _ hk => trivial)⟩, ⟨by repeat (first | (with_reducible first | exact HB.out | apply below_alloc | apply pw_below_drewN | apply below_drew1 | refine below_set ?_ GE139.out) | exact HB.out)⟩⟩
                                          · rw [if_neg c85] at H
                                            have c85b0 : (((rd_T23 y130 x34_1).f2).toList == ([] : List UInt8)) = false := beq_eq_false_iff_ne.mpr c85
                                            have c85b1 : (((rd_T23 y130 x34_1).f2).toList != ([] : List UInt8)) = true := bne_iff_ne.mpr c85
                                            by_cases c92 : ((rd_T23 y130 x34_1).f0) = 3
                                            · rw [if_pos c92] at H
                                              have c92b0 : (((rd_T23 y130 x34_1).f0) == 3) = true := beq_iff_eq.mpr c92
                                              have c92b1 : (((rd_T23 y130 x34_1).f0) != 3) = false := bne_eq_false_iff_eq.mpr c92
                                              clear c92
                                              replace H := Option.bind_eq_some_iff.mp H
                                              obtain ⟨t152, A930, H⟩ := H
                                              replace H : (if (t152 != true) = true then (some false) else (porticolaw9_RuleTells.l0 kj29 y130 (l1.take ((ji7) : Int).toNat) x7_1 x8_1 x9_1 y130 (y130.length : Int) (wrap64 (x34_1 + 1)))) = some r := H
                                              have A93 := Aside0.mk A930
                                              clear A930
                                              by_cases c94 : (t152 != true) = true
                                              · rw [if_pos c94] at H
                                                have c94b0 : (t152 != true) = true := c94
                                                (try (have c94b1 : decide (t152 = true) = false := by simpa using c94))
                                                (try (have c94b2 : (t152 == true) = false := by simpa using c94))
                                                (try (have c94b3 : ¬ (t152 = true) := by simpa using c94))
                                                clear c94
                                                obtain rfl := Option.some.inj H
                                                have hcz95_0 : wc.cell? ⟨gb139, 0, none⟩ = some (.int .i64 ((rd_T23 y130 x34_1).f0)) := (blk_cell BK139.out 0).trans rfl
                                                have hcz95_1 : wc.cell? ⟨gb139, 1, none⟩ = some (.int .i64 ((rd_T23 y130 x34_1).f1)) := (blk_cell BK139.out 1).trans rfl
                                                have hcz95_2 : wc.cell? ⟨gb139, 2, none⟩ = some (.string ((rd_T23 y130 x34_1).f2)) := (blk_cell BK139.out 2).trans rfl
                                                have hfz95_0 := blk_frozen BK139.out 0
                                                have hfz95_1 := blk_frozen BK139.out 1
                                                have hfz95_2 := blk_frozen BK139.out 2
                                                go_wp2_with (first | ((with_reducible refine gate_callee (f := 11) rfl ?_); refine goesL_ (some 102) rfl rfl Try.func11 (by kernel_rfl) rfl #[.agg #[.int .i64 ((rd_T23 y130 x34_1).f0), .int .i64 ((rd_T23 y130 x34_1).f1), .string ((rd_T23 y130 x34_1).f2)]] rfl (by (try simp only [List.map_toArray, List.map_cons, List.map_nil]); first | done | rfl | (simp only [List.length_drop, List.length_take]; rfl)) ?_; (with_reducible refine (rule_Right.calls ((rd_T23 y130 x34_1).f0) ((rd_T23 y130 x34_1).f1) ((rd_T23 y130 x34_1).f2) t152 _ A93.out).mono ?_); rintro e w96 ⟨rfl, hb⟩; refine ⟨_, rfl, ?_⟩; have n0_ := Aside0.mk (Kd.R_below (by (with_reducible repeat (first | apply Kd.R_alloc | apply Kd.R_drewN | apply Kd.R_drew)); exact HO_5.out) hb); have n1_ := Aside0.mk (Kd.R_below (by (with_reducible repeat (first | apply Kd.R_alloc | apply Kd.R_drewN | apply Kd.R_drew)); exact HO_32.out) hb); have n2_ := Aside0.mk (blk_below (g := gb139) (o := .cells #[.int .i64 ((rd_T23 y130 x34_1).f0), .int .i64 ((rd_T23 y130 x34_1).f1), .string ((rd_T23 y130 x34_1).f2)] 23 (0, 0)) (by (with_reducible repeat (first | refine blk_drewN ?_ _ | refine blk_drew ?_ | refine blk_alloc ?_ _)); exact BK139.out) hb); have n3_ := Aside0.mk (below_step (by repeat (first | (with_reducible first | exact HB.out | apply below_alloc | apply pw_below_drewN | apply below_drew1 | refine below_set ?_ GE139.out) | exact HB.out)) hb); clear HO_5; clear HO_32; clear BK139; clear HB; have HO_5 := n0_; have HO_32 := n1_; have BK139 := n2_; have HB := n3_; clear n0_ n1_ n2_ n3_; (try clear hb); (try clear hb2); (try clear hk); (try clear hi)))
                                                go_ret
                                                exact ⟨by first | rfl | (simp [errW_none, errW_some] <;> rfl) | (simp only [← hji3, ← hji7]; first | rfl | (simp [errW_none, errW_some] <;> rfl)) | (simp [*, errW_none, errW_some] <;> rfl), by repeat (first | (with_reducible first | exact HB.out | apply below_alloc | apply pw_below_drewN | apply below_drew1 | refine below_set ?_ GE139.out) | exact HB.out)⟩
                                              · rw [if_neg c94] at H
                                                have c94b0 : (t152 != true) = false := by simpa using c94
                                                (try (have c94b1 : decide (t152 = true) = true := by simpa using c94))
                                                (try (have c94b2 : (t152 == true) = true := by simpa using c94))
                                                clear c94
                                                have H' := Aside0.mk H
                                                clear H
                                                have hcz97_0 : wc.cell? ⟨gb139, 0, none⟩ = some (.int .i64 ((rd_T23 y130 x34_1).f0)) := (blk_cell BK139.out 0).trans rfl
                                                have hcz97_1 : wc.cell? ⟨gb139, 1, none⟩ = some (.int .i64 ((rd_T23 y130 x34_1).f1)) := (blk_cell BK139.out 1).trans rfl
                                                have hcz97_2 : wc.cell? ⟨gb139, 2, none⟩ = some (.string ((rd_T23 y130 x34_1).f2)) := (blk_cell BK139.out 2).trans rfl
                                                have hfz97_0 := blk_frozen BK139.out 0
                                                have hfz97_1 := blk_frozen BK139.out 1
                                                have hfz97_2 := blk_frozen BK139.out 2
                                                go_wp2_with (first | ((with_reducible refine gate_callee (f := 11) rfl ?_); refine goesL_ (some 102) rfl rfl Try.func11 (by kernel_rfl) rfl #[.agg #[.int .i64 ((rd_T23 y130 x34_1).f0), .int .i64 ((rd_T23 y130 x34_1).f1), .string ((rd_T23 y130 x34_1).f2)]] rfl (by (try simp only [List.map_toArray, List.map_cons, List.map_nil]); first | done | rfl | (simp only [List.length_drop, List.length_take]; rfl)) ?_; (with_reducible refine (rule_Right.calls ((rd_T23 y130 x34_1).f0) ((rd_T23 y130 x34_1).f1) ((rd_T23 y130 x34_1).f2) t152 _ A93.out).mono ?_); rintro e w98 ⟨rfl, hb⟩; refine ⟨_, rfl, ?_⟩; have n0_ := Aside0.mk (Kd.R_below (by (with_reducible repeat (first | apply Kd.R_alloc | apply Kd.R_drewN | apply Kd.R_drew)); exact HO_5.out) hb); have n1_ := Aside0.mk (Kd.R_below (by (with_reducible repeat (first | apply Kd.R_alloc | apply Kd.R_drewN | apply Kd.R_drew)); exact HO_32.out) hb); have n2_ := Aside0.mk (blk_below (g := gb139) (o := .cells #[.int .i64 ((rd_T23 y130 x34_1).f0), .int .i64 ((rd_T23 y130 x34_1).f1), .string ((rd_T23 y130 x34_1).f2)] 23 (0, 0)) (by (with_reducible repeat (first | refine blk_drewN ?_ _ | refine blk_drew ?_ | refine blk_alloc ?_ _)); exact BK139.out) hb); have n3_ := Aside0.mk (below_step (by repeat (first | (with_reducible first | exact HB.out | apply below_alloc | apply pw_below_drewN | apply below_drew1 | refine below_set ?_ GE139.out) | exact HB.out)) hb); clear HO_5; clear HO_32; clear BK139; clear HB; have HO_5 := n0_; have HO_32 := n1_; have BK139 := n2_; have HB := n3_; clear n0_ n1_ n2_ n3_; (try clear hb); (try clear hb2); (try clear hk); (try clear hi)))
                                                go_roundg kj29
                                                case measure => have := HK1.out; have := HJ21.out; have := HJ29.out; omega
                                                case rel => exact ⟨(x7_1), (x8_1), (x9_1), (wrap64 (x34_1 + 1)), (by first | rfl | (simp; done) | (simp [*]; done)), (by first | rfl | (simp; done) | (simp [*]; done)), (by first | rfl | (simp; done) | (simp [*]; done)), (by first | rfl | (simp; done) | (simp [*]; done)), H', ⟨by have := HK1.out; have := HJ21.out; have := HJ29.out; omega⟩, ⟨by (with_reducible repeat (first | apply Kd.R_alloc | apply Kd.R_drewN | apply Kd.R_drew)); exact Kd.R_mono HO_5.out (fun _ hk => trivial)⟩, ⟨by (with_reducible repeat (first | apply Kd.R_alloc | apply Kd.R_drewN | apply Kd.R_drew)); exact Kd.R_mono HO_32.out (fun _ hk => trivial)⟩, ⟨by repeat (first | (with_reducible first | exact HB.out | apply below_alloc | apply pw_below_drewN | apply below_drew1 | refine below_set ?_ GE139.out) | exact HB.out)⟩⟩
                                            · rw [if_neg c92] at H
                                              have c92b0 : (((rd_T23 y130 x34_1).f0) == 3) = false := beq_eq_false_iff_ne.mpr c92
                                              have c92b1 : (((rd_T23 y130 x34_1).f0) != 3) = true := bne_iff_ne.mpr c92
                                              replace H := Option.bind_eq_some_iff.mp H
                                              obtain ⟨t153, A990, H⟩ := H
                                              replace H : (if (t153 != (((rd_T23 y130 x34_1).f0) == 4)) = true then (some false) else (porticolaw9_RuleTells.l0 kj29 y130 (l1.take ((ji7) : Int).toNat) x7_1 x8_1 x9_1 y130 (y130.length : Int) (wrap64 (x34_1 + 1)))) = some r := H
                                              have A99 := Aside0.mk A990
                                              clear A990
                                              by_cases c100 : (t153 != (((rd_T23 y130 x34_1).f0) == 4)) = true
                                              · rw [if_pos c100] at H
                                                have c100b0 : (t153 != (((rd_T23 y130 x34_1).f0) == 4)) = true := c100
                                                (try (have c100b1 : decide (t153 = (((rd_T23 y130 x34_1).f0) == 4)) = false := by simpa using c100))
                                                (try (have c100b2 : (t153 == (((rd_T23 y130 x34_1).f0) == 4)) = false := by simpa using c100))
                                                (try (have c100b3 : ¬ (t153 = (((rd_T23 y130 x34_1).f0) == 4)) := by simpa using c100))
                                                clear c100
                                                obtain rfl := Option.some.inj H
                                                have hcz101_0 : wc.cell? ⟨gb139, 0, none⟩ = some (.int .i64 ((rd_T23 y130 x34_1).f0)) := (blk_cell BK139.out 0).trans rfl
                                                have hcz101_1 : wc.cell? ⟨gb139, 1, none⟩ = some (.int .i64 ((rd_T23 y130 x34_1).f1)) := (blk_cell BK139.out 1).trans rfl
                                                have hcz101_2 : wc.cell? ⟨gb139, 2, none⟩ = some (.string ((rd_T23 y130 x34_1).f2)) := (blk_cell BK139.out 2).trans rfl
                                                have hfz101_0 := blk_frozen BK139.out 0
                                                have hfz101_1 := blk_frozen BK139.out 1
                                                have hfz101_2 := blk_frozen BK139.out 2
                                                go_wp2_with (first | ((with_reducible refine gate_callee (f := 11) rfl ?_); refine goesL_ (some 102) rfl rfl Try.func11 (by kernel_rfl) rfl #[.agg #[.int .i64 ((rd_T23 y130 x34_1).f0), .int .i64 ((rd_T23 y130 x34_1).f1), .string ((rd_T23 y130 x34_1).f2)]] rfl (by (try simp only [List.map_toArray, List.map_cons, List.map_nil]); first | done | rfl | (simp only [List.length_drop, List.length_take]; rfl)) ?_; (with_reducible refine (rule_Right.calls ((rd_T23 y130 x34_1).f0) ((rd_T23 y130 x34_1).f1) ((rd_T23 y130 x34_1).f2) t153 _ A99.out).mono ?_); rintro e w102 ⟨rfl, hb⟩; refine ⟨_, rfl, ?_⟩; have n0_ := Aside0.mk (Kd.R_below (by (with_reducible repeat (first | apply Kd.R_alloc | apply Kd.R_drewN | apply Kd.R_drew)); exact HO_5.out) hb); have n1_ := Aside0.mk (Kd.R_below (by (with_reducible repeat (first | apply Kd.R_alloc | apply Kd.R_drewN | apply Kd.R_drew)); exact HO_32.out) hb); have n2_ := Aside0.mk (blk_below (g := gb139) (o := .cells #[.int .i64 ((rd_T23 y130 x34_1).f0), .int .i64 ((rd_T23 y130 x34_1).f1), .string ((rd_T23 y130 x34_1).f2)] 23 (0, 0)) (by (with_reducible repeat (first | refine blk_drewN ?_ _ | refine blk_drew ?_ | refine blk_alloc ?_ _)); exact BK139.out) hb); have n3_ := Aside0.mk (below_step (by repeat (first | (with_reducible first | exact HB.out | apply below_alloc | apply pw_below_drewN | apply below_drew1 | refine below_set ?_ GE139.out) | exact HB.out)) hb); clear HO_5; clear HO_32; clear BK139; clear HB; have HO_5 := n0_; have HO_32 := n1_; have BK139 := n2_; have HB := n3_; clear n0_ n1_ n2_ n3_; (try clear hb); (try clear hb2); (try clear hk); (try clear hi)))
                                                go_ret
                                                exact ⟨by first | rfl | (simp [errW_none, errW_some] <;> rfl) | (simp only [← hji3, ← hji7]; first | rfl | (simp [errW_none, errW_some] <;> rfl)) | (simp [*, errW_none, errW_some] <;> rfl), by repeat (first | (with_reducible first | exact HB.out | apply below_alloc | apply pw_below_drewN | apply below_drew1 | refine below_set ?_ GE139.out) | exact HB.out)⟩
                                              · rw [if_neg c100] at H
                                                have c100b0 : (t153 != (((rd_T23 y130 x34_1).f0) == 4)) = false := by simpa using c100
                                                (try (have c100b1 : decide (t153 = (((rd_T23 y130 x34_1).f0) == 4)) = true := by simpa using c100))
                                                (try (have c100b2 : (t153 == (((rd_T23 y130 x34_1).f0) == 4)) = true := by simpa using c100))
                                                clear c100
                                                have H' := Aside0.mk H
                                                clear H
                                                have hcz103_0 : wc.cell? ⟨gb139, 0, none⟩ = some (.int .i64 ((rd_T23 y130 x34_1).f0)) := (blk_cell BK139.out 0).trans rfl
                                                have hcz103_1 : wc.cell? ⟨gb139, 1, none⟩ = some (.int .i64 ((rd_T23 y130 x34_1).f1)) := (blk_cell BK139.out 1).trans rfl
                                                have hcz103_2 : wc.cell? ⟨gb139, 2, none⟩ = some (.string ((rd_T23 y130 x34_1).f2)) := (blk_cell BK139.out 2).trans rfl
                                                have hfz103_0 := blk_frozen BK139.out 0
                                                have hfz103_1 := blk_frozen BK139.out 1
                                                have hfz103_2 := blk_frozen BK139.out 2
                                                go_wp2_with (first | ((with_reducible refine gate_callee (f := 11) rfl ?_); refine goesL_ (some 102) rfl rfl Try.func11 (by kernel_rfl) rfl #[.agg #[.int .i64 ((rd_T23 y130 x34_1).f0), .int .i64 ((rd_T23 y130 x34_1).f1), .string ((rd_T23 y130 x34_1).f2)]] rfl (by (try simp only [List.map_toArray, List.map_cons, List.map_nil]); first | done | rfl | (simp only [List.length_drop, List.length_take]; rfl)) ?_; (with_reducible refine (rule_Right.calls ((rd_T23 y130 x34_1).f0) ((rd_T23 y130 x34_1).f1) ((rd_T23 y130 x34_1).f2) t153 _ A99.out).mono ?_); rintro e w104 ⟨rfl, hb⟩; refine ⟨_, rfl, ?_⟩; have n0_ := Aside0.mk (Kd.R_below (by (with_reducible repeat (first | apply Kd.R_alloc | apply Kd.R_drewN | apply Kd.R_drew)); exact HO_5.out) hb); have n1_ := Aside0.mk (Kd.R_below (by (with_reducible repeat (first | apply Kd.R_alloc | apply Kd.R_drewN | apply Kd.R_drew)); exact HO_32.out) hb); have n2_ := Aside0.mk (blk_below (g := gb139) (o := .cells #[.int .i64 ((rd_T23 y130 x34_1).f0), .int .i64 ((rd_T23 y130 x34_1).f1), .string ((rd_T23 y130 x34_1).f2)] 23 (0, 0)) (by (with_reducible repeat (first | refine blk_drewN ?_ _ | refine blk_drew ?_ | refine blk_alloc ?_ _)); exact BK139.out) hb); have n3_ := Aside0.mk (below_step (by repeat (first | (with_reducible first | exact HB.out | apply below_alloc | apply pw_below_drewN | apply below_drew1 | refine below_set ?_ GE139.out) | exact HB.out)) hb); clear HO_5; clear HO_32; clear BK139; clear HB; have HO_5 := n0_; have HO_32 := n1_; have BK139 := n2_; have HB := n3_; clear n0_ n1_ n2_ n3_; (try clear hb); (try clear hb2); (try clear hk); (try clear hi)))
                                                go_roundg kj29
                                                case measure => have := HK1.out; have := HJ21.out; have := HJ29.out; omega
                                                case rel => exact ⟨(x7_1), (x8_1), (x9_1), (wrap64 (x34_1 + 1)), (by first | rfl | (simp; done) | (simp [*]; done)), (by first | rfl | (simp; done) | (simp [*]; done)), (by first | rfl | (simp; done) | (simp [*]; done)), (by first | rfl | (simp; done) | (simp [*]; done)), H', ⟨by have := HK1.out; have := HJ21.out; have := HJ29.out; omega⟩, ⟨by (with_reducible repeat (first | apply Kd.R_alloc | apply Kd.R_drewN | apply Kd.R_drew)); exact Kd.R_mono HO_5.out (fun _ hk => trivial)⟩, ⟨by (with_reducible repeat (first | apply Kd.R_alloc | apply Kd.R_drewN | apply Kd.R_drew)); exact Kd.R_mono HO_32.out (fun _ hk => trivial)⟩, ⟨by repeat (first | (with_reducible first | exact HB.out | apply below_alloc | apply pw_below_drewN | apply below_drew1 | refine below_set ?_ GE139.out) | exact HB.out)⟩⟩
                                        · rw [if_neg c84] at H
                                          have c84b0 : decide (((rd_T23 y130 x34_1).f1) < 8) = false := decide_eq_false c84
                                          clear c84
                                          replace H := Option.bind_eq_some_iff.mp H
                                          obtain ⟨t154, A1050, H⟩ := H
                                          replace H : (if (t154 != false) = true then (some false) else (porticolaw9_RuleTells.l0 kj29 y130 (l1.take ((ji7) : Int).toNat) x7_1 x8_1 x9_1 y130 (y130.length : Int) (wrap64 (x34_1 + 1)))) = some r := H
                                          have A105 := Aside0.mk A1050
                                          clear A1050
                                          by_cases c106 : (t154 != false) = true
                                          · rw [if_pos c106] at H
                                            have c106b0 : (t154 != false) = true := c106
                                            (try (have c106b1 : decide (t154 = false) = false := by simpa using c106))
                                            (try (have c106b2 : (t154 == false) = false := by simpa using c106))
                                            (try (have c106b3 : ¬ (t154 = false) := by simpa using c106))
                                            clear c106
                                            obtain rfl := Option.some.inj H
                                            have hcz107_0 : wc.cell? ⟨gb139, 0, none⟩ = some (.int .i64 ((rd_T23 y130 x34_1).f0)) := (blk_cell BK139.out 0).trans rfl
                                            have hcz107_1 : wc.cell? ⟨gb139, 1, none⟩ = some (.int .i64 ((rd_T23 y130 x34_1).f1)) := (blk_cell BK139.out 1).trans rfl
                                            have hcz107_2 : wc.cell? ⟨gb139, 2, none⟩ = some (.string ((rd_T23 y130 x34_1).f2)) := (blk_cell BK139.out 2).trans rfl
                                            have hfz107_0 := blk_frozen BK139.out 0
                                            have hfz107_1 := blk_frozen BK139.out 1
                                            have hfz107_2 := blk_frozen BK139.out 2
                                            go_wp2_with (first | ((with_reducible refine gate_callee (f := 11) rfl ?_); refine goesL_ (some 102) rfl rfl Try.func11 (by kernel_rfl) rfl #[.agg #[.int .i64 ((rd_T23 y130 x34_1).f0), .int .i64 ((rd_T23 y130 x34_1).f1), .string ((rd_T23 y130 x34_1).f2)]] rfl (by (try simp only [List.map_toArray, List.map_cons, List.map_nil]); first | done | rfl | (simp only [List.length_drop, List.length_take]; rfl)) ?_; (with_reducible refine (rule_Right.calls ((rd_T23 y130 x34_1).f0) ((rd_T23 y130 x34_1).f1) ((rd_T23 y130 x34_1).f2) t154 _ A105.out).mono ?_); rintro e w108 ⟨rfl, hb⟩; refine ⟨_, rfl, ?_⟩; have n0_ := Aside0.mk (Kd.R_below (by (with_reducible repeat (first | apply Kd.R_alloc | apply Kd.R_drewN | apply Kd.R_drew)); exact HO_5.out) hb); have n1_ := Aside0.mk (Kd.R_below (by (with_reducible repeat (first | apply Kd.R_alloc | apply Kd.R_drewN | apply Kd.R_drew)); exact HO_32.out) hb); have n2_ := Aside0.mk (blk_below (g := gb139) (o := .cells #[.int .i64 ((rd_T23 y130 x34_1).f0), .int .i64 ((rd_T23 y130 x34_1).f1), .string ((rd_T23 y130 x34_1).f2)] 23 (0, 0)) (by (with_reducible repeat (first | refine blk_drewN ?_ _ | refine blk_drew ?_ | refine blk_alloc ?_ _)); exact BK139.out) hb); have n3_ := Aside0.mk (below_step (by repeat (first | (with_reducible first | exact HB.out | apply below_alloc | apply pw_below_drewN | apply below_drew1 | refine below_set ?_ GE139.out) | exact HB.out)) hb); clear HO_5; clear HO_32; clear BK139; clear HB; have HO_5 := n0_; have HO_32 := n1_; have BK139 := n2_; have HB := n3_; clear n0_ n1_ n2_ n3_; (try clear hb); (try clear hb2); (try clear hk); (try clear hi)))
                                            go_ret
                                            exact ⟨by first | rfl | (simp [errW_none, errW_some] <;> rfl) | (simp only [← hji3, ← hji7]; first | rfl | (simp [errW_none, errW_some] <;> rfl)) | (simp [*, errW_none, errW_some] <;> rfl), by repeat (first | (with_reducible first | exact HB.out | apply below_alloc | apply pw_below_drewN | apply below_drew1 | refine below_set ?_ GE139.out) | exact HB.out)⟩
                                          · rw [if_neg c106] at H
                                            have c106b0 : (t154 != false) = false := by simpa using c106
                                            (try (have c106b1 : decide (t154 = false) = true := by simpa using c106))
                                            (try (have c106b2 : (t154 == false) = true := by simpa using c106))
                                            clear c106
                                            have H' := Aside0.mk H
                                            clear H
                                            have hcz109_0 : wc.cell? ⟨gb139, 0, none⟩ = some (.int .i64 ((rd_T23 y130 x34_1).f0)) := (blk_cell BK139.out 0).trans rfl
                                            have hcz109_1 : wc.cell? ⟨gb139, 1, none⟩ = some (.int .i64 ((rd_T23 y130 x34_1).f1)) := (blk_cell BK139.out 1).trans rfl
                                            have hcz109_2 : wc.cell? ⟨gb139, 2, none⟩ = some (.string ((rd_T23 y130 x34_1).f2)) := (blk_cell BK139.out 2).trans rfl
                                            have hfz109_0 := blk_frozen BK139.out 0
                                            have hfz109_1 := blk_frozen BK139.out 1
                                            have hfz109_2 := blk_frozen BK139.out 2
                                            go_wp2_with (first | ((with_reducible refine gate_callee (f := 11) rfl ?_); refine goesL_ (some 102) rfl rfl Try.func11 (by kernel_rfl) rfl #[.agg #[.int .i64 ((rd_T23 y130 x34_1).f0), .int .i64 ((rd_T23 y130 x34_1).f1), .string ((rd_T23 y130 x34_1).f2)]] rfl (by (try simp only [List.map_toArray, List.map_cons, List.map_nil]); first | done | rfl | (simp only [List.length_drop, List.length_take]; rfl)) ?_; (with_reducible refine (rule_Right.calls ((rd_T23 y130 x34_1).f0) ((rd_T23 y130 x34_1).f1) ((rd_T23 y130 x34_1).f2) t154 _ A105.out).mono ?_); rintro e w110 ⟨rfl, hb⟩; refine ⟨_, rfl, ?_⟩; have n0_ := Aside0.mk (Kd.R_below (by (with_reducible repeat (first | apply Kd.R_alloc | apply Kd.R_drewN | apply Kd.R_drew)); exact HO_5.out) hb); have n1_ := Aside0.mk (Kd.R_below (by (with_reducible repeat (first | apply Kd.R_alloc | apply Kd.R_drewN | apply Kd.R_drew)); exact HO_32.out) hb); have n2_ := Aside0.mk (blk_below (g := gb139) (o := .cells #[.int .i64 ((rd_T23 y130 x34_1).f0), .int .i64 ((rd_T23 y130 x34_1).f1), .string ((rd_T23 y130 x34_1).f2)] 23 (0, 0)) (by (with_reducible repeat (first | refine blk_drewN ?_ _ | refine blk_drew ?_ | refine blk_alloc ?_ _)); exact BK139.out) hb); have n3_ := Aside0.mk (below_step (by repeat (first | (with_reducible first | exact HB.out | apply below_alloc | apply pw_below_drewN | apply below_drew1 | refine below_set ?_ GE139.out) | exact HB.out)) hb); clear HO_5; clear HO_32; clear BK139; clear HB; have HO_5 := n0_; have HO_32 := n1_; have BK139 := n2_; have HB := n3_; clear n0_ n1_ n2_ n3_; (try clear hb); (try clear hb2); (try clear hk); (try clear hi)))
                                            go_roundg kj29
                                            case measure => have := HK1.out; have := HJ21.out; have := HJ29.out; omega
                                            case rel => exact ⟨(x7_1), (x8_1), (x9_1), (wrap64 (x34_1 + 1)), (by first | rfl | (simp; done) | (simp [*]; done)), (by first | rfl | (simp; done) | (simp [*]; done)), (by first | rfl | (simp; done) | (simp [*]; done)), (by first | rfl | (simp; done) | (simp [*]; done)), H', ⟨by have := HK1.out; have := HJ21.out; have := HJ29.out; omega⟩, ⟨by (with_reducible repeat (first | apply Kd.R_alloc | apply Kd.R_drewN | apply Kd.R_drew)); exact Kd.R_mono HO_5.out (fun _ hk => trivial)⟩, ⟨by (with_reducible repeat (first | apply Kd.R_alloc | apply Kd.R_drewN | apply Kd.R_drew)); exact Kd.R_mono HO_32.out (fun _ hk => trivial)⟩, ⟨by repeat (first | (with_reducible first | exact HB.out | apply below_alloc | apply pw_below_drewN | apply below_drew1 | refine below_set ?_ GE139.out) | exact HB.out)⟩⟩
                                      · rw [if_neg c83] at H
                                        have c83b0 : decide (0 ≤ ((rd_T23 y130 x34_1).f1)) = false := decide_eq_false c83
                                        clear c83
                                        replace H := Option.bind_eq_some_iff.mp H
                                        obtain ⟨t155, A1110, H⟩ := H
                                        replace H : (if (t155 != false) = true then (some false) else (porticolaw9_RuleTells.l0 kj29 y130 (l1.take ((ji7) : Int).toNat) x7_1 x8_1 x9_1 y130 (y130.length : Int) (wrap64 (x34_1 + 1)))) = some r := H
                                        have A111 := Aside0.mk A1110
                                        clear A1110
                                        by_cases c112 : (t155 != false) = true
                                        · rw [if_pos c112] at H
                                          have c112b0 : (t155 != false) = true := c112
                                          (try (have c112b1 : decide (t155 = false) = false := by simpa using c112))
                                          (try (have c112b2 : (t155 == false) = false := by simpa using c112))
                                          (try (have c112b3 : ¬ (t155 = false) := by simpa using c112))
                                          clear c112
                                          obtain rfl := Option.some.inj H
                                          have hcz113_0 : wc.cell? ⟨gb139, 0, none⟩ = some (.int .i64 ((rd_T23 y130 x34_1).f0)) := (blk_cell BK139.out 0).trans rfl
                                          have hcz113_1 : wc.cell? ⟨gb139, 1, none⟩ = some (.int .i64 ((rd_T23 y130 x34_1).f1)) := (blk_cell BK139.out 1).trans rfl
                                          have hcz113_2 : wc.cell? ⟨gb139, 2, none⟩ = some (.string ((rd_T23 y130 x34_1).f2)) := (blk_cell BK139.out 2).trans rfl
                                          have hfz113_0 := blk_frozen BK139.out 0
                                          have hfz113_1 := blk_frozen BK139.out 1
                                          have hfz113_2 := blk_frozen BK139.out 2
                                          go_wp2_with (first | ((with_reducible refine gate_callee (f := 11) rfl ?_); refine goesL_ (some 102) rfl rfl Try.func11 (by kernel_rfl) rfl #[.agg #[.int .i64 ((rd_T23 y130 x34_1).f0), .int .i64 ((rd_T23 y130 x34_1).f1), .string ((rd_T23 y130 x34_1).f2)]] rfl (by (try simp only [List.map_toArray, List.map_cons, List.map_nil]); first | done | rfl | (simp only [List.length_drop, List.length_take]; rfl)) ?_; (with_reducible refine (rule_Right.calls ((rd_T23 y130 x34_1).f0) ((rd_T23 y130 x34_1).f1) ((rd_T23 y130 x34_1).f2) t155 _ A111.out).mono ?_); rintro e w114 ⟨rfl, hb⟩; refine ⟨_, rfl, ?_⟩; have n0_ := Aside0.mk (Kd.R_below (by (with_reducible repeat (first | apply Kd.R_alloc | apply Kd.R_drewN | apply Kd.R_drew)); exact HO_5.out) hb); have n1_ := Aside0.mk (Kd.R_below (by (with_reducible repeat (first | apply Kd.R_alloc | apply Kd.R_drewN | apply Kd.R_drew)); exact HO_32.out) hb); have n2_ := Aside0.mk (blk_below (g := gb139) (o := .cells #[.int .i64 ((rd_T23 y130 x34_1).f0), .int .i64 ((rd_T23 y130 x34_1).f1), .string ((rd_T23 y130 x34_1).f2)] 23 (0, 0)) (by (with_reducible repeat (first | refine blk_drewN ?_ _ | refine blk_drew ?_ | refine blk_alloc ?_ _)); exact BK139.out) hb); have n3_ := Aside0.mk (below_step (by repeat (first | (with_reducible first | exact HB.out | apply below_alloc | apply pw_below_drewN | apply below_drew1 | refine below_set ?_ GE139.out) | exact HB.out)) hb); clear HO_5; clear HO_32; clear BK139; clear HB; have HO_5 := n0_; have HO_32 := n1_; have BK139 := n2_; have HB := n3_; clear n0_ n1_ n2_ n3_; (try clear hb); (try clear hb2); (try clear hk); (try clear hi)))
                                          go_ret
                                          exact ⟨by first | rfl | (simp [errW_none, errW_some] <;> rfl) | (simp only [← hji3, ← hji7]; first | rfl | (simp [errW_none, errW_some] <;> rfl)) | (simp [*, errW_none, errW_some] <;> rfl), by repeat (first | (with_reducible first | exact HB.out | apply below_alloc | apply pw_below_drewN | apply below_drew1 | refine below_set ?_ GE139.out) | exact HB.out)⟩
                                        · rw [if_neg c112] at H
                                          have c112b0 : (t155 != false) = false := by simpa using c112
                                          (try (have c112b1 : decide (t155 = false) = true := by simpa using c112))
                                          (try (have c112b2 : (t155 == false) = true := by simpa using c112))
                                          clear c112
                                          have H' := Aside0.mk H
                                          clear H
                                          have hcz115_0 : wc.cell? ⟨gb139, 0, none⟩ = some (.int .i64 ((rd_T23 y130 x34_1).f0)) := (blk_cell BK139.out 0).trans rfl
                                          have hcz115_1 : wc.cell? ⟨gb139, 1, none⟩ = some (.int .i64 ((rd_T23 y130 x34_1).f1)) := (blk_cell BK139.out 1).trans rfl
                                          have hcz115_2 : wc.cell? ⟨gb139, 2, none⟩ = some (.string ((rd_T23 y130 x34_1).f2)) := (blk_cell BK139.out 2).trans rfl
                                          have hfz115_0 := blk_frozen BK139.out 0
                                          have hfz115_1 := blk_frozen BK139.out 1
                                          have hfz115_2 := blk_frozen BK139.out 2
                                          go_wp2_with (first | ((with_reducible refine gate_callee (f := 11) rfl ?_); refine goesL_ (some 102) rfl rfl Try.func11 (by kernel_rfl) rfl #[.agg #[.int .i64 ((rd_T23 y130 x34_1).f0), .int .i64 ((rd_T23 y130 x34_1).f1), .string ((rd_T23 y130 x34_1).f2)]] rfl (by (try simp only [List.map_toArray, List.map_cons, List.map_nil]); first | done | rfl | (simp only [List.length_drop, List.length_take]; rfl)) ?_; (with_reducible refine (rule_Right.calls ((rd_T23 y130 x34_1).f0) ((rd_T23 y130 x34_1).f1) ((rd_T23 y130 x34_1).f2) t155 _ A111.out).mono ?_); rintro e w116 ⟨rfl, hb⟩; refine ⟨_, rfl, ?_⟩; have n0_ := Aside0.mk (Kd.R_below (by (with_reducible repeat (first | apply Kd.R_alloc | apply Kd.R_drewN | apply Kd.R_drew)); exact HO_5.out) hb); have n1_ := Aside0.mk (Kd.R_below (by (with_reducible repeat (first | apply Kd.R_alloc | apply Kd.R_drewN | apply Kd.R_drew)); exact HO_32.out) hb); have n2_ := Aside0.mk (blk_below (g := gb139) (o := .cells #[.int .i64 ((rd_T23 y130 x34_1).f0), .int .i64 ((rd_T23 y130 x34_1).f1), .string ((rd_T23 y130 x34_1).f2)] 23 (0, 0)) (by (with_reducible repeat (first | refine blk_drewN ?_ _ | refine blk_drew ?_ | refine blk_alloc ?_ _)); exact BK139.out) hb); have n3_ := Aside0.mk (below_step (by repeat (first | (with_reducible first | exact HB.out | apply below_alloc | apply pw_below_drewN | apply below_drew1 | refine below_set ?_ GE139.out) | exact HB.out)) hb); clear HO_5; clear HO_32; clear BK139; clear HB; have HO_5 := n0_; have HO_32 := n1_; have BK139 := n2_; have HB := n3_; clear n0_ n1_ n2_ n3_; (try clear hb); (try clear hb2); (try clear hk); (try clear hi)))
                                          go_roundg kj29
                                          case measure => have := HK1.out; have := HJ21.out; have := HJ29.out; omega
                                          case rel => exact ⟨(x7_1), (x8_1), (x9_1), (wrap64 (x34_1 + 1)), (by first | rfl | (simp; done) | (simp [*]; done)), (by first | rfl | (simp; done) | (simp [*]; done)), (by first | rfl | (simp; done) | (simp [*]; done)), (by first | rfl | (simp; done) | (simp [*]; done)), H', ⟨by have := HK1.out; have := HJ21.out; have := HJ29.out; omega⟩, ⟨by (with_reducible repeat (first | apply Kd.R_alloc | apply Kd.R_drewN | apply Kd.R_drew)); exact Kd.R_mono HO_5.out (fun _ hk => trivial)⟩, ⟨by (with_reducible repeat (first | apply Kd.R_alloc | apply Kd.R_drewN | apply Kd.R_drew)); exact Kd.R_mono HO_32.out (fun _ hk => trivial)⟩, ⟨by repeat (first | (with_reducible first | exact HB.out | apply below_alloc | apply pw_below_drewN | apply below_drew1 | refine below_set ?_ GE139.out) | exact HB.out)⟩⟩
                                    · rw [if_neg c82] at H
                                      have c82b0 : decide (((rd_T23 y130 x34_1).f0) ≤ 4) = false := decide_eq_false c82
                                      clear c82
                                      replace H := Option.bind_eq_some_iff.mp H
                                      obtain ⟨t156, A1170, H⟩ := H
                                      replace H : (if (t156 != false) = true then (some false) else (porticolaw9_RuleTells.l0 kj29 y130 (l1.take ((ji7) : Int).toNat) x7_1 x8_1 x9_1 y130 (y130.length : Int) (wrap64 (x34_1 + 1)))) = some r := H
                                      have A117 := Aside0.mk A1170
                                      clear A1170
                                      by_cases c118 : (t156 != false) = true
                                      · rw [if_pos c118] at H
                                        have c118b0 : (t156 != false) = true := c118
                                        (try (have c118b1 : decide (t156 = false) = false := by simpa using c118))
                                        (try (have c118b2 : (t156 == false) = false := by simpa using c118))
                                        (try (have c118b3 : ¬ (t156 = false) := by simpa using c118))
                                        clear c118
                                        obtain rfl := Option.some.inj H
                                        have hcz119_0 : wc.cell? ⟨gb139, 0, none⟩ = some (.int .i64 ((rd_T23 y130 x34_1).f0)) := (blk_cell BK139.out 0).trans rfl
                                        have hcz119_1 : wc.cell? ⟨gb139, 1, none⟩ = some (.int .i64 ((rd_T23 y130 x34_1).f1)) := (blk_cell BK139.out 1).trans rfl
                                        have hcz119_2 : wc.cell? ⟨gb139, 2, none⟩ = some (.string ((rd_T23 y130 x34_1).f2)) := (blk_cell BK139.out 2).trans rfl
                                        have hfz119_0 := blk_frozen BK139.out 0
                                        have hfz119_1 := blk_frozen BK139.out 1
                                        have hfz119_2 := blk_frozen BK139.out 2
                                        go_wp2_with (first | ((with_reducible refine gate_callee (f := 11) rfl ?_); refine goesL_ (some 102) rfl rfl Try.func11 (by kernel_rfl) rfl #[.agg #[.int .i64 ((rd_T23 y130 x34_1).f0), .int .i64 ((rd_T23 y130 x34_1).f1), .string ((rd_T23 y130 x34_1).f2)]] rfl (by (try simp only [List.map_toArray, List.map_cons, List.map_nil]); first | done | rfl | (simp only [List.length_drop, List.length_take]; rfl)) ?_; (with_reducible refine (rule_Right.calls ((rd_T23 y130 x34_1).f0) ((rd_T23 y130 x34_1).f1) ((rd_T23 y130 x34_1).f2) t156 _ A117.out).mono ?_); rintro e w120 ⟨rfl, hb⟩; refine ⟨_, rfl, ?_⟩; have n0_ := Aside0.mk (Kd.R_below (by (with_reducible repeat (first | apply Kd.R_alloc | apply Kd.R_drewN | apply Kd.R_drew)); exact HO_5.out) hb); have n1_ := Aside0.mk (Kd.R_below (by (with_reducible repeat (first | apply Kd.R_alloc | apply Kd.R_drewN | apply Kd.R_drew)); exact HO_32.out) hb); have n2_ := Aside0.mk (blk_below (g := gb139) (o := .cells #[.int .i64 ((rd_T23 y130 x34_1).f0), .int .i64 ((rd_T23 y130 x34_1).f1), .string ((rd_T23 y130 x34_1).f2)] 23 (0, 0)) (by (with_reducible repeat (first | refine blk_drewN ?_ _ | refine blk_drew ?_ | refine blk_alloc ?_ _)); exact BK139.out) hb); have n3_ := Aside0.mk (below_step (by repeat (first | (with_reducible first | exact HB.out | apply below_alloc | apply pw_below_drewN | apply below_drew1 | refine below_set ?_ GE139.out) | exact HB.out)) hb); clear HO_5; clear HO_32; clear BK139; clear HB; have HO_5 := n0_; have HO_32 := n1_; have BK139 := n2_; have HB := n3_; clear n0_ n1_ n2_ n3_; (try clear hb); (try clear hb2); (try clear hk); (try clear hi)))
                                        go_ret
                                        exact ⟨by first | rfl | (simp [errW_none, errW_some] <;> rfl) | (simp only [← hji3, ← hji7]; first | rfl | (simp [errW_none, errW_some] <;> rfl)) | (simp [*, errW_none, errW_some] <;> rfl), by repeat (first | (with_reducible first | exact HB.out | apply below_alloc | apply pw_below_drewN | apply below_drew1 | refine below_set ?_ GE139.out) | exact HB.out)⟩
                                      · rw [if_neg c118] at H
                                        have c118b0 : (t156 != false) = false := by simpa using c118
                                        (try (have c118b1 : decide (t156 = false) = true := by simpa using c118))
                                        (try (have c118b2 : (t156 == false) = true := by simpa using c118))
                                        clear c118
                                        have H' := Aside0.mk H
                                        clear H
                                        have hcz121_0 : wc.cell? ⟨gb139, 0, none⟩ = some (.int .i64 ((rd_T23 y130 x34_1).f0)) := (blk_cell BK139.out 0).trans rfl
                                        have hcz121_1 : wc.cell? ⟨gb139, 1, none⟩ = some (.int .i64 ((rd_T23 y130 x34_1).f1)) := (blk_cell BK139.out 1).trans rfl
                                        have hcz121_2 : wc.cell? ⟨gb139, 2, none⟩ = some (.string ((rd_T23 y130 x34_1).f2)) := (blk_cell BK139.out 2).trans rfl
                                        have hfz121_0 := blk_frozen BK139.out 0
                                        have hfz121_1 := blk_frozen BK139.out 1
                                        have hfz121_2 := blk_frozen BK139.out 2
                                        go_wp2_with (first | ((with_reducible refine gate_callee (f := 11) rfl ?_); refine goesL_ (some 102) rfl rfl Try.func11 (by kernel_rfl) rfl #[.agg #[.int .i64 ((rd_T23 y130 x34_1).f0), .int .i64 ((rd_T23 y130 x34_1).f1), .string ((rd_T23 y130 x34_1).f2)]] rfl (by (try simp only [List.map_toArray, List.map_cons, List.map_nil]); first | done | rfl | (simp only [List.length_drop, List.length_take]; rfl)) ?_; (with_reducible refine (rule_Right.calls ((rd_T23 y130 x34_1).f0) ((rd_T23 y130 x34_1).f1) ((rd_T23 y130 x34_1).f2) t156 _ A117.out).mono ?_); rintro e w122 ⟨rfl, hb⟩; refine ⟨_, rfl, ?_⟩; have n0_ := Aside0.mk (Kd.R_below (by (with_reducible repeat (first | apply Kd.R_alloc | apply Kd.R_drewN | apply Kd.R_drew)); exact HO_5.out) hb); have n1_ := Aside0.mk (Kd.R_below (by (with_reducible repeat (first | apply Kd.R_alloc | apply Kd.R_drewN | apply Kd.R_drew)); exact HO_32.out) hb); have n2_ := Aside0.mk (blk_below (g := gb139) (o := .cells #[.int .i64 ((rd_T23 y130 x34_1).f0), .int .i64 ((rd_T23 y130 x34_1).f1), .string ((rd_T23 y130 x34_1).f2)] 23 (0, 0)) (by (with_reducible repeat (first | refine blk_drewN ?_ _ | refine blk_drew ?_ | refine blk_alloc ?_ _)); exact BK139.out) hb); have n3_ := Aside0.mk (below_step (by repeat (first | (with_reducible first | exact HB.out | apply below_alloc | apply pw_below_drewN | apply below_drew1 | refine below_set ?_ GE139.out) | exact HB.out)) hb); clear HO_5; clear HO_32; clear BK139; clear HB; have HO_5 := n0_; have HO_32 := n1_; have BK139 := n2_; have HB := n3_; clear n0_ n1_ n2_ n3_; (try clear hb); (try clear hb2); (try clear hk); (try clear hi)))
                                        go_roundg kj29
                                        case measure => have := HK1.out; have := HJ21.out; have := HJ29.out; omega
                                        case rel => exact ⟨(x7_1), (x8_1), (x9_1), (wrap64 (x34_1 + 1)), (by first | rfl | (simp; done) | (simp [*]; done)), (by first | rfl | (simp; done) | (simp [*]; done)), (by first | rfl | (simp; done) | (simp [*]; done)), (by first | rfl | (simp; done) | (simp [*]; done)), H', ⟨by have := HK1.out; have := HJ21.out; have := HJ29.out; omega⟩, ⟨by (with_reducible repeat (first | apply Kd.R_alloc | apply Kd.R_drewN | apply Kd.R_drew)); exact Kd.R_mono HO_5.out (fun _ hk => trivial)⟩, ⟨by (with_reducible repeat (first | apply Kd.R_alloc | apply Kd.R_drewN | apply Kd.R_drew)); exact Kd.R_mono HO_32.out (fun _ hk => trivial)⟩, ⟨by repeat (first | (with_reducible first | exact HB.out | apply below_alloc | apply pw_below_drewN | apply below_drew1 | refine below_set ?_ GE139.out) | exact HB.out)⟩⟩
                                  · rw [if_neg c81] at H
                                    have c81b0 : decide (0 ≤ ((rd_T23 y130 x34_1).f0)) = false := decide_eq_false c81
                                    clear c81
                                    replace H := Option.bind_eq_some_iff.mp H
                                    obtain ⟨t157, A1230, H⟩ := H
                                    replace H : (if (t157 != false) = true then (some false) else (porticolaw9_RuleTells.l0 kj29 y130 (l1.take ((ji7) : Int).toNat) x7_1 x8_1 x9_1 y130 (y130.length : Int) (wrap64 (x34_1 + 1)))) = some r := H
                                    have A123 := Aside0.mk A1230
                                    clear A1230
                                    by_cases c124 : (t157 != false) = true
                                    · rw [if_pos c124] at H
                                      have c124b0 : (t157 != false) = true := c124
                                      (try (have c124b1 : decide (t157 = false) = false := by simpa using c124))
                                      (try (have c124b2 : (t157 == false) = false := by simpa using c124))
                                      (try (have c124b3 : ¬ (t157 = false) := by simpa using c124))
                                      clear c124
                                      obtain rfl := Option.some.inj H
                                      have hcz125_0 : wc.cell? ⟨gb139, 0, none⟩ = some (.int .i64 ((rd_T23 y130 x34_1).f0)) := (blk_cell BK139.out 0).trans rfl
                                      have hcz125_1 : wc.cell? ⟨gb139, 1, none⟩ = some (.int .i64 ((rd_T23 y130 x34_1).f1)) := (blk_cell BK139.out 1).trans rfl
                                      have hcz125_2 : wc.cell? ⟨gb139, 2, none⟩ = some (.string ((rd_T23 y130 x34_1).f2)) := (blk_cell BK139.out 2).trans rfl
                                      have hfz125_0 := blk_frozen BK139.out 0
                                      have hfz125_1 := blk_frozen BK139.out 1
                                      have hfz125_2 := blk_frozen BK139.out 2
                                      go_wp2_with (first | ((with_reducible refine gate_callee (f := 11) rfl ?_); refine goesL_ (some 102) rfl rfl Try.func11 (by kernel_rfl) rfl #[.agg #[.int .i64 ((rd_T23 y130 x34_1).f0), .int .i64 ((rd_T23 y130 x34_1).f1), .string ((rd_T23 y130 x34_1).f2)]] rfl (by (try simp only [List.map_toArray, List.map_cons, List.map_nil]); first | done | rfl | (simp only [List.length_drop, List.length_take]; rfl)) ?_; (with_reducible refine (rule_Right.calls ((rd_T23 y130 x34_1).f0) ((rd_T23 y130 x34_1).f1) ((rd_T23 y130 x34_1).f2) t157 _ A123.out).mono ?_); rintro e w126 ⟨rfl, hb⟩; refine ⟨_, rfl, ?_⟩; have n0_ := Aside0.mk (Kd.R_below (by (with_reducible repeat (first | apply Kd.R_alloc | apply Kd.R_drewN | apply Kd.R_drew)); exact HO_5.out) hb); have n1_ := Aside0.mk (Kd.R_below (by (with_reducible repeat (first | apply Kd.R_alloc | apply Kd.R_drewN | apply Kd.R_drew)); exact HO_32.out) hb); have n2_ := Aside0.mk (blk_below (g := gb139) (o := .cells #[.int .i64 ((rd_T23 y130 x34_1).f0), .int .i64 ((rd_T23 y130 x34_1).f1), .string ((rd_T23 y130 x34_1).f2)] 23 (0, 0)) (by (with_reducible repeat (first | refine blk_drewN ?_ _ | refine blk_drew ?_ | refine blk_alloc ?_ _)); exact BK139.out) hb); have n3_ := Aside0.mk (below_step (by repeat (first | (with_reducible first | exact HB.out | apply below_alloc | apply pw_below_drewN | apply below_drew1 | refine below_set ?_ GE139.out) | exact HB.out)) hb); clear HO_5; clear HO_32; clear BK139; clear HB; have HO_5 := n0_; have HO_32 := n1_; have BK139 := n2_; have HB := n3_; clear n0_ n1_ n2_ n3_; (try clear hb); (try clear hb2); (try clear hk); (try clear hi)))
                                      go_ret
                                      exact ⟨by first | rfl | (simp [errW_none, errW_some] <;> rfl) | (simp only [← hji3, ← hji7]; first | rfl | (simp [errW_none, errW_some] <;> rfl)) | (simp [*, errW_none, errW_some] <;> rfl), by repeat (first | (with_reducible first | exact HB.out | apply below_alloc | apply pw_below_drewN | apply below_drew1 | refine below_set ?_ GE139.out) | exact HB.out)⟩
                                    · rw [if_neg c124] at H
                                      have c124b0 : (t157 != false) = false := by simpa using c124
                                      (try (have c124b1 : decide (t157 = false) = true := by simpa using c124))
                                      (try (have c124b2 : (t157 == false) = true := by simpa using c124))
                                      clear c124
                                      have H' := Aside0.mk H
                                      clear H
                                      have hcz127_0 : wc.cell? ⟨gb139, 0, none⟩ = some (.int .i64 ((rd_T23 y130 x34_1).f0)) := (blk_cell BK139.out 0).trans rfl
                                      have hcz127_1 : wc.cell? ⟨gb139, 1, none⟩ = some (.int .i64 ((rd_T23 y130 x34_1).f1)) := (blk_cell BK139.out 1).trans rfl
                                      have hcz127_2 : wc.cell? ⟨gb139, 2, none⟩ = some (.string ((rd_T23 y130 x34_1).f2)) := (blk_cell BK139.out 2).trans rfl
                                      have hfz127_0 := blk_frozen BK139.out 0
                                      have hfz127_1 := blk_frozen BK139.out 1
                                      have hfz127_2 := blk_frozen BK139.out 2
                                      go_wp2_with (first | ((with_reducible refine gate_callee (f := 11) rfl ?_); refine goesL_ (some 102) rfl rfl Try.func11 (by kernel_rfl) rfl #[.agg #[.int .i64 ((rd_T23 y130 x34_1).f0), .int .i64 ((rd_T23 y130 x34_1).f1), .string ((rd_T23 y130 x34_1).f2)]] rfl (by (try simp only [List.map_toArray, List.map_cons, List.map_nil]); first | done | rfl | (simp only [List.length_drop, List.length_take]; rfl)) ?_; (with_reducible refine (rule_Right.calls ((rd_T23 y130 x34_1).f0) ((rd_T23 y130 x34_1).f1) ((rd_T23 y130 x34_1).f2) t157 _ A123.out).mono ?_); rintro e w128 ⟨rfl, hb⟩; refine ⟨_, rfl, ?_⟩; have n0_ := Aside0.mk (Kd.R_below (by (with_reducible repeat (first | apply Kd.R_alloc | apply Kd.R_drewN | apply Kd.R_drew)); exact HO_5.out) hb); have n1_ := Aside0.mk (Kd.R_below (by (with_reducible repeat (first | apply Kd.R_alloc | apply Kd.R_drewN | apply Kd.R_drew)); exact HO_32.out) hb); have n2_ := Aside0.mk (blk_below (g := gb139) (o := .cells #[.int .i64 ((rd_T23 y130 x34_1).f0), .int .i64 ((rd_T23 y130 x34_1).f1), .string ((rd_T23 y130 x34_1).f2)] 23 (0, 0)) (by (with_reducible repeat (first | refine blk_drewN ?_ _ | refine blk_drew ?_ | refine blk_alloc ?_ _)); exact BK139.out) hb); have n3_ := Aside0.mk (below_step (by repeat (first | (with_reducible first | exact HB.out | apply below_alloc | apply pw_below_drewN | apply below_drew1 | refine below_set ?_ GE139.out) | exact HB.out)) hb); clear HO_5; clear HO_32; clear BK139; clear HB; have HO_5 := n0_; have HO_32 := n1_; have BK139 := n2_; have HB := n3_; clear n0_ n1_ n2_ n3_; (try clear hb); (try clear hb2); (try clear hk); (try clear hi)))
                                      go_roundg kj29
                                      case measure => have := HK1.out; have := HJ21.out; have := HJ29.out; omega
                                      case rel => exact ⟨(x7_1), (x8_1), (x9_1), (wrap64 (x34_1 + 1)), (by first | rfl | (simp; done) | (simp [*]; done)), (by first | rfl | (simp; done) | (simp [*]; done)), (by first | rfl | (simp; done) | (simp [*]; done)), (by first | rfl | (simp; done) | (simp [*]; done)), H', ⟨by have := HK1.out; have := HJ21.out; have := HJ29.out; omega⟩, ⟨by (with_reducible repeat (first | apply Kd.R_alloc | apply Kd.R_drewN | apply Kd.R_drew)); exact Kd.R_mono HO_5.out (fun _ hk => trivial)⟩, ⟨by (with_reducible repeat (first | apply Kd.R_alloc | apply Kd.R_drewN | apply Kd.R_drew)); exact Kd.R_mono HO_32.out (fun _ hk => trivial)⟩, ⟨by repeat (first | (with_reducible first | exact HB.out | apply below_alloc | apply pw_below_drewN | apply below_drew1 | refine below_set ?_ GE139.out) | exact HB.out)⟩⟩
                    · rw [if_neg c19] at H
                      exact absurd H (by simp)
                  · rw [if_neg c18] at H
                    exact absurd H (by simp)
                · rw [if_neg c17] at H
                  have c17b0 : decide (x34_1 < (y130.length : Int)) = false := decide_eq_false c17
                  clear c17
                  replace H := Option.bind_eq_some_iff.mp H
                  obtain ⟨⟨t134, t135, t136⟩, A1290, H⟩ := H
                  replace H : (if t134 = x7_1 then (if t135.toList = x8_1.toList then (if t136 = x9_1 then ((porticolaw9_RuleRuns.f k1).bind fun t137 => (some t137)) else (some false)) else (some false)) else (some false)) = some r := H
                  have A129 := Aside0.mk A1290
                  clear A1290
                  by_cases c130 : t134 = x7_1
                  · rw [if_pos c130] at H
                    have c130b0 : (t134 == x7_1) = true := beq_iff_eq.mpr c130
                    have c130b1 : (t134 != x7_1) = false := bne_eq_false_iff_eq.mpr c130
                    clear c130
                    by_cases c131 : t135.toList = x8_1.toList
                    · rw [if_pos c131] at H
                      have c131b0 : (t135.toList == x8_1.toList) = true := beq_iff_eq.mpr c131
                      have c131b1 : (t135.toList != x8_1.toList) = false := bne_eq_false_iff_eq.mpr c131
                      clear c131
                      by_cases c132 : t136 = x9_1
                      · rw [if_pos c132] at H
                        have c132b0 : (t136 == x9_1) = true := beq_iff_eq.mpr c132
                        have c132b1 : (t136 != x9_1) = false := bne_eq_false_iff_eq.mpr c132
                        clear c132
                        replace H := Option.bind_eq_some_iff.mp H
                        obtain ⟨t137, A1330, H⟩ := H
                        replace H : (some t137) = some r := H
                        have A133 := Aside0.mk A1330
                        clear A1330
                        obtain rfl := Option.some.inj H
                        go_wp2_with (first | ((with_reducible refine gate_callee (f := 9) rfl ?_); refine goesL_ (some 109) rfl rfl Try.func9 (by kernel_rfl) rfl #[.slice Ao16 y130.length co16, .slice A1 (l1.take ((ji7) : Int).toNat).length c1] rfl (by (try simp only [List.map_toArray, List.map_cons, List.map_nil]); first | done | (rw [show (l1.take ((ji7) : Int).toNat).length = (ji7).toNat from (by rw [List.length_take]; have h_ : ((ji7) : Int) ≤ (l1.length : Int) := (by first | (with_reducible assumption) | omega | exact of_decide_eq_true (by first | (with_reducible assumption) | assumption)); omega)] <;> rfl) | (simp only [hji7]; rfl) | rfl | (simp only [List.length_drop, List.length_take]; rfl)) ?_; (with_reducible refine (rule_All.calls k1 _ _ y130 _ _ (l1.take ((ji7) : Int).toNat) t134 t135 t136 _ ?side1 ?side2 ?side3 ?side4 A129.out).mono ?_); (case side1 => repeat (first | exact (Kd.R_reads' HO_5.out).2.2 | (with_reducible refine Kd.C_alloc ?_ _) | (with_reducible refine Kd.C_drewN ?_ _) | (with_reducible refine Kd.C_drew ?_))); (case side2 => exact (Kd.R_reads' HO_5.out).2.1); (case side3 => repeat (first | exact (Kd.C_below HR133.out HB.out) | (with_reducible refine Kd.C_alloc ?_ _) | (with_reducible refine Kd.C_drewN ?_ _) | (with_reducible refine Kd.C_drew ?_))); (case side4 => exact HC133.out); rintro e w134 ⟨rfl, hb⟩; refine ⟨_, rfl, ?_⟩; have n0_ := Aside0.mk (Kd.R_below (by (with_reducible repeat (first | apply Kd.R_alloc | apply Kd.R_drewN | apply Kd.R_drew)); exact HO_5.out) hb); have n1_ := Aside0.mk (Kd.R_below (by (with_reducible repeat (first | apply Kd.R_alloc | apply Kd.R_drewN | apply Kd.R_drew)); exact HO_32.out) hb); have n2_ := Aside0.mk (below_step (by repeat (first | (with_reducible first | exact HB.out | apply below_alloc | apply pw_below_drewN | apply below_drew1) | exact HB.out)) hb); clear HO_5; clear HO_32; clear HB; have HO_5 := n0_; have HO_32 := n1_; have HB := n2_; clear n0_ n1_ n2_; (try clear hb); (try clear hb2); (try clear hk); (try clear hi)) | (go_at_call 3; (with_reducible refine (porticolaw9_RuleRuns.calls k1  t137 _ A133.out).mono ?_); rintro e w135 ⟨rfl, hb⟩; have n0_ := Aside0.mk (Kd.R_below (by (with_reducible repeat (first | apply Kd.R_alloc | apply Kd.R_drewN | apply Kd.R_drew)); exact HO_5.out) hb); have n1_ := Aside0.mk (Kd.R_below (by (with_reducible repeat (first | apply Kd.R_alloc | apply Kd.R_drewN | apply Kd.R_drew)); exact HO_32.out) hb); have n2_ := Aside0.mk (below_step (by repeat (first | (with_reducible first | exact HB.out | apply below_alloc | apply pw_below_drewN | apply below_drew1) | exact HB.out)) hb); clear HO_5; clear HO_32; clear HB; have HO_5 := n0_; have HO_32 := n1_; have HB := n2_; clear n0_ n1_ n2_; (try clear hb); (try clear hb2); (try clear hk); (try clear hi)))
                        go_ret
                        exact ⟨by first | rfl | (simp [errW_none, errW_some] <;> rfl) | (simp only [← hji3, ← hji7]; first | rfl | (simp [errW_none, errW_some] <;> rfl)) | (simp [*, errW_none, errW_some] <;> rfl), by repeat (first | (with_reducible first | exact HB.out | apply below_alloc | apply pw_below_drewN | apply below_drew1) | exact HB.out)⟩
                      · rw [if_neg c132] at H
                        have c132b0 : (t136 == x9_1) = false := beq_eq_false_iff_ne.mpr c132
                        have c132b1 : (t136 != x9_1) = true := bne_iff_ne.mpr c132
                        obtain rfl := Option.some.inj H
                        go_wp2_with (first | ((with_reducible refine gate_callee (f := 9) rfl ?_); refine goesL_ (some 109) rfl rfl Try.func9 (by kernel_rfl) rfl #[.slice Ao16 y130.length co16, .slice A1 (l1.take ((ji7) : Int).toNat).length c1] rfl (by (try simp only [List.map_toArray, List.map_cons, List.map_nil]); first | done | (rw [show (l1.take ((ji7) : Int).toNat).length = (ji7).toNat from (by rw [List.length_take]; have h_ : ((ji7) : Int) ≤ (l1.length : Int) := (by first | (with_reducible assumption) | omega | exact of_decide_eq_true (by first | (with_reducible assumption) | assumption)); omega)] <;> rfl) | (simp only [hji7]; rfl) | rfl | (simp only [List.length_drop, List.length_take]; rfl)) ?_; (with_reducible refine (rule_All.calls k1 _ _ y130 _ _ (l1.take ((ji7) : Int).toNat) t134 t135 t136 _ ?side1 ?side2 ?side3 ?side4 A129.out).mono ?_); (case side1 => repeat (first | exact (Kd.R_reads' HO_5.out).2.2 | (with_reducible refine Kd.C_alloc ?_ _) | (with_reducible refine Kd.C_drewN ?_ _) | (with_reducible refine Kd.C_drew ?_))); (case side2 => exact (Kd.R_reads' HO_5.out).2.1); (case side3 => repeat (first | exact (Kd.C_below HR133.out HB.out) | (with_reducible refine Kd.C_alloc ?_ _) | (with_reducible refine Kd.C_drewN ?_ _) | (with_reducible refine Kd.C_drew ?_))); (case side4 => exact HC133.out); rintro e w136 ⟨rfl, hb⟩; refine ⟨_, rfl, ?_⟩; have n0_ := Aside0.mk (Kd.R_below (by (with_reducible repeat (first | apply Kd.R_alloc | apply Kd.R_drewN | apply Kd.R_drew)); exact HO_5.out) hb); have n1_ := Aside0.mk (Kd.R_below (by (with_reducible repeat (first | apply Kd.R_alloc | apply Kd.R_drewN | apply Kd.R_drew)); exact HO_32.out) hb); have n2_ := Aside0.mk (below_step (by repeat (first | (with_reducible first | exact HB.out | apply below_alloc | apply pw_below_drewN | apply below_drew1) | exact HB.out)) hb); clear HO_5; clear HO_32; clear HB; have HO_5 := n0_; have HO_32 := n1_; have HB := n2_; clear n0_ n1_ n2_; (try clear hb); (try clear hb2); (try clear hk); (try clear hi)))
                        go_ret
                        exact ⟨by first | rfl | (simp [errW_none, errW_some] <;> rfl) | (simp only [← hji3, ← hji7]; first | rfl | (simp [errW_none, errW_some] <;> rfl)) | (simp [*, errW_none, errW_some] <;> rfl), by repeat (first | (with_reducible first | exact HB.out | apply below_alloc | apply pw_below_drewN | apply below_drew1) | exact HB.out)⟩
                    · rw [if_neg c131] at H
                      have c131b0 : (t135.toList == x8_1.toList) = false := beq_eq_false_iff_ne.mpr c131
                      have c131b1 : (t135.toList != x8_1.toList) = true := bne_iff_ne.mpr c131
                      obtain rfl := Option.some.inj H
                      go_wp2_with (first | ((with_reducible refine gate_callee (f := 9) rfl ?_); refine goesL_ (some 109) rfl rfl Try.func9 (by kernel_rfl) rfl #[.slice Ao16 y130.length co16, .slice A1 (l1.take ((ji7) : Int).toNat).length c1] rfl (by (try simp only [List.map_toArray, List.map_cons, List.map_nil]); first | done | (rw [show (l1.take ((ji7) : Int).toNat).length = (ji7).toNat from (by rw [List.length_take]; have h_ : ((ji7) : Int) ≤ (l1.length : Int) := (by first | (with_reducible assumption) | omega | exact of_decide_eq_true (by first | (with_reducible assumption) | assumption)); omega)] <;> rfl) | (simp only [hji7]; rfl) | rfl | (simp only [List.length_drop, List.length_take]; rfl)) ?_; (with_reducible refine (rule_All.calls k1 _ _ y130 _ _ (l1.take ((ji7) : Int).toNat) t134 t135 t136 _ ?side1 ?side2 ?side3 ?side4 A129.out).mono ?_); (case side1 => repeat (first | exact (Kd.R_reads' HO_5.out).2.2 | (with_reducible refine Kd.C_alloc ?_ _) | (with_reducible refine Kd.C_drewN ?_ _) | (with_reducible refine Kd.C_drew ?_))); (case side2 => exact (Kd.R_reads' HO_5.out).2.1); (case side3 => repeat (first | exact (Kd.C_below HR133.out HB.out) | (with_reducible refine Kd.C_alloc ?_ _) | (with_reducible refine Kd.C_drewN ?_ _) | (with_reducible refine Kd.C_drew ?_))); (case side4 => exact HC133.out); rintro e w137 ⟨rfl, hb⟩; refine ⟨_, rfl, ?_⟩; have n0_ := Aside0.mk (Kd.R_below (by (with_reducible repeat (first | apply Kd.R_alloc | apply Kd.R_drewN | apply Kd.R_drew)); exact HO_5.out) hb); have n1_ := Aside0.mk (Kd.R_below (by (with_reducible repeat (first | apply Kd.R_alloc | apply Kd.R_drewN | apply Kd.R_drew)); exact HO_32.out) hb); have n2_ := Aside0.mk (below_step (by repeat (first | (with_reducible first | exact HB.out | apply below_alloc | apply pw_below_drewN | apply below_drew1) | exact HB.out)) hb); clear HO_5; clear HO_32; clear HB; have HO_5 := n0_; have HO_32 := n1_; have HB := n2_; clear n0_ n1_ n2_; (try clear hb); (try clear hb2); (try clear hk); (try clear hi)))
                      go_ret
                      exact ⟨by first | rfl | (simp [errW_none, errW_some] <;> rfl) | (simp only [← hji3, ← hji7]; first | rfl | (simp [errW_none, errW_some] <;> rfl)) | (simp [*, errW_none, errW_some] <;> rfl), by repeat (first | (with_reducible first | exact HB.out | apply below_alloc | apply pw_below_drewN | apply below_drew1) | exact HB.out)⟩
                  · rw [if_neg c130] at H
                    have c130b0 : (t134 == x7_1) = false := beq_eq_false_iff_ne.mpr c130
                    have c130b1 : (t134 != x7_1) = true := bne_iff_ne.mpr c130
                    obtain rfl := Option.some.inj H
                    go_wp2_with (first | ((with_reducible refine gate_callee (f := 9) rfl ?_); refine goesL_ (some 109) rfl rfl Try.func9 (by kernel_rfl) rfl #[.slice Ao16 y130.length co16, .slice A1 (l1.take ((ji7) : Int).toNat).length c1] rfl (by (try simp only [List.map_toArray, List.map_cons, List.map_nil]); first | done | (rw [show (l1.take ((ji7) : Int).toNat).length = (ji7).toNat from (by rw [List.length_take]; have h_ : ((ji7) : Int) ≤ (l1.length : Int) := (by first | (with_reducible assumption) | omega | exact of_decide_eq_true (by first | (with_reducible assumption) | assumption)); omega)] <;> rfl) | (simp only [hji7]; rfl) | rfl | (simp only [List.length_drop, List.length_take]; rfl)) ?_; (with_reducible refine (rule_All.calls k1 _ _ y130 _ _ (l1.take ((ji7) : Int).toNat) t134 t135 t136 _ ?side1 ?side2 ?side3 ?side4 A129.out).mono ?_); (case side1 => repeat (first | exact (Kd.R_reads' HO_5.out).2.2 | (with_reducible refine Kd.C_alloc ?_ _) | (with_reducible refine Kd.C_drewN ?_ _) | (with_reducible refine Kd.C_drew ?_))); (case side2 => exact (Kd.R_reads' HO_5.out).2.1); (case side3 => repeat (first | exact (Kd.C_below HR133.out HB.out) | (with_reducible refine Kd.C_alloc ?_ _) | (with_reducible refine Kd.C_drewN ?_ _) | (with_reducible refine Kd.C_drew ?_))); (case side4 => exact HC133.out); rintro e w138 ⟨rfl, hb⟩; refine ⟨_, rfl, ?_⟩; have n0_ := Aside0.mk (Kd.R_below (by (with_reducible repeat (first | apply Kd.R_alloc | apply Kd.R_drewN | apply Kd.R_drew)); exact HO_5.out) hb); have n1_ := Aside0.mk (Kd.R_below (by (with_reducible repeat (first | apply Kd.R_alloc | apply Kd.R_drewN | apply Kd.R_drew)); exact HO_32.out) hb); have n2_ := Aside0.mk (below_step (by repeat (first | (with_reducible first | exact HB.out | apply below_alloc | apply pw_below_drewN | apply below_drew1) | exact HB.out)) hb); clear HO_5; clear HO_32; clear HB; have HO_5 := n0_; have HO_32 := n1_; have HB := n2_; clear n0_ n1_ n2_; (try clear hb); (try clear hb2); (try clear hk); (try clear hi)))
                    go_ret
                    exact ⟨by first | rfl | (simp [errW_none, errW_some] <;> rfl) | (simp only [← hji3, ← hji7]; first | rfl | (simp [errW_none, errW_some] <;> rfl)) | (simp [*, errW_none, errW_some] <;> rfl), by repeat (first | (with_reducible first | exact HB.out | apply below_alloc | apply pw_below_drewN | apply below_drew1) | exact HB.out)⟩
          · rw [if_neg c9] at H
            exact absurd H (by simp)
        · rw [if_neg c8] at H
          exact absurd H (by simp)
      · rw [if_neg c6] at H
        exact absurd H (by simp)
    · rw [if_neg c5] at H
      exact absurd H (by simp)
  · rw [if_neg c4] at H
    exact absurd H (by simp)

end Go.Proofs.Ytkcpnbllgpkejaa.PRuleTells
