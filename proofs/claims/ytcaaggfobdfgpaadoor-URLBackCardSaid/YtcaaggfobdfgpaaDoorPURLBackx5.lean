-- Printed by a program of this session's own (wip/tools: a turned copy of the kit's print).
import Derived.Test.YtcaaggfobdfgpaaDoorWalkURLBack
import Derived.Test.YtcaaggfobdfgpaaDoorPURLBackx0
import Derived.Test.YtcaaggfobdfgpaaDoorPURLBackx2
import Derived.Test.YtcaaggfobdfgpaaDoorPURLBackx3
import Derived.Test.YtcaaggfobdfgpaaDoorPURLBackx4
namespace Go.Proofs.YtcaaggfobdfgpaaDoor.PURLBack
open Go.Proofs.YtcaaggfobdfgpaaDoor.Given
open Go.RowKit Go.Proofs.YtcaaggfobdfgpaaDoorW.PrintWords Go.Proofs.YtcaaggfobdfgpaaDoorW.PrintLast Go.Proofs.YtcaaggfobdfgpaaDoorW.PrintMore
attribute [local go_sem] max2_int min2_int max_two min_two max_three min_three max_four min_four   -- for this text's walks alone
set_option linter.unusedVariables false
set_option linter.unusedSimpArgs false

/-! ### porticolaw4_URLBack: function 4 -/
mutual
def porticolaw4_URLBack.j1 : Nat → ByteArray → Option (Bool)
  | 0, _ => none
  | k + 1, x2 => (url_Parse.f k x2).bind fun bt239 => (if bt239.2.2 = 0 then ((url_Print.f bt239.1 bt239.2.1).bind fun t249 => ((url_Parse.f k t249).bind fun bt250 => ((url_Right.f k bt239.1 bt239.2.1).bind fun t258 => (if t258 = true then (if bt250.2.2 = 0 then ((porticolaw4_equal.f k bt250.1 bt250.2.1 bt239.1 bt239.2.1).bind fun t259 => (if t259 = true then ((url_Print.f bt250.1 bt250.2.1).bind fun t260 => (if t260.toList = t249.toList then (if (t249.size : Int) > 0 then ((porticolaw4_URLRuns.f k).bind fun t261 => (some t261)) else (none)) else (none))) else (none))) else (none)) else (none))))) else (if bt239.2.2 = 1 then ((porticolaw4_equal.f k bt239.1 bt239.2.1 ([] : List ByteArray) ([] : List (S32))).bind fun t247 => (if t247 = true then ((porticolaw4_URLRuns.f k).bind fun t248 => (some t248)) else (none))) else (none)))
def porticolaw4_URLBack.j0 : Nat → ByteArray → ByteArray → ByteArray → Bool → List ByteArray → List (S32) → List ByteArray → List (S32) → Option (Bool)
  | 0, _, _, _, _, _, _, _, _ => none
  | k + 1, x2, x7, x8, x47, x212000, x212001, x213000, x213001 => if x47 = true then (none) else ((url_Right.f k x213000 x213001).bind fun t237 => (if t237 = true then ((porticolaw4_equal.f k x212000 x212001 x213000 x213001).bind fun t238 => (if ((x7.toList == x8.toList) != t238) = true then (none) else (porticolaw4_URLBack.j1 k x2))) else (porticolaw4_URLBack.j1 k x2)))
end
def porticolaw4_URLBack.f (k : Nat) (l0_0 : List ByteArray) (l0_1 : List (S32)) (l1_0 : List ByteArray) (l1_1 : List (S32)) (a2 : ByteArray) : Option (Bool) := (porticolaw4_few.f l0_0 l0_1).bind fun bt213 => ((porticolaw4_few.f l1_0 l1_1).bind fun bt219 => (if 0 ≤ (mn (a2.size : Int) 120) then (if (mn (a2.size : Int) 120) ≤ (a2.size : Int) then ((url_Print.f bt213.1 bt213.2).bind fun t225 => ((url_Print.f bt219.1 bt219.2).bind fun t226 => ((url_Right.f k bt213.1 bt213.2).bind fun t227 => (if t227 = true then ((url_Parse.f k t225).bind fun bt228 => (if bt228.2.2 = 0 then ((porticolaw4_equal.f k bt228.1 bt228.2.1 bt213.1 bt213.2).bind fun t236 => (if t236 = true then (porticolaw4_URLBack.j0 k (a2.extract 0 ((mn (a2.size : Int) 120) : Int).toNat) t225 t226 (t225.toList == ([] : List UInt8)) bt213.1 bt213.2 bt219.1 bt219.2) else (porticolaw4_URLBack.j0 k (a2.extract 0 ((mn (a2.size : Int) 120) : Int).toNat) t225 t226 true bt213.1 bt213.2 bt219.1 bt219.2))) else (porticolaw4_URLBack.j0 k (a2.extract 0 ((mn (a2.size : Int) 120) : Int).toNat) t225 t226 true bt213.1 bt213.2 bt219.1 bt219.2))) else (if t225.toList = ([] : List UInt8) then (porticolaw4_URLBack.j1 k (a2.extract 0 ((mn (a2.size : Int) 120) : Int).toNat)) else (none)))))) else (none)) else (none)))
theorem porticolaw4_URLBack.mono_l : ∀ k, (∀ y0, LeO (porticolaw4_URLBack.j1 k y0) (porticolaw4_URLBack.j1 (k + 1) y0)) ∧ (∀ y0 y1 y2 y3 y4 y5 y6 y7, LeO (porticolaw4_URLBack.j0 k y0 y1 y2 y3 y4 y5 y6 y7) (porticolaw4_URLBack.j0 (k + 1) y0 y1 y2 y3 y4 y5 y6 y7))
  | 0 => ⟨fun _ r h => by simp [porticolaw4_URLBack.j1] at h, fun _ _ _ _ _ _ _ _ r h => by simp [porticolaw4_URLBack.j0] at h⟩
  | k + 1 => by
    obtain ⟨ih0, ih1⟩ := porticolaw4_URLBack.mono_l k
    refine ⟨?_, ?_⟩
    · intro y0
      unfold porticolaw4_URLBack.j1
      repeat' first
      | (with_reducible exact ih0 _)
      | (with_reducible exact ih1 _ _ _ _ _ _ _ _)
      | (with_reducible exact porticolaw4_URLRuns.mono _)
      | (with_reducible exact porticolaw4_equal.mono _ _ _ _ _)
      | (with_reducible exact url_Parse.mono _ _)
      | (with_reducible exact url_Right.mono _ _ _)
      | (with_reducible exact LeO.refl _)
      | (with_reducible exact LeO.none _)
      | (with_reducible refine LeO.ite ?_ ?_)
      | (with_reducible refine LeO.bind ?_ (fun _ => ?_))
      | exact ih0 _
      | exact ih1 _ _ _ _ _ _ _ _
      | exact porticolaw4_URLRuns.mono _
      | exact porticolaw4_equal.mono _ _ _ _ _
      | exact url_Parse.mono _ _
      | exact url_Right.mono _ _ _
      | exact LeO.none _
      | refine LeO.ite ?_ ?_
      | refine LeO.bind ?_ (fun _ => ?_)
    · intro y0 y1 y2 y3 y4 y5 y6 y7
      unfold porticolaw4_URLBack.j0
      repeat' first
      | (with_reducible exact ih0 _)
      | (with_reducible exact ih1 _ _ _ _ _ _ _ _)
      | (with_reducible exact porticolaw4_URLRuns.mono _)
      | (with_reducible exact porticolaw4_equal.mono _ _ _ _ _)
      | (with_reducible exact url_Parse.mono _ _)
      | (with_reducible exact url_Right.mono _ _ _)
      | (with_reducible exact LeO.refl _)
      | (with_reducible exact LeO.none _)
      | (with_reducible refine LeO.ite ?_ ?_)
      | (with_reducible refine LeO.bind ?_ (fun _ => ?_))
      | exact ih0 _
      | exact ih1 _ _ _ _ _ _ _ _
      | exact porticolaw4_URLRuns.mono _
      | exact porticolaw4_equal.mono _ _ _ _ _
      | exact url_Parse.mono _ _
      | exact url_Right.mono _ _ _
      | exact LeO.none _
      | refine LeO.ite ?_ ?_
      | refine LeO.bind ?_ (fun _ => ?_)
theorem porticolaw4_URLBack.mono : ∀ a0 a1 a2 a3 a4 k, LeO (porticolaw4_URLBack.f k a0 a1 a2 a3 a4) (porticolaw4_URLBack.f (k + 1) a0 a1 a2 a3 a4) := by
  intro a0 a1 a2 a3 a4 k
  obtain ⟨ih0, ih1⟩ := porticolaw4_URLBack.mono_l k
  unfold porticolaw4_URLBack.f
  repeat' first
      | (with_reducible exact ih0 _)
      | (with_reducible exact ih1 _ _ _ _ _ _ _ _)
      | (with_reducible exact porticolaw4_URLRuns.mono _)
      | (with_reducible exact porticolaw4_equal.mono _ _ _ _ _)
      | (with_reducible exact url_Parse.mono _ _)
      | (with_reducible exact url_Right.mono _ _ _)
      | (with_reducible exact LeO.refl _)
      | (with_reducible exact LeO.none _)
      | (with_reducible refine LeO.ite ?_ ?_)
      | (with_reducible refine LeO.bind ?_ (fun _ => ?_))
      | exact ih0 _
      | exact ih1 _ _ _ _ _ _ _ _
      | exact porticolaw4_URLRuns.mono _
      | exact porticolaw4_equal.mono _ _ _ _ _
      | exact url_Parse.mono _ _
      | exact url_Right.mono _ _ _
      | exact LeO.none _
      | refine LeO.ite ?_ ?_
      | refine LeO.bind ?_ (fun _ => ?_)
def porticolaw4_URLBack.T1 : Bool × List (List Nat × List Nat) := (true, [([], []), ([0], [0]), ([], []), ([2, 1], [2]), ([], []), ([], []), ([5], [5]), ([6], [6]), ([4, 7], [4, 7]), ([1, 3, 0, 1], [1]), ([3, 9, 0, 1, 2, 3, 9], [3]), ([8, 10, 0, 1, 2, 3, 4, 5, 6, 7, 8, 9, 10], [4, 5, 8])])
def porticolaw4_URLBack.B1 : List Nat := [0, 1, 0, 7, 0, 0, 32, 96, 240, 15, 527, 2047]
theorem porticolaw4_URLBack.tab1 : rtab .any (opsOf Tryd.f4 1) = porticolaw4_URLBack.T1 := by kernel_rfl
theorem porticolaw4_URLBack.bits1 : waitsOk porticolaw4_URLBack.T1.2 porticolaw4_URLBack.B1 = true := by kernel_rfl
set_option maxHeartbeats 8000000 in
set_option maxRecDepth 100000 in
theorem porticolaw4_URLBack.calls (k : Nat) (A0_0 : Option Addr) (c0_0 : Nat) (l0_0 : List ByteArray) (A0_1 : Option Addr) (c0_1 : Nat) (l0_1 : List (S32)) (A1_0 : Option Addr) (c1_0 : Nat) (l1_0 : List ByteArray) (A1_1 : Option Addr) (c1_1 : Nat) (l1_1 : List (S32)) (a2 : ByteArray) (r : Bool) (w : World) (hr0_0 : Kd.C Kd.string w A0_0 l0_0.length l0_0) (hc0_0 : l0_0.length ≤ c0_0) (hr0_1 : Kd.C k32 w A0_1 l0_1.length l0_1) (hc0_1 : l0_1.length ≤ c0_1) (hr1_0 : Kd.C Kd.string w A1_0 l1_0.length l1_0) (hc1_0 : l1_0.length ≤ c1_0) (hr1_1 : Kd.C k32 w A1_1 l1_1.length l1_1) (hc1_1 : l1_1.length ≤ c1_1) (h : porticolaw4_URLBack.f k l0_0 l0_1 l1_0 l1_1 a2 = some r) :
    Calls Tryd.prog 4 #[.agg #[.slice A0_0 l0_0.length c0_0, .slice A0_1 l0_1.length c0_1], .agg #[.slice A1_0 l1_0.length c1_0, .slice A1_1 l1_1.length c1_1], .string a2] w fun e w' => e = .returned (.bool r) ∧ Below w.heap.size w w' := by
  have hu25 := Tryd.underlying25
  have HR0_0 := Aside0.mk hr0_0
  have HC0_0 := Aside0.mk hc0_0
  clear hr0_0 hc0_0
  have HR0_1 := Aside0.mk hr0_1
  have HC0_1 := Aside0.mk hc0_1
  clear hr0_1 hc0_1
  have HR1_0 := Aside0.mk hr1_0
  have HC1_0 := Aside0.mk hc1_0
  clear hr1_0 hc1_0
  have HR1_1 := Aside0.mk hr1_1
  have HC1_1 := Aside0.mk hc1_1
  clear hr1_1 hc1_1
  have HB := Aside0.mk (Below.refl w.heap.size w)
  have H : ((porticolaw4_few.f l0_0 l0_1).bind fun bt213 => ((porticolaw4_few.f l1_0 l1_1).bind fun bt219 => (if 0 ≤ (mn (a2.size : Int) 120) then (if (mn (a2.size : Int) 120) ≤ (a2.size : Int) then ((url_Print.f bt213.1 bt213.2).bind fun t225 => ((url_Print.f bt219.1 bt219.2).bind fun t226 => ((url_Right.f k bt213.1 bt213.2).bind fun t227 => (if t227 = true then ((url_Parse.f k t225).bind fun bt228 => (if bt228.2.2 = 0 then ((porticolaw4_equal.f k bt228.1 bt228.2.1 bt213.1 bt213.2).bind fun t236 => (if t236 = true then (porticolaw4_URLBack.j0 k (a2.extract 0 ((mn (a2.size : Int) 120) : Int).toNat) t225 t226 (t225.toList == ([] : List UInt8)) bt213.1 bt213.2 bt219.1 bt219.2) else (porticolaw4_URLBack.j0 k (a2.extract 0 ((mn (a2.size : Int) 120) : Int).toNat) t225 t226 true bt213.1 bt213.2 bt219.1 bt219.2))) else (porticolaw4_URLBack.j0 k (a2.extract 0 ((mn (a2.size : Int) 120) : Int).toNat) t225 t226 true bt213.1 bt213.2 bt219.1 bt219.2))) else (if t225.toList = ([] : List UInt8) then (porticolaw4_URLBack.j1 k (a2.extract 0 ((mn (a2.size : Int) 120) : Int).toNat)) else (none)))))) else (none)) else (none)))) = some r := h
  clear h
  replace H := Option.bind_eq_some_iff.mp H
  obtain ⟨⟨t213, t216⟩, A40, H⟩ := H
  replace H : ((porticolaw4_few.f l1_0 l1_1).bind fun bt219 => (if 0 ≤ (mn (a2.size : Int) 120) then (if (mn (a2.size : Int) 120) ≤ (a2.size : Int) then ((url_Print.f t213 t216).bind fun t225 => ((url_Print.f bt219.1 bt219.2).bind fun t226 => ((url_Right.f k t213 t216).bind fun t227 => (if t227 = true then ((url_Parse.f k t225).bind fun bt228 => (if bt228.2.2 = 0 then ((porticolaw4_equal.f k bt228.1 bt228.2.1 t213 t216).bind fun t236 => (if t236 = true then (porticolaw4_URLBack.j0 k (a2.extract 0 ((mn (a2.size : Int) 120) : Int).toNat) t225 t226 (t225.toList == ([] : List UInt8)) t213 t216 bt219.1 bt219.2) else (porticolaw4_URLBack.j0 k (a2.extract 0 ((mn (a2.size : Int) 120) : Int).toNat) t225 t226 true t213 t216 bt219.1 bt219.2))) else (porticolaw4_URLBack.j0 k (a2.extract 0 ((mn (a2.size : Int) 120) : Int).toNat) t225 t226 true t213 t216 bt219.1 bt219.2))) else (if t225.toList = ([] : List UInt8) then (porticolaw4_URLBack.j1 k (a2.extract 0 ((mn (a2.size : Int) 120) : Int).toNat)) else (none)))))) else (none)) else (none))) = some r := H
  have A4 := Aside0.mk A40
  clear A40
  replace H := Option.bind_eq_some_iff.mp H
  obtain ⟨⟨t219, t222⟩, A50, H⟩ := H
  replace H : (if 0 ≤ (mn (a2.size : Int) 120) then (if (mn (a2.size : Int) 120) ≤ (a2.size : Int) then ((url_Print.f t213 t216).bind fun t225 => ((url_Print.f t219 t222).bind fun t226 => ((url_Right.f k t213 t216).bind fun t227 => (if t227 = true then ((url_Parse.f k t225).bind fun bt228 => (if bt228.2.2 = 0 then ((porticolaw4_equal.f k bt228.1 bt228.2.1 t213 t216).bind fun t236 => (if t236 = true then (porticolaw4_URLBack.j0 k (a2.extract 0 ((mn (a2.size : Int) 120) : Int).toNat) t225 t226 (t225.toList == ([] : List UInt8)) t213 t216 t219 t222) else (porticolaw4_URLBack.j0 k (a2.extract 0 ((mn (a2.size : Int) 120) : Int).toNat) t225 t226 true t213 t216 t219 t222))) else (porticolaw4_URLBack.j0 k (a2.extract 0 ((mn (a2.size : Int) 120) : Int).toNat) t225 t226 true t213 t216 t219 t222))) else (if t225.toList = ([] : List UInt8) then (porticolaw4_URLBack.j1 k (a2.extract 0 ((mn (a2.size : Int) 120) : Int).toNat)) else (none)))))) else (none)) else (none)) = some r := H
  have A5 := Aside0.mk A50
  clear A50
  obtain ⟨ji6, hji6⟩ : ∃ j_ : Int, (mn (a2.size : Int) 120) = j_ := ⟨_, rfl⟩
  replace H : (if 0 ≤ (ji6) then (if (ji6) ≤ (a2.size : Int) then ((url_Print.f t213 t216).bind fun t225 => ((url_Print.f t219 t222).bind fun t226 => ((url_Right.f k t213 t216).bind fun t227 => (if t227 = true then ((url_Parse.f k t225).bind fun bt228 => (if bt228.2.2 = 0 then ((porticolaw4_equal.f k bt228.1 bt228.2.1 t213 t216).bind fun t236 => (if t236 = true then (porticolaw4_URLBack.j0 k (a2.extract 0 ((ji6) : Int).toNat) t225 t226 (t225.toList == ([] : List UInt8)) t213 t216 t219 t222) else (porticolaw4_URLBack.j0 k (a2.extract 0 ((ji6) : Int).toNat) t225 t226 true t213 t216 t219 t222))) else (porticolaw4_URLBack.j0 k (a2.extract 0 ((ji6) : Int).toNat) t225 t226 true t213 t216 t219 t222))) else (if t225.toList = ([] : List UInt8) then (porticolaw4_URLBack.j1 k (a2.extract 0 ((ji6) : Int).toNat)) else (none)))))) else (none)) else (none)) = some r := by first | (rw [hji6] at H; exact H) | (simp only [hji6] at H ⊢; exact H)
  (try rw [hji6] at A4)
  (try rw [hji6] at A5)
  (try (have hji6h : ji6 ≤ 120 := by (rw [← hji6]; unfold mn; (repeat' split) <;> omega)))
  (try (have hji6g : ji6 ≤ 64 := by omega))
  (try (have hji6l : 0 ≤ ji6 := by (rw [← hji6]; unfold mn; (repeat' split) <;> omega)))
  (try (have hji6m : 0 ≤ ji6 := by omega))
  (try (have hji6na : ji6 ≤ (a2.size : Int) := by (rw [← hji6]; unfold mn; (repeat' split) <;> omega)))
  have hji6_ : (if 120 < (a2.size : Int) then 120 else (a2.size : Int)) = ji6 := hji6
  by_cases c7 : 0 ≤ (ji6)
  · rw [if_pos c7] at H
    have c7b0 := eq_true c7
    have c7b1 : decide (0 ≤ (ji6)) = true := decide_eq_true c7
    clear c7
    by_cases c8 : (ji6) ≤ (a2.size : Int)
    · rw [if_pos c8] at H
      have c8b0 := eq_true c8
      have c8b1 : decide ((ji6) ≤ (a2.size : Int)) = true := decide_eq_true c8
      clear c8
      replace H := Option.bind_eq_some_iff.mp H
      obtain ⟨t225, A90, H⟩ := H
      replace H : ((url_Print.f t219 t222).bind fun t226 => ((url_Right.f k t213 t216).bind fun t227 => (if t227 = true then ((url_Parse.f k t225).bind fun bt228 => (if bt228.2.2 = 0 then ((porticolaw4_equal.f k bt228.1 bt228.2.1 t213 t216).bind fun t236 => (if t236 = true then (porticolaw4_URLBack.j0 k (a2.extract 0 ((ji6) : Int).toNat) t225 t226 (t225.toList == ([] : List UInt8)) t213 t216 t219 t222) else (porticolaw4_URLBack.j0 k (a2.extract 0 ((ji6) : Int).toNat) t225 t226 true t213 t216 t219 t222))) else (porticolaw4_URLBack.j0 k (a2.extract 0 ((ji6) : Int).toNat) t225 t226 true t213 t216 t219 t222))) else (if t225.toList = ([] : List UInt8) then (porticolaw4_URLBack.j1 k (a2.extract 0 ((ji6) : Int).toNat)) else (none))))) = some r := H
      have A9 := Aside0.mk A90
      clear A90
      replace H := Option.bind_eq_some_iff.mp H
      obtain ⟨t226, A100, H⟩ := H
      replace H : ((url_Right.f k t213 t216).bind fun t227 => (if t227 = true then ((url_Parse.f k t225).bind fun bt228 => (if bt228.2.2 = 0 then ((porticolaw4_equal.f k bt228.1 bt228.2.1 t213 t216).bind fun t236 => (if t236 = true then (porticolaw4_URLBack.j0 k (a2.extract 0 ((ji6) : Int).toNat) t225 t226 (t225.toList == ([] : List UInt8)) t213 t216 t219 t222) else (porticolaw4_URLBack.j0 k (a2.extract 0 ((ji6) : Int).toNat) t225 t226 true t213 t216 t219 t222))) else (porticolaw4_URLBack.j0 k (a2.extract 0 ((ji6) : Int).toNat) t225 t226 true t213 t216 t219 t222))) else (if t225.toList = ([] : List UInt8) then (porticolaw4_URLBack.j1 k (a2.extract 0 ((ji6) : Int).toNat)) else (none)))) = some r := H
      have A10 := Aside0.mk A100
      clear A100
      replace H := Option.bind_eq_some_iff.mp H
      obtain ⟨t227, A110, H⟩ := H
      replace H : (if t227 = true then ((url_Parse.f k t225).bind fun bt228 => (if bt228.2.2 = 0 then ((porticolaw4_equal.f k bt228.1 bt228.2.1 t213 t216).bind fun t236 => (if t236 = true then (porticolaw4_URLBack.j0 k (a2.extract 0 ((ji6) : Int).toNat) t225 t226 (t225.toList == ([] : List UInt8)) t213 t216 t219 t222) else (porticolaw4_URLBack.j0 k (a2.extract 0 ((ji6) : Int).toNat) t225 t226 true t213 t216 t219 t222))) else (porticolaw4_URLBack.j0 k (a2.extract 0 ((ji6) : Int).toNat) t225 t226 true t213 t216 t219 t222))) else (if t225.toList = ([] : List UInt8) then (porticolaw4_URLBack.j1 k (a2.extract 0 ((ji6) : Int).toNat)) else (none))) = some r := H
      have A11 := Aside0.mk A110
      clear A110
      have HC12 := Aside0.mk H
      clear H
      go_enter Tryd.func4, Tryd.ntmps4
      try go_wp2_with (first | ((with_reducible refine gate_dst (N := 3) rfl ?_); (try (refine gate_guard (by rfl) ?_; dsimp only)); refine box_event ?hg (N := 3) ?hd (cs := #[.slice A0_0 l0_0.length c0_0, .slice A0_1 l0_1.length c0_1]) (t := 25) ?hr ?_; (case hd => rfl); (case hg => rfl); (case hr => first | (go_simp; done) | (go_simp; rfl)); intro gb211 hg w13 hbox hb; have n0_ := Aside0.mk (below_step (by repeat (first | (with_reducible first | exact HB.out | apply below_alloc | apply pw_below_drewN | apply below_drew1) | exact HB.out)) hb); have n1_ := Aside0.mk (hbox); have n2_ := Aside0.mk ((by rw [hg]; exact (below_size (by repeat (first | (with_reducible first | exact HB.out | apply below_alloc | apply pw_below_drewN | apply below_drew1) | exact HB.out))) : w.heap.size ≤ gb211)); have n3_ := Aside0.mk ((by rw [hg]; exact (below_size (by repeat (first | (with_reducible first | exact HB.out | apply below_alloc | apply pw_below_drewN | apply below_drew1) | exact HB.out))) : w.heap.size ≤ gb211)); clear HB; have HB := n0_; have BK211 := n1_; have GW211 := n2_; have GE211 := n3_; clear n0_ n1_ n2_ n3_; clear hb hbox hg) | ((with_reducible refine gate_dst (N := 4) rfl ?_); (try (refine gate_guard (by rfl) ?_; dsimp only)); refine box_event ?hg (N := 4) ?hd (cs := #[.slice A1_0 l1_0.length c1_0, .slice A1_1 l1_1.length c1_1]) (t := 25) ?hr ?_; (case hd => rfl); (case hg => rfl); (case hr => first | (go_simp; done) | (go_simp; rfl)); intro gb212 hg w14 hbox hb; have n0_ := Aside0.mk (blk_below (g := gb211) (o := .cells #[.slice A0_0 l0_0.length c0_0, .slice A0_1 l0_1.length c0_1] 25 (0, 0)) (by (with_reducible repeat (first | refine blk_drewN ?_ _ | refine blk_drew ?_ | refine blk_alloc ?_ _)); exact BK211.out) hb); have n1_ := Aside0.mk (below_step (by repeat (first | (with_reducible first | exact HB.out | apply below_alloc | apply pw_below_drewN | apply below_drew1 | refine below_set ?_ GE211.out) | exact HB.out)) hb); have n2_ := Aside0.mk (hbox); have n3_ := Aside0.mk ((by rw [hg]; exact (below_size (by repeat (first | (with_reducible first | exact HB.out | apply below_alloc | apply pw_below_drewN | apply below_drew1 | refine below_set ?_ GE211.out) | exact HB.out))) : w.heap.size ≤ gb212)); have n4_ := Aside0.mk ((by rw [hg]; exact (below_size (by repeat (first | (with_reducible first | exact HB.out | apply below_alloc | apply pw_below_drewN | apply below_drew1 | refine below_set ?_ GE211.out) | exact HB.out))) : w.heap.size ≤ gb212)); have n5_ := Aside0.mk ((by rw [hg]; exact Nat.ne_of_lt (blk_lt (g := gb211) (o := .cells #[.slice A0_0 l0_0.length c0_0, .slice A0_1 l0_1.length c0_1] 25 (0, 0)) (by (with_reducible repeat (first | refine blk_drewN ?_ _ | refine blk_drew ?_ | refine blk_alloc ?_ _)); exact BK211.out)) : gb211 ≠ gb212)); have n6_ := Aside0.mk ((by rw [hg]; exact Nat.ne_of_gt (blk_lt (g := gb211) (o := .cells #[.slice A0_0 l0_0.length c0_0, .slice A0_1 l0_1.length c0_1] 25 (0, 0)) (by (with_reducible repeat (first | refine blk_drewN ?_ _ | refine blk_drew ?_ | refine blk_alloc ?_ _)); exact BK211.out)) : gb212 ≠ gb211)); clear BK211; clear HB; have BK211 := n0_; have HB := n1_; have BK212 := n2_; have GW212 := n3_; have GE212 := n4_; have NB211_212 := n5_; have NB212_211 := n6_; clear n0_ n1_ n2_ n3_ n4_ n5_ n6_; clear hb hbox hg))
      have n0_ := Aside0.mk (blk_drew BK211.out)
      have n1_ := Aside0.mk (blk_drew BK212.out)
      have n2_ := Aside0.mk (below_drew1 HB.out)
      clear BK211
      clear BK212
      clear HB
      have BK211 := n0_
      have BK212 := n1_
      have HB := n2_
      clear n0_ n1_ n2_
      refine start_ (n := 12) (S := fun w' => w'.cell? ⟨gb211, 0, none⟩ = some (.slice A0_0 l0_0.length c0_0) ∧ w'.cell? ⟨gb211, 1, none⟩ = some (.slice A0_1 l0_1.length c0_1) ∧ w'.cell? ⟨gb212, 0, none⟩ = some (.slice A1_0 l1_0.length c1_0) ∧ w'.cell? ⟨gb212, 1, none⟩ = some (.slice A1_1 l1_1.length c1_1)) (ds := [9, 10]) #[false, false, false, false, false, false, false, false, false, false, false, false] (by kernel_rfl) rfl rfl ⟨(blk_cell BK211.out 0).trans rfl, (blk_cell BK211.out 1).trans rfl, (blk_cell BK212.out 0).trans rfl, (blk_cell BK212.out 1).trans rfl⟩ (fun hHeld => ?_); refine with_tabW porticolaw4_URLBack.tab1 porticolaw4_URLBack.bits1 (fun HT_ HW_ => ?_)
      generalize w14.drew = w15 at BK211 BK212 HB hHeld ⊢
      refine pure_ (i := 4) (N := some 20) (v := ?_) (a' := ?_) #[false, false, false, false, true, false, false, false, false, false, false, false] rfl rfl (any_of HT_.out (by kernel_rfl)) (fun _ _ _ h => h) (Or.inl ⟨by rfl, ?_⟩) ?_ ?_
      rotate_left
      · intro w'
        go_simp
        with_reducible rfl
      rotate_left
      · simp only [Act.put, List.setIfInBounds_toArray, List.set_cons_zero, List.set_cons_succ, i64_w, i32_w]
        rfl
      refine pure_ (i := 5) (N := some 21) (v := ?_) (a' := ?_) #[false, false, false, false, true, true, false, false, false, false, false, false] rfl rfl (any_of HT_.out (by kernel_rfl)) (fun _ _ _ h => h) (Or.inl ⟨by rfl, ?_⟩) ?_ ?_
      rotate_left
      · intro w'
        go_simp
        with_reducible rfl
      rotate_left
      · simp only [Act.put, List.setIfInBounds_toArray, List.set_cons_zero, List.set_cons_succ, i64_w, i32_w]
        rfl
      refine pure_ (i := 6) (N := some 22) (v := ?_) (a' := ?_) #[false, false, false, false, true, true, true, false, false, false, false, false] rfl rfl (any_of HT_.out (by kernel_rfl)) (fun _ _ _ h => h) (Or.inl ⟨by rfl, ?_⟩) ?_ ?_
      rotate_left
      · intro w'
        go_simp
        with_reducible rfl
      rotate_left
      · simp only [Act.put, List.setIfInBounds_toArray, List.set_cons_zero, List.set_cons_succ, i64_w, i32_w]
        rfl
      refine pure_ (i := 7) (N := some 23) (v := ?_) (a' := ?_) #[false, false, false, false, true, true, true, true, false, false, false, false] rfl rfl (any_of HT_.out (by kernel_rfl)) (fun _ _ _ h => h) (Or.inl ⟨by rfl, ?_⟩) ?_ ?_
      rotate_left
      · intro w'
        go_simp
        with_reducible rfl
      rotate_left
      · simp only [Act.put, List.setIfInBounds_toArray, List.set_cons_zero, List.set_cons_succ, i64_w, i32_w]
        rfl
      refine pure_ (i := 8) (N := some 24) (v := ?_) (a' := ?_) #[false, false, false, false, true, true, true, true, true, false, false, false] rfl rfl (any_of HT_.out (by kernel_rfl)) (fun _ _ _ h => h) (Or.inl ⟨by rfl, ?_⟩) ?_ ?_
      rotate_left
      · intro w'
        go_simp
        with_reducible rfl
      rotate_left
      · simp only [Act.put, List.setIfInBounds_toArray, List.set_cons_zero, List.set_cons_succ, i64_w, i32_w]
        rfl
      refine take_ (i := 0) (N := some 16) (v := ?_) (a' := ?_) #[true, false, false, false, true, true, true, true, true, false, false, false] rfl rfl (take_ofW HT_.out HW_.out (by kernel_rfl)) (fun _ _ _ h => h) (Or.inl ⟨by rfl, ?_⟩) hHeld ?_ ?_
      rotate_left
      · rintro w' ⟨s0, s1, s2, s3⟩
        go_simp
        with_reducible rfl
      rotate_left
      · simp only [Act.put, List.setIfInBounds_toArray, List.set_cons_zero, List.set_cons_succ, i64_w, i32_w]
        rfl
      refine take_ (i := 2) (N := some 18) (v := ?_) (a' := ?_) #[true, false, true, false, true, true, true, true, true, false, false, false] rfl rfl (take_ofW HT_.out HW_.out (by kernel_rfl)) (fun _ _ _ h => h) (Or.inl ⟨by rfl, ?_⟩) hHeld ?_ ?_
      rotate_left
      · rintro w' ⟨s0, s1, s2, s3⟩
        go_simp
        with_reducible rfl
      rotate_left
      · simp only [Act.put, List.setIfInBounds_toArray, List.set_cons_zero, List.set_cons_succ, i64_w, i32_w]
        rfl
      refine one_ (i := 1) (N := some 17) #[true, true, true, false, true, true, true, true, true, false, false, false] rfl rfl (one_of HT_.out (by kernel_rfl)) (by decide) (fun K hK => ?_)
      refine goes_ Tryd.func13 (by kernel_rfl) rfl #[.agg #[.slice A0_0 l0_0.length c0_0, .slice A0_1 l0_1.length c0_1]] (by rfl) rfl rfl (by (try simp only [List.map_toArray, List.map_cons, List.map_nil]); first | done | rfl | (simp only [List.length_drop, List.length_take]; rfl)) ?_
      with_reducible refine (porticolaw4_few.calls _ _ l0_0 _ _ l0_1 t213 t216 _ ?side1 ?side2 ?side3 ?side4 A4.out).mono ?_
      (case side1 => repeat (first | exact (Kd.C_below HR0_0.out HB.out) | (with_reducible refine Kd.C_alloc ?_ _) | (with_reducible refine Kd.C_drewN ?_ _) | (with_reducible refine Kd.C_drew ?_)))
      (case side2 => exact HC0_0.out)
      (case side3 => repeat (first | exact (Kd.C_below HR0_1.out HB.out) | (with_reducible refine Kd.C_alloc ?_ _) | (with_reducible refine Kd.C_drewN ?_ _) | (with_reducible refine Kd.C_drew ?_)))
      (case side4 => exact HC0_1.out)
      rintro e w16 ⟨v214, v217, rfl, ho0, ho1, hb⟩
      refine ⟨_, rfl, ?_⟩
      have n0_ := Aside0.mk (Kd.R_lower ho0 (below_size (by repeat (first | (with_reducible first | exact HB.out | apply below_alloc | apply pw_below_drewN | apply below_drew1 | refine below_set ?_ GE211.out | refine below_set ?_ GE212.out) | exact HB.out))))
      have n1_ := Aside0.mk (Kd.R_lower ho1 (below_size (by repeat (first | (with_reducible first | exact HB.out | apply below_alloc | apply pw_below_drewN | apply below_drew1 | refine below_set ?_ GE211.out | refine below_set ?_ GE212.out) | exact HB.out))))
      have n2_ := Aside0.mk (blk_below (g := gb211) (o := .cells #[.slice A0_0 l0_0.length c0_0, .slice A0_1 l0_1.length c0_1] 25 (0, 0)) (by (with_reducible repeat (first | refine blk_drewN ?_ _ | refine blk_drew ?_ | refine blk_alloc ?_ _)); exact BK211.out) hb)
      have n3_ := Aside0.mk (blk_below (g := gb212) (o := .cells #[.slice A1_0 l1_0.length c1_0, .slice A1_1 l1_1.length c1_1] 25 (0, 0)) (by (with_reducible repeat (first | refine blk_drewN ?_ _ | refine blk_drew ?_ | refine blk_alloc ?_ _)); exact BK212.out) hb)
      have n4_ := Aside0.mk (below_step (by repeat (first | (with_reducible first | exact HB.out | apply below_alloc | apply pw_below_drewN | apply below_drew1 | refine below_set ?_ GE211.out | refine below_set ?_ GE212.out) | exact HB.out)) hb)
      clear BK211
      clear BK212
      clear HB
      have HO215 := n0_
      have HO218 := n1_
      have BK211 := n2_
      have BK212 := n3_
      have HB := n4_
      clear n0_ n1_ n2_ n3_ n4_
      (try clear hb)
      (try clear hb2)
      (try clear hk)
      (try clear hi)
      (try clear ho0)
      (try clear ho1)
      refine hK.out _ _ ⟨(blk_cell BK211.out 0).trans rfl, (blk_cell BK211.out 1).trans rfl, (blk_cell BK212.out 0).trans rfl, (blk_cell BK212.out 1).trans rfl⟩ (fun hHeld => ?_)
      clear hK K
      refine norm_ (a' := ?_) ?_ ?_
      rotate_left
      · show Act.put _ (some 17) _ = _
        simp only [Act.put, List.setIfInBounds_toArray, List.set_cons_zero, List.set_cons_succ, i64_w, i32_w]
        rfl
      refine one_ (i := 3) (N := some 19) #[true, true, true, true, true, true, true, true, true, false, false, false] rfl rfl (one_of HT_.out (by kernel_rfl)) (by decide) (fun K hK => ?_)
      refine goes_ Tryd.func13 (by kernel_rfl) rfl #[.agg #[.slice A1_0 l1_0.length c1_0, .slice A1_1 l1_1.length c1_1]] (by rfl) rfl rfl (by (try simp only [List.map_toArray, List.map_cons, List.map_nil]); first | done | rfl | (simp only [List.length_drop, List.length_take]; rfl)) ?_
      with_reducible refine (porticolaw4_few.calls _ _ l1_0 _ _ l1_1 t219 t222 _ ?side1 ?side2 ?side3 ?side4 A5.out).mono ?_
      (case side1 => repeat (first | exact (Kd.C_below HR1_0.out HB.out) | (with_reducible refine Kd.C_alloc ?_ _) | (with_reducible refine Kd.C_drewN ?_ _) | (with_reducible refine Kd.C_drew ?_)))
      (case side2 => exact HC1_0.out)
      (case side3 => repeat (first | exact (Kd.C_below HR1_1.out HB.out) | (with_reducible refine Kd.C_alloc ?_ _) | (with_reducible refine Kd.C_drewN ?_ _) | (with_reducible refine Kd.C_drew ?_)))
      (case side4 => exact HC1_1.out)
      rintro e w17 ⟨v220, v223, rfl, ho0, ho1, hb⟩
      refine ⟨_, rfl, ?_⟩
      have n0_ := Aside0.mk (Kd.R_elder' (by (with_reducible repeat (first | apply Kd.R_alloc | apply Kd.R_drewN | apply Kd.R_drew)); exact HO215.out) (Kd.R_base ho0) hb)
      have n1_ := Aside0.mk (Kd.R_elder' (by (with_reducible repeat (first | apply Kd.R_alloc | apply Kd.R_drewN | apply Kd.R_drew)); exact HO218.out) (Kd.R_base ho1) hb)
      have n2_ := Aside0.mk (Kd.R_lower (Kd.R_new' ho0 (Kd.R_lt (by (with_reducible repeat (first | apply Kd.R_alloc | apply Kd.R_drewN | apply Kd.R_drew)); exact HO215.out))) (below_size (by repeat (first | (with_reducible first | exact HB.out | apply below_alloc | apply pw_below_drewN | apply below_drew1 | refine below_set ?_ GE211.out | refine below_set ?_ GE212.out) | exact HB.out))))
      have n3_ := Aside0.mk (Kd.R_lower (Kd.R_new' ho1 (Kd.R_lt (by (with_reducible repeat (first | apply Kd.R_alloc | apply Kd.R_drewN | apply Kd.R_drew)); exact HO218.out))) (below_size (by repeat (first | (with_reducible first | exact HB.out | apply below_alloc | apply pw_below_drewN | apply below_drew1 | refine below_set ?_ GE211.out | refine below_set ?_ GE212.out) | exact HB.out))))
      have n4_ := Aside0.mk (blk_below (g := gb211) (o := .cells #[.slice A0_0 l0_0.length c0_0, .slice A0_1 l0_1.length c0_1] 25 (0, 0)) (by (with_reducible repeat (first | refine blk_drewN ?_ _ | refine blk_drew ?_ | refine blk_alloc ?_ _)); exact BK211.out) hb)
      have n5_ := Aside0.mk (blk_below (g := gb212) (o := .cells #[.slice A1_0 l1_0.length c1_0, .slice A1_1 l1_1.length c1_1] 25 (0, 0)) (by (with_reducible repeat (first | refine blk_drewN ?_ _ | refine blk_drew ?_ | refine blk_alloc ?_ _)); exact BK212.out) hb)
      have n6_ := Aside0.mk (below_step (by repeat (first | (with_reducible first | exact HB.out | apply below_alloc | apply pw_below_drewN | apply below_drew1 | refine below_set ?_ GE211.out | refine below_set ?_ GE212.out) | exact HB.out)) hb)
      clear HO215
      clear HO218
      clear BK211
      clear BK212
      clear HB
      have HO215 := n0_
      have HO218 := n1_
      have HO221 := n2_
      have HO224 := n3_
      have BK211 := n4_
      have BK212 := n5_
      have HB := n6_
      clear n0_ n1_ n2_ n3_ n4_ n5_ n6_
      (try clear hb)
      (try clear hb2)
      (try clear hk)
      (try clear hi)
      (try clear ho0)
      (try clear ho1)
      obtain ⟨Ao18, co18, eo18⟩ := Kd.R_slice HO215.out
      (first | subst eo18 | (injection eo18 with f1_ f2_ f3_; have f4_ := f1_.symm; have f5_ := f3_.symm; clear f1_ f2_ f3_; subst f4_; subst f5_))
      obtain ⟨Ao20, co20, eo20⟩ := Kd.R_slice HO218.out
      (first | subst eo20 | (injection eo20 with f1_ f2_ f3_; have f4_ := f1_.symm; have f5_ := f3_.symm; clear f1_ f2_ f3_; subst f4_; subst f5_))
      obtain ⟨Ao22, co22, eo22⟩ := Kd.R_slice HO221.out
      (first | subst eo22 | (injection eo22 with f1_ f2_ f3_; have f4_ := f1_.symm; have f5_ := f3_.symm; clear f1_ f2_ f3_; subst f4_; subst f5_))
      obtain ⟨Ao24, co24, eo24⟩ := Kd.R_slice HO224.out
      (first | subst eo24 | (injection eo24 with f1_ f2_ f3_; have f4_ := f1_.symm; have f5_ := f3_.symm; clear f1_ f2_ f3_; subst f4_; subst f5_))
      refine hK.out _ _ ⟨(blk_cell BK211.out 0).trans rfl, (blk_cell BK211.out 1).trans rfl, (blk_cell BK212.out 0).trans rfl, (blk_cell BK212.out 1).trans rfl⟩ (fun hHeld => ?_)
      clear hK K
      refine norm_ (a' := ?_) ?_ ?_
      rotate_left
      · show Act.put _ (some 19) _ = _
        simp only [Act.put, List.setIfInBounds_toArray, List.set_cons_zero, List.set_cons_succ, i64_w, i32_w]
        rfl
      refine last_ (i := 9) (N := none) #[true, true, true, true, true, true, true, true, true, true, false, false] rfl rfl (one_of HT_.out (by kernel_rfl)) (by decide) (fun K hK => ?_)
      have hs19 : w17.cell? ⟨gb211, 0, none⟩ = some (.slice A0_0 l0_0.length c0_0) := (blk_cell BK211.out 0).trans rfl
      have hfs19 := blk_frozen BK211.out 0
      have hns19_1 := NB212_211.out
      have hms19_1 := NB211_212.out
      have hs21 : w17.cell? ⟨gb211, 1, none⟩ = some (.slice A0_1 l0_1.length c0_1) := (blk_cell BK211.out 1).trans rfl
      have hfs21 := blk_frozen BK211.out 1
      have hns21_1 := NB212_211.out
      have hms21_1 := NB211_212.out
      refine skip_ (w1 := ?_) (by rfl) rfl ?_ ?_
      rotate_left
      · go_simp
        rfl
      refine hK.out _ _ ?_
      clear hK K
      refine last_ (i := 10) (N := none) #[true, true, true, true, true, true, true, true, true, true, true, false] rfl rfl (one_of HT_.out (by kernel_rfl)) (by decide) (fun K hK => ?_)
      have hs23 : w17.cell? ⟨gb212, 0, none⟩ = some (.slice A1_0 l1_0.length c1_0) := (blk_cell BK212.out 0).trans rfl
      have hfs23 := blk_frozen BK212.out 0
      have hns23_0 := NB211_212.out
      have hms23_0 := NB212_211.out
      have hs25 : w17.cell? ⟨gb212, 1, none⟩ = some (.slice A1_1 l1_1.length c1_1) := (blk_cell BK212.out 1).trans rfl
      have hfs25 := blk_frozen BK212.out 1
      have hns25_0 := NB211_212.out
      have hms25_0 := NB212_211.out
      refine skip_ (w1 := ?_) (by rfl) rfl ?_ ?_
      rotate_left
      · go_simp
        rfl
      refine hK.out _ _ ?_
      clear hK K
      refine pure_ (i := 11) (N := some 2) (v := ?_) (a' := ?_) #[true, true, true, true, true, true, true, true, true, true, true, true] rfl rfl (any_of HT_.out (by kernel_rfl)) (fun _ _ _ h => h) (Or.inl ⟨by rfl, ?_⟩) ?_ ?_
      rotate_left
      · intro w'
        go_simp
        with_reducible rfl
      rotate_left
      · simp only [Act.put, List.setIfInBounds_toArray, List.set_cons_zero, List.set_cons_succ, i64_w, i32_w]
        rfl
      refine done_ (done_of HT_.out (by kernel_rfl)) ?_
      try go_wp2
      have n0_ : Aside0 (Kd.R Kd.string 9 ((((w17.setCell ⟨gb211, 0, none⟩ (.slice Ao18 t213.length co18)).setCell ⟨gb211, 1, none⟩ (.slice Ao20 t216.length co20)).setCell ⟨gb212, 0, none⟩ (.slice Ao22 t219.length co22)).setCell ⟨gb212, 1, none⟩ (.slice Ao24 t222.length co24)) w.heap.size (fun k_ => some k_ ≠ (.slice Ao22 t219.length co22 : Value).ownBlock) (.slice Ao18 t213.length co18) t213) := ⟨by (with_reducible repeat (first | apply Kd.R_alloc | apply Kd.R_drewN | apply Kd.R_drew)); exact Kd.R_mono (Kd.R_far (p := ⟨gb212, 1, none⟩) (Kd.R_far (p := ⟨gb212, 0, none⟩) (Kd.R_far (p := ⟨gb211, 1, none⟩) (Kd.R_far (p := ⟨gb211, 0, none⟩) (Kd.R_types (Kd.R_types HO215.out BK211.out (by decide)) BK212.out (by decide)) (fun _ hk => hk.1.2) (.slice Ao18 t213.length co18)) (fun _ hk => hk.1.2) (.slice Ao20 t216.length co20)) (fun _ hk => hk.2) (.slice Ao22 t219.length co22)) (fun _ hk => hk.2) (.slice Ao24 t222.length co24)) (fun _ hk => hk.1.1.2)⟩
      have n1_ : Aside0 (Kd.R k32 32 ((((w17.setCell ⟨gb211, 0, none⟩ (.slice Ao18 t213.length co18)).setCell ⟨gb211, 1, none⟩ (.slice Ao20 t216.length co20)).setCell ⟨gb212, 0, none⟩ (.slice Ao22 t219.length co22)).setCell ⟨gb212, 1, none⟩ (.slice Ao24 t222.length co24)) w.heap.size (fun k_ => some k_ ≠ (.slice Ao24 t222.length co24 : Value).ownBlock) (.slice Ao20 t216.length co20) t216) := ⟨by (with_reducible repeat (first | apply Kd.R_alloc | apply Kd.R_drewN | apply Kd.R_drew)); exact Kd.R_mono (Kd.R_far (p := ⟨gb212, 1, none⟩) (Kd.R_far (p := ⟨gb212, 0, none⟩) (Kd.R_far (p := ⟨gb211, 1, none⟩) (Kd.R_far (p := ⟨gb211, 0, none⟩) (Kd.R_types (Kd.R_types HO218.out BK211.out (by decide)) BK212.out (by decide)) (fun _ hk => hk.1.2) (.slice Ao18 t213.length co18)) (fun _ hk => hk.1.2) (.slice Ao20 t216.length co20)) (fun _ hk => hk.2) (.slice Ao22 t219.length co22)) (fun _ hk => hk.2) (.slice Ao24 t222.length co24)) (fun _ hk => hk.1.1.2)⟩
      have n2_ : Aside0 (Kd.R Kd.string 9 ((((w17.setCell ⟨gb211, 0, none⟩ (.slice Ao18 t213.length co18)).setCell ⟨gb211, 1, none⟩ (.slice Ao20 t216.length co20)).setCell ⟨gb212, 0, none⟩ (.slice Ao22 t219.length co22)).setCell ⟨gb212, 1, none⟩ (.slice Ao24 t222.length co24)) w.heap.size (fun k_ => some k_ ≠ (.slice Ao18 t213.length co18 : Value).ownBlock) (.slice Ao22 t219.length co22) t219) := ⟨by (with_reducible repeat (first | apply Kd.R_alloc | apply Kd.R_drewN | apply Kd.R_drew)); exact Kd.R_mono (Kd.R_far (p := ⟨gb212, 1, none⟩) (Kd.R_far (p := ⟨gb212, 0, none⟩) (Kd.R_far (p := ⟨gb211, 1, none⟩) (Kd.R_far (p := ⟨gb211, 0, none⟩) (Kd.R_types (Kd.R_types HO221.out BK211.out (by decide)) BK212.out (by decide)) (fun _ hk => hk.1.2) (.slice Ao18 t213.length co18)) (fun _ hk => hk.1.2) (.slice Ao20 t216.length co20)) (fun _ hk => hk.2) (.slice Ao22 t219.length co22)) (fun _ hk => hk.2) (.slice Ao24 t222.length co24)) (fun _ hk => hk.1.1.2)⟩
      have n3_ : Aside0 (Kd.R k32 32 ((((w17.setCell ⟨gb211, 0, none⟩ (.slice Ao18 t213.length co18)).setCell ⟨gb211, 1, none⟩ (.slice Ao20 t216.length co20)).setCell ⟨gb212, 0, none⟩ (.slice Ao22 t219.length co22)).setCell ⟨gb212, 1, none⟩ (.slice Ao24 t222.length co24)) w.heap.size (fun k_ => some k_ ≠ (.slice Ao20 t216.length co20 : Value).ownBlock) (.slice Ao24 t222.length co24) t222) := ⟨by (with_reducible repeat (first | apply Kd.R_alloc | apply Kd.R_drewN | apply Kd.R_drew)); exact Kd.R_mono (Kd.R_far (p := ⟨gb212, 1, none⟩) (Kd.R_far (p := ⟨gb212, 0, none⟩) (Kd.R_far (p := ⟨gb211, 1, none⟩) (Kd.R_far (p := ⟨gb211, 0, none⟩) (Kd.R_types (Kd.R_types HO224.out BK211.out (by decide)) BK212.out (by decide)) (fun _ hk => hk.1.2) (.slice Ao18 t213.length co18)) (fun _ hk => hk.1.2) (.slice Ao20 t216.length co20)) (fun _ hk => hk.2) (.slice Ao22 t219.length co22)) (fun _ hk => hk.2) (.slice Ao24 t222.length co24)) (fun _ hk => hk.1.1.2)⟩
      have n4_ : Aside0 (((((w17.setCell ⟨gb211, 0, none⟩ (.slice Ao18 t213.length co18)).setCell ⟨gb211, 1, none⟩ (.slice Ao20 t216.length co20)).setCell ⟨gb212, 0, none⟩ (.slice Ao22 t219.length co22)).setCell ⟨gb212, 1, none⟩ (.slice Ao24 t222.length co24)).heap[gb211]? = some (.cells #[.slice Ao18 t213.length co18, .slice Ao20 t216.length co20] 25 (0, 0))) := ⟨by (with_reducible repeat (first | refine blk_drewN ?_ _ | refine blk_drew ?_ | refine blk_alloc ?_ _)); refine blk_far ?_ NB211_212.out _; (with_reducible repeat (first | refine blk_drewN ?_ _ | refine blk_drew ?_ | refine blk_alloc ?_ _)); refine blk_far ?_ NB211_212.out _; (with_reducible repeat (first | refine blk_drewN ?_ _ | refine blk_drew ?_ | refine blk_alloc ?_ _)); refine blk_put (cs := #[.slice Ao18 t213.length co18, .slice A0_1 l0_1.length c0_1]) ?_ 1 _ rfl; (with_reducible repeat (first | refine blk_drewN ?_ _ | refine blk_drew ?_ | refine blk_alloc ?_ _)); refine blk_put (cs := #[.slice A0_0 l0_0.length c0_0, .slice A0_1 l0_1.length c0_1]) ?_ 0 _ rfl; (with_reducible repeat (first | refine blk_drewN ?_ _ | refine blk_drew ?_ | refine blk_alloc ?_ _)); exact BK211.out⟩
      have n5_ : Aside0 (((((w17.setCell ⟨gb211, 0, none⟩ (.slice Ao18 t213.length co18)).setCell ⟨gb211, 1, none⟩ (.slice Ao20 t216.length co20)).setCell ⟨gb212, 0, none⟩ (.slice Ao22 t219.length co22)).setCell ⟨gb212, 1, none⟩ (.slice Ao24 t222.length co24)).heap[gb212]? = some (.cells #[.slice Ao22 t219.length co22, .slice Ao24 t222.length co24] 25 (0, 0))) := ⟨by (with_reducible repeat (first | refine blk_drewN ?_ _ | refine blk_drew ?_ | refine blk_alloc ?_ _)); refine blk_put (cs := #[.slice Ao22 t219.length co22, .slice A1_1 l1_1.length c1_1]) ?_ 1 _ rfl; (with_reducible repeat (first | refine blk_drewN ?_ _ | refine blk_drew ?_ | refine blk_alloc ?_ _)); refine blk_put (cs := #[.slice A1_0 l1_0.length c1_0, .slice A1_1 l1_1.length c1_1]) ?_ 0 _ rfl; (with_reducible repeat (first | refine blk_drewN ?_ _ | refine blk_drew ?_ | refine blk_alloc ?_ _)); refine blk_far ?_ NB212_211.out _; (with_reducible repeat (first | refine blk_drewN ?_ _ | refine blk_drew ?_ | refine blk_alloc ?_ _)); refine blk_far ?_ NB212_211.out _; (with_reducible repeat (first | refine blk_drewN ?_ _ | refine blk_drew ?_ | refine blk_alloc ?_ _)); exact BK212.out⟩
      have n6_ : Aside0 (Below w.heap.size w ((((w17.setCell ⟨gb211, 0, none⟩ (.slice Ao18 t213.length co18)).setCell ⟨gb211, 1, none⟩ (.slice Ao20 t216.length co20)).setCell ⟨gb212, 0, none⟩ (.slice Ao22 t219.length co22)).setCell ⟨gb212, 1, none⟩ (.slice Ao24 t222.length co24))) := ⟨by repeat (first | (with_reducible first | exact HB.out | apply below_alloc | apply pw_below_drewN | apply below_drew1 | refine below_set ?_ GE211.out | refine below_set ?_ GE212.out) | exact HB.out)⟩
      (try clear HO215)
      (try clear HO218)
      (try clear HO221)
      (try clear HO224)
      (try clear BK211)
      (try clear BK212)
      (try clear HB)
      generalize ((((w17.setCell ⟨gb211, 0, none⟩ (.slice Ao18 t213.length co18)).setCell ⟨gb211, 1, none⟩ (.slice Ao20 t216.length co20)).setCell ⟨gb212, 0, none⟩ (.slice Ao22 t219.length co22)).setCell ⟨gb212, 1, none⟩ (.slice Ao24 t222.length co24)) = w26 at n0_ n1_ n2_ n3_ n4_ n5_ n6_ ⊢
      have HO215 := n0_
      have HO218 := n1_
      have HO221 := n2_
      have HO224 := n3_
      have BK211 := n4_
      have BK212 := n5_
      have HB := n6_
      clear n0_ n1_ n2_ n3_ n4_ n5_ n6_
      have n0_ := Aside0.mk (Kd.R_drew HO215.out)
      have n1_ := Aside0.mk (Kd.R_drew HO218.out)
      have n2_ := Aside0.mk (Kd.R_drew HO221.out)
      have n3_ := Aside0.mk (Kd.R_drew HO224.out)
      have n4_ := Aside0.mk (blk_drew BK211.out)
      have n5_ := Aside0.mk (blk_drew BK212.out)
      have n6_ := Aside0.mk (below_drew1 HB.out)
      clear HO215
      clear HO218
      clear HO221
      clear HO224
      clear BK211
      clear BK212
      clear HB
      have HO215 := n0_
      have HO218 := n1_
      have HO221 := n2_
      have HO224 := n3_
      have BK211 := n4_
      have BK212 := n5_
      have HB := n6_
      clear n0_ n1_ n2_ n3_ n4_ n5_ n6_
      refine start_ (n := 6) (S := fun w' => w'.cell? ⟨gb211, 0, none⟩ = some (.slice Ao18 t213.length co18) ∧ w'.cell? ⟨gb211, 1, none⟩ = some (.slice Ao20 t216.length co20) ∧ w'.cell? ⟨gb212, 0, none⟩ = some (.slice Ao22 t219.length co22) ∧ w'.cell? ⟨gb212, 1, none⟩ = some (.slice Ao24 t222.length co24)) (ds := []) #[false, false, false, false, false, false] (by kernel_rfl) rfl rfl ⟨(blk_cell BK211.out 0).trans rfl, (blk_cell BK211.out 1).trans rfl, (blk_cell BK212.out 0).trans rfl, (blk_cell BK212.out 1).trans rfl⟩ (fun hHeld => ?_)
      generalize w26.drew = w27 at HO215 HO218 HO221 HO224 BK211 BK212 HB hHeld ⊢
      refine take_ (i := 0) (N := some 25) (v := ?_) (a' := ?_) #[true, false, false, false, false, false] rfl rfl (by kernel_rfl) (fun _ _ _ h => h) (Or.inl ⟨by rfl, ?_⟩) hHeld ?_ ?_
      rotate_left
      · rintro w' ⟨s0, s1, s2, s3⟩
        go_simp
        with_reducible rfl
      rotate_left
      · simp only [Act.put, List.setIfInBounds_toArray, List.set_cons_zero, List.set_cons_succ, i64_w, i32_w]
        rfl
      refine take_ (i := 2) (N := some 27) (v := ?_) (a' := ?_) #[true, false, true, false, false, false] rfl rfl (by kernel_rfl) (fun _ _ _ h => h) (Or.inl ⟨by rfl, ?_⟩) hHeld ?_ ?_
      rotate_left
      · rintro w' ⟨s0, s1, s2, s3⟩
        go_simp
        with_reducible rfl
      rotate_left
      · simp only [Act.put, List.setIfInBounds_toArray, List.set_cons_zero, List.set_cons_succ, i64_w, i32_w]
        rfl
      refine one_ (i := 1) (N := some 26) #[true, true, true, false, false, false] rfl rfl (by kernel_rfl) (by decide) (fun K hK => ?_)
      refine goes_ Tryd.func12 (by kernel_rfl) rfl #[.agg #[.slice Ao18 t213.length co18, .slice Ao20 t216.length co20]] (by rfl) rfl rfl (by (try simp only [List.map_toArray, List.map_cons, List.map_nil]); first | done | rfl | (simp only [List.length_drop, List.length_take]; rfl)) ?_
      with_reducible refine (url_Print.calls _ _ t213 _ _ t216 t225 _ ?side1 ?side2 ?side3 ?side4 A9.out).mono ?_
      (case side1 => repeat (first | exact (Kd.R_reads' HO215.out).2.2 | (with_reducible refine Kd.C_alloc ?_ _) | (with_reducible refine Kd.C_drewN ?_ _) | (with_reducible refine Kd.C_drew ?_)))
      (case side2 => exact (Kd.R_reads' HO215.out).2.1)
      (case side3 => repeat (first | exact (Kd.R_reads' HO218.out).2.2 | (with_reducible refine Kd.C_alloc ?_ _) | (with_reducible refine Kd.C_drewN ?_ _) | (with_reducible refine Kd.C_drew ?_)))
      (case side4 => exact (Kd.R_reads' HO218.out).2.1)
      rintro e w28 ⟨rfl, hb⟩
      refine ⟨_, rfl, ?_⟩
      have n0_ := Aside0.mk (Kd.R_below (by (with_reducible repeat (first | apply Kd.R_alloc | apply Kd.R_drewN | apply Kd.R_drew)); exact HO215.out) hb)
      have n1_ := Aside0.mk (Kd.R_below (by (with_reducible repeat (first | apply Kd.R_alloc | apply Kd.R_drewN | apply Kd.R_drew)); exact HO218.out) hb)
      have n2_ := Aside0.mk (Kd.R_below (by (with_reducible repeat (first | apply Kd.R_alloc | apply Kd.R_drewN | apply Kd.R_drew)); exact HO221.out) hb)
      have n3_ := Aside0.mk (Kd.R_below (by (with_reducible repeat (first | apply Kd.R_alloc | apply Kd.R_drewN | apply Kd.R_drew)); exact HO224.out) hb)
      have n4_ := Aside0.mk (blk_below (g := gb211) (o := .cells #[.slice Ao18 t213.length co18, .slice Ao20 t216.length co20] 25 (0, 0)) (by (with_reducible repeat (first | refine blk_drewN ?_ _ | refine blk_drew ?_ | refine blk_alloc ?_ _)); exact BK211.out) hb)
      have n5_ := Aside0.mk (blk_below (g := gb212) (o := .cells #[.slice Ao22 t219.length co22, .slice Ao24 t222.length co24] 25 (0, 0)) (by (with_reducible repeat (first | refine blk_drewN ?_ _ | refine blk_drew ?_ | refine blk_alloc ?_ _)); exact BK212.out) hb)
      have n6_ := Aside0.mk (below_step (by repeat (first | (with_reducible first | exact HB.out | apply below_alloc | apply pw_below_drewN | apply below_drew1 | refine below_set ?_ GE211.out | refine below_set ?_ GE212.out) | exact HB.out)) hb)
      clear HO215
      clear HO218
      clear HO221
      clear HO224
      clear BK211
      clear BK212
      clear HB
      have HO215 := n0_
      have HO218 := n1_
      have HO221 := n2_
      have HO224 := n3_
      have BK211 := n4_
      have BK212 := n5_
      have HB := n6_
      clear n0_ n1_ n2_ n3_ n4_ n5_ n6_
      (try clear hb)
      (try clear hb2)
      (try clear hk)
      (try clear hi)
      refine hK.out _ _ ⟨(blk_cell BK211.out 0).trans rfl, (blk_cell BK211.out 1).trans rfl, (blk_cell BK212.out 0).trans rfl, (blk_cell BK212.out 1).trans rfl⟩ (fun hHeld => ?_)
      clear hK K
      refine norm_ (a' := ?_) ?_ ?_
      rotate_left
      · show Act.put _ (some 26) _ = _
        simp only [Act.put, List.setIfInBounds_toArray, List.set_cons_zero, List.set_cons_succ, i64_w, i32_w]
        rfl
      refine one_ (i := 3) (N := some 28) #[true, true, true, true, false, false] rfl rfl (by kernel_rfl) (by decide) (fun K hK => ?_)
      refine goes_ Tryd.func12 (by kernel_rfl) rfl #[.agg #[.slice Ao22 t219.length co22, .slice Ao24 t222.length co24]] (by rfl) rfl rfl (by (try simp only [List.map_toArray, List.map_cons, List.map_nil]); first | done | rfl | (simp only [List.length_drop, List.length_take]; rfl)) ?_
      with_reducible refine (url_Print.calls _ _ t219 _ _ t222 t226 _ ?side1 ?side2 ?side3 ?side4 A10.out).mono ?_
      (case side1 => repeat (first | exact (Kd.R_reads' HO221.out).2.2 | (with_reducible refine Kd.C_alloc ?_ _) | (with_reducible refine Kd.C_drewN ?_ _) | (with_reducible refine Kd.C_drew ?_)))
      (case side2 => exact (Kd.R_reads' HO221.out).2.1)
      (case side3 => repeat (first | exact (Kd.R_reads' HO224.out).2.2 | (with_reducible refine Kd.C_alloc ?_ _) | (with_reducible refine Kd.C_drewN ?_ _) | (with_reducible refine Kd.C_drew ?_)))
      (case side4 => exact (Kd.R_reads' HO224.out).2.1)
      rintro e w29 ⟨rfl, hb⟩
      refine ⟨_, rfl, ?_⟩
      have n0_ := Aside0.mk (Kd.R_below (by (with_reducible repeat (first | apply Kd.R_alloc | apply Kd.R_drewN | apply Kd.R_drew)); exact HO215.out) hb)
      have n1_ := Aside0.mk (Kd.R_below (by (with_reducible repeat (first | apply Kd.R_alloc | apply Kd.R_drewN | apply Kd.R_drew)); exact HO218.out) hb)
      have n2_ := Aside0.mk (Kd.R_below (by (with_reducible repeat (first | apply Kd.R_alloc | apply Kd.R_drewN | apply Kd.R_drew)); exact HO221.out) hb)
      have n3_ := Aside0.mk (Kd.R_below (by (with_reducible repeat (first | apply Kd.R_alloc | apply Kd.R_drewN | apply Kd.R_drew)); exact HO224.out) hb)
      have n4_ := Aside0.mk (blk_below (g := gb211) (o := .cells #[.slice Ao18 t213.length co18, .slice Ao20 t216.length co20] 25 (0, 0)) (by (with_reducible repeat (first | refine blk_drewN ?_ _ | refine blk_drew ?_ | refine blk_alloc ?_ _)); exact BK211.out) hb)
      have n5_ := Aside0.mk (blk_below (g := gb212) (o := .cells #[.slice Ao22 t219.length co22, .slice Ao24 t222.length co24] 25 (0, 0)) (by (with_reducible repeat (first | refine blk_drewN ?_ _ | refine blk_drew ?_ | refine blk_alloc ?_ _)); exact BK212.out) hb)
      have n6_ := Aside0.mk (below_step (by repeat (first | (with_reducible first | exact HB.out | apply below_alloc | apply pw_below_drewN | apply below_drew1 | refine below_set ?_ GE211.out | refine below_set ?_ GE212.out) | exact HB.out)) hb)
      clear HO215
      clear HO218
      clear HO221
      clear HO224
      clear BK211
      clear BK212
      clear HB
      have HO215 := n0_
      have HO218 := n1_
      have HO221 := n2_
      have HO224 := n3_
      have BK211 := n4_
      have BK212 := n5_
      have HB := n6_
      clear n0_ n1_ n2_ n3_ n4_ n5_ n6_
      (try clear hb)
      (try clear hb2)
      (try clear hk)
      (try clear hi)
      refine hK.out _ _ ⟨(blk_cell BK211.out 0).trans rfl, (blk_cell BK211.out 1).trans rfl, (blk_cell BK212.out 0).trans rfl, (blk_cell BK212.out 1).trans rfl⟩ (fun hHeld => ?_)
      clear hK K
      refine norm_ (a' := ?_) ?_ ?_
      rotate_left
      · show Act.put _ (some 28) _ = _
        simp only [Act.put, List.setIfInBounds_toArray, List.set_cons_zero, List.set_cons_succ, i64_w, i32_w]
        rfl
      refine pure_ (i := 4) (N := some 7) (v := ?_) (a' := ?_) #[true, true, true, true, true, false] rfl rfl (by kernel_rfl) (fun _ _ _ h => h) (Or.inl ⟨by rfl, ?_⟩) ?_ ?_
      rotate_left
      · intro w'
        go_simp
        with_reducible rfl
      rotate_left
      · simp only [Act.put, List.setIfInBounds_toArray, List.set_cons_zero, List.set_cons_succ, i64_w, i32_w]
        rfl
      refine pure_ (i := 5) (N := some 8) (v := ?_) (a' := ?_) #[true, true, true, true, true, true] rfl rfl (by kernel_rfl) (fun _ _ _ h => h) (Or.inl ⟨by rfl, ?_⟩) ?_ ?_
      rotate_left
      · intro w'
        go_simp
        with_reducible rfl
      rotate_left
      · simp only [Act.put, List.setIfInBounds_toArray, List.set_cons_zero, List.set_cons_succ, i64_w, i32_w]
        rfl
      refine done_ (by kernel_rfl) ?_
      have hnb30 := NB211_212.out
      have hnc30 := NB212_211.out
      have hcz31_0 : w29.cell? ⟨gb211, 0, none⟩ = some (.slice Ao18 t213.length co18) := (blk_cell BK211.out 0).trans rfl
      have hcz31_1 : w29.cell? ⟨gb211, 1, none⟩ = some (.slice Ao20 t216.length co20) := (blk_cell BK211.out 1).trans rfl
      have hfz31_0 := blk_frozen BK211.out 0
      have hfz31_1 := blk_frozen BK211.out 1
      go_upto_if 30 with (first | ((with_reducible refine gate_callee (f := 14) rfl ?_); refine goesL_ (some 30) rfl rfl Tryd.func14 (by kernel_rfl) rfl #[.agg #[.slice Ao18 t213.length co18, .slice Ao20 t216.length co20]] rfl (by (try simp only [List.map_toArray, List.map_cons, List.map_nil]); first | done | rfl | (simp only [List.length_drop, List.length_take]; rfl)) ?_; (with_reducible refine (url_Right.calls k _ _ t213 _ _ t216 t227 _ ?side1 ?side2 ?side3 ?side4 A11.out).mono ?_); (case side1 => repeat (first | exact (Kd.R_reads' HO215.out).2.2 | (with_reducible refine Kd.C_alloc ?_ _) | (with_reducible refine Kd.C_drewN ?_ _) | (with_reducible refine Kd.C_drew ?_))); (case side2 => exact (Kd.R_reads' HO215.out).2.1); (case side3 => repeat (first | exact (Kd.R_reads' HO218.out).2.2 | (with_reducible refine Kd.C_alloc ?_ _) | (with_reducible refine Kd.C_drewN ?_ _) | (with_reducible refine Kd.C_drew ?_))); (case side4 => exact (Kd.R_reads' HO218.out).2.1); rintro e w32 ⟨rfl, hb⟩; refine ⟨_, rfl, ?_⟩; have n0_ := Aside0.mk (Kd.R_below (by (with_reducible repeat (first | apply Kd.R_alloc | apply Kd.R_drewN | apply Kd.R_drew)); exact HO215.out) hb); have n1_ := Aside0.mk (Kd.R_below (by (with_reducible repeat (first | apply Kd.R_alloc | apply Kd.R_drewN | apply Kd.R_drew)); exact HO218.out) hb); have n2_ := Aside0.mk (Kd.R_below (by (with_reducible repeat (first | apply Kd.R_alloc | apply Kd.R_drewN | apply Kd.R_drew)); exact HO221.out) hb); have n3_ := Aside0.mk (Kd.R_below (by (with_reducible repeat (first | apply Kd.R_alloc | apply Kd.R_drewN | apply Kd.R_drew)); exact HO224.out) hb); have n4_ := Aside0.mk (blk_below (g := gb211) (o := .cells #[.slice Ao18 t213.length co18, .slice Ao20 t216.length co20] 25 (0, 0)) (by (with_reducible repeat (first | refine blk_drewN ?_ _ | refine blk_drew ?_ | refine blk_alloc ?_ _)); exact BK211.out) hb); have n5_ := Aside0.mk (blk_below (g := gb212) (o := .cells #[.slice Ao22 t219.length co22, .slice Ao24 t222.length co24] 25 (0, 0)) (by (with_reducible repeat (first | refine blk_drewN ?_ _ | refine blk_drew ?_ | refine blk_alloc ?_ _)); exact BK212.out) hb); have n6_ := Aside0.mk (below_step (by repeat (first | (with_reducible first | exact HB.out | apply below_alloc | apply pw_below_drewN | apply below_drew1 | refine below_set ?_ GE211.out | refine below_set ?_ GE212.out) | exact HB.out)) hb); clear HO215; clear HO218; clear HO221; clear HO224; clear BK211; clear BK212; clear HB; have HO215 := n0_; have HO218 := n1_; have HO221 := n2_; have HO224 := n3_; have BK211 := n4_; have BK212 := n5_; have HB := n6_; clear n0_ n1_ n2_ n3_ n4_ n5_ n6_; (try clear hb); (try clear hb2); (try clear hk); (try clear hi)))
      (try simp only [Act.put, List.setIfInBounds_toArray, List.set_cons_zero, List.set_cons_succ])
      go_cut [] (fun wc => ∃ (kq : Nat), Aside0 (porticolaw4_URLBack.j1 kq (a2.extract 0 ((ji6) : Int).toNat) = some r) ∧ Aside0 (kq ≤ k) ∧ Aside0 (Kd.R Kd.string 9 wc w.heap.size (fun k_ => some k_ ≠ ((.slice Ao22 t219.length co22) : Value).ownBlock) (.slice Ao18 t213.length co18) t213) ∧ Aside0 (Kd.R k32 32 wc w.heap.size (fun k_ => some k_ ≠ ((.slice Ao24 t222.length co24) : Value).ownBlock) (.slice Ao20 t216.length co20) t216) ∧ Aside0 (Kd.R Kd.string 9 wc w.heap.size (fun k_ => some k_ ≠ ((.slice Ao18 t213.length co18) : Value).ownBlock) (.slice Ao22 t219.length co22) t219) ∧ Aside0 (Kd.R k32 32 wc w.heap.size (fun k_ => some k_ ≠ ((.slice Ao20 t216.length co20) : Value).ownBlock) (.slice Ao24 t222.length co24) t222) ∧ Aside0 (wc.heap[gb211]? = some (.cells #[(.slice Ao18 t213.length co18), (.slice Ao20 t216.length co20)] 25 (0, 0))) ∧ Aside0 (wc.heap[gb212]? = some (.cells #[(.slice Ao22 t219.length co22), (.slice Ao24 t222.length co24)] 25 (0, 0))) ∧ Aside0 (Below w.heap.size w wc))
      case first =>
        have H := HC12.out
        clear HC12
        by_cases c33 : t227 = true
        · subst c33
          have H1 : ((url_Parse.f k t225).bind fun bt228 => (if bt228.2.2 = 0 then ((porticolaw4_equal.f k bt228.1 bt228.2.1 t213 t216).bind fun t236 => (if t236 = true then (porticolaw4_URLBack.j0 k (a2.extract 0 ((ji6) : Int).toNat) t225 t226 (t225.toList == ([] : List UInt8)) t213 t216 t219 t222) else (porticolaw4_URLBack.j0 k (a2.extract 0 ((ji6) : Int).toNat) t225 t226 true t213 t216 t219 t222))) else (porticolaw4_URLBack.j0 k (a2.extract 0 ((ji6) : Int).toNat) t225 t226 true t213 t216 t219 t222))) = some r := by rw [if_pos rfl] at H; exact H
          clear H
          have H := H1
          clear H1
          replace H := Option.bind_eq_some_iff.mp H
          obtain ⟨⟨t228, t231, t234⟩, A340, H⟩ := H
          replace H : (if t234 = 0 then ((porticolaw4_equal.f k t228 t231 t213 t216).bind fun t236 => (if t236 = true then (porticolaw4_URLBack.j0 k (a2.extract 0 ((ji6) : Int).toNat) t225 t226 (t225.toList == ([] : List UInt8)) t213 t216 t219 t222) else (porticolaw4_URLBack.j0 k (a2.extract 0 ((ji6) : Int).toNat) t225 t226 true t213 t216 t219 t222))) else (porticolaw4_URLBack.j0 k (a2.extract 0 ((ji6) : Int).toNat) t225 t226 true t213 t216 t219 t222)) = some r := H
          have A34 := Aside0.mk A340
          clear A340
          have HC35 := Aside0.mk H
          clear H
          go_upto_region 5 with (first | ((with_reducible refine gate_callee (f := 9) rfl ?_); refine goesL_ (some 33) rfl rfl Tryd.func9 (by kernel_rfl) rfl #[.string t225] rfl (by (try simp only [List.map_toArray, List.map_cons, List.map_nil]); first | done | rfl | (simp only [List.length_drop, List.length_take]; rfl)) ?_; (with_reducible refine (url_Parse.calls k t225 t228 t231 t234 _ A34.out).mono ?_); rintro e w36 ⟨v229, v232, rfl, ho0, ho1, hb⟩; refine ⟨_, rfl, ?_⟩; have n0_ := Aside0.mk (Kd.R_elder' (by (with_reducible repeat (first | apply Kd.R_alloc | apply Kd.R_drewN | apply Kd.R_drew)); exact HO215.out) (Kd.R_base ho0) hb); have n1_ := Aside0.mk (Kd.R_elder' (by (with_reducible repeat (first | apply Kd.R_alloc | apply Kd.R_drewN | apply Kd.R_drew)); exact HO218.out) (Kd.R_base ho1) hb); have n2_ := Aside0.mk (Kd.R_elder' (by (with_reducible repeat (first | apply Kd.R_alloc | apply Kd.R_drewN | apply Kd.R_drew)); exact HO221.out) (Kd.R_base ho0) hb); have n3_ := Aside0.mk (Kd.R_elder' (by (with_reducible repeat (first | apply Kd.R_alloc | apply Kd.R_drewN | apply Kd.R_drew)); exact HO224.out) (Kd.R_base ho1) hb); have n4_ := Aside0.mk (Kd.R_lower (Kd.R_new' (Kd.R_new' ho0 (Kd.R_lt (by (with_reducible repeat (first | apply Kd.R_alloc | apply Kd.R_drewN | apply Kd.R_drew)); exact HO215.out))) (Kd.R_lt (by (with_reducible repeat (first | apply Kd.R_alloc | apply Kd.R_drewN | apply Kd.R_drew)); exact HO221.out))) (below_size (by repeat (first | (with_reducible first | exact HB.out | apply below_alloc | apply pw_below_drewN | apply below_drew1 | refine below_set ?_ GE211.out | refine below_set ?_ GE212.out) | exact HB.out)))); have n5_ := Aside0.mk (Kd.R_lower (Kd.R_new' (Kd.R_new' ho1 (Kd.R_lt (by (with_reducible repeat (first | apply Kd.R_alloc | apply Kd.R_drewN | apply Kd.R_drew)); exact HO218.out))) (Kd.R_lt (by (with_reducible repeat (first | apply Kd.R_alloc | apply Kd.R_drewN | apply Kd.R_drew)); exact HO224.out))) (below_size (by repeat (first | (with_reducible first | exact HB.out | apply below_alloc | apply pw_below_drewN | apply below_drew1 | refine below_set ?_ GE211.out | refine below_set ?_ GE212.out) | exact HB.out)))); have n6_ := Aside0.mk (blk_below (g := gb211) (o := .cells #[.slice Ao18 t213.length co18, .slice Ao20 t216.length co20] 25 (0, 0)) (by (with_reducible repeat (first | refine blk_drewN ?_ _ | refine blk_drew ?_ | refine blk_alloc ?_ _)); exact BK211.out) hb); have n7_ := Aside0.mk (blk_below (g := gb212) (o := .cells #[.slice Ao22 t219.length co22, .slice Ao24 t222.length co24] 25 (0, 0)) (by (with_reducible repeat (first | refine blk_drewN ?_ _ | refine blk_drew ?_ | refine blk_alloc ?_ _)); exact BK212.out) hb); have n8_ := Aside0.mk (below_step (by repeat (first | (with_reducible first | exact HB.out | apply below_alloc | apply pw_below_drewN | apply below_drew1 | refine below_set ?_ GE211.out | refine below_set ?_ GE212.out) | exact HB.out)) hb); clear HO215; clear HO218; clear HO221; clear HO224; clear BK211; clear BK212; clear HB; have HO215 := n0_; have HO218 := n1_; have HO221 := n2_; have HO224 := n3_; have HO230 := n4_; have HO233 := n5_; have BK211 := n6_; have BK212 := n7_; have HB := n8_; clear n0_ n1_ n2_ n3_ n4_ n5_ n6_ n7_ n8_; (try clear hb); (try clear hb2); (try clear hk); (try clear hi); (try clear ho0); (try clear ho1)) | ((with_reducible refine gate_dst (N := 9) rfl ?_); (try (refine gate_guard (by rfl) ?_; dsimp only)); refine box_event ?hg (N := 9) ?hd (cs := #[.slice none 0 0, .slice none 0 0]) (t := 25) ?hr ?_; (case hd => rfl); (case hg => rfl); (case hr => first | (go_simp; done) | (go_simp; rfl)); intro gb235 hg w37 hbox hb; have n0_ := Aside0.mk (Kd.R_below (by (with_reducible repeat (first | apply Kd.R_alloc | apply Kd.R_drewN | apply Kd.R_drew)); exact HO215.out) hb); have n1_ := Aside0.mk (Kd.R_below (by (with_reducible repeat (first | apply Kd.R_alloc | apply Kd.R_drewN | apply Kd.R_drew)); exact HO218.out) hb); have n2_ := Aside0.mk (Kd.R_below (by (with_reducible repeat (first | apply Kd.R_alloc | apply Kd.R_drewN | apply Kd.R_drew)); exact HO221.out) hb); have n3_ := Aside0.mk (Kd.R_below (by (with_reducible repeat (first | apply Kd.R_alloc | apply Kd.R_drewN | apply Kd.R_drew)); exact HO224.out) hb); have n4_ := Aside0.mk (Kd.R_below (by (with_reducible repeat (first | apply Kd.R_alloc | apply Kd.R_drewN | apply Kd.R_drew)); exact HO230.out) hb); have n5_ := Aside0.mk (Kd.R_below (by (with_reducible repeat (first | apply Kd.R_alloc | apply Kd.R_drewN | apply Kd.R_drew)); exact HO233.out) hb); have n6_ := Aside0.mk (blk_below (g := gb211) (o := .cells #[.slice Ao18 t213.length co18, .slice Ao20 t216.length co20] 25 (0, 0)) (by (with_reducible repeat (first | refine blk_drewN ?_ _ | refine blk_drew ?_ | refine blk_alloc ?_ _)); exact BK211.out) hb); have n7_ := Aside0.mk (blk_below (g := gb212) (o := .cells #[.slice Ao22 t219.length co22, .slice Ao24 t222.length co24] 25 (0, 0)) (by (with_reducible repeat (first | refine blk_drewN ?_ _ | refine blk_drew ?_ | refine blk_alloc ?_ _)); exact BK212.out) hb); have n8_ := Aside0.mk (below_step (by repeat (first | (with_reducible first | exact HB.out | apply below_alloc | apply pw_below_drewN | apply below_drew1 | refine below_set ?_ GE211.out | refine below_set ?_ GE212.out) | exact HB.out)) hb); have n9_ := Aside0.mk (hbox); have n10_ := Aside0.mk ((by rw [hg]; exact (below_size (by repeat (first | (with_reducible first | exact HB.out | apply below_alloc | apply pw_below_drewN | apply below_drew1 | refine below_set ?_ GE211.out | refine below_set ?_ GE212.out) | exact HB.out))) : w.heap.size ≤ gb235)); have n11_ := Aside0.mk ((by rw [hg]; exact (below_size (by repeat (first | (with_reducible first | exact HB.out | apply below_alloc | apply pw_below_drewN | apply below_drew1 | refine below_set ?_ GE211.out | refine below_set ?_ GE212.out) | exact HB.out))) : w.heap.size ≤ gb235)); have n12_ := Aside0.mk ((by rw [hg]; exact Nat.ne_of_lt (blk_lt (g := gb211) (o := .cells #[.slice Ao18 t213.length co18, .slice Ao20 t216.length co20] 25 (0, 0)) (by (with_reducible repeat (first | refine blk_drewN ?_ _ | refine blk_drew ?_ | refine blk_alloc ?_ _)); exact BK211.out)) : gb211 ≠ gb235)); have n13_ := Aside0.mk ((by rw [hg]; exact Nat.ne_of_gt (blk_lt (g := gb211) (o := .cells #[.slice Ao18 t213.length co18, .slice Ao20 t216.length co20] 25 (0, 0)) (by (with_reducible repeat (first | refine blk_drewN ?_ _ | refine blk_drew ?_ | refine blk_alloc ?_ _)); exact BK211.out)) : gb235 ≠ gb211)); have n14_ := Aside0.mk ((by rw [hg]; exact Nat.ne_of_lt (blk_lt (g := gb212) (o := .cells #[.slice Ao22 t219.length co22, .slice Ao24 t222.length co24] 25 (0, 0)) (by (with_reducible repeat (first | refine blk_drewN ?_ _ | refine blk_drew ?_ | refine blk_alloc ?_ _)); exact BK212.out)) : gb212 ≠ gb235)); have n15_ := Aside0.mk ((by rw [hg]; exact Nat.ne_of_gt (blk_lt (g := gb212) (o := .cells #[.slice Ao22 t219.length co22, .slice Ao24 t222.length co24] 25 (0, 0)) (by (with_reducible repeat (first | refine blk_drewN ?_ _ | refine blk_drew ?_ | refine blk_alloc ?_ _)); exact BK212.out)) : gb235 ≠ gb212)); clear HO215; clear HO218; clear HO221; clear HO224; clear HO230; clear HO233; clear BK211; clear BK212; clear HB; have HO215 := n0_; have HO218 := n1_; have HO221 := n2_; have HO224 := n3_; have HO230 := n4_; have HO233 := n5_; have BK211 := n6_; have BK212 := n7_; have HB := n8_; have BK235 := n9_; have GW235 := n10_; have GE235 := n11_; have NB211_235 := n12_; have NB235_211 := n13_; have NB212_235 := n14_; have NB235_212 := n15_; clear n0_ n1_ n2_ n3_ n4_ n5_ n6_ n7_ n8_ n9_ n10_ n11_ n12_ n13_ n14_ n15_; clear hb hbox hg; obtain ⟨Ao38, co38, eo38⟩ := Kd.R_slice HO230.out; subst eo38; have hnb39 := NB235_211.out; have hnc39 := NB211_235.out; have hnb40 := NB235_212.out; have hnc40 := NB212_235.out; have hcz41_0 : w37.cell? ⟨gb235, 0, none⟩ = some (.slice none 0 0) := (blk_cell BK235.out 0).trans rfl; have hcz41_1 : w37.cell? ⟨gb235, 1, none⟩ = some (.slice none 0 0) := (blk_cell BK235.out 1).trans rfl; have hfz41_0 := blk_frozen BK235.out 0; have hfz41_1 := blk_frozen BK235.out 1; obtain ⟨Ao42, co42, eo42⟩ := Kd.R_slice HO233.out; subst eo42))
          (try simp only [Act.put, List.setIfInBounds_toArray, List.set_cons_zero, List.set_cons_succ])
          go_cut [47] (fun v47 wc => ∃ (kq : Nat) (x47_34 : Bool), v47 = .bool x47_34 ∧ Aside0 (porticolaw4_URLBack.j0 kq (a2.extract 0 ((ji6) : Int).toNat) t225 t226 x47_34 t213 t216 t219 t222 = some r) ∧ Aside0 (kq ≤ k) ∧ Aside0 (Kd.R Kd.string 9 wc w.heap.size (fun k_ => some k_ ≠ ((.slice Ao22 t219.length co22) : Value).ownBlock ∧ some k_ ≠ ((.slice Ao38 t228.length co38) : Value).ownBlock) (.slice Ao18 t213.length co18) t213) ∧ Aside0 (Kd.R k32 32 wc w.heap.size (fun k_ => some k_ ≠ ((.slice Ao24 t222.length co24) : Value).ownBlock ∧ some k_ ≠ ((.slice Ao42 t231.length co42) : Value).ownBlock) (.slice Ao20 t216.length co20) t216) ∧ Aside0 (Kd.R Kd.string 9 wc w.heap.size (fun k_ => some k_ ≠ ((.slice Ao18 t213.length co18) : Value).ownBlock ∧ some k_ ≠ ((.slice Ao38 t228.length co38) : Value).ownBlock) (.slice Ao22 t219.length co22) t219) ∧ Aside0 (Kd.R k32 32 wc w.heap.size (fun k_ => some k_ ≠ ((.slice Ao20 t216.length co20) : Value).ownBlock ∧ some k_ ≠ ((.slice Ao42 t231.length co42) : Value).ownBlock) (.slice Ao24 t222.length co24) t222) ∧ Aside0 (Kd.R Kd.string 9 wc w.heap.size (fun k_ => some k_ ≠ ((.slice Ao18 t213.length co18) : Value).ownBlock ∧ some k_ ≠ ((.slice Ao22 t219.length co22) : Value).ownBlock) (.slice Ao38 t228.length co38) t228) ∧ Aside0 (Kd.R k32 32 wc w.heap.size (fun k_ => some k_ ≠ ((.slice Ao20 t216.length co20) : Value).ownBlock ∧ some k_ ≠ ((.slice Ao24 t222.length co24) : Value).ownBlock) (.slice Ao42 t231.length co42) t231) ∧ Aside0 (wc.heap[gb211]? = some (.cells #[(.slice Ao18 t213.length co18), (.slice Ao20 t216.length co20)] 25 (0, 0))) ∧ Aside0 (wc.heap[gb212]? = some (.cells #[(.slice Ao22 t219.length co22), (.slice Ao24 t222.length co24)] 25 (0, 0))) ∧ Aside0 (wc.heap[gb235]? = some (.cells #[(.slice Ao38 t228.length co38), (.slice Ao42 t231.length co42)] 25 (0, 0))) ∧ Aside0 (Below w.heap.size w wc))
          case first =>
            have H := HC35.out
            clear HC35
            by_cases c43 : t234 = 0
            · rw [if_pos c43] at H
              have c43b0 : (t234 == 0) = true := beq_iff_eq.mpr c43
              have c43b1 : (t234 != 0) = false := bne_eq_false_iff_eq.mpr c43
              clear c43
              (first | rw [c43b0] | (simp only [i64_w, i32_w]; rw [c43b0]) | rw [c43b1] | skip)
              replace H := Option.bind_eq_some_iff.mp H
              obtain ⟨t236, A440, H⟩ := H
              replace H : (if t236 = true then (porticolaw4_URLBack.j0 k (a2.extract 0 ((ji6) : Int).toNat) t225 t226 (t225.toList == ([] : List UInt8)) t213 t216 t219 t222) else (porticolaw4_URLBack.j0 k (a2.extract 0 ((ji6) : Int).toNat) t225 t226 true t213 t216 t219 t222)) = some r := H
              have A44 := Aside0.mk A440
              clear A440
              by_cases c45 : t236 = true
              · subst c45
                have H1 : (porticolaw4_URLBack.j0 k (a2.extract 0 ((ji6) : Int).toNat) t225 t226 (t225.toList == ([] : List UInt8)) t213 t216 t219 t222) = some r := by rw [if_pos rfl] at H; exact H
                clear H
                have H := H1
                clear H1
                have H' := Aside0.mk H
                clear H
                have hnb46 := NB235_211.out
                have hnc46 := NB211_235.out
                have hnb47 := NB235_212.out
                have hnc47 := NB212_235.out
                have hcz48_0 : w37.cell? ⟨gb235, 0, none⟩ = some (.slice none 0 0) := (blk_cell BK235.out 0).trans rfl
                have hcz48_1 : w37.cell? ⟨gb235, 1, none⟩ = some (.slice none 0 0) := (blk_cell BK235.out 1).trans rfl
                have hfz48_0 := blk_frozen BK235.out 0
                have hfz48_1 := blk_frozen BK235.out 1
                have hnb49 := NB211_212.out
                have hnc49 := NB212_211.out
                have hcz50_0 : w37.cell? ⟨gb211, 0, none⟩ = some (.slice Ao18 t213.length co18) := (blk_cell BK211.out 0).trans rfl
                have hcz50_1 : w37.cell? ⟨gb211, 1, none⟩ = some (.slice Ao20 t216.length co20) := (blk_cell BK211.out 1).trans rfl
                have hfz50_0 := blk_frozen BK211.out 0
                have hfz50_1 := blk_frozen BK211.out 1
                go_wp2_with (first | (go_at_call 15; (with_reducible refine (porticolaw4_equal.calls k _ _ t228 _ _ t231 _ _ t213 _ _ t216 true _ ?side1 ?side2 ?side3 ?side4 ?side5 ?side6 ?side7 ?side8 A44.out).mono ?_); (case side1 => refine (Kd.R_reads' (e := 9) (base := w.heap.size) (ok := fun k_ => ((True ∧ some k_ ≠ (.slice Ao18 t213.length co18 : Value).ownBlock) ∧ some k_ ≠ (.slice Ao22 t219.length co22 : Value).ownBlock)) (n := t228.length) (c := co38) ?_).2.2; exact (by (with_reducible repeat (first | apply Kd.R_alloc | apply Kd.R_drewN | apply Kd.R_drew)); exact (Kd.R_mono (Kd.R_far (p := ⟨gb235, 1, none⟩) (Kd.R_far (p := ⟨gb235, 0, none⟩) (Kd.R_types HO230.out BK235.out (by decide)) (fun _ hk => hk.2) (.slice Ao38 t228.length co38)) (fun _ hk => hk.2) (.slice Ao42 t231.length co42)) (fun _ h_ => h_.1)))); (case side2 => exact (Kd.R_reads' HO230.out).2.1); (case side3 => refine (Kd.R_reads' (e := 32) (base := w.heap.size) (ok := fun k_ => ((True ∧ some k_ ≠ (.slice Ao20 t216.length co20 : Value).ownBlock) ∧ some k_ ≠ (.slice Ao24 t222.length co24 : Value).ownBlock)) (n := t231.length) (c := co42) ?_).2.2; exact (by (with_reducible repeat (first | apply Kd.R_alloc | apply Kd.R_drewN | apply Kd.R_drew)); exact (Kd.R_mono (Kd.R_far (p := ⟨gb235, 1, none⟩) (Kd.R_far (p := ⟨gb235, 0, none⟩) (Kd.R_types HO233.out BK235.out (by decide)) (fun _ hk => hk.2) (.slice Ao38 t228.length co38)) (fun _ hk => hk.2) (.slice Ao42 t231.length co42)) (fun _ h_ => h_.1)))); (case side4 => exact (Kd.R_reads' HO233.out).2.1); (case side5 => refine (Kd.R_reads' (e := 9) (base := w.heap.size) (ok := fun k_ => (some k_ ≠ (.slice Ao22 t219.length co22 : Value).ownBlock ∧ some k_ ≠ (.slice Ao38 t228.length co38 : Value).ownBlock)) (n := t213.length) (c := co18) ?_).2.2; exact (by (with_reducible repeat (first | apply Kd.R_alloc | apply Kd.R_drewN | apply Kd.R_drew)); exact (Kd.R_mono (Kd.R_far (p := ⟨gb235, 1, none⟩) (Kd.R_far (p := ⟨gb235, 0, none⟩) (Kd.R_types HO215.out BK235.out (by decide)) (fun _ hk => hk.2) (.slice Ao38 t228.length co38)) (fun _ hk => hk.2) (.slice Ao42 t231.length co42)) (fun _ h_ => h_.1)))); (case side6 => exact (Kd.R_reads' HO215.out).2.1); (case side7 => refine (Kd.R_reads' (e := 32) (base := w.heap.size) (ok := fun k_ => (some k_ ≠ (.slice Ao24 t222.length co24 : Value).ownBlock ∧ some k_ ≠ (.slice Ao42 t231.length co42 : Value).ownBlock)) (n := t216.length) (c := co20) ?_).2.2; exact (by (with_reducible repeat (first | apply Kd.R_alloc | apply Kd.R_drewN | apply Kd.R_drew)); exact (Kd.R_mono (Kd.R_far (p := ⟨gb235, 1, none⟩) (Kd.R_far (p := ⟨gb235, 0, none⟩) (Kd.R_types HO218.out BK235.out (by decide)) (fun _ hk => hk.2) (.slice Ao38 t228.length co38)) (fun _ hk => hk.2) (.slice Ao42 t231.length co42)) (fun _ h_ => h_.1)))); (case side8 => exact (Kd.R_reads' HO218.out).2.1); rintro e w51 ⟨rfl, hb⟩; have n0_ := Aside0.mk (Kd.R_below (by (with_reducible repeat (first | apply Kd.R_alloc | apply Kd.R_drewN | apply Kd.R_drew)); exact (Kd.R_mono (Kd.R_far (p := ⟨gb235, 1, none⟩) (Kd.R_far (p := ⟨gb235, 0, none⟩) (Kd.R_types HO215.out BK235.out (by decide)) (fun _ hk => hk.2) (.slice Ao38 t228.length co38)) (fun _ hk => hk.2) (.slice Ao42 t231.length co42)) (fun _ h_ => h_.1))) hb); have n1_ := Aside0.mk (Kd.R_below (by (with_reducible repeat (first | apply Kd.R_alloc | apply Kd.R_drewN | apply Kd.R_drew)); exact (Kd.R_mono (Kd.R_far (p := ⟨gb235, 1, none⟩) (Kd.R_far (p := ⟨gb235, 0, none⟩) (Kd.R_types HO218.out BK235.out (by decide)) (fun _ hk => hk.2) (.slice Ao38 t228.length co38)) (fun _ hk => hk.2) (.slice Ao42 t231.length co42)) (fun _ h_ => h_.1))) hb); have n2_ := Aside0.mk (Kd.R_below (by (with_reducible repeat (first | apply Kd.R_alloc | apply Kd.R_drewN | apply Kd.R_drew)); exact (Kd.R_mono (Kd.R_far (p := ⟨gb235, 1, none⟩) (Kd.R_far (p := ⟨gb235, 0, none⟩) (Kd.R_types HO221.out BK235.out (by decide)) (fun _ hk => hk.2) (.slice Ao38 t228.length co38)) (fun _ hk => hk.2) (.slice Ao42 t231.length co42)) (fun _ h_ => h_.1))) hb); have n3_ := Aside0.mk (Kd.R_below (by (with_reducible repeat (first | apply Kd.R_alloc | apply Kd.R_drewN | apply Kd.R_drew)); exact (Kd.R_mono (Kd.R_far (p := ⟨gb235, 1, none⟩) (Kd.R_far (p := ⟨gb235, 0, none⟩) (Kd.R_types HO224.out BK235.out (by decide)) (fun _ hk => hk.2) (.slice Ao38 t228.length co38)) (fun _ hk => hk.2) (.slice Ao42 t231.length co42)) (fun _ h_ => h_.1))) hb); have n4_ := Aside0.mk (Kd.R_below (by (with_reducible repeat (first | apply Kd.R_alloc | apply Kd.R_drewN | apply Kd.R_drew)); exact (Kd.R_mono (Kd.R_far (p := ⟨gb235, 1, none⟩) (Kd.R_far (p := ⟨gb235, 0, none⟩) (Kd.R_types HO230.out BK235.out (by decide)) (fun _ hk => hk.2) (.slice Ao38 t228.length co38)) (fun _ hk => hk.2) (.slice Ao42 t231.length co42)) (fun _ h_ => h_.1))) hb); have n5_ := Aside0.mk (Kd.R_below (by (with_reducible repeat (first | apply Kd.R_alloc | apply Kd.R_drewN | apply Kd.R_drew)); exact (Kd.R_mono (Kd.R_far (p := ⟨gb235, 1, none⟩) (Kd.R_far (p := ⟨gb235, 0, none⟩) (Kd.R_types HO233.out BK235.out (by decide)) (fun _ hk => hk.2) (.slice Ao38 t228.length co38)) (fun _ hk => hk.2) (.slice Ao42 t231.length co42)) (fun _ h_ => h_.1))) hb); have n6_ := Aside0.mk (blk_below (g := gb211) (o := .cells #[.slice Ao18 t213.length co18, .slice Ao20 t216.length co20] 25 (0, 0)) (by (with_reducible repeat (first | refine blk_drewN ?_ _ | refine blk_drew ?_ | refine blk_alloc ?_ _)); refine blk_far ?_ NB211_235.out _; (with_reducible repeat (first | refine blk_drewN ?_ _ | refine blk_drew ?_ | refine blk_alloc ?_ _)); refine blk_far ?_ NB211_235.out _; (with_reducible repeat (first | refine blk_drewN ?_ _ | refine blk_drew ?_ | refine blk_alloc ?_ _)); exact BK211.out) hb); have n7_ := Aside0.mk (blk_below (g := gb212) (o := .cells #[.slice Ao22 t219.length co22, .slice Ao24 t222.length co24] 25 (0, 0)) (by (with_reducible repeat (first | refine blk_drewN ?_ _ | refine blk_drew ?_ | refine blk_alloc ?_ _)); refine blk_far ?_ NB212_235.out _; (with_reducible repeat (first | refine blk_drewN ?_ _ | refine blk_drew ?_ | refine blk_alloc ?_ _)); refine blk_far ?_ NB212_235.out _; (with_reducible repeat (first | refine blk_drewN ?_ _ | refine blk_drew ?_ | refine blk_alloc ?_ _)); exact BK212.out) hb); have n8_ := Aside0.mk (blk_below (g := gb235) (o := .cells #[.slice Ao38 t228.length co38, .slice Ao42 t231.length co42] 25 (0, 0)) (by (with_reducible repeat (first | refine blk_drewN ?_ _ | refine blk_drew ?_ | refine blk_alloc ?_ _)); refine blk_put (cs := #[.slice Ao38 t228.length co38, .slice none 0 0]) ?_ 1 _ rfl; (with_reducible repeat (first | refine blk_drewN ?_ _ | refine blk_drew ?_ | refine blk_alloc ?_ _)); refine blk_put (cs := #[.slice none 0 0, .slice none 0 0]) ?_ 0 _ rfl; (with_reducible repeat (first | refine blk_drewN ?_ _ | refine blk_drew ?_ | refine blk_alloc ?_ _)); exact BK235.out) hb); have n9_ := Aside0.mk (below_step (by repeat (first | (with_reducible first | exact HB.out | apply below_alloc | apply pw_below_drewN | apply below_drew1 | refine below_set ?_ GE211.out | refine below_set ?_ GE212.out | refine below_set ?_ GE235.out) | exact HB.out)) hb); clear HO215; clear HO218; clear HO221; clear HO224; clear HO230; clear HO233; clear BK211; clear BK212; clear BK235; clear HB; have HO215 := n0_; have HO218 := n1_; have HO221 := n2_; have HO224 := n3_; have HO230 := n4_; have HO233 := n5_; have BK211 := n6_; have BK212 := n7_; have BK235 := n8_; have HB := n9_; clear n0_ n1_ n2_ n3_ n4_ n5_ n6_ n7_ n8_ n9_; (try clear hb); (try clear hb2); (try clear hk); (try clear hi)))
                go_meet
                case rel => exact ⟨_, ((t225.toList == ([] : List UInt8))), (by first | rfl | (simp; done) | (simp [*]; done)), H', ⟨by first | omega | exact Nat.le_refl _⟩, ⟨by (with_reducible repeat (first | apply Kd.R_alloc | apply Kd.R_drewN | apply Kd.R_drew)); exact HO215.out⟩, ⟨by (with_reducible repeat (first | apply Kd.R_alloc | apply Kd.R_drewN | apply Kd.R_drew)); exact HO218.out⟩, ⟨by (with_reducible repeat (first | apply Kd.R_alloc | apply Kd.R_drewN | apply Kd.R_drew)); exact HO221.out⟩, ⟨by (with_reducible repeat (first | apply Kd.R_alloc | apply Kd.R_drewN | apply Kd.R_drew)); exact HO224.out⟩, ⟨by (with_reducible repeat (first | apply Kd.R_alloc | apply Kd.R_drewN | apply Kd.R_drew)); exact Kd.R_mono HO230.out (fun _ hk => ⟨hk.1.2, hk.2⟩)⟩, ⟨by (with_reducible repeat (first | apply Kd.R_alloc | apply Kd.R_drewN | apply Kd.R_drew)); exact Kd.R_mono HO233.out (fun _ hk => ⟨hk.1.2, hk.2⟩)⟩, ⟨by (with_reducible repeat (first | refine blk_drewN ?_ _ | refine blk_drew ?_ | refine blk_alloc ?_ _)); exact BK211.out⟩, ⟨by (with_reducible repeat (first | refine blk_drewN ?_ _ | refine blk_drew ?_ | refine blk_alloc ?_ _)); exact BK212.out⟩, ⟨by (with_reducible repeat (first | refine blk_drewN ?_ _ | refine blk_drew ?_ | refine blk_alloc ?_ _)); exact BK235.out⟩, ⟨by repeat (first | (with_reducible first | exact HB.out | apply below_alloc | apply pw_below_drewN | apply below_drew1 | refine below_set ?_ GE211.out | refine below_set ?_ GE212.out | refine below_set ?_ GE235.out) | exact HB.out)⟩⟩
              · replace c45 := Bool.eq_false_iff.mpr c45
                subst c45
                have H1 : (porticolaw4_URLBack.j0 k (a2.extract 0 ((ji6) : Int).toNat) t225 t226 true t213 t216 t219 t222) = some r := by rw [if_neg (show ¬ (false = true) by decide)] at H; exact H
                clear H
                have H := H1
                clear H1
                have H' := Aside0.mk H
                clear H
                have hnb52 := NB235_211.out
                have hnc52 := NB211_235.out
                have hnb53 := NB235_212.out
                have hnc53 := NB212_235.out
                have hcz54_0 : w37.cell? ⟨gb235, 0, none⟩ = some (.slice none 0 0) := (blk_cell BK235.out 0).trans rfl
                have hcz54_1 : w37.cell? ⟨gb235, 1, none⟩ = some (.slice none 0 0) := (blk_cell BK235.out 1).trans rfl
                have hfz54_0 := blk_frozen BK235.out 0
                have hfz54_1 := blk_frozen BK235.out 1
                have hnb55 := NB211_212.out
                have hnc55 := NB212_211.out
                have hcz56_0 : w37.cell? ⟨gb211, 0, none⟩ = some (.slice Ao18 t213.length co18) := (blk_cell BK211.out 0).trans rfl
                have hcz56_1 : w37.cell? ⟨gb211, 1, none⟩ = some (.slice Ao20 t216.length co20) := (blk_cell BK211.out 1).trans rfl
                have hfz56_0 := blk_frozen BK211.out 0
                have hfz56_1 := blk_frozen BK211.out 1
                go_wp2_with (first | (go_at_call 15; (with_reducible refine (porticolaw4_equal.calls k _ _ t228 _ _ t231 _ _ t213 _ _ t216 false _ ?side1 ?side2 ?side3 ?side4 ?side5 ?side6 ?side7 ?side8 A44.out).mono ?_); (case side1 => refine (Kd.R_reads' (e := 9) (base := w.heap.size) (ok := fun k_ => ((True ∧ some k_ ≠ (.slice Ao18 t213.length co18 : Value).ownBlock) ∧ some k_ ≠ (.slice Ao22 t219.length co22 : Value).ownBlock)) (n := t228.length) (c := co38) ?_).2.2; exact (by (with_reducible repeat (first | apply Kd.R_alloc | apply Kd.R_drewN | apply Kd.R_drew)); exact (Kd.R_mono (Kd.R_far (p := ⟨gb235, 1, none⟩) (Kd.R_far (p := ⟨gb235, 0, none⟩) (Kd.R_types HO230.out BK235.out (by decide)) (fun _ hk => hk.2) (.slice Ao38 t228.length co38)) (fun _ hk => hk.2) (.slice Ao42 t231.length co42)) (fun _ h_ => h_.1)))); (case side2 => exact (Kd.R_reads' HO230.out).2.1); (case side3 => refine (Kd.R_reads' (e := 32) (base := w.heap.size) (ok := fun k_ => ((True ∧ some k_ ≠ (.slice Ao20 t216.length co20 : Value).ownBlock) ∧ some k_ ≠ (.slice Ao24 t222.length co24 : Value).ownBlock)) (n := t231.length) (c := co42) ?_).2.2; exact (by (with_reducible repeat (first | apply Kd.R_alloc | apply Kd.R_drewN | apply Kd.R_drew)); exact (Kd.R_mono (Kd.R_far (p := ⟨gb235, 1, none⟩) (Kd.R_far (p := ⟨gb235, 0, none⟩) (Kd.R_types HO233.out BK235.out (by decide)) (fun _ hk => hk.2) (.slice Ao38 t228.length co38)) (fun _ hk => hk.2) (.slice Ao42 t231.length co42)) (fun _ h_ => h_.1)))); (case side4 => exact (Kd.R_reads' HO233.out).2.1); (case side5 => refine (Kd.R_reads' (e := 9) (base := w.heap.size) (ok := fun k_ => (some k_ ≠ (.slice Ao22 t219.length co22 : Value).ownBlock ∧ some k_ ≠ (.slice Ao38 t228.length co38 : Value).ownBlock)) (n := t213.length) (c := co18) ?_).2.2; exact (by (with_reducible repeat (first | apply Kd.R_alloc | apply Kd.R_drewN | apply Kd.R_drew)); exact (Kd.R_mono (Kd.R_far (p := ⟨gb235, 1, none⟩) (Kd.R_far (p := ⟨gb235, 0, none⟩) (Kd.R_types HO215.out BK235.out (by decide)) (fun _ hk => hk.2) (.slice Ao38 t228.length co38)) (fun _ hk => hk.2) (.slice Ao42 t231.length co42)) (fun _ h_ => h_.1)))); (case side6 => exact (Kd.R_reads' HO215.out).2.1); (case side7 => refine (Kd.R_reads' (e := 32) (base := w.heap.size) (ok := fun k_ => (some k_ ≠ (.slice Ao24 t222.length co24 : Value).ownBlock ∧ some k_ ≠ (.slice Ao42 t231.length co42 : Value).ownBlock)) (n := t216.length) (c := co20) ?_).2.2; exact (by (with_reducible repeat (first | apply Kd.R_alloc | apply Kd.R_drewN | apply Kd.R_drew)); exact (Kd.R_mono (Kd.R_far (p := ⟨gb235, 1, none⟩) (Kd.R_far (p := ⟨gb235, 0, none⟩) (Kd.R_types HO218.out BK235.out (by decide)) (fun _ hk => hk.2) (.slice Ao38 t228.length co38)) (fun _ hk => hk.2) (.slice Ao42 t231.length co42)) (fun _ h_ => h_.1)))); (case side8 => exact (Kd.R_reads' HO218.out).2.1); rintro e w57 ⟨rfl, hb⟩; have n0_ := Aside0.mk (Kd.R_below (by (with_reducible repeat (first | apply Kd.R_alloc | apply Kd.R_drewN | apply Kd.R_drew)); exact (Kd.R_mono (Kd.R_far (p := ⟨gb235, 1, none⟩) (Kd.R_far (p := ⟨gb235, 0, none⟩) (Kd.R_types HO215.out BK235.out (by decide)) (fun _ hk => hk.2) (.slice Ao38 t228.length co38)) (fun _ hk => hk.2) (.slice Ao42 t231.length co42)) (fun _ h_ => h_.1))) hb); have n1_ := Aside0.mk (Kd.R_below (by (with_reducible repeat (first | apply Kd.R_alloc | apply Kd.R_drewN | apply Kd.R_drew)); exact (Kd.R_mono (Kd.R_far (p := ⟨gb235, 1, none⟩) (Kd.R_far (p := ⟨gb235, 0, none⟩) (Kd.R_types HO218.out BK235.out (by decide)) (fun _ hk => hk.2) (.slice Ao38 t228.length co38)) (fun _ hk => hk.2) (.slice Ao42 t231.length co42)) (fun _ h_ => h_.1))) hb); have n2_ := Aside0.mk (Kd.R_below (by (with_reducible repeat (first | apply Kd.R_alloc | apply Kd.R_drewN | apply Kd.R_drew)); exact (Kd.R_mono (Kd.R_far (p := ⟨gb235, 1, none⟩) (Kd.R_far (p := ⟨gb235, 0, none⟩) (Kd.R_types HO221.out BK235.out (by decide)) (fun _ hk => hk.2) (.slice Ao38 t228.length co38)) (fun _ hk => hk.2) (.slice Ao42 t231.length co42)) (fun _ h_ => h_.1))) hb); have n3_ := Aside0.mk (Kd.R_below (by (with_reducible repeat (first | apply Kd.R_alloc | apply Kd.R_drewN | apply Kd.R_drew)); exact (Kd.R_mono (Kd.R_far (p := ⟨gb235, 1, none⟩) (Kd.R_far (p := ⟨gb235, 0, none⟩) (Kd.R_types HO224.out BK235.out (by decide)) (fun _ hk => hk.2) (.slice Ao38 t228.length co38)) (fun _ hk => hk.2) (.slice Ao42 t231.length co42)) (fun _ h_ => h_.1))) hb); have n4_ := Aside0.mk (Kd.R_below (by (with_reducible repeat (first | apply Kd.R_alloc | apply Kd.R_drewN | apply Kd.R_drew)); exact (Kd.R_mono (Kd.R_far (p := ⟨gb235, 1, none⟩) (Kd.R_far (p := ⟨gb235, 0, none⟩) (Kd.R_types HO230.out BK235.out (by decide)) (fun _ hk => hk.2) (.slice Ao38 t228.length co38)) (fun _ hk => hk.2) (.slice Ao42 t231.length co42)) (fun _ h_ => h_.1))) hb); have n5_ := Aside0.mk (Kd.R_below (by (with_reducible repeat (first | apply Kd.R_alloc | apply Kd.R_drewN | apply Kd.R_drew)); exact (Kd.R_mono (Kd.R_far (p := ⟨gb235, 1, none⟩) (Kd.R_far (p := ⟨gb235, 0, none⟩) (Kd.R_types HO233.out BK235.out (by decide)) (fun _ hk => hk.2) (.slice Ao38 t228.length co38)) (fun _ hk => hk.2) (.slice Ao42 t231.length co42)) (fun _ h_ => h_.1))) hb); have n6_ := Aside0.mk (blk_below (g := gb211) (o := .cells #[.slice Ao18 t213.length co18, .slice Ao20 t216.length co20] 25 (0, 0)) (by (with_reducible repeat (first | refine blk_drewN ?_ _ | refine blk_drew ?_ | refine blk_alloc ?_ _)); refine blk_far ?_ NB211_235.out _; (with_reducible repeat (first | refine blk_drewN ?_ _ | refine blk_drew ?_ | refine blk_alloc ?_ _)); refine blk_far ?_ NB211_235.out _; (with_reducible repeat (first | refine blk_drewN ?_ _ | refine blk_drew ?_ | refine blk_alloc ?_ _)); exact BK211.out) hb); have n7_ := Aside0.mk (blk_below (g := gb212) (o := .cells #[.slice Ao22 t219.length co22, .slice Ao24 t222.length co24] 25 (0, 0)) (by (with_reducible repeat (first | refine blk_drewN ?_ _ | refine blk_drew ?_ | refine blk_alloc ?_ _)); refine blk_far ?_ NB212_235.out _; (with_reducible repeat (first | refine blk_drewN ?_ _ | refine blk_drew ?_ | refine blk_alloc ?_ _)); refine blk_far ?_ NB212_235.out _; (with_reducible repeat (first | refine blk_drewN ?_ _ | refine blk_drew ?_ | refine blk_alloc ?_ _)); exact BK212.out) hb); have n8_ := Aside0.mk (blk_below (g := gb235) (o := .cells #[.slice Ao38 t228.length co38, .slice Ao42 t231.length co42] 25 (0, 0)) (by (with_reducible repeat (first | refine blk_drewN ?_ _ | refine blk_drew ?_ | refine blk_alloc ?_ _)); refine blk_put (cs := #[.slice Ao38 t228.length co38, .slice none 0 0]) ?_ 1 _ rfl; (with_reducible repeat (first | refine blk_drewN ?_ _ | refine blk_drew ?_ | refine blk_alloc ?_ _)); refine blk_put (cs := #[.slice none 0 0, .slice none 0 0]) ?_ 0 _ rfl; (with_reducible repeat (first | refine blk_drewN ?_ _ | refine blk_drew ?_ | refine blk_alloc ?_ _)); exact BK235.out) hb); have n9_ := Aside0.mk (below_step (by repeat (first | (with_reducible first | exact HB.out | apply below_alloc | apply pw_below_drewN | apply below_drew1 | refine below_set ?_ GE211.out | refine below_set ?_ GE212.out | refine below_set ?_ GE235.out) | exact HB.out)) hb); clear HO215; clear HO218; clear HO221; clear HO224; clear HO230; clear HO233; clear BK211; clear BK212; clear BK235; clear HB; have HO215 := n0_; have HO218 := n1_; have HO221 := n2_; have HO224 := n3_; have HO230 := n4_; have HO233 := n5_; have BK211 := n6_; have BK212 := n7_; have BK235 := n8_; have HB := n9_; clear n0_ n1_ n2_ n3_ n4_ n5_ n6_ n7_ n8_ n9_; (try clear hb); (try clear hb2); (try clear hk); (try clear hi)))
                go_meet
                case rel => exact ⟨_, (true), (by first | rfl | (simp; done) | (simp [*]; done)), H', ⟨by first | omega | exact Nat.le_refl _⟩, ⟨by (with_reducible repeat (first | apply Kd.R_alloc | apply Kd.R_drewN | apply Kd.R_drew)); exact HO215.out⟩, ⟨by (with_reducible repeat (first | apply Kd.R_alloc | apply Kd.R_drewN | apply Kd.R_drew)); exact HO218.out⟩, ⟨by (with_reducible repeat (first | apply Kd.R_alloc | apply Kd.R_drewN | apply Kd.R_drew)); exact HO221.out⟩, ⟨by (with_reducible repeat (first | apply Kd.R_alloc | apply Kd.R_drewN | apply Kd.R_drew)); exact HO224.out⟩, ⟨by (with_reducible repeat (first | apply Kd.R_alloc | apply Kd.R_drewN | apply Kd.R_drew)); exact Kd.R_mono HO230.out (fun _ hk => ⟨hk.1.2, hk.2⟩)⟩, ⟨by (with_reducible repeat (first | apply Kd.R_alloc | apply Kd.R_drewN | apply Kd.R_drew)); exact Kd.R_mono HO233.out (fun _ hk => ⟨hk.1.2, hk.2⟩)⟩, ⟨by (with_reducible repeat (first | refine blk_drewN ?_ _ | refine blk_drew ?_ | refine blk_alloc ?_ _)); exact BK211.out⟩, ⟨by (with_reducible repeat (first | refine blk_drewN ?_ _ | refine blk_drew ?_ | refine blk_alloc ?_ _)); exact BK212.out⟩, ⟨by (with_reducible repeat (first | refine blk_drewN ?_ _ | refine blk_drew ?_ | refine blk_alloc ?_ _)); exact BK235.out⟩, ⟨by repeat (first | (with_reducible first | exact HB.out | apply below_alloc | apply pw_below_drewN | apply below_drew1 | refine below_set ?_ GE211.out | refine below_set ?_ GE212.out | refine below_set ?_ GE235.out) | exact HB.out)⟩⟩
            · rw [if_neg c43] at H
              have c43b0 : (t234 == 0) = false := beq_eq_false_iff_ne.mpr c43
              have c43b1 : (t234 != 0) = true := bne_iff_ne.mpr c43
              (first | rw [c43b0] | (simp only [i64_w, i32_w]; rw [c43b0]) | rw [c43b1] | skip)
              have H' := Aside0.mk H
              clear H
              go_wp2
              go_meet
              case rel => exact ⟨_, (true), (by first | rfl | (simp; done) | (simp [*]; done)), H', ⟨by first | omega | exact Nat.le_refl _⟩, ⟨by (with_reducible repeat (first | apply Kd.R_alloc | apply Kd.R_drewN | apply Kd.R_drew)); exact Kd.R_mono (Kd.R_far (p := ⟨gb235, 1, none⟩) (Kd.R_far (p := ⟨gb235, 0, none⟩) (Kd.R_types HO215.out BK235.out (by decide)) (fun _ hk => hk.2) (.slice Ao38 t228.length co38)) (fun _ hk => hk.2) (.slice Ao42 t231.length co42)) (fun _ hk => ⟨hk.1.1, hk.1.2⟩)⟩, ⟨by (with_reducible repeat (first | apply Kd.R_alloc | apply Kd.R_drewN | apply Kd.R_drew)); exact Kd.R_mono (Kd.R_far (p := ⟨gb235, 1, none⟩) (Kd.R_far (p := ⟨gb235, 0, none⟩) (Kd.R_types HO218.out BK235.out (by decide)) (fun _ hk => hk.2) (.slice Ao38 t228.length co38)) (fun _ hk => hk.2) (.slice Ao42 t231.length co42)) (fun _ hk => ⟨hk.1.1, hk.1.2⟩)⟩, ⟨by (with_reducible repeat (first | apply Kd.R_alloc | apply Kd.R_drewN | apply Kd.R_drew)); exact Kd.R_mono (Kd.R_far (p := ⟨gb235, 1, none⟩) (Kd.R_far (p := ⟨gb235, 0, none⟩) (Kd.R_types HO221.out BK235.out (by decide)) (fun _ hk => hk.2) (.slice Ao38 t228.length co38)) (fun _ hk => hk.2) (.slice Ao42 t231.length co42)) (fun _ hk => ⟨hk.1.1, hk.1.2⟩)⟩, ⟨by (with_reducible repeat (first | apply Kd.R_alloc | apply Kd.R_drewN | apply Kd.R_drew)); exact Kd.R_mono (Kd.R_far (p := ⟨gb235, 1, none⟩) (Kd.R_far (p := ⟨gb235, 0, none⟩) (Kd.R_types HO224.out BK235.out (by decide)) (fun _ hk => hk.2) (.slice Ao38 t228.length co38)) (fun _ hk => hk.2) (.slice Ao42 t231.length co42)) (fun _ hk => ⟨hk.1.1, hk.1.2⟩)⟩, ⟨by (with_reducible repeat (first | apply Kd.R_alloc | apply Kd.R_drewN | apply Kd.R_drew)); exact Kd.R_mono (Kd.R_far (p := ⟨gb235, 1, none⟩) (Kd.R_far (p := ⟨gb235, 0, none⟩) (Kd.R_types HO230.out BK235.out (by decide)) (fun _ hk => hk.2) (.slice Ao38 t228.length co38)) (fun _ hk => hk.2) (.slice Ao42 t231.length co42)) (fun _ hk => ⟨hk.1.1.2, hk.1.2⟩)⟩, ⟨by (with_reducible repeat (first | apply Kd.R_alloc | apply Kd.R_drewN | apply Kd.R_drew)); exact Kd.R_mono (Kd.R_far (p := ⟨gb235, 1, none⟩) (Kd.R_far (p := ⟨gb235, 0, none⟩) (Kd.R_types HO233.out BK235.out (by decide)) (fun _ hk => hk.2) (.slice Ao38 t228.length co38)) (fun _ hk => hk.2) (.slice Ao42 t231.length co42)) (fun _ hk => ⟨hk.1.1.2, hk.1.2⟩)⟩, ⟨by (with_reducible repeat (first | refine blk_drewN ?_ _ | refine blk_drew ?_ | refine blk_alloc ?_ _)); refine blk_far ?_ NB211_235.out _; (with_reducible repeat (first | refine blk_drewN ?_ _ | refine blk_drew ?_ | refine blk_alloc ?_ _)); refine blk_far ?_ NB211_235.out _; (with_reducible repeat (first | refine blk_drewN ?_ _ | refine blk_drew ?_ | refine blk_alloc ?_ _)); exact BK211.out⟩, ⟨by (with_reducible repeat (first | refine blk_drewN ?_ _ | refine blk_drew ?_ | refine blk_alloc ?_ _)); refine blk_far ?_ NB212_235.out _; (with_reducible repeat (first | refine blk_drewN ?_ _ | refine blk_drew ?_ | refine blk_alloc ?_ _)); refine blk_far ?_ NB212_235.out _; (with_reducible repeat (first | refine blk_drewN ?_ _ | refine blk_drew ?_ | refine blk_alloc ?_ _)); exact BK212.out⟩, ⟨by (with_reducible repeat (first | refine blk_drewN ?_ _ | refine blk_drew ?_ | refine blk_alloc ?_ _)); refine blk_put (cs := #[.slice Ao38 t228.length co38, .slice none 0 0]) ?_ 1 _ rfl; (with_reducible repeat (first | refine blk_drewN ?_ _ | refine blk_drew ?_ | refine blk_alloc ?_ _)); refine blk_put (cs := #[.slice none 0 0, .slice none 0 0]) ?_ 0 _ rfl; (with_reducible repeat (first | refine blk_drewN ?_ _ | refine blk_drew ?_ | refine blk_alloc ?_ _)); exact BK235.out⟩, ⟨by repeat (first | (with_reducible first | exact HB.out | apply below_alloc | apply pw_below_drewN | apply below_drew1 | refine below_set ?_ GE211.out | refine below_set ?_ GE212.out | refine below_set ?_ GE235.out) | exact HB.out)⟩⟩
          case rest =>
            clear HC35
            try clear c1
            try clear p2
            try clear c3
            try clear c4
            try clear c5
            try clear c7
            try clear c7b0
            try clear c7b1
            try clear c8
            try clear c8b0
            try clear c8b1
            try clear c9
            try clear c12
            try clear c13
            try clear c14
            try clear c30
            try clear c33
            try clear c39
            try clear c40
            try clear c43
            try clear c43b0
            try clear c43b1
            try clear c45
            try clear c46
            try clear c47
            try clear c49
            try clear c52
            try clear c53
            try clear c55
            try clear hcz31_0
            try clear hcz31_1
            try clear hcz41_0
            try clear hcz41_1
            try clear hcz48_0
            try clear hcz48_1
            try clear hcz50_0
            try clear hcz50_1
            try clear hcz54_0
            try clear hcz54_1
            try clear hcz56_0
            try clear hcz56_1
            try clear hfz31_0
            try clear hfz31_1
            try clear hfz41_0
            try clear hfz41_1
            try clear hfz48_0
            try clear hfz48_1
            try clear hfz50_0
            try clear hfz50_1
            try clear hfz54_0
            try clear hfz54_1
            try clear hfz56_0
            try clear hfz56_1
            obtain ⟨kq, x47_34, rfl, HA, HJ34, HO_212000, HO_212001, HO_213000, HO_213001, HO_236000, HO_236001, BK211, BK212, BK235, HB⟩ := hcut
            cases kq with
            | zero => exact absurd HA.out (by simp [porticolaw4_URLBack.j0])
            | succ kj34 =>
              have H := HA.out
              clear HA
              simp only [porticolaw4_URLBack.j0] at H
              by_cases c58 : x47_34 = true
              · subst c58
                have H1 : (none) = some r := by rw [if_pos rfl] at H; exact H
                clear H
                have H := H1
                clear H1
                exact absurd H (by simp)
              · replace c58 := Bool.eq_false_iff.mpr c58
                subst c58
                have H1 : ((url_Right.f kj34 t219 t222).bind fun t237 => (if t237 = true then ((porticolaw4_equal.f kj34 t213 t216 t219 t222).bind fun t238 => (if ((t225.toList == t226.toList) != t238) = true then (none) else (porticolaw4_URLBack.j1 kj34 (a2.extract 0 ((ji6) : Int).toNat)))) else (porticolaw4_URLBack.j1 kj34 (a2.extract 0 ((ji6) : Int).toNat)))) = some r := by rw [if_neg (show ¬ (false = true) by decide)] at H; exact H
                clear H
                have H := H1
                clear H1
                replace H := Option.bind_eq_some_iff.mp H
                obtain ⟨t237, A590, H⟩ := H
                replace H : (if t237 = true then ((porticolaw4_equal.f kj34 t213 t216 t219 t222).bind fun t238 => (if ((t225.toList == t226.toList) != t238) = true then (none) else (porticolaw4_URLBack.j1 kj34 (a2.extract 0 ((ji6) : Int).toNat)))) else (porticolaw4_URLBack.j1 kj34 (a2.extract 0 ((ji6) : Int).toNat))) = some r := H
                have A59 := Aside0.mk A590
                clear A590
                by_cases c60 : t237 = true
                · subst c60
                  have H1 : ((porticolaw4_equal.f kj34 t213 t216 t219 t222).bind fun t238 => (if ((t225.toList == t226.toList) != t238) = true then (none) else (porticolaw4_URLBack.j1 kj34 (a2.extract 0 ((ji6) : Int).toNat)))) = some r := by rw [if_pos rfl] at H; exact H
                  clear H
                  have H := H1
                  clear H1
                  replace H := Option.bind_eq_some_iff.mp H
                  obtain ⟨t238, A610, H⟩ := H
                  replace H : (if ((t225.toList == t226.toList) != t238) = true then (none) else (porticolaw4_URLBack.j1 kj34 (a2.extract 0 ((ji6) : Int).toNat))) = some r := H
                  have A61 := Aside0.mk A610
                  clear A610
                  by_cases c62 : ((t225.toList == t226.toList) != t238) = true
                  · rw [if_pos c62] at H
                    exact absurd H (by simp)
                  · rw [if_neg c62] at H
                    have c62b0 : ((t225.toList == t226.toList) != t238) = false := by simpa using c62
                    (try (have c62b1 : decide ((t225.toList == t226.toList) = t238) = true := by simpa using c62))
                    (try (have c62b2 : ((t225.toList == t226.toList) == t238) = true := by simpa using c62))
                    clear c62
                    have H' := Aside0.mk H
                    clear H
                    have hnb63 := NB212_211.out
                    have hnc63 := NB211_212.out
                    have hnb64 := NB212_235.out
                    have hnc64 := NB235_212.out
                    have hcz65_0 : wc.cell? ⟨gb212, 0, none⟩ = some (.slice Ao22 t219.length co22) := (blk_cell BK212.out 0).trans rfl
                    have hcz65_1 : wc.cell? ⟨gb212, 1, none⟩ = some (.slice Ao24 t222.length co24) := (blk_cell BK212.out 1).trans rfl
                    have hfz65_0 := blk_frozen BK212.out 0
                    have hfz65_1 := blk_frozen BK212.out 1
                    go_wp2_with (first | ((with_reducible refine gate_callee (f := 14) rfl ?_); refine goesL_ (some 49) rfl rfl Tryd.func14 (by kernel_rfl) rfl #[.agg #[.slice Ao22 t219.length co22, .slice Ao24 t222.length co24]] rfl (by (try simp only [List.map_toArray, List.map_cons, List.map_nil]); first | done | rfl | (simp only [List.length_drop, List.length_take]; rfl)) ?_; (with_reducible refine (url_Right.calls kj34 _ _ t219 _ _ t222 true _ ?side1 ?side2 ?side3 ?side4 A59.out).mono ?_); (case side1 => repeat (first | exact (Kd.R_reads' HO_213000.out).2.2 | (with_reducible refine Kd.C_alloc ?_ _) | (with_reducible refine Kd.C_drewN ?_ _) | (with_reducible refine Kd.C_drew ?_))); (case side2 => exact (Kd.R_reads' HO_213000.out).2.1); (case side3 => repeat (first | exact (Kd.R_reads' HO_213001.out).2.2 | (with_reducible refine Kd.C_alloc ?_ _) | (with_reducible refine Kd.C_drewN ?_ _) | (with_reducible refine Kd.C_drew ?_))); (case side4 => exact (Kd.R_reads' HO_213001.out).2.1); rintro e w66 ⟨rfl, hb⟩; refine ⟨_, rfl, ?_⟩; have n0_ := Aside0.mk (Kd.R_below (by (with_reducible repeat (first | apply Kd.R_alloc | apply Kd.R_drewN | apply Kd.R_drew)); exact HO_212000.out) hb); have n1_ := Aside0.mk (Kd.R_below (by (with_reducible repeat (first | apply Kd.R_alloc | apply Kd.R_drewN | apply Kd.R_drew)); exact HO_212001.out) hb); have n2_ := Aside0.mk (Kd.R_below (by (with_reducible repeat (first | apply Kd.R_alloc | apply Kd.R_drewN | apply Kd.R_drew)); exact HO_213000.out) hb); have n3_ := Aside0.mk (Kd.R_below (by (with_reducible repeat (first | apply Kd.R_alloc | apply Kd.R_drewN | apply Kd.R_drew)); exact HO_213001.out) hb); have n4_ := Aside0.mk (Kd.R_below (by (with_reducible repeat (first | apply Kd.R_alloc | apply Kd.R_drewN | apply Kd.R_drew)); exact HO_236000.out) hb); have n5_ := Aside0.mk (Kd.R_below (by (with_reducible repeat (first | apply Kd.R_alloc | apply Kd.R_drewN | apply Kd.R_drew)); exact HO_236001.out) hb); have n6_ := Aside0.mk (blk_below (g := gb211) (o := .cells #[.slice Ao18 t213.length co18, .slice Ao20 t216.length co20] 25 (0, 0)) (by (with_reducible repeat (first | refine blk_drewN ?_ _ | refine blk_drew ?_ | refine blk_alloc ?_ _)); exact BK211.out) hb); have n7_ := Aside0.mk (blk_below (g := gb212) (o := .cells #[.slice Ao22 t219.length co22, .slice Ao24 t222.length co24] 25 (0, 0)) (by (with_reducible repeat (first | refine blk_drewN ?_ _ | refine blk_drew ?_ | refine blk_alloc ?_ _)); exact BK212.out) hb); have n8_ := Aside0.mk (blk_below (g := gb235) (o := .cells #[.slice Ao38 t228.length co38, .slice Ao42 t231.length co42] 25 (0, 0)) (by (with_reducible repeat (first | refine blk_drewN ?_ _ | refine blk_drew ?_ | refine blk_alloc ?_ _)); exact BK235.out) hb); have n9_ := Aside0.mk (below_step (by repeat (first | (with_reducible first | exact HB.out | apply below_alloc | apply pw_below_drewN | apply below_drew1 | refine below_set ?_ GE211.out | refine below_set ?_ GE212.out | refine below_set ?_ GE235.out) | exact HB.out)) hb); clear HO_212000; clear HO_212001; clear HO_213000; clear HO_213001; clear HO_236000; clear HO_236001; clear BK211; clear BK212; clear BK235; clear HB; have HO_212000 := n0_; have HO_212001 := n1_; have HO_213000 := n2_; have HO_213001 := n3_; have HO_236000 := n4_; have HO_236001 := n5_; have BK211 := n6_; have BK212 := n7_; have BK235 := n8_; have HB := n9_; clear n0_ n1_ n2_ n3_ n4_ n5_ n6_ n7_ n8_ n9_; (try clear hb); (try clear hb2); (try clear hk); (try clear hi); have hnb67 := NB211_235.out; have hnc67 := NB235_211.out; have hcz68_0 : w66.cell? ⟨gb211, 0, none⟩ = some (.slice Ao18 t213.length co18) := (blk_cell BK211.out 0).trans rfl; have hcz68_1 : w66.cell? ⟨gb211, 1, none⟩ = some (.slice Ao20 t216.length co20) := (blk_cell BK211.out 1).trans rfl; have hfz68_0 := blk_frozen BK211.out 0; have hfz68_1 := blk_frozen BK211.out 1; have hcz69_0 : w66.cell? ⟨gb212, 0, none⟩ = some (.slice Ao22 t219.length co22) := (blk_cell BK212.out 0).trans rfl; have hcz69_1 : w66.cell? ⟨gb212, 1, none⟩ = some (.slice Ao24 t222.length co24) := (blk_cell BK212.out 1).trans rfl; have hfz69_0 := blk_frozen BK212.out 0; have hfz69_1 := blk_frozen BK212.out 1) | (go_at_call 15; (with_reducible refine (porticolaw4_equal.calls kj34 _ _ t213 _ _ t216 _ _ t219 _ _ t222 t238 _ ?side1 ?side2 ?side3 ?side4 ?side5 ?side6 ?side7 ?side8 A61.out).mono ?_); (case side1 => repeat (first | exact (Kd.R_reads' HO_212000.out).2.2 | (with_reducible refine Kd.C_alloc ?_ _) | (with_reducible refine Kd.C_drewN ?_ _) | (with_reducible refine Kd.C_drew ?_))); (case side2 => exact (Kd.R_reads' HO_212000.out).2.1); (case side3 => repeat (first | exact (Kd.R_reads' HO_212001.out).2.2 | (with_reducible refine Kd.C_alloc ?_ _) | (with_reducible refine Kd.C_drewN ?_ _) | (with_reducible refine Kd.C_drew ?_))); (case side4 => exact (Kd.R_reads' HO_212001.out).2.1); (case side5 => repeat (first | exact (Kd.R_reads' HO_213000.out).2.2 | (with_reducible refine Kd.C_alloc ?_ _) | (with_reducible refine Kd.C_drewN ?_ _) | (with_reducible refine Kd.C_drew ?_))); (case side6 => exact (Kd.R_reads' HO_213000.out).2.1); (case side7 => repeat (first | exact (Kd.R_reads' HO_213001.out).2.2 | (with_reducible refine Kd.C_alloc ?_ _) | (with_reducible refine Kd.C_drewN ?_ _) | (with_reducible refine Kd.C_drew ?_))); (case side8 => exact (Kd.R_reads' HO_213001.out).2.1); rintro e w70 ⟨rfl, hb⟩; have n0_ := Aside0.mk (Kd.R_below (by (with_reducible repeat (first | apply Kd.R_alloc | apply Kd.R_drewN | apply Kd.R_drew)); exact HO_212000.out) hb); have n1_ := Aside0.mk (Kd.R_below (by (with_reducible repeat (first | apply Kd.R_alloc | apply Kd.R_drewN | apply Kd.R_drew)); exact HO_212001.out) hb); have n2_ := Aside0.mk (Kd.R_below (by (with_reducible repeat (first | apply Kd.R_alloc | apply Kd.R_drewN | apply Kd.R_drew)); exact HO_213000.out) hb); have n3_ := Aside0.mk (Kd.R_below (by (with_reducible repeat (first | apply Kd.R_alloc | apply Kd.R_drewN | apply Kd.R_drew)); exact HO_213001.out) hb); have n4_ := Aside0.mk (Kd.R_below (by (with_reducible repeat (first | apply Kd.R_alloc | apply Kd.R_drewN | apply Kd.R_drew)); exact HO_236000.out) hb); have n5_ := Aside0.mk (Kd.R_below (by (with_reducible repeat (first | apply Kd.R_alloc | apply Kd.R_drewN | apply Kd.R_drew)); exact HO_236001.out) hb); have n6_ := Aside0.mk (blk_below (g := gb211) (o := .cells #[.slice Ao18 t213.length co18, .slice Ao20 t216.length co20] 25 (0, 0)) (by (with_reducible repeat (first | refine blk_drewN ?_ _ | refine blk_drew ?_ | refine blk_alloc ?_ _)); exact BK211.out) hb); have n7_ := Aside0.mk (blk_below (g := gb212) (o := .cells #[.slice Ao22 t219.length co22, .slice Ao24 t222.length co24] 25 (0, 0)) (by (with_reducible repeat (first | refine blk_drewN ?_ _ | refine blk_drew ?_ | refine blk_alloc ?_ _)); exact BK212.out) hb); have n8_ := Aside0.mk (blk_below (g := gb235) (o := .cells #[.slice Ao38 t228.length co38, .slice Ao42 t231.length co42] 25 (0, 0)) (by (with_reducible repeat (first | refine blk_drewN ?_ _ | refine blk_drew ?_ | refine blk_alloc ?_ _)); exact BK235.out) hb); have n9_ := Aside0.mk (below_step (by repeat (first | (with_reducible first | exact HB.out | apply below_alloc | apply pw_below_drewN | apply below_drew1 | refine below_set ?_ GE211.out | refine below_set ?_ GE212.out | refine below_set ?_ GE235.out) | exact HB.out)) hb); clear HO_212000; clear HO_212001; clear HO_213000; clear HO_213001; clear HO_236000; clear HO_236001; clear BK211; clear BK212; clear BK235; clear HB; have HO_212000 := n0_; have HO_212001 := n1_; have HO_213000 := n2_; have HO_213001 := n3_; have HO_236000 := n4_; have HO_236001 := n5_; have BK211 := n6_; have BK212 := n7_; have BK235 := n8_; have HB := n9_; clear n0_ n1_ n2_ n3_ n4_ n5_ n6_ n7_ n8_ n9_; (try clear hb); (try clear hb2); (try clear hk); (try clear hi)))
                    go_meet
                    case rel => exact ⟨_, H', ⟨by have := HJ34.out; first | omega | exact Nat.le_refl _⟩, ⟨by (with_reducible repeat (first | apply Kd.R_alloc | apply Kd.R_drewN | apply Kd.R_drew)); exact Kd.R_mono HO_212000.out (fun _ hk => hk.1)⟩, ⟨by (with_reducible repeat (first | apply Kd.R_alloc | apply Kd.R_drewN | apply Kd.R_drew)); exact Kd.R_mono HO_212001.out (fun _ hk => hk.1)⟩, ⟨by (with_reducible repeat (first | apply Kd.R_alloc | apply Kd.R_drewN | apply Kd.R_drew)); exact Kd.R_mono HO_213000.out (fun _ hk => hk.1)⟩, ⟨by (with_reducible repeat (first | apply Kd.R_alloc | apply Kd.R_drewN | apply Kd.R_drew)); exact Kd.R_mono HO_213001.out (fun _ hk => hk.1)⟩, ⟨by (with_reducible repeat (first | refine blk_drewN ?_ _ | refine blk_drew ?_ | refine blk_alloc ?_ _)); exact BK211.out⟩, ⟨by (with_reducible repeat (first | refine blk_drewN ?_ _ | refine blk_drew ?_ | refine blk_alloc ?_ _)); exact BK212.out⟩, ⟨by repeat (first | (with_reducible first | exact HB.out | apply below_alloc | apply pw_below_drewN | apply below_drew1 | refine below_set ?_ GE211.out | refine below_set ?_ GE212.out | refine below_set ?_ GE235.out) | exact HB.out)⟩⟩
                · replace c60 := Bool.eq_false_iff.mpr c60
                  subst c60
                  have H1 : (porticolaw4_URLBack.j1 kj34 (a2.extract 0 ((ji6) : Int).toNat)) = some r := by rw [if_neg (show ¬ (false = true) by decide)] at H; exact H
                  clear H
                  have H := H1
                  clear H1
                  have H' := Aside0.mk H
                  clear H
                  have hnb71 := NB212_211.out
                  have hnc71 := NB211_212.out
                  have hnb72 := NB212_235.out
                  have hnc72 := NB235_212.out
                  have hcz73_0 : wc.cell? ⟨gb212, 0, none⟩ = some (.slice Ao22 t219.length co22) := (blk_cell BK212.out 0).trans rfl
                  have hcz73_1 : wc.cell? ⟨gb212, 1, none⟩ = some (.slice Ao24 t222.length co24) := (blk_cell BK212.out 1).trans rfl
                  have hfz73_0 := blk_frozen BK212.out 0
                  have hfz73_1 := blk_frozen BK212.out 1
                  go_wp2_with (first | ((with_reducible refine gate_callee (f := 14) rfl ?_); refine goesL_ (some 49) rfl rfl Tryd.func14 (by kernel_rfl) rfl #[.agg #[.slice Ao22 t219.length co22, .slice Ao24 t222.length co24]] rfl (by (try simp only [List.map_toArray, List.map_cons, List.map_nil]); first | done | rfl | (simp only [List.length_drop, List.length_take]; rfl)) ?_; (with_reducible refine (url_Right.calls kj34 _ _ t219 _ _ t222 false _ ?side1 ?side2 ?side3 ?side4 A59.out).mono ?_); (case side1 => repeat (first | exact (Kd.R_reads' HO_213000.out).2.2 | (with_reducible refine Kd.C_alloc ?_ _) | (with_reducible refine Kd.C_drewN ?_ _) | (with_reducible refine Kd.C_drew ?_))); (case side2 => exact (Kd.R_reads' HO_213000.out).2.1); (case side3 => repeat (first | exact (Kd.R_reads' HO_213001.out).2.2 | (with_reducible refine Kd.C_alloc ?_ _) | (with_reducible refine Kd.C_drewN ?_ _) | (with_reducible refine Kd.C_drew ?_))); (case side4 => exact (Kd.R_reads' HO_213001.out).2.1); rintro e w74 ⟨rfl, hb⟩; refine ⟨_, rfl, ?_⟩; have n0_ := Aside0.mk (Kd.R_below (by (with_reducible repeat (first | apply Kd.R_alloc | apply Kd.R_drewN | apply Kd.R_drew)); exact HO_212000.out) hb); have n1_ := Aside0.mk (Kd.R_below (by (with_reducible repeat (first | apply Kd.R_alloc | apply Kd.R_drewN | apply Kd.R_drew)); exact HO_212001.out) hb); have n2_ := Aside0.mk (Kd.R_below (by (with_reducible repeat (first | apply Kd.R_alloc | apply Kd.R_drewN | apply Kd.R_drew)); exact HO_213000.out) hb); have n3_ := Aside0.mk (Kd.R_below (by (with_reducible repeat (first | apply Kd.R_alloc | apply Kd.R_drewN | apply Kd.R_drew)); exact HO_213001.out) hb); have n4_ := Aside0.mk (Kd.R_below (by (with_reducible repeat (first | apply Kd.R_alloc | apply Kd.R_drewN | apply Kd.R_drew)); exact HO_236000.out) hb); have n5_ := Aside0.mk (Kd.R_below (by (with_reducible repeat (first | apply Kd.R_alloc | apply Kd.R_drewN | apply Kd.R_drew)); exact HO_236001.out) hb); have n6_ := Aside0.mk (blk_below (g := gb211) (o := .cells #[.slice Ao18 t213.length co18, .slice Ao20 t216.length co20] 25 (0, 0)) (by (with_reducible repeat (first | refine blk_drewN ?_ _ | refine blk_drew ?_ | refine blk_alloc ?_ _)); exact BK211.out) hb); have n7_ := Aside0.mk (blk_below (g := gb212) (o := .cells #[.slice Ao22 t219.length co22, .slice Ao24 t222.length co24] 25 (0, 0)) (by (with_reducible repeat (first | refine blk_drewN ?_ _ | refine blk_drew ?_ | refine blk_alloc ?_ _)); exact BK212.out) hb); have n8_ := Aside0.mk (blk_below (g := gb235) (o := .cells #[.slice Ao38 t228.length co38, .slice Ao42 t231.length co42] 25 (0, 0)) (by (with_reducible repeat (first | refine blk_drewN ?_ _ | refine blk_drew ?_ | refine blk_alloc ?_ _)); exact BK235.out) hb); have n9_ := Aside0.mk (below_step (by repeat (first | (with_reducible first | exact HB.out | apply below_alloc | apply pw_below_drewN | apply below_drew1 | refine below_set ?_ GE211.out | refine below_set ?_ GE212.out | refine below_set ?_ GE235.out) | exact HB.out)) hb); clear HO_212000; clear HO_212001; clear HO_213000; clear HO_213001; clear HO_236000; clear HO_236001; clear BK211; clear BK212; clear BK235; clear HB; have HO_212000 := n0_; have HO_212001 := n1_; have HO_213000 := n2_; have HO_213001 := n3_; have HO_236000 := n4_; have HO_236001 := n5_; have BK211 := n6_; have BK212 := n7_; have BK235 := n8_; have HB := n9_; clear n0_ n1_ n2_ n3_ n4_ n5_ n6_ n7_ n8_ n9_; (try clear hb); (try clear hb2); (try clear hk); (try clear hi)))
                  go_meet
                  case rel => exact ⟨_, H', ⟨by have := HJ34.out; first | omega | exact Nat.le_refl _⟩, ⟨by (with_reducible repeat (first | apply Kd.R_alloc | apply Kd.R_drewN | apply Kd.R_drew)); exact Kd.R_mono HO_212000.out (fun _ hk => hk.1)⟩, ⟨by (with_reducible repeat (first | apply Kd.R_alloc | apply Kd.R_drewN | apply Kd.R_drew)); exact Kd.R_mono HO_212001.out (fun _ hk => hk.1)⟩, ⟨by (with_reducible repeat (first | apply Kd.R_alloc | apply Kd.R_drewN | apply Kd.R_drew)); exact Kd.R_mono HO_213000.out (fun _ hk => hk.1)⟩, ⟨by (with_reducible repeat (first | apply Kd.R_alloc | apply Kd.R_drewN | apply Kd.R_drew)); exact Kd.R_mono HO_213001.out (fun _ hk => hk.1)⟩, ⟨by (with_reducible repeat (first | refine blk_drewN ?_ _ | refine blk_drew ?_ | refine blk_alloc ?_ _)); exact BK211.out⟩, ⟨by (with_reducible repeat (first | refine blk_drewN ?_ _ | refine blk_drew ?_ | refine blk_alloc ?_ _)); exact BK212.out⟩, ⟨by repeat (first | (with_reducible first | exact HB.out | apply below_alloc | apply pw_below_drewN | apply below_drew1 | refine below_set ?_ GE211.out | refine below_set ?_ GE212.out | refine below_set ?_ GE235.out) | exact HB.out)⟩⟩
        · replace c33 := Bool.eq_false_iff.mpr c33
          subst c33
          have H1 : (if t225.toList = ([] : List UInt8) then (porticolaw4_URLBack.j1 k (a2.extract 0 ((ji6) : Int).toNat)) else (none)) = some r := by rw [if_neg (show ¬ (false = true) by decide)] at H; exact H
          clear H
          have H := H1
          clear H1
          by_cases c75 : t225.toList = ([] : List UInt8)
          · rw [if_pos c75] at H
            have c75b0 : (t225.toList == ([] : List UInt8)) = true := beq_iff_eq.mpr c75
            have c75b1 : (t225.toList != ([] : List UInt8)) = false := bne_eq_false_iff_eq.mpr c75
            clear c75
            have H' := Aside0.mk H
            clear H
            go_wp2
            go_meet
            case rel => exact ⟨_, H', ⟨by first | omega | exact Nat.le_refl _⟩, ⟨by (with_reducible repeat (first | apply Kd.R_alloc | apply Kd.R_drewN | apply Kd.R_drew)); exact HO215.out⟩, ⟨by (with_reducible repeat (first | apply Kd.R_alloc | apply Kd.R_drewN | apply Kd.R_drew)); exact HO218.out⟩, ⟨by (with_reducible repeat (first | apply Kd.R_alloc | apply Kd.R_drewN | apply Kd.R_drew)); exact HO221.out⟩, ⟨by (with_reducible repeat (first | apply Kd.R_alloc | apply Kd.R_drewN | apply Kd.R_drew)); exact HO224.out⟩, ⟨by (with_reducible repeat (first | refine blk_drewN ?_ _ | refine blk_drew ?_ | refine blk_alloc ?_ _)); exact BK211.out⟩, ⟨by (with_reducible repeat (first | refine blk_drewN ?_ _ | refine blk_drew ?_ | refine blk_alloc ?_ _)); exact BK212.out⟩, ⟨by repeat (first | (with_reducible first | exact HB.out | apply below_alloc | apply pw_below_drewN | apply below_drew1 | refine below_set ?_ GE211.out | refine below_set ?_ GE212.out) | exact HB.out)⟩⟩
          · rw [if_neg c75] at H
            exact absurd H (by simp)
      case rest =>
        clear HC12
        try clear c1
        try clear p2
        try clear c3
        try clear c4
        try clear c5
        try clear c6
        try clear c7
        try clear c7b0
        try clear c7b1
        try clear c8
        try clear c8b0
        try clear c8b1
        try clear c9
        try clear c12
        try clear c13
        try clear c14
        try clear c30
        try clear c33
        try clear c39
        try clear c40
        try clear c43
        try clear c43b0
        try clear c43b1
        try clear c45
        try clear c46
        try clear c47
        try clear c49
        try clear c52
        try clear c53
        try clear c55
        try clear c58
        try clear c60
        try clear c62
        try clear c62b0
        try clear c62b1
        try clear c62b2
        try clear c63
        try clear c64
        try clear c67
        try clear c71
        try clear c72
        try clear c75
        try clear c75b0
        try clear c75b1
        try clear hcz31_0
        try clear hcz31_1
        try clear hcz41_0
        try clear hcz41_1
        try clear hcz48_0
        try clear hcz48_1
        try clear hcz50_0
        try clear hcz50_1
        try clear hcz54_0
        try clear hcz54_1
        try clear hcz56_0
        try clear hcz56_1
        try clear hcz65_0
        try clear hcz65_1
        try clear hcz68_0
        try clear hcz68_1
        try clear hcz69_0
        try clear hcz69_1
        try clear hcz73_0
        try clear hcz73_1
        try clear hfz31_0
        try clear hfz31_1
        try clear hfz41_0
        try clear hfz41_1
        try clear hfz48_0
        try clear hfz48_1
        try clear hfz50_0
        try clear hfz50_1
        try clear hfz54_0
        try clear hfz54_1
        try clear hfz56_0
        try clear hfz56_1
        try clear hfz65_0
        try clear hfz65_1
        try clear hfz68_0
        try clear hfz68_1
        try clear hfz69_0
        try clear hfz69_1
        try clear hfz73_0
        try clear hfz73_1
        try clear p2
        obtain ⟨kq, HA, HJ11, HO_212000, HO_212001, HO_213000, HO_213001, BK211, BK212, HB⟩ := hcut
        cases kq with
        | zero => exact absurd HA.out (by simp [porticolaw4_URLBack.j1])
        | succ kj11 =>
          have H := HA.out
          clear HA
          simp only [porticolaw4_URLBack.j1] at H
          replace H := Option.bind_eq_some_iff.mp H
          obtain ⟨⟨t239, t242, t245⟩, A760, H⟩ := H
          replace H : (if t245 = 0 then ((url_Print.f t239 t242).bind fun t249 => ((url_Parse.f kj11 t249).bind fun bt250 => ((url_Right.f kj11 t239 t242).bind fun t258 => (if t258 = true then (if bt250.2.2 = 0 then ((porticolaw4_equal.f kj11 bt250.1 bt250.2.1 t239 t242).bind fun t259 => (if t259 = true then ((url_Print.f bt250.1 bt250.2.1).bind fun t260 => (if t260.toList = t249.toList then (if (t249.size : Int) > 0 then ((porticolaw4_URLRuns.f kj11).bind fun t261 => (some t261)) else (none)) else (none))) else (none))) else (none)) else (none))))) else (if t245 = 1 then ((porticolaw4_equal.f kj11 t239 t242 ([] : List ByteArray) ([] : List (S32))).bind fun t247 => (if t247 = true then ((porticolaw4_URLRuns.f kj11).bind fun t248 => (some t248)) else (none))) else (none))) = some r := H
          have A76 := Aside0.mk A760
          clear A760
          by_cases c77 : t245 = 0
          · rw [if_pos c77] at H
            have c77b0 : (t245 == 0) = true := beq_iff_eq.mpr c77
            have c77b1 : (t245 != 0) = false := bne_eq_false_iff_eq.mpr c77
            clear c77
            replace H := Option.bind_eq_some_iff.mp H
            obtain ⟨t249, A780, H⟩ := H
            replace H : ((url_Parse.f kj11 t249).bind fun bt250 => ((url_Right.f kj11 t239 t242).bind fun t258 => (if t258 = true then (if bt250.2.2 = 0 then ((porticolaw4_equal.f kj11 bt250.1 bt250.2.1 t239 t242).bind fun t259 => (if t259 = true then ((url_Print.f bt250.1 bt250.2.1).bind fun t260 => (if t260.toList = t249.toList then (if (t249.size : Int) > 0 then ((porticolaw4_URLRuns.f kj11).bind fun t261 => (some t261)) else (none)) else (none))) else (none))) else (none)) else (none)))) = some r := H
            have A78 := Aside0.mk A780
            clear A780
            replace H := Option.bind_eq_some_iff.mp H
            obtain ⟨⟨t250, t253, t256⟩, A790, H⟩ := H
            replace H : ((url_Right.f kj11 t239 t242).bind fun t258 => (if t258 = true then (if t256 = 0 then ((porticolaw4_equal.f kj11 t250 t253 t239 t242).bind fun t259 => (if t259 = true then ((url_Print.f t250 t253).bind fun t260 => (if t260.toList = t249.toList then (if (t249.size : Int) > 0 then ((porticolaw4_URLRuns.f kj11).bind fun t261 => (some t261)) else (none)) else (none))) else (none))) else (none)) else (none))) = some r := H
            have A79 := Aside0.mk A790
            clear A790
            replace H := Option.bind_eq_some_iff.mp H
            obtain ⟨t258, A800, H⟩ := H
            replace H : (if t258 = true then (if t256 = 0 then ((porticolaw4_equal.f kj11 t250 t253 t239 t242).bind fun t259 => (if t259 = true then ((url_Print.f t250 t253).bind fun t260 => (if t260.toList = t249.toList then (if (t249.size : Int) > 0 then ((porticolaw4_URLRuns.f kj11).bind fun t261 => (some t261)) else (none)) else (none))) else (none))) else (none)) else (none)) = some r := H
            have A80 := Aside0.mk A800
            clear A800
            by_cases c81 : t258 = true
            · subst c81
              have H1 : (if t256 = 0 then ((porticolaw4_equal.f kj11 t250 t253 t239 t242).bind fun t259 => (if t259 = true then ((url_Print.f t250 t253).bind fun t260 => (if t260.toList = t249.toList then (if (t249.size : Int) > 0 then ((porticolaw4_URLRuns.f kj11).bind fun t261 => (some t261)) else (none)) else (none))) else (none))) else (none)) = some r := by rw [if_pos rfl] at H; exact H
              clear H
              have H := H1
              clear H1
              by_cases c82 : t256 = 0
              · rw [if_pos c82] at H
                have c82b0 : (t256 == 0) = true := beq_iff_eq.mpr c82
                have c82b1 : (t256 != 0) = false := bne_eq_false_iff_eq.mpr c82
                clear c82
                replace H := Option.bind_eq_some_iff.mp H
                obtain ⟨t259, A830, H⟩ := H
                replace H : (if t259 = true then ((url_Print.f t250 t253).bind fun t260 => (if t260.toList = t249.toList then (if (t249.size : Int) > 0 then ((porticolaw4_URLRuns.f kj11).bind fun t261 => (some t261)) else (none)) else (none))) else (none)) = some r := H
                have A83 := Aside0.mk A830
                clear A830
                by_cases c84 : t259 = true
                · subst c84
                  have H1 : ((url_Print.f t250 t253).bind fun t260 => (if t260.toList = t249.toList then (if (t249.size : Int) > 0 then ((porticolaw4_URLRuns.f kj11).bind fun t261 => (some t261)) else (none)) else (none))) = some r := by rw [if_pos rfl] at H; exact H
                  clear H
                  have H := H1
                  clear H1
                  replace H := Option.bind_eq_some_iff.mp H
                  obtain ⟨t260, A850, H⟩ := H
                  replace H : (if t260.toList = t249.toList then (if (t249.size : Int) > 0 then ((porticolaw4_URLRuns.f kj11).bind fun t261 => (some t261)) else (none)) else (none)) = some r := H
                  have A85 := Aside0.mk A850
                  clear A850
                  by_cases c86 : t260.toList = t249.toList
                  · rw [if_pos c86] at H
                    have c86b0 : (t260.toList == t249.toList) = true := beq_iff_eq.mpr c86
                    have c86b1 : (t260.toList != t249.toList) = false := bne_eq_false_iff_eq.mpr c86
                    clear c86
                    by_cases c87 : (t249.size : Int) > 0
                    · rw [if_pos c87] at H
                      have c87b0 : decide (0 < (t249.size : Int)) = true := decide_eq_true c87
                      have c87b1 : decide (0 < t249.size) = true := decide_eq_true (by omega)
                      clear c87
                      replace H := Option.bind_eq_some_iff.mp H
                      obtain ⟨t261, A880, H⟩ := H
                      replace H : (some t261) = some r := H
                      have A88 := Aside0.mk A880
                      clear A880
                      obtain rfl := Option.some.inj H
                      go_wp2_with (first | ((with_reducible refine gate_callee (f := 9) rfl ?_); refine goesL_ (some 63) rfl rfl Tryd.func9 (by kernel_rfl) rfl #[.string (a2.extract 0 ((ji6) : Int).toNat)] rfl (by (try simp only [List.map_toArray, List.map_cons, List.map_nil]); first | done | (simp only [hji6]; rfl) | rfl | (simp only [List.length_drop, List.length_take]; rfl)) ?_; (with_reducible refine (url_Parse.calls kj11 (a2.extract 0 ((ji6) : Int).toNat) t239 t242 t245 _ A76.out).mono ?_); rintro e w89 ⟨v240, v243, rfl, ho0, ho1, hb⟩; refine ⟨_, rfl, ?_⟩; have n0_ := Aside0.mk (Kd.R_elder' (by (with_reducible repeat (first | apply Kd.R_alloc | apply Kd.R_drewN | apply Kd.R_drew)); exact HO_212000.out) (Kd.R_base ho0) hb); have n1_ := Aside0.mk (Kd.R_elder' (by (with_reducible repeat (first | apply Kd.R_alloc | apply Kd.R_drewN | apply Kd.R_drew)); exact HO_212001.out) (Kd.R_base ho1) hb); have n2_ := Aside0.mk (Kd.R_elder' (by (with_reducible repeat (first | apply Kd.R_alloc | apply Kd.R_drewN | apply Kd.R_drew)); exact HO_213000.out) (Kd.R_base ho0) hb); have n3_ := Aside0.mk (Kd.R_elder' (by (with_reducible repeat (first | apply Kd.R_alloc | apply Kd.R_drewN | apply Kd.R_drew)); exact HO_213001.out) (Kd.R_base ho1) hb); have n4_ := Aside0.mk (Kd.R_lower (Kd.R_new' (Kd.R_new' ho0 (Kd.R_lt (by (with_reducible repeat (first | apply Kd.R_alloc | apply Kd.R_drewN | apply Kd.R_drew)); exact HO_212000.out))) (Kd.R_lt (by (with_reducible repeat (first | apply Kd.R_alloc | apply Kd.R_drewN | apply Kd.R_drew)); exact HO_213000.out))) (below_size (by repeat (first | (with_reducible first | exact HB.out | apply below_alloc | apply pw_below_drewN | apply below_drew1 | refine below_set ?_ GE211.out | refine below_set ?_ GE212.out) | exact HB.out)))); have n5_ := Aside0.mk (Kd.R_lower (Kd.R_new' (Kd.R_new' ho1 (Kd.R_lt (by (with_reducible repeat (first | apply Kd.R_alloc | apply Kd.R_drewN | apply Kd.R_drew)); exact HO_212001.out))) (Kd.R_lt (by (with_reducible repeat (first | apply Kd.R_alloc | apply Kd.R_drewN | apply Kd.R_drew)); exact HO_213001.out))) (below_size (by repeat (first | (with_reducible first | exact HB.out | apply below_alloc | apply pw_below_drewN | apply below_drew1 | refine below_set ?_ GE211.out | refine below_set ?_ GE212.out) | exact HB.out)))); have n6_ := Aside0.mk (blk_below (g := gb211) (o := .cells #[.slice Ao18 t213.length co18, .slice Ao20 t216.length co20] 25 (0, 0)) (by (with_reducible repeat (first | refine blk_drewN ?_ _ | refine blk_drew ?_ | refine blk_alloc ?_ _)); exact BK211.out) hb); have n7_ := Aside0.mk (blk_below (g := gb212) (o := .cells #[.slice Ao22 t219.length co22, .slice Ao24 t222.length co24] 25 (0, 0)) (by (with_reducible repeat (first | refine blk_drewN ?_ _ | refine blk_drew ?_ | refine blk_alloc ?_ _)); exact BK212.out) hb); have n8_ := Aside0.mk (below_step (by repeat (first | (with_reducible first | exact HB.out | apply below_alloc | apply pw_below_drewN | apply below_drew1 | refine below_set ?_ GE211.out | refine below_set ?_ GE212.out) | exact HB.out)) hb); clear HO_212000; clear HO_212001; clear HO_213000; clear HO_213001; clear BK211; clear BK212; clear HB; have HO_212000 := n0_; have HO_212001 := n1_; have HO_213000 := n2_; have HO_213001 := n3_; have HO241 := n4_; have HO244 := n5_; have BK211 := n6_; have BK212 := n7_; have HB := n8_; clear n0_ n1_ n2_ n3_ n4_ n5_ n6_ n7_ n8_; (try clear hb); (try clear hb2); (try clear hk); (try clear hi); (try clear ho0); (try clear ho1)) | ((with_reducible refine gate_dst (N := 11) rfl ?_); (try (refine gate_guard (by rfl) ?_; dsimp only)); refine box_event ?hg (N := 11) ?hd (cs := #[.slice none 0 0, .slice none 0 0]) (t := 25) ?hr ?_; (case hd => rfl); (case hg => rfl); (case hr => first | (go_simp; done) | (go_simp; rfl)); intro gb246 hg w90 hbox hb; have n0_ := Aside0.mk (Kd.R_below (by (with_reducible repeat (first | apply Kd.R_alloc | apply Kd.R_drewN | apply Kd.R_drew)); exact HO_212000.out) hb); have n1_ := Aside0.mk (Kd.R_below (by (with_reducible repeat (first | apply Kd.R_alloc | apply Kd.R_drewN | apply Kd.R_drew)); exact HO_212001.out) hb); have n2_ := Aside0.mk (Kd.R_below (by (with_reducible repeat (first | apply Kd.R_alloc | apply Kd.R_drewN | apply Kd.R_drew)); exact HO_213000.out) hb); have n3_ := Aside0.mk (Kd.R_below (by (with_reducible repeat (first | apply Kd.R_alloc | apply Kd.R_drewN | apply Kd.R_drew)); exact HO_213001.out) hb); have n4_ := Aside0.mk (Kd.R_below (by (with_reducible repeat (first | apply Kd.R_alloc | apply Kd.R_drewN | apply Kd.R_drew)); exact HO241.out) hb); have n5_ := Aside0.mk (Kd.R_below (by (with_reducible repeat (first | apply Kd.R_alloc | apply Kd.R_drewN | apply Kd.R_drew)); exact HO244.out) hb); have n6_ := Aside0.mk (blk_below (g := gb211) (o := .cells #[.slice Ao18 t213.length co18, .slice Ao20 t216.length co20] 25 (0, 0)) (by (with_reducible repeat (first | refine blk_drewN ?_ _ | refine blk_drew ?_ | refine blk_alloc ?_ _)); exact BK211.out) hb); have n7_ := Aside0.mk (blk_below (g := gb212) (o := .cells #[.slice Ao22 t219.length co22, .slice Ao24 t222.length co24] 25 (0, 0)) (by (with_reducible repeat (first | refine blk_drewN ?_ _ | refine blk_drew ?_ | refine blk_alloc ?_ _)); exact BK212.out) hb); have n8_ := Aside0.mk (below_step (by repeat (first | (with_reducible first | exact HB.out | apply below_alloc | apply pw_below_drewN | apply below_drew1 | refine below_set ?_ GE211.out | refine below_set ?_ GE212.out) | exact HB.out)) hb); have n9_ := Aside0.mk (hbox); have n10_ := Aside0.mk ((by rw [hg]; exact (below_size (by repeat (first | (with_reducible first | exact HB.out | apply below_alloc | apply pw_below_drewN | apply below_drew1 | refine below_set ?_ GE211.out | refine below_set ?_ GE212.out) | exact HB.out))) : w.heap.size ≤ gb246)); have n11_ := Aside0.mk ((by rw [hg]; exact (below_size (by repeat (first | (with_reducible first | exact HB.out | apply below_alloc | apply pw_below_drewN | apply below_drew1 | refine below_set ?_ GE211.out | refine below_set ?_ GE212.out) | exact HB.out))) : w.heap.size ≤ gb246)); have n12_ := Aside0.mk ((by rw [hg]; exact Nat.ne_of_lt (blk_lt (g := gb211) (o := .cells #[.slice Ao18 t213.length co18, .slice Ao20 t216.length co20] 25 (0, 0)) (by (with_reducible repeat (first | refine blk_drewN ?_ _ | refine blk_drew ?_ | refine blk_alloc ?_ _)); exact BK211.out)) : gb211 ≠ gb246)); have n13_ := Aside0.mk ((by rw [hg]; exact Nat.ne_of_gt (blk_lt (g := gb211) (o := .cells #[.slice Ao18 t213.length co18, .slice Ao20 t216.length co20] 25 (0, 0)) (by (with_reducible repeat (first | refine blk_drewN ?_ _ | refine blk_drew ?_ | refine blk_alloc ?_ _)); exact BK211.out)) : gb246 ≠ gb211)); have n14_ := Aside0.mk ((by rw [hg]; exact Nat.ne_of_lt (blk_lt (g := gb212) (o := .cells #[.slice Ao22 t219.length co22, .slice Ao24 t222.length co24] 25 (0, 0)) (by (with_reducible repeat (first | refine blk_drewN ?_ _ | refine blk_drew ?_ | refine blk_alloc ?_ _)); exact BK212.out)) : gb212 ≠ gb246)); have n15_ := Aside0.mk ((by rw [hg]; exact Nat.ne_of_gt (blk_lt (g := gb212) (o := .cells #[.slice Ao22 t219.length co22, .slice Ao24 t222.length co24] 25 (0, 0)) (by (with_reducible repeat (first | refine blk_drewN ?_ _ | refine blk_drew ?_ | refine blk_alloc ?_ _)); exact BK212.out)) : gb246 ≠ gb212)); clear HO_212000; clear HO_212001; clear HO_213000; clear HO_213001; clear HO241; clear HO244; clear BK211; clear BK212; clear HB; have HO_212000 := n0_; have HO_212001 := n1_; have HO_213000 := n2_; have HO_213001 := n3_; have HO241 := n4_; have HO244 := n5_; have BK211 := n6_; have BK212 := n7_; have HB := n8_; have BK246 := n9_; have GW246 := n10_; have GE246 := n11_; have NB211_246 := n12_; have NB246_211 := n13_; have NB212_246 := n14_; have NB246_212 := n15_; clear n0_ n1_ n2_ n3_ n4_ n5_ n6_ n7_ n8_ n9_ n10_ n11_ n12_ n13_ n14_ n15_; clear hb hbox hg; obtain ⟨Ao91, co91, eo91⟩ := Kd.R_slice HO241.out; subst eo91; have hnb92 := NB246_211.out; have hnc92 := NB211_246.out; have hnb93 := NB246_212.out; have hnc93 := NB212_246.out; have hcz94_0 : w90.cell? ⟨gb246, 0, none⟩ = some (.slice none 0 0) := (blk_cell BK246.out 0).trans rfl; have hcz94_1 : w90.cell? ⟨gb246, 1, none⟩ = some (.slice none 0 0) := (blk_cell BK246.out 1).trans rfl; have hfz94_0 := blk_frozen BK246.out 0; have hfz94_1 := blk_frozen BK246.out 1; obtain ⟨Ao95, co95, eo95⟩ := Kd.R_slice HO244.out; subst eo95) | ((with_reducible refine gate_callee (f := 12) rfl ?_); refine goesL_ (some 79) rfl rfl Tryd.func12 (by kernel_rfl) rfl #[.agg #[.slice Ao91 t239.length co91, .slice Ao95 t242.length co95]] rfl (by (try simp only [List.map_toArray, List.map_cons, List.map_nil]); first | done | rfl | (simp only [List.length_drop, List.length_take]; rfl)) ?_; (with_reducible refine (url_Print.calls _ _ t239 _ _ t242 t249 _ ?side1 ?side2 ?side3 ?side4 A78.out).mono ?_); (case side1 => refine (Kd.R_reads' (e := 9) (base := w.heap.size) (ok := fun k_ => ((True ∧ some k_ ≠ (.slice Ao18 t213.length co18 : Value).ownBlock) ∧ some k_ ≠ (.slice Ao22 t219.length co22 : Value).ownBlock)) (n := t239.length) (c := co91) ?_).2.2; exact (by (with_reducible repeat (first | apply Kd.R_alloc | apply Kd.R_drewN | apply Kd.R_drew)); exact (Kd.R_mono (Kd.R_far (p := ⟨gb246, 1, none⟩) (Kd.R_far (p := ⟨gb246, 0, none⟩) (Kd.R_types HO241.out BK246.out (by decide)) (fun _ hk => hk.2) (.slice Ao91 t239.length co91)) (fun _ hk => hk.2) (.slice Ao95 t242.length co95)) (fun _ h_ => h_.1)))); (case side2 => exact (Kd.R_reads' HO241.out).2.1); (case side3 => refine (Kd.R_reads' (e := 32) (base := w.heap.size) (ok := fun k_ => ((True ∧ some k_ ≠ (.slice Ao20 t216.length co20 : Value).ownBlock) ∧ some k_ ≠ (.slice Ao24 t222.length co24 : Value).ownBlock)) (n := t242.length) (c := co95) ?_).2.2; exact (by (with_reducible repeat (first | apply Kd.R_alloc | apply Kd.R_drewN | apply Kd.R_drew)); exact (Kd.R_mono (Kd.R_far (p := ⟨gb246, 1, none⟩) (Kd.R_far (p := ⟨gb246, 0, none⟩) (Kd.R_types HO244.out BK246.out (by decide)) (fun _ hk => hk.2) (.slice Ao91 t239.length co91)) (fun _ hk => hk.2) (.slice Ao95 t242.length co95)) (fun _ h_ => h_.1)))); (case side4 => exact (Kd.R_reads' HO244.out).2.1); rintro e w96 ⟨rfl, hb⟩; refine ⟨_, rfl, ?_⟩; have n0_ := Aside0.mk (Kd.R_below (by (with_reducible repeat (first | apply Kd.R_alloc | apply Kd.R_drewN | apply Kd.R_drew)); exact (Kd.R_mono (Kd.R_far (p := ⟨gb246, 1, none⟩) (Kd.R_far (p := ⟨gb246, 0, none⟩) (Kd.R_types HO_212000.out BK246.out (by decide)) (fun _ hk => hk.2) (.slice Ao91 t239.length co91)) (fun _ hk => hk.2) (.slice Ao95 t242.length co95)) (fun _ h_ => h_.1))) hb); have n1_ := Aside0.mk (Kd.R_below (by (with_reducible repeat (first | apply Kd.R_alloc | apply Kd.R_drewN | apply Kd.R_drew)); exact (Kd.R_mono (Kd.R_far (p := ⟨gb246, 1, none⟩) (Kd.R_far (p := ⟨gb246, 0, none⟩) (Kd.R_types HO_212001.out BK246.out (by decide)) (fun _ hk => hk.2) (.slice Ao91 t239.length co91)) (fun _ hk => hk.2) (.slice Ao95 t242.length co95)) (fun _ h_ => h_.1))) hb); have n2_ := Aside0.mk (Kd.R_below (by (with_reducible repeat (first | apply Kd.R_alloc | apply Kd.R_drewN | apply Kd.R_drew)); exact (Kd.R_mono (Kd.R_far (p := ⟨gb246, 1, none⟩) (Kd.R_far (p := ⟨gb246, 0, none⟩) (Kd.R_types HO_213000.out BK246.out (by decide)) (fun _ hk => hk.2) (.slice Ao91 t239.length co91)) (fun _ hk => hk.2) (.slice Ao95 t242.length co95)) (fun _ h_ => h_.1))) hb); have n3_ := Aside0.mk (Kd.R_below (by (with_reducible repeat (first | apply Kd.R_alloc | apply Kd.R_drewN | apply Kd.R_drew)); exact (Kd.R_mono (Kd.R_far (p := ⟨gb246, 1, none⟩) (Kd.R_far (p := ⟨gb246, 0, none⟩) (Kd.R_types HO_213001.out BK246.out (by decide)) (fun _ hk => hk.2) (.slice Ao91 t239.length co91)) (fun _ hk => hk.2) (.slice Ao95 t242.length co95)) (fun _ h_ => h_.1))) hb); have n4_ := Aside0.mk (Kd.R_below (by (with_reducible repeat (first | apply Kd.R_alloc | apply Kd.R_drewN | apply Kd.R_drew)); exact (Kd.R_mono (Kd.R_far (p := ⟨gb246, 1, none⟩) (Kd.R_far (p := ⟨gb246, 0, none⟩) (Kd.R_types HO241.out BK246.out (by decide)) (fun _ hk => hk.2) (.slice Ao91 t239.length co91)) (fun _ hk => hk.2) (.slice Ao95 t242.length co95)) (fun _ h_ => h_.1))) hb); have n5_ := Aside0.mk (Kd.R_below (by (with_reducible repeat (first | apply Kd.R_alloc | apply Kd.R_drewN | apply Kd.R_drew)); exact (Kd.R_mono (Kd.R_far (p := ⟨gb246, 1, none⟩) (Kd.R_far (p := ⟨gb246, 0, none⟩) (Kd.R_types HO244.out BK246.out (by decide)) (fun _ hk => hk.2) (.slice Ao91 t239.length co91)) (fun _ hk => hk.2) (.slice Ao95 t242.length co95)) (fun _ h_ => h_.1))) hb); have n6_ := Aside0.mk (blk_below (g := gb211) (o := .cells #[.slice Ao18 t213.length co18, .slice Ao20 t216.length co20] 25 (0, 0)) (by (with_reducible repeat (first | refine blk_drewN ?_ _ | refine blk_drew ?_ | refine blk_alloc ?_ _)); refine blk_far ?_ NB211_246.out _; (with_reducible repeat (first | refine blk_drewN ?_ _ | refine blk_drew ?_ | refine blk_alloc ?_ _)); refine blk_far ?_ NB211_246.out _; (with_reducible repeat (first | refine blk_drewN ?_ _ | refine blk_drew ?_ | refine blk_alloc ?_ _)); exact BK211.out) hb); have n7_ := Aside0.mk (blk_below (g := gb212) (o := .cells #[.slice Ao22 t219.length co22, .slice Ao24 t222.length co24] 25 (0, 0)) (by (with_reducible repeat (first | refine blk_drewN ?_ _ | refine blk_drew ?_ | refine blk_alloc ?_ _)); refine blk_far ?_ NB212_246.out _; (with_reducible repeat (first | refine blk_drewN ?_ _ | refine blk_drew ?_ | refine blk_alloc ?_ _)); refine blk_far ?_ NB212_246.out _; (with_reducible repeat (first | refine blk_drewN ?_ _ | refine blk_drew ?_ | refine blk_alloc ?_ _)); exact BK212.out) hb); have n8_ := Aside0.mk (blk_below (g := gb246) (o := .cells #[.slice Ao91 t239.length co91, .slice Ao95 t242.length co95] 25 (0, 0)) (by (with_reducible repeat (first | refine blk_drewN ?_ _ | refine blk_drew ?_ | refine blk_alloc ?_ _)); refine blk_put (cs := #[.slice Ao91 t239.length co91, .slice none 0 0]) ?_ 1 _ rfl; (with_reducible repeat (first | refine blk_drewN ?_ _ | refine blk_drew ?_ | refine blk_alloc ?_ _)); refine blk_put (cs := #[.slice none 0 0, .slice none 0 0]) ?_ 0 _ rfl; (with_reducible repeat (first | refine blk_drewN ?_ _ | refine blk_drew ?_ | refine blk_alloc ?_ _)); exact BK246.out) hb); have n9_ := Aside0.mk (below_step (by repeat (first | (with_reducible first | exact HB.out | apply below_alloc | apply pw_below_drewN | apply below_drew1 | refine below_set ?_ GE211.out | refine below_set ?_ GE212.out | refine below_set ?_ GE246.out) | exact HB.out)) hb); clear HO_212000; clear HO_212001; clear HO_213000; clear HO_213001; clear HO241; clear HO244; clear BK211; clear BK212; clear BK246; clear HB; have HO_212000 := n0_; have HO_212001 := n1_; have HO_213000 := n2_; have HO_213001 := n3_; have HO241 := n4_; have HO244 := n5_; have BK211 := n6_; have BK212 := n7_; have BK246 := n8_; have HB := n9_; clear n0_ n1_ n2_ n3_ n4_ n5_ n6_ n7_ n8_ n9_; (try clear hb); (try clear hb2); (try clear hk); (try clear hi)) | ((with_reducible refine gate_callee (f := 9) rfl ?_); refine goesL_ (some 82) rfl rfl Tryd.func9 (by kernel_rfl) rfl #[.string t249] rfl (by (try simp only [List.map_toArray, List.map_cons, List.map_nil]); first | done | rfl | (simp only [List.length_drop, List.length_take]; rfl)) ?_; (with_reducible refine (url_Parse.calls kj11 t249 t250 t253 t256 _ A79.out).mono ?_); rintro e w97 ⟨v251, v254, rfl, ho0, ho1, hb⟩; refine ⟨_, rfl, ?_⟩; have n0_ := Aside0.mk (Kd.R_elder' (by (with_reducible repeat (first | apply Kd.R_alloc | apply Kd.R_drewN | apply Kd.R_drew)); exact HO_212000.out) (Kd.R_base ho0) hb); have n1_ := Aside0.mk (Kd.R_elder' (by (with_reducible repeat (first | apply Kd.R_alloc | apply Kd.R_drewN | apply Kd.R_drew)); exact HO_212001.out) (Kd.R_base ho1) hb); have n2_ := Aside0.mk (Kd.R_elder' (by (with_reducible repeat (first | apply Kd.R_alloc | apply Kd.R_drewN | apply Kd.R_drew)); exact HO_213000.out) (Kd.R_base ho0) hb); have n3_ := Aside0.mk (Kd.R_elder' (by (with_reducible repeat (first | apply Kd.R_alloc | apply Kd.R_drewN | apply Kd.R_drew)); exact HO_213001.out) (Kd.R_base ho1) hb); have n4_ := Aside0.mk (Kd.R_elder' (by (with_reducible repeat (first | apply Kd.R_alloc | apply Kd.R_drewN | apply Kd.R_drew)); exact HO241.out) (Kd.R_base ho0) hb); have n5_ := Aside0.mk (Kd.R_elder' (by (with_reducible repeat (first | apply Kd.R_alloc | apply Kd.R_drewN | apply Kd.R_drew)); exact HO244.out) (Kd.R_base ho1) hb); have n6_ := Aside0.mk (Kd.R_lower (Kd.R_new' (Kd.R_new' (Kd.R_new' ho0 (Kd.R_lt (by (with_reducible repeat (first | apply Kd.R_alloc | apply Kd.R_drewN | apply Kd.R_drew)); exact HO_212000.out))) (Kd.R_lt (by (with_reducible repeat (first | apply Kd.R_alloc | apply Kd.R_drewN | apply Kd.R_drew)); exact HO_213000.out))) (Kd.R_lt (by (with_reducible repeat (first | apply Kd.R_alloc | apply Kd.R_drewN | apply Kd.R_drew)); exact HO241.out))) (below_size (by repeat (first | (with_reducible first | exact HB.out | apply below_alloc | apply pw_below_drewN | apply below_drew1 | refine below_set ?_ GE211.out | refine below_set ?_ GE212.out | refine below_set ?_ GE246.out) | exact HB.out)))); have n7_ := Aside0.mk (Kd.R_lower (Kd.R_new' (Kd.R_new' (Kd.R_new' ho1 (Kd.R_lt (by (with_reducible repeat (first | apply Kd.R_alloc | apply Kd.R_drewN | apply Kd.R_drew)); exact HO_212001.out))) (Kd.R_lt (by (with_reducible repeat (first | apply Kd.R_alloc | apply Kd.R_drewN | apply Kd.R_drew)); exact HO_213001.out))) (Kd.R_lt (by (with_reducible repeat (first | apply Kd.R_alloc | apply Kd.R_drewN | apply Kd.R_drew)); exact HO244.out))) (below_size (by repeat (first | (with_reducible first | exact HB.out | apply below_alloc | apply pw_below_drewN | apply below_drew1 | refine below_set ?_ GE211.out | refine below_set ?_ GE212.out | refine below_set ?_ GE246.out) | exact HB.out)))); have n8_ := Aside0.mk (blk_below (g := gb211) (o := .cells #[.slice Ao18 t213.length co18, .slice Ao20 t216.length co20] 25 (0, 0)) (by (with_reducible repeat (first | refine blk_drewN ?_ _ | refine blk_drew ?_ | refine blk_alloc ?_ _)); exact BK211.out) hb); have n9_ := Aside0.mk (blk_below (g := gb212) (o := .cells #[.slice Ao22 t219.length co22, .slice Ao24 t222.length co24] 25 (0, 0)) (by (with_reducible repeat (first | refine blk_drewN ?_ _ | refine blk_drew ?_ | refine blk_alloc ?_ _)); exact BK212.out) hb); have n10_ := Aside0.mk (blk_below (g := gb246) (o := .cells #[.slice Ao91 t239.length co91, .slice Ao95 t242.length co95] 25 (0, 0)) (by (with_reducible repeat (first | refine blk_drewN ?_ _ | refine blk_drew ?_ | refine blk_alloc ?_ _)); exact BK246.out) hb); have n11_ := Aside0.mk (below_step (by repeat (first | (with_reducible first | exact HB.out | apply below_alloc | apply pw_below_drewN | apply below_drew1 | refine below_set ?_ GE211.out | refine below_set ?_ GE212.out | refine below_set ?_ GE246.out) | exact HB.out)) hb); clear HO_212000; clear HO_212001; clear HO_213000; clear HO_213001; clear HO241; clear HO244; clear BK211; clear BK212; clear BK246; clear HB; have HO_212000 := n0_; have HO_212001 := n1_; have HO_213000 := n2_; have HO_213001 := n3_; have HO241 := n4_; have HO244 := n5_; have HO252 := n6_; have HO255 := n7_; have BK211 := n8_; have BK212 := n9_; have BK246 := n10_; have HB := n11_; clear n0_ n1_ n2_ n3_ n4_ n5_ n6_ n7_ n8_ n9_ n10_ n11_; (try clear hb); (try clear hb2); (try clear hk); (try clear hi); (try clear ho0); (try clear ho1)) | ((with_reducible refine gate_dst (N := 14) rfl ?_); (try (refine gate_guard (by rfl) ?_; dsimp only)); refine box_event ?hg (N := 14) ?hd (cs := #[.slice none 0 0, .slice none 0 0]) (t := 25) ?hr ?_; (case hd => rfl); (case hg => rfl); (case hr => first | (go_simp; done) | (go_simp; rfl)); intro gb257 hg w98 hbox hb; have n0_ := Aside0.mk (Kd.R_below (by (with_reducible repeat (first | apply Kd.R_alloc | apply Kd.R_drewN | apply Kd.R_drew)); exact HO_212000.out) hb); have n1_ := Aside0.mk (Kd.R_below (by (with_reducible repeat (first | apply Kd.R_alloc | apply Kd.R_drewN | apply Kd.R_drew)); exact HO_212001.out) hb); have n2_ := Aside0.mk (Kd.R_below (by (with_reducible repeat (first | apply Kd.R_alloc | apply Kd.R_drewN | apply Kd.R_drew)); exact HO_213000.out) hb); have n3_ := Aside0.mk (Kd.R_below (by (with_reducible repeat (first | apply Kd.R_alloc | apply Kd.R_drewN | apply Kd.R_drew)); exact HO_213001.out) hb); have n4_ := Aside0.mk (Kd.R_below (by (with_reducible repeat (first | apply Kd.R_alloc | apply Kd.R_drewN | apply Kd.R_drew)); exact HO241.out) hb); have n5_ := Aside0.mk (Kd.R_below (by (with_reducible repeat (first | apply Kd.R_alloc | apply Kd.R_drewN | apply Kd.R_drew)); exact HO244.out) hb); have n6_ := Aside0.mk (Kd.R_below (by (with_reducible repeat (first | apply Kd.R_alloc | apply Kd.R_drewN | apply Kd.R_drew)); exact HO252.out) hb); have n7_ := Aside0.mk (Kd.R_below (by (with_reducible repeat (first | apply Kd.R_alloc | apply Kd.R_drewN | apply Kd.R_drew)); exact HO255.out) hb); have n8_ := Aside0.mk (blk_below (g := gb211) (o := .cells #[.slice Ao18 t213.length co18, .slice Ao20 t216.length co20] 25 (0, 0)) (by (with_reducible repeat (first | refine blk_drewN ?_ _ | refine blk_drew ?_ | refine blk_alloc ?_ _)); exact BK211.out) hb); have n9_ := Aside0.mk (blk_below (g := gb212) (o := .cells #[.slice Ao22 t219.length co22, .slice Ao24 t222.length co24] 25 (0, 0)) (by (with_reducible repeat (first | refine blk_drewN ?_ _ | refine blk_drew ?_ | refine blk_alloc ?_ _)); exact BK212.out) hb); have n10_ := Aside0.mk (blk_below (g := gb246) (o := .cells #[.slice Ao91 t239.length co91, .slice Ao95 t242.length co95] 25 (0, 0)) (by (with_reducible repeat (first | refine blk_drewN ?_ _ | refine blk_drew ?_ | refine blk_alloc ?_ _)); exact BK246.out) hb); have n11_ := Aside0.mk (below_step (by repeat (first | (with_reducible first | exact HB.out | apply below_alloc | apply pw_below_drewN | apply below_drew1 | refine below_set ?_ GE211.out | refine below_set ?_ GE212.out | refine below_set ?_ GE246.out) | exact HB.out)) hb); have n12_ := Aside0.mk (hbox); have n13_ := Aside0.mk ((by rw [hg]; exact (below_size (by repeat (first | (with_reducible first | exact HB.out | apply below_alloc | apply pw_below_drewN | apply below_drew1 | refine below_set ?_ GE211.out | refine below_set ?_ GE212.out | refine below_set ?_ GE246.out) | exact HB.out))) : w.heap.size ≤ gb257)); have n14_ := Aside0.mk ((by rw [hg]; exact (below_size (by repeat (first | (with_reducible first | exact HB.out | apply below_alloc | apply pw_below_drewN | apply below_drew1 | refine below_set ?_ GE211.out | refine below_set ?_ GE212.out | refine below_set ?_ GE246.out) | exact HB.out))) : w.heap.size ≤ gb257)); have n15_ := Aside0.mk ((by rw [hg]; exact Nat.ne_of_lt (blk_lt (g := gb211) (o := .cells #[.slice Ao18 t213.length co18, .slice Ao20 t216.length co20] 25 (0, 0)) (by (with_reducible repeat (first | refine blk_drewN ?_ _ | refine blk_drew ?_ | refine blk_alloc ?_ _)); exact BK211.out)) : gb211 ≠ gb257)); have n16_ := Aside0.mk ((by rw [hg]; exact Nat.ne_of_gt (blk_lt (g := gb211) (o := .cells #[.slice Ao18 t213.length co18, .slice Ao20 t216.length co20] 25 (0, 0)) (by (with_reducible repeat (first | refine blk_drewN ?_ _ | refine blk_drew ?_ | refine blk_alloc ?_ _)); exact BK211.out)) : gb257 ≠ gb211)); have n17_ := Aside0.mk ((by rw [hg]; exact Nat.ne_of_lt (blk_lt (g := gb212) (o := .cells #[.slice Ao22 t219.length co22, .slice Ao24 t222.length co24] 25 (0, 0)) (by (with_reducible repeat (first | refine blk_drewN ?_ _ | refine blk_drew ?_ | refine blk_alloc ?_ _)); exact BK212.out)) : gb212 ≠ gb257)); have n18_ := Aside0.mk ((by rw [hg]; exact Nat.ne_of_gt (blk_lt (g := gb212) (o := .cells #[.slice Ao22 t219.length co22, .slice Ao24 t222.length co24] 25 (0, 0)) (by (with_reducible repeat (first | refine blk_drewN ?_ _ | refine blk_drew ?_ | refine blk_alloc ?_ _)); exact BK212.out)) : gb257 ≠ gb212)); have n19_ := Aside0.mk ((by rw [hg]; exact Nat.ne_of_lt (blk_lt (g := gb246) (o := .cells #[.slice Ao91 t239.length co91, .slice Ao95 t242.length co95] 25 (0, 0)) (by (with_reducible repeat (first | refine blk_drewN ?_ _ | refine blk_drew ?_ | refine blk_alloc ?_ _)); exact BK246.out)) : gb246 ≠ gb257)); have n20_ := Aside0.mk ((by rw [hg]; exact Nat.ne_of_gt (blk_lt (g := gb246) (o := .cells #[.slice Ao91 t239.length co91, .slice Ao95 t242.length co95] 25 (0, 0)) (by (with_reducible repeat (first | refine blk_drewN ?_ _ | refine blk_drew ?_ | refine blk_alloc ?_ _)); exact BK246.out)) : gb257 ≠ gb246)); clear HO_212000; clear HO_212001; clear HO_213000; clear HO_213001; clear HO241; clear HO244; clear HO252; clear HO255; clear BK211; clear BK212; clear BK246; clear HB; have HO_212000 := n0_; have HO_212001 := n1_; have HO_213000 := n2_; have HO_213001 := n3_; have HO241 := n4_; have HO244 := n5_; have HO252 := n6_; have HO255 := n7_; have BK211 := n8_; have BK212 := n9_; have BK246 := n10_; have HB := n11_; have BK257 := n12_; have GW257 := n13_; have GE257 := n14_; have NB211_257 := n15_; have NB257_211 := n16_; have NB212_257 := n17_; have NB257_212 := n18_; have NB246_257 := n19_; have NB257_246 := n20_; clear n0_ n1_ n2_ n3_ n4_ n5_ n6_ n7_ n8_ n9_ n10_ n11_ n12_ n13_ n14_ n15_ n16_ n17_ n18_ n19_ n20_; clear hb hbox hg; obtain ⟨Ao99, co99, eo99⟩ := Kd.R_slice HO252.out; subst eo99; have hnb100 := NB257_211.out; have hnc100 := NB211_257.out; have hnb101 := NB257_212.out; have hnc101 := NB212_257.out; have hnb102 := NB257_246.out; have hnc102 := NB246_257.out; have hcz103_0 : w98.cell? ⟨gb257, 0, none⟩ = some (.slice none 0 0) := (blk_cell BK257.out 0).trans rfl; have hcz103_1 : w98.cell? ⟨gb257, 1, none⟩ = some (.slice none 0 0) := (blk_cell BK257.out 1).trans rfl; have hfz103_0 := blk_frozen BK257.out 0; have hfz103_1 := blk_frozen BK257.out 1; obtain ⟨Ao104, co104, eo104⟩ := Kd.R_slice HO255.out; subst eo104; have hcz105_0 : w98.cell? ⟨gb246, 0, none⟩ = some (.slice Ao91 t239.length co91) := (blk_cell BK246.out 0).trans rfl; have hcz105_1 : w98.cell? ⟨gb246, 1, none⟩ = some (.slice Ao95 t242.length co95) := (blk_cell BK246.out 1).trans rfl; have hfz105_0 := blk_frozen BK246.out 0; have hfz105_1 := blk_frozen BK246.out 1) | ((with_reducible refine gate_callee (f := 14) rfl ?_); refine goesL_ (some 86) rfl rfl Tryd.func14 (by kernel_rfl) rfl #[.agg #[.slice Ao91 t239.length co91, .slice Ao95 t242.length co95]] rfl (by (try simp only [List.map_toArray, List.map_cons, List.map_nil]); first | done | rfl | (simp only [List.length_drop, List.length_take]; rfl)) ?_; (with_reducible refine (url_Right.calls kj11 _ _ t239 _ _ t242 true _ ?side1 ?side2 ?side3 ?side4 A80.out).mono ?_); (case side1 => refine (Kd.R_reads' (e := 9) (base := w.heap.size) (ok := fun k_ => (((True ∧ some k_ ≠ (.slice Ao18 t213.length co18 : Value).ownBlock) ∧ some k_ ≠ (.slice Ao22 t219.length co22 : Value).ownBlock) ∧ some k_ ≠ (.slice Ao99 t250.length co99 : Value).ownBlock)) (n := t239.length) (c := co91) ?_).2.2; exact (by (with_reducible repeat (first | apply Kd.R_alloc | apply Kd.R_drewN | apply Kd.R_drew)); exact (Kd.R_mono (Kd.R_far (p := ⟨gb257, 1, none⟩) (Kd.R_far (p := ⟨gb257, 0, none⟩) (Kd.R_types HO241.out BK257.out (by decide)) (fun _ hk => hk.2) (.slice Ao99 t250.length co99)) (fun _ hk => hk.2) (.slice Ao104 t253.length co104)) (fun _ h_ => h_.1)))); (case side2 => exact (Kd.R_reads' HO241.out).2.1); (case side3 => refine (Kd.R_reads' (e := 32) (base := w.heap.size) (ok := fun k_ => (((True ∧ some k_ ≠ (.slice Ao20 t216.length co20 : Value).ownBlock) ∧ some k_ ≠ (.slice Ao24 t222.length co24 : Value).ownBlock) ∧ some k_ ≠ (.slice Ao104 t253.length co104 : Value).ownBlock)) (n := t242.length) (c := co95) ?_).2.2; exact (by (with_reducible repeat (first | apply Kd.R_alloc | apply Kd.R_drewN | apply Kd.R_drew)); exact (Kd.R_mono (Kd.R_far (p := ⟨gb257, 1, none⟩) (Kd.R_far (p := ⟨gb257, 0, none⟩) (Kd.R_types HO244.out BK257.out (by decide)) (fun _ hk => hk.2) (.slice Ao99 t250.length co99)) (fun _ hk => hk.2) (.slice Ao104 t253.length co104)) (fun _ h_ => h_.1)))); (case side4 => exact (Kd.R_reads' HO244.out).2.1); rintro e w106 ⟨rfl, hb⟩; refine ⟨_, rfl, ?_⟩; have n0_ := Aside0.mk (Kd.R_below (by (with_reducible repeat (first | apply Kd.R_alloc | apply Kd.R_drewN | apply Kd.R_drew)); exact (Kd.R_mono (Kd.R_far (p := ⟨gb257, 1, none⟩) (Kd.R_far (p := ⟨gb257, 0, none⟩) (Kd.R_types HO_212000.out BK257.out (by decide)) (fun _ hk => hk.2) (.slice Ao99 t250.length co99)) (fun _ hk => hk.2) (.slice Ao104 t253.length co104)) (fun _ h_ => h_.1))) hb); have n1_ := Aside0.mk (Kd.R_below (by (with_reducible repeat (first | apply Kd.R_alloc | apply Kd.R_drewN | apply Kd.R_drew)); exact (Kd.R_mono (Kd.R_far (p := ⟨gb257, 1, none⟩) (Kd.R_far (p := ⟨gb257, 0, none⟩) (Kd.R_types HO_212001.out BK257.out (by decide)) (fun _ hk => hk.2) (.slice Ao99 t250.length co99)) (fun _ hk => hk.2) (.slice Ao104 t253.length co104)) (fun _ h_ => h_.1))) hb); have n2_ := Aside0.mk (Kd.R_below (by (with_reducible repeat (first | apply Kd.R_alloc | apply Kd.R_drewN | apply Kd.R_drew)); exact (Kd.R_mono (Kd.R_far (p := ⟨gb257, 1, none⟩) (Kd.R_far (p := ⟨gb257, 0, none⟩) (Kd.R_types HO_213000.out BK257.out (by decide)) (fun _ hk => hk.2) (.slice Ao99 t250.length co99)) (fun _ hk => hk.2) (.slice Ao104 t253.length co104)) (fun _ h_ => h_.1))) hb); have n3_ := Aside0.mk (Kd.R_below (by (with_reducible repeat (first | apply Kd.R_alloc | apply Kd.R_drewN | apply Kd.R_drew)); exact (Kd.R_mono (Kd.R_far (p := ⟨gb257, 1, none⟩) (Kd.R_far (p := ⟨gb257, 0, none⟩) (Kd.R_types HO_213001.out BK257.out (by decide)) (fun _ hk => hk.2) (.slice Ao99 t250.length co99)) (fun _ hk => hk.2) (.slice Ao104 t253.length co104)) (fun _ h_ => h_.1))) hb); have n4_ := Aside0.mk (Kd.R_below (by (with_reducible repeat (first | apply Kd.R_alloc | apply Kd.R_drewN | apply Kd.R_drew)); exact (Kd.R_mono (Kd.R_far (p := ⟨gb257, 1, none⟩) (Kd.R_far (p := ⟨gb257, 0, none⟩) (Kd.R_types HO241.out BK257.out (by decide)) (fun _ hk => hk.2) (.slice Ao99 t250.length co99)) (fun _ hk => hk.2) (.slice Ao104 t253.length co104)) (fun _ h_ => h_.1))) hb); have n5_ := Aside0.mk (Kd.R_below (by (with_reducible repeat (first | apply Kd.R_alloc | apply Kd.R_drewN | apply Kd.R_drew)); exact (Kd.R_mono (Kd.R_far (p := ⟨gb257, 1, none⟩) (Kd.R_far (p := ⟨gb257, 0, none⟩) (Kd.R_types HO244.out BK257.out (by decide)) (fun _ hk => hk.2) (.slice Ao99 t250.length co99)) (fun _ hk => hk.2) (.slice Ao104 t253.length co104)) (fun _ h_ => h_.1))) hb); have n6_ := Aside0.mk (Kd.R_below (by (with_reducible repeat (first | apply Kd.R_alloc | apply Kd.R_drewN | apply Kd.R_drew)); exact (Kd.R_mono (Kd.R_far (p := ⟨gb257, 1, none⟩) (Kd.R_far (p := ⟨gb257, 0, none⟩) (Kd.R_types HO252.out BK257.out (by decide)) (fun _ hk => hk.2) (.slice Ao99 t250.length co99)) (fun _ hk => hk.2) (.slice Ao104 t253.length co104)) (fun _ h_ => h_.1))) hb); have n7_ := Aside0.mk (Kd.R_below (by (with_reducible repeat (first | apply Kd.R_alloc | apply Kd.R_drewN | apply Kd.R_drew)); exact (Kd.R_mono (Kd.R_far (p := ⟨gb257, 1, none⟩) (Kd.R_far (p := ⟨gb257, 0, none⟩) (Kd.R_types HO255.out BK257.out (by decide)) (fun _ hk => hk.2) (.slice Ao99 t250.length co99)) (fun _ hk => hk.2) (.slice Ao104 t253.length co104)) (fun _ h_ => h_.1))) hb); have n8_ := Aside0.mk (blk_below (g := gb211) (o := .cells #[.slice Ao18 t213.length co18, .slice Ao20 t216.length co20] 25 (0, 0)) (by (with_reducible repeat (first | refine blk_drewN ?_ _ | refine blk_drew ?_ | refine blk_alloc ?_ _)); refine blk_far ?_ NB211_257.out _; (with_reducible repeat (first | refine blk_drewN ?_ _ | refine blk_drew ?_ | refine blk_alloc ?_ _)); refine blk_far ?_ NB211_257.out _; (with_reducible repeat (first | refine blk_drewN ?_ _ | refine blk_drew ?_ | refine blk_alloc ?_ _)); exact BK211.out) hb); have n9_ := Aside0.mk (blk_below (g := gb212) (o := .cells #[.slice Ao22 t219.length co22, .slice Ao24 t222.length co24] 25 (0, 0)) (by (with_reducible repeat (first | refine blk_drewN ?_ _ | refine blk_drew ?_ | refine blk_alloc ?_ _)); refine blk_far ?_ NB212_257.out _; (with_reducible repeat (first | refine blk_drewN ?_ _ | refine blk_drew ?_ | refine blk_alloc ?_ _)); refine blk_far ?_ NB212_257.out _; (with_reducible repeat (first | refine blk_drewN ?_ _ | refine blk_drew ?_ | refine blk_alloc ?_ _)); exact BK212.out) hb); have n10_ := Aside0.mk (blk_below (g := gb246) (o := .cells #[.slice Ao91 t239.length co91, .slice Ao95 t242.length co95] 25 (0, 0)) (by (with_reducible repeat (first | refine blk_drewN ?_ _ | refine blk_drew ?_ | refine blk_alloc ?_ _)); refine blk_far ?_ NB246_257.out _; (with_reducible repeat (first | refine blk_drewN ?_ _ | refine blk_drew ?_ | refine blk_alloc ?_ _)); refine blk_far ?_ NB246_257.out _; (with_reducible repeat (first | refine blk_drewN ?_ _ | refine blk_drew ?_ | refine blk_alloc ?_ _)); exact BK246.out) hb); have n11_ := Aside0.mk (blk_below (g := gb257) (o := .cells #[.slice Ao99 t250.length co99, .slice Ao104 t253.length co104] 25 (0, 0)) (by (with_reducible repeat (first | refine blk_drewN ?_ _ | refine blk_drew ?_ | refine blk_alloc ?_ _)); refine blk_put (cs := #[.slice Ao99 t250.length co99, .slice none 0 0]) ?_ 1 _ rfl; (with_reducible repeat (first | refine blk_drewN ?_ _ | refine blk_drew ?_ | refine blk_alloc ?_ _)); refine blk_put (cs := #[.slice none 0 0, .slice none 0 0]) ?_ 0 _ rfl; (with_reducible repeat (first | refine blk_drewN ?_ _ | refine blk_drew ?_ | refine blk_alloc ?_ _)); exact BK257.out) hb); have n12_ := Aside0.mk (below_step (by repeat (first | (with_reducible first | exact HB.out | apply below_alloc | apply pw_below_drewN | apply below_drew1 | refine below_set ?_ GE211.out | refine below_set ?_ GE212.out | refine below_set ?_ GE246.out | refine below_set ?_ GE257.out) | exact HB.out)) hb); clear HO_212000; clear HO_212001; clear HO_213000; clear HO_213001; clear HO241; clear HO244; clear HO252; clear HO255; clear BK211; clear BK212; clear BK246; clear BK257; clear HB; have HO_212000 := n0_; have HO_212001 := n1_; have HO_213000 := n2_; have HO_213001 := n3_; have HO241 := n4_; have HO244 := n5_; have HO252 := n6_; have HO255 := n7_; have BK211 := n8_; have BK212 := n9_; have BK246 := n10_; have BK257 := n11_; have HB := n12_; clear n0_ n1_ n2_ n3_ n4_ n5_ n6_ n7_ n8_ n9_ n10_ n11_ n12_; (try clear hb); (try clear hb2); (try clear hk); (try clear hi); have hcz107_0 : w106.cell? ⟨gb257, 0, none⟩ = some (.slice Ao99 t250.length co99) := (blk_cell BK257.out 0).trans rfl; have hcz107_1 : w106.cell? ⟨gb257, 1, none⟩ = some (.slice Ao104 t253.length co104) := (blk_cell BK257.out 1).trans rfl; have hfz107_0 := blk_frozen BK257.out 0; have hfz107_1 := blk_frozen BK257.out 1; have hcz108_0 : w106.cell? ⟨gb246, 0, none⟩ = some (.slice Ao91 t239.length co91) := (blk_cell BK246.out 0).trans rfl; have hcz108_1 : w106.cell? ⟨gb246, 1, none⟩ = some (.slice Ao95 t242.length co95) := (blk_cell BK246.out 1).trans rfl; have hfz108_0 := blk_frozen BK246.out 0; have hfz108_1 := blk_frozen BK246.out 1) | (go_at_call 15; (with_reducible refine (porticolaw4_equal.calls kj11 _ _ t250 _ _ t253 _ _ t239 _ _ t242 true _ ?side1 ?side2 ?side3 ?side4 ?side5 ?side6 ?side7 ?side8 A83.out).mono ?_); (case side1 => repeat (first | exact (Kd.R_reads' HO252.out).2.2 | (with_reducible refine Kd.C_alloc ?_ _) | (with_reducible refine Kd.C_drewN ?_ _) | (with_reducible refine Kd.C_drew ?_))); (case side2 => exact (Kd.R_reads' HO252.out).2.1); (case side3 => repeat (first | exact (Kd.R_reads' HO255.out).2.2 | (with_reducible refine Kd.C_alloc ?_ _) | (with_reducible refine Kd.C_drewN ?_ _) | (with_reducible refine Kd.C_drew ?_))); (case side4 => exact (Kd.R_reads' HO255.out).2.1); (case side5 => repeat (first | exact (Kd.R_reads' HO241.out).2.2 | (with_reducible refine Kd.C_alloc ?_ _) | (with_reducible refine Kd.C_drewN ?_ _) | (with_reducible refine Kd.C_drew ?_))); (case side6 => exact (Kd.R_reads' HO241.out).2.1); (case side7 => repeat (first | exact (Kd.R_reads' HO244.out).2.2 | (with_reducible refine Kd.C_alloc ?_ _) | (with_reducible refine Kd.C_drewN ?_ _) | (with_reducible refine Kd.C_drew ?_))); (case side8 => exact (Kd.R_reads' HO244.out).2.1); rintro e w109 ⟨rfl, hb⟩; have n0_ := Aside0.mk (Kd.R_below (by (with_reducible repeat (first | apply Kd.R_alloc | apply Kd.R_drewN | apply Kd.R_drew)); exact HO_212000.out) hb); have n1_ := Aside0.mk (Kd.R_below (by (with_reducible repeat (first | apply Kd.R_alloc | apply Kd.R_drewN | apply Kd.R_drew)); exact HO_212001.out) hb); have n2_ := Aside0.mk (Kd.R_below (by (with_reducible repeat (first | apply Kd.R_alloc | apply Kd.R_drewN | apply Kd.R_drew)); exact HO_213000.out) hb); have n3_ := Aside0.mk (Kd.R_below (by (with_reducible repeat (first | apply Kd.R_alloc | apply Kd.R_drewN | apply Kd.R_drew)); exact HO_213001.out) hb); have n4_ := Aside0.mk (Kd.R_below (by (with_reducible repeat (first | apply Kd.R_alloc | apply Kd.R_drewN | apply Kd.R_drew)); exact HO241.out) hb); have n5_ := Aside0.mk (Kd.R_below (by (with_reducible repeat (first | apply Kd.R_alloc | apply Kd.R_drewN | apply Kd.R_drew)); exact HO244.out) hb); have n6_ := Aside0.mk (Kd.R_below (by (with_reducible repeat (first | apply Kd.R_alloc | apply Kd.R_drewN | apply Kd.R_drew)); exact HO252.out) hb); have n7_ := Aside0.mk (Kd.R_below (by (with_reducible repeat (first | apply Kd.R_alloc | apply Kd.R_drewN | apply Kd.R_drew)); exact HO255.out) hb); have n8_ := Aside0.mk (blk_below (g := gb211) (o := .cells #[.slice Ao18 t213.length co18, .slice Ao20 t216.length co20] 25 (0, 0)) (by (with_reducible repeat (first | refine blk_drewN ?_ _ | refine blk_drew ?_ | refine blk_alloc ?_ _)); exact BK211.out) hb); have n9_ := Aside0.mk (blk_below (g := gb212) (o := .cells #[.slice Ao22 t219.length co22, .slice Ao24 t222.length co24] 25 (0, 0)) (by (with_reducible repeat (first | refine blk_drewN ?_ _ | refine blk_drew ?_ | refine blk_alloc ?_ _)); exact BK212.out) hb); have n10_ := Aside0.mk (blk_below (g := gb246) (o := .cells #[.slice Ao91 t239.length co91, .slice Ao95 t242.length co95] 25 (0, 0)) (by (with_reducible repeat (first | refine blk_drewN ?_ _ | refine blk_drew ?_ | refine blk_alloc ?_ _)); exact BK246.out) hb); have n11_ := Aside0.mk (blk_below (g := gb257) (o := .cells #[.slice Ao99 t250.length co99, .slice Ao104 t253.length co104] 25 (0, 0)) (by (with_reducible repeat (first | refine blk_drewN ?_ _ | refine blk_drew ?_ | refine blk_alloc ?_ _)); exact BK257.out) hb); have n12_ := Aside0.mk (below_step (by repeat (first | (with_reducible first | exact HB.out | apply below_alloc | apply pw_below_drewN | apply below_drew1 | refine below_set ?_ GE211.out | refine below_set ?_ GE212.out | refine below_set ?_ GE246.out | refine below_set ?_ GE257.out) | exact HB.out)) hb); clear HO_212000; clear HO_212001; clear HO_213000; clear HO_213001; clear HO241; clear HO244; clear HO252; clear HO255; clear BK211; clear BK212; clear BK246; clear BK257; clear HB; have HO_212000 := n0_; have HO_212001 := n1_; have HO_213000 := n2_; have HO_213001 := n3_; have HO241 := n4_; have HO244 := n5_; have HO252 := n6_; have HO255 := n7_; have BK211 := n8_; have BK212 := n9_; have BK246 := n10_; have BK257 := n11_; have HB := n12_; clear n0_ n1_ n2_ n3_ n4_ n5_ n6_ n7_ n8_ n9_ n10_ n11_ n12_; (try clear hb); (try clear hb2); (try clear hk); (try clear hi); have hcz110_0 : w109.cell? ⟨gb257, 0, none⟩ = some (.slice Ao99 t250.length co99) := (blk_cell BK257.out 0).trans rfl; have hcz110_1 : w109.cell? ⟨gb257, 1, none⟩ = some (.slice Ao104 t253.length co104) := (blk_cell BK257.out 1).trans rfl; have hfz110_0 := blk_frozen BK257.out 0; have hfz110_1 := blk_frozen BK257.out 1) | (go_at_call 12; (with_reducible refine (url_Print.calls _ _ t250 _ _ t253 t260 _ ?side1 ?side2 ?side3 ?side4 A85.out).mono ?_); (case side1 => repeat (first | exact (Kd.R_reads' HO252.out).2.2 | (with_reducible refine Kd.C_alloc ?_ _) | (with_reducible refine Kd.C_drewN ?_ _) | (with_reducible refine Kd.C_drew ?_))); (case side2 => exact (Kd.R_reads' HO252.out).2.1); (case side3 => repeat (first | exact (Kd.R_reads' HO255.out).2.2 | (with_reducible refine Kd.C_alloc ?_ _) | (with_reducible refine Kd.C_drewN ?_ _) | (with_reducible refine Kd.C_drew ?_))); (case side4 => exact (Kd.R_reads' HO255.out).2.1); rintro e w111 ⟨rfl, hb⟩; have n0_ := Aside0.mk (Kd.R_below (by (with_reducible repeat (first | apply Kd.R_alloc | apply Kd.R_drewN | apply Kd.R_drew)); exact HO_212000.out) hb); have n1_ := Aside0.mk (Kd.R_below (by (with_reducible repeat (first | apply Kd.R_alloc | apply Kd.R_drewN | apply Kd.R_drew)); exact HO_212001.out) hb); have n2_ := Aside0.mk (Kd.R_below (by (with_reducible repeat (first | apply Kd.R_alloc | apply Kd.R_drewN | apply Kd.R_drew)); exact HO_213000.out) hb); have n3_ := Aside0.mk (Kd.R_below (by (with_reducible repeat (first | apply Kd.R_alloc | apply Kd.R_drewN | apply Kd.R_drew)); exact HO_213001.out) hb); have n4_ := Aside0.mk (Kd.R_below (by (with_reducible repeat (first | apply Kd.R_alloc | apply Kd.R_drewN | apply Kd.R_drew)); exact HO241.out) hb); have n5_ := Aside0.mk (Kd.R_below (by (with_reducible repeat (first | apply Kd.R_alloc | apply Kd.R_drewN | apply Kd.R_drew)); exact HO244.out) hb); have n6_ := Aside0.mk (Kd.R_below (by (with_reducible repeat (first | apply Kd.R_alloc | apply Kd.R_drewN | apply Kd.R_drew)); exact HO252.out) hb); have n7_ := Aside0.mk (Kd.R_below (by (with_reducible repeat (first | apply Kd.R_alloc | apply Kd.R_drewN | apply Kd.R_drew)); exact HO255.out) hb); have n8_ := Aside0.mk (blk_below (g := gb211) (o := .cells #[.slice Ao18 t213.length co18, .slice Ao20 t216.length co20] 25 (0, 0)) (by (with_reducible repeat (first | refine blk_drewN ?_ _ | refine blk_drew ?_ | refine blk_alloc ?_ _)); exact BK211.out) hb); have n9_ := Aside0.mk (blk_below (g := gb212) (o := .cells #[.slice Ao22 t219.length co22, .slice Ao24 t222.length co24] 25 (0, 0)) (by (with_reducible repeat (first | refine blk_drewN ?_ _ | refine blk_drew ?_ | refine blk_alloc ?_ _)); exact BK212.out) hb); have n10_ := Aside0.mk (blk_below (g := gb246) (o := .cells #[.slice Ao91 t239.length co91, .slice Ao95 t242.length co95] 25 (0, 0)) (by (with_reducible repeat (first | refine blk_drewN ?_ _ | refine blk_drew ?_ | refine blk_alloc ?_ _)); exact BK246.out) hb); have n11_ := Aside0.mk (blk_below (g := gb257) (o := .cells #[.slice Ao99 t250.length co99, .slice Ao104 t253.length co104] 25 (0, 0)) (by (with_reducible repeat (first | refine blk_drewN ?_ _ | refine blk_drew ?_ | refine blk_alloc ?_ _)); exact BK257.out) hb); have n12_ := Aside0.mk (below_step (by repeat (first | (with_reducible first | exact HB.out | apply below_alloc | apply pw_below_drewN | apply below_drew1 | refine below_set ?_ GE211.out | refine below_set ?_ GE212.out | refine below_set ?_ GE246.out | refine below_set ?_ GE257.out) | exact HB.out)) hb); clear HO_212000; clear HO_212001; clear HO_213000; clear HO_213001; clear HO241; clear HO244; clear HO252; clear HO255; clear BK211; clear BK212; clear BK246; clear BK257; clear HB; have HO_212000 := n0_; have HO_212001 := n1_; have HO_213000 := n2_; have HO_213001 := n3_; have HO241 := n4_; have HO244 := n5_; have HO252 := n6_; have HO255 := n7_; have BK211 := n8_; have BK212 := n9_; have BK246 := n10_; have BK257 := n11_; have HB := n12_; clear n0_ n1_ n2_ n3_ n4_ n5_ n6_ n7_ n8_ n9_ n10_ n11_ n12_; (try clear hb); (try clear hb2); (try clear hk); (try clear hi)) | (go_at_call 3; (with_reducible refine (porticolaw4_URLRuns.calls kj11  t261 _ A88.out).mono ?_); rintro e w112 ⟨rfl, hb⟩; have n0_ := Aside0.mk (Kd.R_below (by (with_reducible repeat (first | apply Kd.R_alloc | apply Kd.R_drewN | apply Kd.R_drew)); exact HO_212000.out) hb); have n1_ := Aside0.mk (Kd.R_below (by (with_reducible repeat (first | apply Kd.R_alloc | apply Kd.R_drewN | apply Kd.R_drew)); exact HO_212001.out) hb); have n2_ := Aside0.mk (Kd.R_below (by (with_reducible repeat (first | apply Kd.R_alloc | apply Kd.R_drewN | apply Kd.R_drew)); exact HO_213000.out) hb); have n3_ := Aside0.mk (Kd.R_below (by (with_reducible repeat (first | apply Kd.R_alloc | apply Kd.R_drewN | apply Kd.R_drew)); exact HO_213001.out) hb); have n4_ := Aside0.mk (Kd.R_below (by (with_reducible repeat (first | apply Kd.R_alloc | apply Kd.R_drewN | apply Kd.R_drew)); exact HO241.out) hb); have n5_ := Aside0.mk (Kd.R_below (by (with_reducible repeat (first | apply Kd.R_alloc | apply Kd.R_drewN | apply Kd.R_drew)); exact HO244.out) hb); have n6_ := Aside0.mk (Kd.R_below (by (with_reducible repeat (first | apply Kd.R_alloc | apply Kd.R_drewN | apply Kd.R_drew)); exact HO252.out) hb); have n7_ := Aside0.mk (Kd.R_below (by (with_reducible repeat (first | apply Kd.R_alloc | apply Kd.R_drewN | apply Kd.R_drew)); exact HO255.out) hb); have n8_ := Aside0.mk (blk_below (g := gb211) (o := .cells #[.slice Ao18 t213.length co18, .slice Ao20 t216.length co20] 25 (0, 0)) (by (with_reducible repeat (first | refine blk_drewN ?_ _ | refine blk_drew ?_ | refine blk_alloc ?_ _)); exact BK211.out) hb); have n9_ := Aside0.mk (blk_below (g := gb212) (o := .cells #[.slice Ao22 t219.length co22, .slice Ao24 t222.length co24] 25 (0, 0)) (by (with_reducible repeat (first | refine blk_drewN ?_ _ | refine blk_drew ?_ | refine blk_alloc ?_ _)); exact BK212.out) hb); have n10_ := Aside0.mk (blk_below (g := gb246) (o := .cells #[.slice Ao91 t239.length co91, .slice Ao95 t242.length co95] 25 (0, 0)) (by (with_reducible repeat (first | refine blk_drewN ?_ _ | refine blk_drew ?_ | refine blk_alloc ?_ _)); exact BK246.out) hb); have n11_ := Aside0.mk (blk_below (g := gb257) (o := .cells #[.slice Ao99 t250.length co99, .slice Ao104 t253.length co104] 25 (0, 0)) (by (with_reducible repeat (first | refine blk_drewN ?_ _ | refine blk_drew ?_ | refine blk_alloc ?_ _)); exact BK257.out) hb); have n12_ := Aside0.mk (below_step (by repeat (first | (with_reducible first | exact HB.out | apply below_alloc | apply pw_below_drewN | apply below_drew1 | refine below_set ?_ GE211.out | refine below_set ?_ GE212.out | refine below_set ?_ GE246.out | refine below_set ?_ GE257.out) | exact HB.out)) hb); clear HO_212000; clear HO_212001; clear HO_213000; clear HO_213001; clear HO241; clear HO244; clear HO252; clear HO255; clear BK211; clear BK212; clear BK246; clear BK257; clear HB; have HO_212000 := n0_; have HO_212001 := n1_; have HO_213000 := n2_; have HO_213001 := n3_; have HO241 := n4_; have HO244 := n5_; have HO252 := n6_; have HO255 := n7_; have BK211 := n8_; have BK212 := n9_; have BK246 := n10_; have BK257 := n11_; have HB := n12_; clear n0_ n1_ n2_ n3_ n4_ n5_ n6_ n7_ n8_ n9_ n10_ n11_ n12_; (try clear hb); (try clear hb2); (try clear hk); (try clear hi)))
                      go_ret
                      exact ⟨by first | rfl | (simp [errW_none, errW_some] <;> rfl) | (simp only [← hji6]; first | rfl | (simp [errW_none, errW_some] <;> rfl)) | (simp [*, errW_none, errW_some] <;> rfl), by repeat (first | (with_reducible first | exact HB.out | apply below_alloc | apply pw_below_drewN | apply below_drew1 | refine below_set ?_ GE211.out | refine below_set ?_ GE212.out | refine below_set ?_ GE246.out | refine below_set ?_ GE257.out) | exact HB.out)⟩
                    · rw [if_neg c87] at H
                      exact absurd H (by simp)
                  · rw [if_neg c86] at H
                    exact absurd H (by simp)
                · replace c84 := Bool.eq_false_iff.mpr c84
                  subst c84
                  have H1 : (none) = some r := by rw [if_neg (show ¬ (false = true) by decide)] at H; exact H
                  clear H
                  have H := H1
                  clear H1
                  exact absurd H (by simp)
              · rw [if_neg c82] at H
                exact absurd H (by simp)
            · replace c81 := Bool.eq_false_iff.mpr c81
              subst c81
              have H1 : (none) = some r := by rw [if_neg (show ¬ (false = true) by decide)] at H; exact H
              clear H
              have H := H1
              clear H1
              exact absurd H (by simp)
          · rw [if_neg c77] at H
            have c77b0 : (t245 == 0) = false := beq_eq_false_iff_ne.mpr c77
            have c77b1 : (t245 != 0) = true := bne_iff_ne.mpr c77
            by_cases c113 : t245 = 1
            · rw [if_pos c113] at H
              have c113b0 : (t245 == 1) = true := beq_iff_eq.mpr c113
              have c113b1 : (t245 != 1) = false := bne_eq_false_iff_eq.mpr c113
              clear c113
              replace H := Option.bind_eq_some_iff.mp H
              obtain ⟨t247, A1140, H⟩ := H
              replace H : (if t247 = true then ((porticolaw4_URLRuns.f kj11).bind fun t248 => (some t248)) else (none)) = some r := H
              have A114 := Aside0.mk A1140
              clear A1140
              by_cases c115 : t247 = true
              · subst c115
                have H1 : ((porticolaw4_URLRuns.f kj11).bind fun t248 => (some t248)) = some r := by rw [if_pos rfl] at H; exact H
                clear H
                have H := H1
                clear H1
                replace H := Option.bind_eq_some_iff.mp H
                obtain ⟨t248, A1160, H⟩ := H
                replace H : (some t248) = some r := H
                have A116 := Aside0.mk A1160
                clear A1160
                obtain rfl := Option.some.inj H
                go_wp2_with (first | ((with_reducible refine gate_callee (f := 9) rfl ?_); refine goesL_ (some 63) rfl rfl Tryd.func9 (by kernel_rfl) rfl #[.string (a2.extract 0 ((ji6) : Int).toNat)] rfl (by (try simp only [List.map_toArray, List.map_cons, List.map_nil]); first | done | (simp only [hji6]; rfl) | rfl | (simp only [List.length_drop, List.length_take]; rfl)) ?_; (with_reducible refine (url_Parse.calls kj11 (a2.extract 0 ((ji6) : Int).toNat) t239 t242 t245 _ A76.out).mono ?_); rintro e w117 ⟨v240, v243, rfl, ho0, ho1, hb⟩; refine ⟨_, rfl, ?_⟩; have n0_ := Aside0.mk (Kd.R_elder' (by (with_reducible repeat (first | apply Kd.R_alloc | apply Kd.R_drewN | apply Kd.R_drew)); exact HO_212000.out) (Kd.R_base ho0) hb); have n1_ := Aside0.mk (Kd.R_elder' (by (with_reducible repeat (first | apply Kd.R_alloc | apply Kd.R_drewN | apply Kd.R_drew)); exact HO_212001.out) (Kd.R_base ho1) hb); have n2_ := Aside0.mk (Kd.R_elder' (by (with_reducible repeat (first | apply Kd.R_alloc | apply Kd.R_drewN | apply Kd.R_drew)); exact HO_213000.out) (Kd.R_base ho0) hb); have n3_ := Aside0.mk (Kd.R_elder' (by (with_reducible repeat (first | apply Kd.R_alloc | apply Kd.R_drewN | apply Kd.R_drew)); exact HO_213001.out) (Kd.R_base ho1) hb); have n4_ := Aside0.mk (Kd.R_lower (Kd.R_new' (Kd.R_new' ho0 (Kd.R_lt (by (with_reducible repeat (first | apply Kd.R_alloc | apply Kd.R_drewN | apply Kd.R_drew)); exact HO_212000.out))) (Kd.R_lt (by (with_reducible repeat (first | apply Kd.R_alloc | apply Kd.R_drewN | apply Kd.R_drew)); exact HO_213000.out))) (below_size (by repeat (first | (with_reducible first | exact HB.out | apply below_alloc | apply pw_below_drewN | apply below_drew1 | refine below_set ?_ GE211.out | refine below_set ?_ GE212.out) | exact HB.out)))); have n5_ := Aside0.mk (Kd.R_lower (Kd.R_new' (Kd.R_new' ho1 (Kd.R_lt (by (with_reducible repeat (first | apply Kd.R_alloc | apply Kd.R_drewN | apply Kd.R_drew)); exact HO_212001.out))) (Kd.R_lt (by (with_reducible repeat (first | apply Kd.R_alloc | apply Kd.R_drewN | apply Kd.R_drew)); exact HO_213001.out))) (below_size (by repeat (first | (with_reducible first | exact HB.out | apply below_alloc | apply pw_below_drewN | apply below_drew1 | refine below_set ?_ GE211.out | refine below_set ?_ GE212.out) | exact HB.out)))); have n6_ := Aside0.mk (blk_below (g := gb211) (o := .cells #[.slice Ao18 t213.length co18, .slice Ao20 t216.length co20] 25 (0, 0)) (by (with_reducible repeat (first | refine blk_drewN ?_ _ | refine blk_drew ?_ | refine blk_alloc ?_ _)); exact BK211.out) hb); have n7_ := Aside0.mk (blk_below (g := gb212) (o := .cells #[.slice Ao22 t219.length co22, .slice Ao24 t222.length co24] 25 (0, 0)) (by (with_reducible repeat (first | refine blk_drewN ?_ _ | refine blk_drew ?_ | refine blk_alloc ?_ _)); exact BK212.out) hb); have n8_ := Aside0.mk (below_step (by repeat (first | (with_reducible first | exact HB.out | apply below_alloc | apply pw_below_drewN | apply below_drew1 | refine below_set ?_ GE211.out | refine below_set ?_ GE212.out) | exact HB.out)) hb); clear HO_212000; clear HO_212001; clear HO_213000; clear HO_213001; clear BK211; clear BK212; clear HB; have HO_212000 := n0_; have HO_212001 := n1_; have HO_213000 := n2_; have HO_213001 := n3_; have HO241 := n4_; have HO244 := n5_; have BK211 := n6_; have BK212 := n7_; have HB := n8_; clear n0_ n1_ n2_ n3_ n4_ n5_ n6_ n7_ n8_; (try clear hb); (try clear hb2); (try clear hk); (try clear hi); (try clear ho0); (try clear ho1)) | ((with_reducible refine gate_dst (N := 11) rfl ?_); (try (refine gate_guard (by rfl) ?_; dsimp only)); refine box_event ?hg (N := 11) ?hd (cs := #[.slice none 0 0, .slice none 0 0]) (t := 25) ?hr ?_; (case hd => rfl); (case hg => rfl); (case hr => first | (go_simp; done) | (go_simp; rfl)); intro gb246 hg w118 hbox hb; have n0_ := Aside0.mk (Kd.R_below (by (with_reducible repeat (first | apply Kd.R_alloc | apply Kd.R_drewN | apply Kd.R_drew)); exact HO_212000.out) hb); have n1_ := Aside0.mk (Kd.R_below (by (with_reducible repeat (first | apply Kd.R_alloc | apply Kd.R_drewN | apply Kd.R_drew)); exact HO_212001.out) hb); have n2_ := Aside0.mk (Kd.R_below (by (with_reducible repeat (first | apply Kd.R_alloc | apply Kd.R_drewN | apply Kd.R_drew)); exact HO_213000.out) hb); have n3_ := Aside0.mk (Kd.R_below (by (with_reducible repeat (first | apply Kd.R_alloc | apply Kd.R_drewN | apply Kd.R_drew)); exact HO_213001.out) hb); have n4_ := Aside0.mk (Kd.R_below (by (with_reducible repeat (first | apply Kd.R_alloc | apply Kd.R_drewN | apply Kd.R_drew)); exact HO241.out) hb); have n5_ := Aside0.mk (Kd.R_below (by (with_reducible repeat (first | apply Kd.R_alloc | apply Kd.R_drewN | apply Kd.R_drew)); exact HO244.out) hb); have n6_ := Aside0.mk (blk_below (g := gb211) (o := .cells #[.slice Ao18 t213.length co18, .slice Ao20 t216.length co20] 25 (0, 0)) (by (with_reducible repeat (first | refine blk_drewN ?_ _ | refine blk_drew ?_ | refine blk_alloc ?_ _)); exact BK211.out) hb); have n7_ := Aside0.mk (blk_below (g := gb212) (o := .cells #[.slice Ao22 t219.length co22, .slice Ao24 t222.length co24] 25 (0, 0)) (by (with_reducible repeat (first | refine blk_drewN ?_ _ | refine blk_drew ?_ | refine blk_alloc ?_ _)); exact BK212.out) hb); have n8_ := Aside0.mk (below_step (by repeat (first | (with_reducible first | exact HB.out | apply below_alloc | apply pw_below_drewN | apply below_drew1 | refine below_set ?_ GE211.out | refine below_set ?_ GE212.out) | exact HB.out)) hb); have n9_ := Aside0.mk (hbox); have n10_ := Aside0.mk ((by rw [hg]; exact (below_size (by repeat (first | (with_reducible first | exact HB.out | apply below_alloc | apply pw_below_drewN | apply below_drew1 | refine below_set ?_ GE211.out | refine below_set ?_ GE212.out) | exact HB.out))) : w.heap.size ≤ gb246)); have n11_ := Aside0.mk ((by rw [hg]; exact (below_size (by repeat (first | (with_reducible first | exact HB.out | apply below_alloc | apply pw_below_drewN | apply below_drew1 | refine below_set ?_ GE211.out | refine below_set ?_ GE212.out) | exact HB.out))) : w.heap.size ≤ gb246)); have n12_ := Aside0.mk ((by rw [hg]; exact Nat.ne_of_lt (blk_lt (g := gb211) (o := .cells #[.slice Ao18 t213.length co18, .slice Ao20 t216.length co20] 25 (0, 0)) (by (with_reducible repeat (first | refine blk_drewN ?_ _ | refine blk_drew ?_ | refine blk_alloc ?_ _)); exact BK211.out)) : gb211 ≠ gb246)); have n13_ := Aside0.mk ((by rw [hg]; exact Nat.ne_of_gt (blk_lt (g := gb211) (o := .cells #[.slice Ao18 t213.length co18, .slice Ao20 t216.length co20] 25 (0, 0)) (by (with_reducible repeat (first | refine blk_drewN ?_ _ | refine blk_drew ?_ | refine blk_alloc ?_ _)); exact BK211.out)) : gb246 ≠ gb211)); have n14_ := Aside0.mk ((by rw [hg]; exact Nat.ne_of_lt (blk_lt (g := gb212) (o := .cells #[.slice Ao22 t219.length co22, .slice Ao24 t222.length co24] 25 (0, 0)) (by (with_reducible repeat (first | refine blk_drewN ?_ _ | refine blk_drew ?_ | refine blk_alloc ?_ _)); exact BK212.out)) : gb212 ≠ gb246)); have n15_ := Aside0.mk ((by rw [hg]; exact Nat.ne_of_gt (blk_lt (g := gb212) (o := .cells #[.slice Ao22 t219.length co22, .slice Ao24 t222.length co24] 25 (0, 0)) (by (with_reducible repeat (first | refine blk_drewN ?_ _ | refine blk_drew ?_ | refine blk_alloc ?_ _)); exact BK212.out)) : gb246 ≠ gb212)); clear HO_212000; clear HO_212001; clear HO_213000; clear HO_213001; clear HO241; clear HO244; clear BK211; clear BK212; clear HB; have HO_212000 := n0_; have HO_212001 := n1_; have HO_213000 := n2_; have HO_213001 := n3_; have HO241 := n4_; have HO244 := n5_; have BK211 := n6_; have BK212 := n7_; have HB := n8_; have BK246 := n9_; have GW246 := n10_; have GE246 := n11_; have NB211_246 := n12_; have NB246_211 := n13_; have NB212_246 := n14_; have NB246_212 := n15_; clear n0_ n1_ n2_ n3_ n4_ n5_ n6_ n7_ n8_ n9_ n10_ n11_ n12_ n13_ n14_ n15_; clear hb hbox hg; obtain ⟨Ao119, co119, eo119⟩ := Kd.R_slice HO241.out; subst eo119; have hnb120 := NB246_211.out; have hnc120 := NB211_246.out; have hnb121 := NB246_212.out; have hnc121 := NB212_246.out; have hcz122_0 : w118.cell? ⟨gb246, 0, none⟩ = some (.slice none 0 0) := (blk_cell BK246.out 0).trans rfl; have hcz122_1 : w118.cell? ⟨gb246, 1, none⟩ = some (.slice none 0 0) := (blk_cell BK246.out 1).trans rfl; have hfz122_0 := blk_frozen BK246.out 0; have hfz122_1 := blk_frozen BK246.out 1; obtain ⟨Ao123, co123, eo123⟩ := Kd.R_slice HO244.out; subst eo123) | (go_at_call 15; (refine (porticolaw4_equal.calls kj11 _ _ t239 _ _ t242 _ _ ([] : List ByteArray) _ _ ([] : List (S32)) true _ ?side1 ?side2 ?side3 ?side4 ?side5 ?side6 ?side7 ?side8 A114.out).mono ?_); (case side1 => refine (Kd.R_reads' (e := 9) (base := w.heap.size) (ok := fun k_ => ((True ∧ some k_ ≠ (.slice Ao18 t213.length co18 : Value).ownBlock) ∧ some k_ ≠ (.slice Ao22 t219.length co22 : Value).ownBlock)) (n := t239.length) (c := co119) ?_).2.2; exact (by (with_reducible repeat (first | apply Kd.R_alloc | apply Kd.R_drewN | apply Kd.R_drew)); exact (Kd.R_mono (Kd.R_far (p := ⟨gb246, 1, none⟩) (Kd.R_far (p := ⟨gb246, 0, none⟩) (Kd.R_types HO241.out BK246.out (by decide)) (fun _ hk => hk.2) (.slice Ao119 t239.length co119)) (fun _ hk => hk.2) (.slice Ao123 t242.length co123)) (fun _ h_ => h_.1)))); (case side2 => exact (Kd.R_reads' HO241.out).2.1); (case side3 => refine (Kd.R_reads' (e := 32) (base := w.heap.size) (ok := fun k_ => ((True ∧ some k_ ≠ (.slice Ao20 t216.length co20 : Value).ownBlock) ∧ some k_ ≠ (.slice Ao24 t222.length co24 : Value).ownBlock)) (n := t242.length) (c := co123) ?_).2.2; exact (by (with_reducible repeat (first | apply Kd.R_alloc | apply Kd.R_drewN | apply Kd.R_drew)); exact (Kd.R_mono (Kd.R_far (p := ⟨gb246, 1, none⟩) (Kd.R_far (p := ⟨gb246, 0, none⟩) (Kd.R_types HO244.out BK246.out (by decide)) (fun _ hk => hk.2) (.slice Ao119 t239.length co119)) (fun _ hk => hk.2) (.slice Ao123 t242.length co123)) (fun _ h_ => h_.1)))); (case side4 => exact (Kd.R_reads' HO244.out).2.1); (case side5 => exact Kd.C_nil _ _); (case side6 => exact Nat.le_refl _); (case side7 => exact Kd.C_nil _ _); (case side8 => exact Nat.le_refl _); rintro e w124 ⟨rfl, hb⟩; have n0_ := Aside0.mk (Kd.R_below (by (with_reducible repeat (first | apply Kd.R_alloc | apply Kd.R_drewN | apply Kd.R_drew)); exact (Kd.R_mono (Kd.R_far (p := ⟨gb246, 1, none⟩) (Kd.R_far (p := ⟨gb246, 0, none⟩) (Kd.R_types HO_212000.out BK246.out (by decide)) (fun _ hk => hk.2) (.slice Ao119 t239.length co119)) (fun _ hk => hk.2) (.slice Ao123 t242.length co123)) (fun _ h_ => h_.1))) hb); have n1_ := Aside0.mk (Kd.R_below (by (with_reducible repeat (first | apply Kd.R_alloc | apply Kd.R_drewN | apply Kd.R_drew)); exact (Kd.R_mono (Kd.R_far (p := ⟨gb246, 1, none⟩) (Kd.R_far (p := ⟨gb246, 0, none⟩) (Kd.R_types HO_212001.out BK246.out (by decide)) (fun _ hk => hk.2) (.slice Ao119 t239.length co119)) (fun _ hk => hk.2) (.slice Ao123 t242.length co123)) (fun _ h_ => h_.1))) hb); have n2_ := Aside0.mk (Kd.R_below (by (with_reducible repeat (first | apply Kd.R_alloc | apply Kd.R_drewN | apply Kd.R_drew)); exact (Kd.R_mono (Kd.R_far (p := ⟨gb246, 1, none⟩) (Kd.R_far (p := ⟨gb246, 0, none⟩) (Kd.R_types HO_213000.out BK246.out (by decide)) (fun _ hk => hk.2) (.slice Ao119 t239.length co119)) (fun _ hk => hk.2) (.slice Ao123 t242.length co123)) (fun _ h_ => h_.1))) hb); have n3_ := Aside0.mk (Kd.R_below (by (with_reducible repeat (first | apply Kd.R_alloc | apply Kd.R_drewN | apply Kd.R_drew)); exact (Kd.R_mono (Kd.R_far (p := ⟨gb246, 1, none⟩) (Kd.R_far (p := ⟨gb246, 0, none⟩) (Kd.R_types HO_213001.out BK246.out (by decide)) (fun _ hk => hk.2) (.slice Ao119 t239.length co119)) (fun _ hk => hk.2) (.slice Ao123 t242.length co123)) (fun _ h_ => h_.1))) hb); have n4_ := Aside0.mk (Kd.R_below (by (with_reducible repeat (first | apply Kd.R_alloc | apply Kd.R_drewN | apply Kd.R_drew)); exact (Kd.R_mono (Kd.R_far (p := ⟨gb246, 1, none⟩) (Kd.R_far (p := ⟨gb246, 0, none⟩) (Kd.R_types HO241.out BK246.out (by decide)) (fun _ hk => hk.2) (.slice Ao119 t239.length co119)) (fun _ hk => hk.2) (.slice Ao123 t242.length co123)) (fun _ h_ => h_.1))) hb); have n5_ := Aside0.mk (Kd.R_below (by (with_reducible repeat (first | apply Kd.R_alloc | apply Kd.R_drewN | apply Kd.R_drew)); exact (Kd.R_mono (Kd.R_far (p := ⟨gb246, 1, none⟩) (Kd.R_far (p := ⟨gb246, 0, none⟩) (Kd.R_types HO244.out BK246.out (by decide)) (fun _ hk => hk.2) (.slice Ao119 t239.length co119)) (fun _ hk => hk.2) (.slice Ao123 t242.length co123)) (fun _ h_ => h_.1))) hb); have n6_ := Aside0.mk (blk_below (g := gb211) (o := .cells #[.slice Ao18 t213.length co18, .slice Ao20 t216.length co20] 25 (0, 0)) (by (with_reducible repeat (first | refine blk_drewN ?_ _ | refine blk_drew ?_ | refine blk_alloc ?_ _)); refine blk_far ?_ NB211_246.out _; (with_reducible repeat (first | refine blk_drewN ?_ _ | refine blk_drew ?_ | refine blk_alloc ?_ _)); refine blk_far ?_ NB211_246.out _; (with_reducible repeat (first | refine blk_drewN ?_ _ | refine blk_drew ?_ | refine blk_alloc ?_ _)); exact BK211.out) hb); have n7_ := Aside0.mk (blk_below (g := gb212) (o := .cells #[.slice Ao22 t219.length co22, .slice Ao24 t222.length co24] 25 (0, 0)) (by (with_reducible repeat (first | refine blk_drewN ?_ _ | refine blk_drew ?_ | refine blk_alloc ?_ _)); refine blk_far ?_ NB212_246.out _; (with_reducible repeat (first | refine blk_drewN ?_ _ | refine blk_drew ?_ | refine blk_alloc ?_ _)); refine blk_far ?_ NB212_246.out _; (with_reducible repeat (first | refine blk_drewN ?_ _ | refine blk_drew ?_ | refine blk_alloc ?_ _)); exact BK212.out) hb); have n8_ := Aside0.mk (blk_below (g := gb246) (o := .cells #[.slice Ao119 t239.length co119, .slice Ao123 t242.length co123] 25 (0, 0)) (by (with_reducible repeat (first | refine blk_drewN ?_ _ | refine blk_drew ?_ | refine blk_alloc ?_ _)); refine blk_put (cs := #[.slice Ao119 t239.length co119, .slice none 0 0]) ?_ 1 _ rfl; (with_reducible repeat (first | refine blk_drewN ?_ _ | refine blk_drew ?_ | refine blk_alloc ?_ _)); refine blk_put (cs := #[.slice none 0 0, .slice none 0 0]) ?_ 0 _ rfl; (with_reducible repeat (first | refine blk_drewN ?_ _ | refine blk_drew ?_ | refine blk_alloc ?_ _)); exact BK246.out) hb); have n9_ := Aside0.mk (below_step (by repeat (first | (with_reducible first | exact HB.out | apply below_alloc | apply pw_below_drewN | apply below_drew1 | refine below_set ?_ GE211.out | refine below_set ?_ GE212.out | refine below_set ?_ GE246.out) | exact HB.out)) hb); clear HO_212000; clear HO_212001; clear HO_213000; clear HO_213001; clear HO241; clear HO244; clear BK211; clear BK212; clear BK246; clear HB; have HO_212000 := n0_; have HO_212001 := n1_; have HO_213000 := n2_; have HO_213001 := n3_; have HO241 := n4_; have HO244 := n5_; have BK211 := n6_; have BK212 := n7_; have BK246 := n8_; have HB := n9_; clear n0_ n1_ n2_ n3_ n4_ n5_ n6_ n7_ n8_ n9_; (try clear hb); (try clear hb2); (try clear hk); (try clear hi)) | (go_at_call 3; (with_reducible refine (porticolaw4_URLRuns.calls kj11  t248 _ A116.out).mono ?_); rintro e w125 ⟨rfl, hb⟩; have n0_ := Aside0.mk (Kd.R_below (by (with_reducible repeat (first | apply Kd.R_alloc | apply Kd.R_drewN | apply Kd.R_drew)); exact HO_212000.out) hb); have n1_ := Aside0.mk (Kd.R_below (by (with_reducible repeat (first | apply Kd.R_alloc | apply Kd.R_drewN | apply Kd.R_drew)); exact HO_212001.out) hb); have n2_ := Aside0.mk (Kd.R_below (by (with_reducible repeat (first | apply Kd.R_alloc | apply Kd.R_drewN | apply Kd.R_drew)); exact HO_213000.out) hb); have n3_ := Aside0.mk (Kd.R_below (by (with_reducible repeat (first | apply Kd.R_alloc | apply Kd.R_drewN | apply Kd.R_drew)); exact HO_213001.out) hb); have n4_ := Aside0.mk (Kd.R_below (by (with_reducible repeat (first | apply Kd.R_alloc | apply Kd.R_drewN | apply Kd.R_drew)); exact HO241.out) hb); have n5_ := Aside0.mk (Kd.R_below (by (with_reducible repeat (first | apply Kd.R_alloc | apply Kd.R_drewN | apply Kd.R_drew)); exact HO244.out) hb); have n6_ := Aside0.mk (blk_below (g := gb211) (o := .cells #[.slice Ao18 t213.length co18, .slice Ao20 t216.length co20] 25 (0, 0)) (by (with_reducible repeat (first | refine blk_drewN ?_ _ | refine blk_drew ?_ | refine blk_alloc ?_ _)); exact BK211.out) hb); have n7_ := Aside0.mk (blk_below (g := gb212) (o := .cells #[.slice Ao22 t219.length co22, .slice Ao24 t222.length co24] 25 (0, 0)) (by (with_reducible repeat (first | refine blk_drewN ?_ _ | refine blk_drew ?_ | refine blk_alloc ?_ _)); exact BK212.out) hb); have n8_ := Aside0.mk (blk_below (g := gb246) (o := .cells #[.slice Ao119 t239.length co119, .slice Ao123 t242.length co123] 25 (0, 0)) (by (with_reducible repeat (first | refine blk_drewN ?_ _ | refine blk_drew ?_ | refine blk_alloc ?_ _)); exact BK246.out) hb); have n9_ := Aside0.mk (below_step (by repeat (first | (with_reducible first | exact HB.out | apply below_alloc | apply pw_below_drewN | apply below_drew1 | refine below_set ?_ GE211.out | refine below_set ?_ GE212.out | refine below_set ?_ GE246.out) | exact HB.out)) hb); clear HO_212000; clear HO_212001; clear HO_213000; clear HO_213001; clear HO241; clear HO244; clear BK211; clear BK212; clear BK246; clear HB; have HO_212000 := n0_; have HO_212001 := n1_; have HO_213000 := n2_; have HO_213001 := n3_; have HO241 := n4_; have HO244 := n5_; have BK211 := n6_; have BK212 := n7_; have BK246 := n8_; have HB := n9_; clear n0_ n1_ n2_ n3_ n4_ n5_ n6_ n7_ n8_ n9_; (try clear hb); (try clear hb2); (try clear hk); (try clear hi)))
                go_ret
                exact ⟨by first | rfl | (simp [errW_none, errW_some] <;> rfl) | (simp only [← hji6]; first | rfl | (simp [errW_none, errW_some] <;> rfl)) | (simp [*, errW_none, errW_some] <;> rfl), by repeat (first | (with_reducible first | exact HB.out | apply below_alloc | apply pw_below_drewN | apply below_drew1 | refine below_set ?_ GE211.out | refine below_set ?_ GE212.out | refine below_set ?_ GE246.out) | exact HB.out)⟩
              · replace c115 := Bool.eq_false_iff.mpr c115
                subst c115
                have H1 : (none) = some r := by rw [if_neg (show ¬ (false = true) by decide)] at H; exact H
                clear H
                have H := H1
                clear H1
                exact absurd H (by simp)
            · rw [if_neg c113] at H
              exact absurd H (by simp)
    · rw [if_neg c8] at H
      exact absurd H (by simp)
  · rw [if_neg c7] at H
    exact absurd H (by simp)

end Go.Proofs.YtcaaggfobdfgpaaDoor.PURLBack
