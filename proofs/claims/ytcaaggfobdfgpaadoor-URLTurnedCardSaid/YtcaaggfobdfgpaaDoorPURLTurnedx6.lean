-- Printed by a program of this session's own (wip/tools: a turned copy of the kit's print).
import Derived.Test.YtcaaggfobdfgpaaDoorWalkURLTurned
import Derived.Test.YtcaaggfobdfgpaaDoorPURLTurnedx0
import Derived.Test.YtcaaggfobdfgpaaDoorPURLTurnedx3
import Derived.Test.YtcaaggfobdfgpaaDoorPURLTurnedx4
import Derived.Test.YtcaaggfobdfgpaaDoorPURLTurnedx5
namespace Go.Proofs.YtcaaggfobdfgpaaDoor.PURLTurned
open Go.Proofs.YtcaaggfobdfgpaaDoor.Given
open Go.RowKit Go.Proofs.YtcaaggfobdfgpaaDoorW.PrintWords Go.Proofs.YtcaaggfobdfgpaaDoorW.PrintLast Go.Proofs.YtcaaggfobdfgpaaDoorW.PrintMore
attribute [local go_sem] max2_int min2_int max_two min_two max_three min_three max_four min_four   -- for this text's walks alone
set_option linter.unusedVariables false
set_option linter.unusedSimpArgs false

/-! ### porticolaw4_URLTurned: function 5 -/
def porticolaw4_URLTurned.j0 : Nat → ByteArray → Option (Bool)
  | 0, _ => none
  | k + 1, x10 => (url_Parse.f k x10).bind fun bt237 => (if bt237.2.2 = 0 then ((url_Print.f bt237.1 bt237.2.1).bind fun t247 => ((url_Parse.f k t247).bind fun bt248 => (if bt248.2.2 = 0 then ((porticolaw4_equal.f k bt237.1 bt237.2.1 bt248.1 bt248.2.1).bind fun t256 => (if t256 = true then ((porticolaw4_URLRuns.f k).bind fun t257 => (some t257)) else (none))) else (none)))) else (if bt237.2.2 = 1 then ((porticolaw4_equal.f k bt237.1 bt237.2.1 ([] : List ByteArray) ([] : List (S32))).bind fun t245 => (if t245 = true then ((porticolaw4_URLRuns.f k).bind fun t246 => (some t246)) else (none))) else (none)))
def porticolaw4_URLTurned.f (k : Nat) (l0_0 : List Int) (l0_1 : List Int) (l0_2 : List Int) (a1 : Int) (a2 : Int) (a3 : Int) : Option (Bool) := (porticokeep_URL_URL.f k l0_0 l0_1 l0_2).bind fun bt218 => ((url_Print.f bt218.1 bt218.2).bind fun t225 => (if (t225.size : Int) < 1 then (none) else ((porticobook_Within.f a1 0 (wrap64 ((t225.size : Int) - 1))).bind fun t226 => ((porticobook_Within.f a3 0 3).bind fun t227 => (if t227 = 0 then (if 0 ≤ t226 then (if t226 ≤ (t225.size : Int) then ((some (([a2] : List Int) : List Int)).bind fun y228 => (if (t225.extract 0 (t226 : Int).toNat).size + (strOfNums y228).size ≤ 9223372036854775807 then (if 0 ≤ (wrap64 (t226 + 1)) then (if (wrap64 (t226 + 1)) ≤ (t225.size : Int) then (if ((t225.extract 0 (t226 : Int).toNat) ++ (strOfNums y228)).size + (t225.extract ((wrap64 (t226 + 1)) : Int).toNat t225.size).size ≤ 9223372036854775807 then (porticolaw4_URLTurned.j0 k (((t225.extract 0 (t226 : Int).toNat) ++ (strOfNums y228)) ++ (t225.extract ((wrap64 (t226 + 1)) : Int).toNat t225.size))) else (none)) else (none)) else (none)) else (none))) else (none)) else (none)) else (if t227 = 1 then (if 0 ≤ t226 then (if t226 ≤ (t225.size : Int) then ((some (([a2] : List Int) : List Int)).bind fun y231 => (if (t225.extract 0 (t226 : Int).toNat).size + (strOfNums y231).size ≤ 9223372036854775807 then (if ((t225.extract 0 (t226 : Int).toNat) ++ (strOfNums y231)).size + (t225.extract (t226 : Int).toNat t225.size).size ≤ 9223372036854775807 then (porticolaw4_URLTurned.j0 k (((t225.extract 0 (t226 : Int).toNat) ++ (strOfNums y231)) ++ (t225.extract (t226 : Int).toNat t225.size))) else (none)) else (none))) else (none)) else (none)) else (if t227 = 2 then (if 0 ≤ t226 then (if t226 ≤ (t225.size : Int) then (if 0 ≤ (wrap64 (t226 + 1)) then (if (wrap64 (t226 + 1)) ≤ (t225.size : Int) then (if (t225.extract 0 (t226 : Int).toNat).size + (t225.extract ((wrap64 (t226 + 1)) : Int).toNat t225.size).size ≤ 9223372036854775807 then (porticolaw4_URLTurned.j0 k ((t225.extract 0 (t226 : Int).toNat) ++ (t225.extract ((wrap64 (t226 + 1)) : Int).toNat t225.size))) else (none)) else (none)) else (none)) else (none)) else (none)) else ((some (([a2] : List Int) : List Int)).bind fun y234 => (if t225.size + (strOfNums y234).size ≤ 9223372036854775807 then (porticolaw4_URLTurned.j0 k (t225 ++ (strOfNums y234))) else (none))))))))))
theorem porticolaw4_URLTurned.mono_l : ∀ k, (∀ y0, LeO (porticolaw4_URLTurned.j0 k y0) (porticolaw4_URLTurned.j0 (k + 1) y0))
  | 0 => fun _ r h => by simp [porticolaw4_URLTurned.j0] at h
  | k + 1 => by
    have ih0 := porticolaw4_URLTurned.mono_l k
    · intro y0
      unfold porticolaw4_URLTurned.j0
      repeat' first
      | (with_reducible exact ih0 _)
      | (with_reducible exact porticokeep_URL_URL.mono _ _ _ _)
      | (with_reducible exact porticolaw4_URLRuns.mono _)
      | (with_reducible exact porticolaw4_equal.mono _ _ _ _ _)
      | (with_reducible exact url_Parse.mono _ _)
      | (with_reducible exact LeO.refl _)
      | (with_reducible exact LeO.none _)
      | (with_reducible refine LeO.ite ?_ ?_)
      | (with_reducible refine LeO.bind ?_ (fun _ => ?_))
      | exact ih0 _
      | exact porticokeep_URL_URL.mono _ _ _ _
      | exact porticolaw4_URLRuns.mono _
      | exact porticolaw4_equal.mono _ _ _ _ _
      | exact url_Parse.mono _ _
      | exact LeO.none _
      | refine LeO.ite ?_ ?_
      | refine LeO.bind ?_ (fun _ => ?_)
theorem porticolaw4_URLTurned.mono : ∀ a0 a1 a2 a3 a4 a5 k, LeO (porticolaw4_URLTurned.f k a0 a1 a2 a3 a4 a5) (porticolaw4_URLTurned.f (k + 1) a0 a1 a2 a3 a4 a5) := by
  intro a0 a1 a2 a3 a4 a5 k
  have ih0 := porticolaw4_URLTurned.mono_l k
  unfold porticolaw4_URLTurned.f
  repeat' first
      | (with_reducible exact ih0 _)
      | (with_reducible exact porticokeep_URL_URL.mono _ _ _ _)
      | (with_reducible exact porticolaw4_URLRuns.mono _)
      | (with_reducible exact porticolaw4_equal.mono _ _ _ _ _)
      | (with_reducible exact url_Parse.mono _ _)
      | (with_reducible exact LeO.refl _)
      | (with_reducible exact LeO.none _)
      | (with_reducible refine LeO.ite ?_ ?_)
      | (with_reducible refine LeO.bind ?_ (fun _ => ?_))
      | exact ih0 _
      | exact porticokeep_URL_URL.mono _ _ _ _
      | exact porticolaw4_URLRuns.mono _
      | exact porticolaw4_equal.mono _ _ _ _ _
      | exact url_Parse.mono _ _
      | exact LeO.none _
      | refine LeO.ite ?_ ?_
      | refine LeO.bind ?_ (fun _ => ?_)
def porticolaw4_URLTurned.T9 : Bool × List (List Nat × List Nat) := (true, [([], []), ([], []), ([0, 1], [0, 1]), ([], []), ([3], [3]), ([4], [4]), ([2, 5], [2, 5]), ([], []), ([], []), ([8], [8]), ([7, 9], [7, 9]), ([6, 10], [6, 10]), ([11, 0, 1, 2, 3, 4, 5, 6, 7, 8, 9, 10, 11], [0, 7, 11])])
def porticolaw4_URLTurned.B9 : List Nat := [0, 0, 3, 0, 8, 24, 63, 0, 0, 256, 896, 2047, 4095]
theorem porticolaw4_URLTurned.tab9 : rtab .any (opsOf Tryd.f5 9) = porticolaw4_URLTurned.T9 := by kernel_rfl
theorem porticolaw4_URLTurned.bits9 : waitsOk porticolaw4_URLTurned.T9.2 porticolaw4_URLTurned.B9 = true := by kernel_rfl
def porticolaw4_URLTurned.T11 : Bool × List (List Nat × List Nat) := (true, [([], []), ([], []), ([0, 1], [0, 1]), ([], []), ([3], [3]), ([4], [4]), ([2, 5], [2, 5]), ([], []), ([], []), ([7, 8], [7, 8]), ([6, 9], [6, 9]), ([10, 0, 1, 2, 3, 4, 5, 6, 7, 8, 9, 10], [0, 7, 10])])
def porticolaw4_URLTurned.B11 : List Nat := [0, 0, 3, 0, 8, 24, 63, 0, 0, 384, 1023, 2047]
theorem porticolaw4_URLTurned.tab11 : rtab .any (opsOf Tryd.f5 11) = porticolaw4_URLTurned.T11 := by kernel_rfl
theorem porticolaw4_URLTurned.bits11 : waitsOk porticolaw4_URLTurned.T11.2 porticolaw4_URLTurned.B11 = true := by kernel_rfl
def porticolaw4_URLTurned.T13 : Bool × List (List Nat × List Nat) := (true, [([], []), ([], []), ([0, 1], [0, 1]), ([], []), ([], []), ([4], [4]), ([3, 5], [3, 5]), ([2, 6], [2, 6]), ([7, 0, 1, 2, 3, 4, 5, 6, 7], [0, 3, 7])])
def porticolaw4_URLTurned.B13 : List Nat := [0, 0, 3, 0, 0, 16, 56, 127, 255]
theorem porticolaw4_URLTurned.tab13 : rtab .any (opsOf Tryd.f5 13) = porticolaw4_URLTurned.T13 := by kernel_rfl
theorem porticolaw4_URLTurned.bits13 : waitsOk porticolaw4_URLTurned.T13.2 porticolaw4_URLTurned.B13 = true := by kernel_rfl
set_option maxHeartbeats 8000000 in
set_option maxRecDepth 100000 in
theorem porticolaw4_URLTurned.calls (k : Nat) (A0_0 : Option Addr) (c0_0 : Nat) (l0_0 : List Int) (A0_1 : Option Addr) (c0_1 : Nat) (l0_1 : List Int) (A0_2 : Option Addr) (c0_2 : Nat) (l0_2 : List Int) (a1 : Int) (a2 : Int) (a3 : Int) (r : Bool) (w : World) (hr0_0 : Kd.C (Kd.int .i64) w A0_0 l0_0.length l0_0) (hc0_0 : l0_0.length ≤ c0_0) (hr0_1 : Kd.C (Kd.int .i64) w A0_1 l0_1.length l0_1) (hc0_1 : l0_1.length ≤ c0_1) (hr0_2 : Kd.C (Kd.int .i64) w A0_2 l0_2.length l0_2) (hc0_2 : l0_2.length ≤ c0_2) (h : porticolaw4_URLTurned.f k l0_0 l0_1 l0_2 a1 a2 a3 = some r) :
    Calls Tryd.prog 5 #[.agg #[.slice A0_0 l0_0.length c0_0, .slice A0_1 l0_1.length c0_1, .slice A0_2 l0_2.length c0_2], .int .i64 a1, .int .u8 a2, .int .i64 a3] w fun e w' => e = .returned (.bool r) ∧ Below w.heap.size w w' := by
  have hu41 := Tryd.underlying41
  have hu25 := Tryd.underlying25
  have HR0_0 := Aside0.mk hr0_0
  have HC0_0 := Aside0.mk hc0_0
  clear hr0_0 hc0_0
  have HR0_1 := Aside0.mk hr0_1
  have HC0_1 := Aside0.mk hc0_1
  clear hr0_1 hc0_1
  have HR0_2 := Aside0.mk hr0_2
  have HC0_2 := Aside0.mk hc0_2
  clear hr0_2 hc0_2
  have HB := Aside0.mk (Below.refl w.heap.size w)
  have H : ((porticokeep_URL_URL.f k l0_0 l0_1 l0_2).bind fun bt218 => ((url_Print.f bt218.1 bt218.2).bind fun t225 => (if (t225.size : Int) < 1 then (none) else ((porticobook_Within.f a1 0 (wrap64 ((t225.size : Int) - 1))).bind fun t226 => ((porticobook_Within.f a3 0 3).bind fun t227 => (if t227 = 0 then (if 0 ≤ t226 then (if t226 ≤ (t225.size : Int) then ((some (([a2] : List Int) : List Int)).bind fun y228 => (if (t225.extract 0 (t226 : Int).toNat).size + (strOfNums y228).size ≤ 9223372036854775807 then (if 0 ≤ (wrap64 (t226 + 1)) then (if (wrap64 (t226 + 1)) ≤ (t225.size : Int) then (if ((t225.extract 0 (t226 : Int).toNat) ++ (strOfNums y228)).size + (t225.extract ((wrap64 (t226 + 1)) : Int).toNat t225.size).size ≤ 9223372036854775807 then (porticolaw4_URLTurned.j0 k (((t225.extract 0 (t226 : Int).toNat) ++ (strOfNums y228)) ++ (t225.extract ((wrap64 (t226 + 1)) : Int).toNat t225.size))) else (none)) else (none)) else (none)) else (none))) else (none)) else (none)) else (if t227 = 1 then (if 0 ≤ t226 then (if t226 ≤ (t225.size : Int) then ((some (([a2] : List Int) : List Int)).bind fun y231 => (if (t225.extract 0 (t226 : Int).toNat).size + (strOfNums y231).size ≤ 9223372036854775807 then (if ((t225.extract 0 (t226 : Int).toNat) ++ (strOfNums y231)).size + (t225.extract (t226 : Int).toNat t225.size).size ≤ 9223372036854775807 then (porticolaw4_URLTurned.j0 k (((t225.extract 0 (t226 : Int).toNat) ++ (strOfNums y231)) ++ (t225.extract (t226 : Int).toNat t225.size))) else (none)) else (none))) else (none)) else (none)) else (if t227 = 2 then (if 0 ≤ t226 then (if t226 ≤ (t225.size : Int) then (if 0 ≤ (wrap64 (t226 + 1)) then (if (wrap64 (t226 + 1)) ≤ (t225.size : Int) then (if (t225.extract 0 (t226 : Int).toNat).size + (t225.extract ((wrap64 (t226 + 1)) : Int).toNat t225.size).size ≤ 9223372036854775807 then (porticolaw4_URLTurned.j0 k ((t225.extract 0 (t226 : Int).toNat) ++ (t225.extract ((wrap64 (t226 + 1)) : Int).toNat t225.size))) else (none)) else (none)) else (none)) else (none)) else (none)) else ((some (([a2] : List Int) : List Int)).bind fun y234 => (if t225.size + (strOfNums y234).size ≤ 9223372036854775807 then (porticolaw4_URLTurned.j0 k (t225 ++ (strOfNums y234))) else (none))))))))))) = some r := h
  clear h
  replace H := Option.bind_eq_some_iff.mp H
  obtain ⟨⟨t218, t221⟩, A50, H⟩ := H
  replace H : ((url_Print.f t218 t221).bind fun t225 => (if (t225.size : Int) < 1 then (none) else ((porticobook_Within.f a1 0 (wrap64 ((t225.size : Int) - 1))).bind fun t226 => ((porticobook_Within.f a3 0 3).bind fun t227 => (if t227 = 0 then (if 0 ≤ t226 then (if t226 ≤ (t225.size : Int) then ((some (([a2] : List Int) : List Int)).bind fun y228 => (if (t225.extract 0 (t226 : Int).toNat).size + (strOfNums y228).size ≤ 9223372036854775807 then (if 0 ≤ (wrap64 (t226 + 1)) then (if (wrap64 (t226 + 1)) ≤ (t225.size : Int) then (if ((t225.extract 0 (t226 : Int).toNat) ++ (strOfNums y228)).size + (t225.extract ((wrap64 (t226 + 1)) : Int).toNat t225.size).size ≤ 9223372036854775807 then (porticolaw4_URLTurned.j0 k (((t225.extract 0 (t226 : Int).toNat) ++ (strOfNums y228)) ++ (t225.extract ((wrap64 (t226 + 1)) : Int).toNat t225.size))) else (none)) else (none)) else (none)) else (none))) else (none)) else (none)) else (if t227 = 1 then (if 0 ≤ t226 then (if t226 ≤ (t225.size : Int) then ((some (([a2] : List Int) : List Int)).bind fun y231 => (if (t225.extract 0 (t226 : Int).toNat).size + (strOfNums y231).size ≤ 9223372036854775807 then (if ((t225.extract 0 (t226 : Int).toNat) ++ (strOfNums y231)).size + (t225.extract (t226 : Int).toNat t225.size).size ≤ 9223372036854775807 then (porticolaw4_URLTurned.j0 k (((t225.extract 0 (t226 : Int).toNat) ++ (strOfNums y231)) ++ (t225.extract (t226 : Int).toNat t225.size))) else (none)) else (none))) else (none)) else (none)) else (if t227 = 2 then (if 0 ≤ t226 then (if t226 ≤ (t225.size : Int) then (if 0 ≤ (wrap64 (t226 + 1)) then (if (wrap64 (t226 + 1)) ≤ (t225.size : Int) then (if (t225.extract 0 (t226 : Int).toNat).size + (t225.extract ((wrap64 (t226 + 1)) : Int).toNat t225.size).size ≤ 9223372036854775807 then (porticolaw4_URLTurned.j0 k ((t225.extract 0 (t226 : Int).toNat) ++ (t225.extract ((wrap64 (t226 + 1)) : Int).toNat t225.size))) else (none)) else (none)) else (none)) else (none)) else (none)) else ((some (([a2] : List Int) : List Int)).bind fun y234 => (if t225.size + (strOfNums y234).size ≤ 9223372036854775807 then (porticolaw4_URLTurned.j0 k (t225 ++ (strOfNums y234))) else (none)))))))))) = some r := H
  have A5 := Aside0.mk A50
  clear A50
  replace H := Option.bind_eq_some_iff.mp H
  obtain ⟨t225, A60, H⟩ := H
  replace H : (if (t225.size : Int) < 1 then (none) else ((porticobook_Within.f a1 0 (wrap64 ((t225.size : Int) - 1))).bind fun t226 => ((porticobook_Within.f a3 0 3).bind fun t227 => (if t227 = 0 then (if 0 ≤ t226 then (if t226 ≤ (t225.size : Int) then ((some (([a2] : List Int) : List Int)).bind fun y228 => (if (t225.extract 0 (t226 : Int).toNat).size + (strOfNums y228).size ≤ 9223372036854775807 then (if 0 ≤ (wrap64 (t226 + 1)) then (if (wrap64 (t226 + 1)) ≤ (t225.size : Int) then (if ((t225.extract 0 (t226 : Int).toNat) ++ (strOfNums y228)).size + (t225.extract ((wrap64 (t226 + 1)) : Int).toNat t225.size).size ≤ 9223372036854775807 then (porticolaw4_URLTurned.j0 k (((t225.extract 0 (t226 : Int).toNat) ++ (strOfNums y228)) ++ (t225.extract ((wrap64 (t226 + 1)) : Int).toNat t225.size))) else (none)) else (none)) else (none)) else (none))) else (none)) else (none)) else (if t227 = 1 then (if 0 ≤ t226 then (if t226 ≤ (t225.size : Int) then ((some (([a2] : List Int) : List Int)).bind fun y231 => (if (t225.extract 0 (t226 : Int).toNat).size + (strOfNums y231).size ≤ 9223372036854775807 then (if ((t225.extract 0 (t226 : Int).toNat) ++ (strOfNums y231)).size + (t225.extract (t226 : Int).toNat t225.size).size ≤ 9223372036854775807 then (porticolaw4_URLTurned.j0 k (((t225.extract 0 (t226 : Int).toNat) ++ (strOfNums y231)) ++ (t225.extract (t226 : Int).toNat t225.size))) else (none)) else (none))) else (none)) else (none)) else (if t227 = 2 then (if 0 ≤ t226 then (if t226 ≤ (t225.size : Int) then (if 0 ≤ (wrap64 (t226 + 1)) then (if (wrap64 (t226 + 1)) ≤ (t225.size : Int) then (if (t225.extract 0 (t226 : Int).toNat).size + (t225.extract ((wrap64 (t226 + 1)) : Int).toNat t225.size).size ≤ 9223372036854775807 then (porticolaw4_URLTurned.j0 k ((t225.extract 0 (t226 : Int).toNat) ++ (t225.extract ((wrap64 (t226 + 1)) : Int).toNat t225.size))) else (none)) else (none)) else (none)) else (none)) else (none)) else ((some (([a2] : List Int) : List Int)).bind fun y234 => (if t225.size + (strOfNums y234).size ≤ 9223372036854775807 then (porticolaw4_URLTurned.j0 k (t225 ++ (strOfNums y234))) else (none))))))))) = some r := H
  have A6 := Aside0.mk A60
  clear A60
  by_cases c7 : (t225.size : Int) < 1
  · rw [if_pos c7] at H
    exact absurd H (by simp)
  · rw [if_neg c7] at H
    have c7b0 : decide ((t225.size : Int) < 1) = false := decide_eq_false c7
    have c7b1 : decide (t225.size < 1) = false := decide_eq_false (by omega)
    clear c7
    replace H := Option.bind_eq_some_iff.mp H
    obtain ⟨t226, A80, H⟩ := H
    replace H : ((porticobook_Within.f a3 0 3).bind fun t227 => (if t227 = 0 then (if 0 ≤ t226 then (if t226 ≤ (t225.size : Int) then ((some (([a2] : List Int) : List Int)).bind fun y228 => (if (t225.extract 0 (t226 : Int).toNat).size + (strOfNums y228).size ≤ 9223372036854775807 then (if 0 ≤ (wrap64 (t226 + 1)) then (if (wrap64 (t226 + 1)) ≤ (t225.size : Int) then (if ((t225.extract 0 (t226 : Int).toNat) ++ (strOfNums y228)).size + (t225.extract ((wrap64 (t226 + 1)) : Int).toNat t225.size).size ≤ 9223372036854775807 then (porticolaw4_URLTurned.j0 k (((t225.extract 0 (t226 : Int).toNat) ++ (strOfNums y228)) ++ (t225.extract ((wrap64 (t226 + 1)) : Int).toNat t225.size))) else (none)) else (none)) else (none)) else (none))) else (none)) else (none)) else (if t227 = 1 then (if 0 ≤ t226 then (if t226 ≤ (t225.size : Int) then ((some (([a2] : List Int) : List Int)).bind fun y231 => (if (t225.extract 0 (t226 : Int).toNat).size + (strOfNums y231).size ≤ 9223372036854775807 then (if ((t225.extract 0 (t226 : Int).toNat) ++ (strOfNums y231)).size + (t225.extract (t226 : Int).toNat t225.size).size ≤ 9223372036854775807 then (porticolaw4_URLTurned.j0 k (((t225.extract 0 (t226 : Int).toNat) ++ (strOfNums y231)) ++ (t225.extract (t226 : Int).toNat t225.size))) else (none)) else (none))) else (none)) else (none)) else (if t227 = 2 then (if 0 ≤ t226 then (if t226 ≤ (t225.size : Int) then (if 0 ≤ (wrap64 (t226 + 1)) then (if (wrap64 (t226 + 1)) ≤ (t225.size : Int) then (if (t225.extract 0 (t226 : Int).toNat).size + (t225.extract ((wrap64 (t226 + 1)) : Int).toNat t225.size).size ≤ 9223372036854775807 then (porticolaw4_URLTurned.j0 k ((t225.extract 0 (t226 : Int).toNat) ++ (t225.extract ((wrap64 (t226 + 1)) : Int).toNat t225.size))) else (none)) else (none)) else (none)) else (none)) else (none)) else ((some (([a2] : List Int) : List Int)).bind fun y234 => (if t225.size + (strOfNums y234).size ≤ 9223372036854775807 then (porticolaw4_URLTurned.j0 k (t225 ++ (strOfNums y234))) else (none))))))) = some r := H
    have A8 := Aside0.mk A80
    clear A80
    replace H := Option.bind_eq_some_iff.mp H
    obtain ⟨t227, A90, H⟩ := H
    replace H : (if t227 = 0 then (if 0 ≤ t226 then (if t226 ≤ (t225.size : Int) then ((some (([a2] : List Int) : List Int)).bind fun y228 => (if (t225.extract 0 (t226 : Int).toNat).size + (strOfNums y228).size ≤ 9223372036854775807 then (if 0 ≤ (wrap64 (t226 + 1)) then (if (wrap64 (t226 + 1)) ≤ (t225.size : Int) then (if ((t225.extract 0 (t226 : Int).toNat) ++ (strOfNums y228)).size + (t225.extract ((wrap64 (t226 + 1)) : Int).toNat t225.size).size ≤ 9223372036854775807 then (porticolaw4_URLTurned.j0 k (((t225.extract 0 (t226 : Int).toNat) ++ (strOfNums y228)) ++ (t225.extract ((wrap64 (t226 + 1)) : Int).toNat t225.size))) else (none)) else (none)) else (none)) else (none))) else (none)) else (none)) else (if t227 = 1 then (if 0 ≤ t226 then (if t226 ≤ (t225.size : Int) then ((some (([a2] : List Int) : List Int)).bind fun y231 => (if (t225.extract 0 (t226 : Int).toNat).size + (strOfNums y231).size ≤ 9223372036854775807 then (if ((t225.extract 0 (t226 : Int).toNat) ++ (strOfNums y231)).size + (t225.extract (t226 : Int).toNat t225.size).size ≤ 9223372036854775807 then (porticolaw4_URLTurned.j0 k (((t225.extract 0 (t226 : Int).toNat) ++ (strOfNums y231)) ++ (t225.extract (t226 : Int).toNat t225.size))) else (none)) else (none))) else (none)) else (none)) else (if t227 = 2 then (if 0 ≤ t226 then (if t226 ≤ (t225.size : Int) then (if 0 ≤ (wrap64 (t226 + 1)) then (if (wrap64 (t226 + 1)) ≤ (t225.size : Int) then (if (t225.extract 0 (t226 : Int).toNat).size + (t225.extract ((wrap64 (t226 + 1)) : Int).toNat t225.size).size ≤ 9223372036854775807 then (porticolaw4_URLTurned.j0 k ((t225.extract 0 (t226 : Int).toNat) ++ (t225.extract ((wrap64 (t226 + 1)) : Int).toNat t225.size))) else (none)) else (none)) else (none)) else (none)) else (none)) else ((some (([a2] : List Int) : List Int)).bind fun y234 => (if t225.size + (strOfNums y234).size ≤ 9223372036854775807 then (porticolaw4_URLTurned.j0 k (t225 ++ (strOfNums y234))) else (none)))))) = some r := H
    have A9 := Aside0.mk A90
    clear A90
    have HC10 := Aside0.mk H
    clear H
    go_enter Tryd.func5, Tryd.ntmps5
    go_upto_block 0 with (first | ((with_reducible refine gate_dst (N := 4) rfl ?_); refine box_event ?hg (N := 4) ?hd (cs := #[.slice A0_0 l0_0.length c0_0, .slice A0_1 l0_1.length c0_1, .slice A0_2 l0_2.length c0_2]) (t := 41) ?hr ?_; (case hd => rfl); (case hg => rfl); (case hr => first | (go_simp; done) | (go_simp; rfl)); intro gb217 hg w11 hbox hb; have n0_ := Aside0.mk (below_step (by repeat (first | (with_reducible first | exact HB.out | apply below_alloc | apply pw_below_drewN | apply below_drew1) | exact HB.out)) hb); have n1_ := Aside0.mk (hbox); have n2_ := Aside0.mk ((by rw [hg]; exact (below_size (by repeat (first | (with_reducible first | exact HB.out | apply below_alloc | apply pw_below_drewN | apply below_drew1) | exact HB.out))) : w.heap.size ≤ gb217)); have n3_ := Aside0.mk ((by rw [hg]; exact (below_size (by repeat (first | (with_reducible first | exact HB.out | apply below_alloc | apply pw_below_drewN | apply below_drew1) | exact HB.out))) : w.heap.size ≤ gb217)); clear HB; have HB := n0_; have BK217 := n1_; have GW217 := n2_; have GE217 := n3_; clear n0_ n1_ n2_ n3_; clear hb hbox hg; have hcz12_0 : w11.cell? ⟨gb217, 0, none⟩ = some (.slice A0_0 l0_0.length c0_0) := (blk_cell BK217.out 0).trans rfl; have hcz12_1 : w11.cell? ⟨gb217, 1, none⟩ = some (.slice A0_1 l0_1.length c0_1) := (blk_cell BK217.out 1).trans rfl; have hcz12_2 : w11.cell? ⟨gb217, 2, none⟩ = some (.slice A0_2 l0_2.length c0_2) := (blk_cell BK217.out 2).trans rfl; have hfz12_0 := blk_frozen BK217.out 0; have hfz12_1 := blk_frozen BK217.out 1; have hfz12_2 := blk_frozen BK217.out 2) | ((with_reducible refine gate_callee (f := 16) rfl ?_); refine goesL_ (some 17) rfl rfl Tryd.func16 (by kernel_rfl) rfl #[.agg #[.slice A0_0 l0_0.length c0_0, .slice A0_1 l0_1.length c0_1, .slice A0_2 l0_2.length c0_2]] rfl (by (try simp only [List.map_toArray, List.map_cons, List.map_nil]); first | done | rfl | (simp only [List.length_drop, List.length_take]; rfl)) ?_; (with_reducible refine (porticokeep_URL_URL.calls k _ _ l0_0 _ _ l0_1 _ _ l0_2 t218 t221 _ ?side1 ?side2 ?side3 ?side4 ?side5 ?side6 A5.out).mono ?_); (case side1 => repeat (first | exact (Kd.C_below HR0_0.out HB.out) | (with_reducible refine Kd.C_alloc ?_ _) | (with_reducible refine Kd.C_drewN ?_ _) | (with_reducible refine Kd.C_drew ?_))); (case side2 => exact HC0_0.out); (case side3 => repeat (first | exact (Kd.C_below HR0_1.out HB.out) | (with_reducible refine Kd.C_alloc ?_ _) | (with_reducible refine Kd.C_drewN ?_ _) | (with_reducible refine Kd.C_drew ?_))); (case side4 => exact HC0_1.out); (case side5 => repeat (first | exact (Kd.C_below HR0_2.out HB.out) | (with_reducible refine Kd.C_alloc ?_ _) | (with_reducible refine Kd.C_drewN ?_ _) | (with_reducible refine Kd.C_drew ?_))); (case side6 => exact HC0_2.out); rintro e w13 ⟨v219, v222, rfl, ho0, ho1, hb⟩; refine ⟨_, rfl, ?_⟩; have n0_ := Aside0.mk (Kd.R_lower ho0 (below_size (by repeat (first | (with_reducible first | exact HB.out | apply below_alloc | apply pw_below_drewN | apply below_drew1 | refine below_set ?_ GE217.out) | exact HB.out)))); have n1_ := Aside0.mk (Kd.R_lower ho1 (below_size (by repeat (first | (with_reducible first | exact HB.out | apply below_alloc | apply pw_below_drewN | apply below_drew1 | refine below_set ?_ GE217.out) | exact HB.out)))); have n2_ := Aside0.mk (blk_below (g := gb217) (o := .cells #[.slice A0_0 l0_0.length c0_0, .slice A0_1 l0_1.length c0_1, .slice A0_2 l0_2.length c0_2] 41 (0, 0)) (by (with_reducible repeat (first | refine blk_drewN ?_ _ | refine blk_drew ?_ | refine blk_alloc ?_ _)); exact BK217.out) hb); have n3_ := Aside0.mk (below_step (by repeat (first | (with_reducible first | exact HB.out | apply below_alloc | apply pw_below_drewN | apply below_drew1 | refine below_set ?_ GE217.out) | exact HB.out)) hb); clear BK217; clear HB; have HO220 := n0_; have HO223 := n1_; have BK217 := n2_; have HB := n3_; clear n0_ n1_ n2_ n3_; (try clear hb); (try clear hb2); (try clear hk); (try clear hi); (try clear ho0); (try clear ho1)) | ((with_reducible refine gate_dst (N := 9) rfl ?_); refine box_event ?hg (N := 9) ?hd (cs := #[.slice none 0 0, .slice none 0 0]) (t := 25) ?hr ?_; (case hd => rfl); (case hg => rfl); (case hr => first | (go_simp; done) | (go_simp; rfl)); intro gb224 hg w14 hbox hb; have n0_ := Aside0.mk (Kd.R_below (by (with_reducible repeat (first | apply Kd.R_alloc | apply Kd.R_drewN | apply Kd.R_drew)); exact HO220.out) hb); have n1_ := Aside0.mk (Kd.R_below (by (with_reducible repeat (first | apply Kd.R_alloc | apply Kd.R_drewN | apply Kd.R_drew)); exact HO223.out) hb); have n2_ := Aside0.mk (blk_below (g := gb217) (o := .cells #[.slice A0_0 l0_0.length c0_0, .slice A0_1 l0_1.length c0_1, .slice A0_2 l0_2.length c0_2] 41 (0, 0)) (by (with_reducible repeat (first | refine blk_drewN ?_ _ | refine blk_drew ?_ | refine blk_alloc ?_ _)); exact BK217.out) hb); have n3_ := Aside0.mk (below_step (by repeat (first | (with_reducible first | exact HB.out | apply below_alloc | apply pw_below_drewN | apply below_drew1 | refine below_set ?_ GE217.out) | exact HB.out)) hb); have n4_ := Aside0.mk (hbox); have n5_ := Aside0.mk ((by rw [hg]; exact (below_size (by repeat (first | (with_reducible first | exact HB.out | apply below_alloc | apply pw_below_drewN | apply below_drew1 | refine below_set ?_ GE217.out) | exact HB.out))) : w.heap.size ≤ gb224)); have n6_ := Aside0.mk ((by rw [hg]; exact (below_size (by repeat (first | (with_reducible first | exact HB.out | apply below_alloc | apply pw_below_drewN | apply below_drew1 | refine below_set ?_ GE217.out) | exact HB.out))) : w.heap.size ≤ gb224)); have n7_ := Aside0.mk ((by rw [hg]; exact Nat.ne_of_lt (blk_lt (g := gb217) (o := .cells #[.slice A0_0 l0_0.length c0_0, .slice A0_1 l0_1.length c0_1, .slice A0_2 l0_2.length c0_2] 41 (0, 0)) (by (with_reducible repeat (first | refine blk_drewN ?_ _ | refine blk_drew ?_ | refine blk_alloc ?_ _)); exact BK217.out)) : gb217 ≠ gb224)); have n8_ := Aside0.mk ((by rw [hg]; exact Nat.ne_of_gt (blk_lt (g := gb217) (o := .cells #[.slice A0_0 l0_0.length c0_0, .slice A0_1 l0_1.length c0_1, .slice A0_2 l0_2.length c0_2] 41 (0, 0)) (by (with_reducible repeat (first | refine blk_drewN ?_ _ | refine blk_drew ?_ | refine blk_alloc ?_ _)); exact BK217.out)) : gb224 ≠ gb217)); clear HO220; clear HO223; clear BK217; clear HB; have HO220 := n0_; have HO223 := n1_; have BK217 := n2_; have HB := n3_; have BK224 := n4_; have GW224 := n5_; have GE224 := n6_; have NB217_224 := n7_; have NB224_217 := n8_; clear n0_ n1_ n2_ n3_ n4_ n5_ n6_ n7_ n8_; clear hb hbox hg; obtain ⟨Ao15, co15, eo15⟩ := Kd.R_slice HO220.out; subst eo15; have hnb16 := NB224_217.out; have hnc16 := NB217_224.out; have hcz17_0 : w14.cell? ⟨gb224, 0, none⟩ = some (.slice none 0 0) := (blk_cell BK224.out 0).trans rfl; have hcz17_1 : w14.cell? ⟨gb224, 1, none⟩ = some (.slice none 0 0) := (blk_cell BK224.out 1).trans rfl; have hfz17_0 := blk_frozen BK224.out 0; have hfz17_1 := blk_frozen BK224.out 1; obtain ⟨Ao18, co18, eo18⟩ := Kd.R_slice HO223.out; subst eo18) | ((with_reducible refine gate_callee (f := 12) rfl ?_); refine goesL_ (some 19) rfl rfl Tryd.func12 (by kernel_rfl) rfl #[.agg #[.slice Ao15 t218.length co15, .slice Ao18 t221.length co18]] rfl (by (try simp only [List.map_toArray, List.map_cons, List.map_nil]); first | done | rfl | (simp only [List.length_drop, List.length_take]; rfl)) ?_; (with_reducible refine (url_Print.calls _ _ t218 _ _ t221 t225 _ ?side1 ?side2 ?side3 ?side4 A6.out).mono ?_); (case side1 => refine (Kd.R_reads' (e := 9) (base := w.heap.size) (ok := fun k_ => True) (n := t218.length) (c := co15) ?_).2.2; exact (by (with_reducible repeat (first | apply Kd.R_alloc | apply Kd.R_drewN | apply Kd.R_drew)); exact (Kd.R_mono (Kd.R_far (p := ⟨gb224, 1, none⟩) (Kd.R_far (p := ⟨gb224, 0, none⟩) (Kd.R_types HO220.out BK224.out (by decide)) (fun _ hk => hk.2) (.slice Ao15 t218.length co15)) (fun _ hk => hk.2) (.slice Ao18 t221.length co18)) (fun _ h_ => h_.1)))); (case side2 => exact (Kd.R_reads' HO220.out).2.1); (case side3 => refine (Kd.R_reads' (e := 32) (base := w.heap.size) (ok := fun k_ => True) (n := t221.length) (c := co18) ?_).2.2; exact (by (with_reducible repeat (first | apply Kd.R_alloc | apply Kd.R_drewN | apply Kd.R_drew)); exact (Kd.R_mono (Kd.R_far (p := ⟨gb224, 1, none⟩) (Kd.R_far (p := ⟨gb224, 0, none⟩) (Kd.R_types HO223.out BK224.out (by decide)) (fun _ hk => hk.2) (.slice Ao15 t218.length co15)) (fun _ hk => hk.2) (.slice Ao18 t221.length co18)) (fun _ h_ => h_.1)))); (case side4 => exact (Kd.R_reads' HO223.out).2.1); rintro e w19 ⟨rfl, hb⟩; refine ⟨_, rfl, ?_⟩; have n0_ := Aside0.mk (Kd.R_below (by (with_reducible repeat (first | apply Kd.R_alloc | apply Kd.R_drewN | apply Kd.R_drew)); exact (Kd.R_mono (Kd.R_far (p := ⟨gb224, 1, none⟩) (Kd.R_far (p := ⟨gb224, 0, none⟩) (Kd.R_types HO220.out BK224.out (by decide)) (fun _ hk => hk.2) (.slice Ao15 t218.length co15)) (fun _ hk => hk.2) (.slice Ao18 t221.length co18)) (fun _ h_ => h_.1))) hb); have n1_ := Aside0.mk (Kd.R_below (by (with_reducible repeat (first | apply Kd.R_alloc | apply Kd.R_drewN | apply Kd.R_drew)); exact (Kd.R_mono (Kd.R_far (p := ⟨gb224, 1, none⟩) (Kd.R_far (p := ⟨gb224, 0, none⟩) (Kd.R_types HO223.out BK224.out (by decide)) (fun _ hk => hk.2) (.slice Ao15 t218.length co15)) (fun _ hk => hk.2) (.slice Ao18 t221.length co18)) (fun _ h_ => h_.1))) hb); have n2_ := Aside0.mk (blk_below (g := gb217) (o := .cells #[.slice A0_0 l0_0.length c0_0, .slice A0_1 l0_1.length c0_1, .slice A0_2 l0_2.length c0_2] 41 (0, 0)) (by (with_reducible repeat (first | refine blk_drewN ?_ _ | refine blk_drew ?_ | refine blk_alloc ?_ _)); refine blk_far ?_ NB217_224.out _; (with_reducible repeat (first | refine blk_drewN ?_ _ | refine blk_drew ?_ | refine blk_alloc ?_ _)); refine blk_far ?_ NB217_224.out _; (with_reducible repeat (first | refine blk_drewN ?_ _ | refine blk_drew ?_ | refine blk_alloc ?_ _)); exact BK217.out) hb); have n3_ := Aside0.mk (blk_below (g := gb224) (o := .cells #[.slice Ao15 t218.length co15, .slice Ao18 t221.length co18] 25 (0, 0)) (by (with_reducible repeat (first | refine blk_drewN ?_ _ | refine blk_drew ?_ | refine blk_alloc ?_ _)); refine blk_put (cs := #[.slice Ao15 t218.length co15, .slice none 0 0]) ?_ 1 _ rfl; (with_reducible repeat (first | refine blk_drewN ?_ _ | refine blk_drew ?_ | refine blk_alloc ?_ _)); refine blk_put (cs := #[.slice none 0 0, .slice none 0 0]) ?_ 0 _ rfl; (with_reducible repeat (first | refine blk_drewN ?_ _ | refine blk_drew ?_ | refine blk_alloc ?_ _)); exact BK224.out) hb); have n4_ := Aside0.mk (below_step (by repeat (first | (with_reducible first | exact HB.out | apply below_alloc | apply pw_below_drewN | apply below_drew1 | refine below_set ?_ GE217.out | refine below_set ?_ GE224.out) | exact HB.out)) hb); clear HO220; clear HO223; clear BK217; clear BK224; clear HB; have HO220 := n0_; have HO223 := n1_; have BK217 := n2_; have BK224 := n3_; have HB := n4_; clear n0_ n1_ n2_ n3_ n4_; (try clear hb); (try clear hb2); (try clear hk); (try clear hi)) | ((with_reducible refine gate_callee (f := 17) rfl ?_); refine goesL_ (some 27) rfl rfl Tryd.func17 (by kernel_rfl) rfl #[.int .i64 a1, .int .i64 0, .int .i64 (wrap64 ((t225.size : Int) - 1))] rfl (by (try simp only [List.map_toArray, List.map_cons, List.map_nil]); first | done | rfl | (simp only [List.length_drop, List.length_take]; rfl)) ?_; (with_reducible refine (porticobook_Within.calls a1 0 (wrap64 ((t225.size : Int) - 1)) t226 _ A8.out).mono ?_); rintro e w' ⟨rfl, ⟨nda_, rfl⟩⟩; refine ⟨_, rfl, ?_⟩) | ((with_reducible refine gate_callee (f := 17) rfl ?_); refine goesL_ (some 29) rfl rfl Tryd.func17 (by kernel_rfl) rfl #[.int .i64 a3, .int .i64 0, .int .i64 3] rfl (by (try simp only [List.map_toArray, List.map_cons, List.map_nil]); first | done | rfl | (simp only [List.length_drop, List.length_take]; rfl)) ?_; (with_reducible refine (porticobook_Within.calls a3 0 3 t227 _ A9.out).mono ?_); rintro e w' ⟨rfl, ⟨nd, rfl⟩⟩; refine ⟨_, rfl, ?_⟩))
    (try simp only [Act.put, List.setIfInBounds_toArray, List.set_cons_zero, List.set_cons_succ])
    go_cut [10] (fun v10 wc => ∃ (kq : Nat) (x10_9 : ByteArray), v10 = .string x10_9 ∧ Aside0 (porticolaw4_URLTurned.j0 kq x10_9 = some r) ∧ Aside0 (kq ≤ k) ∧ Aside0 (Kd.R Kd.string 9 wc w.heap.size (fun _ => True) (.slice Ao15 t218.length co15) t218) ∧ Aside0 (Kd.R k32 32 wc w.heap.size (fun _ => True) (.slice Ao18 t221.length co18) t221) ∧ Aside0 (wc.heap[gb217]? = some (.cells #[(.slice A0_0 l0_0.length c0_0), (.slice A0_1 l0_1.length c0_1), (.slice A0_2 l0_2.length c0_2)] 41 (0, 0))) ∧ Aside0 (wc.heap[gb224]? = some (.cells #[(.slice Ao15 t218.length co15), (.slice Ao18 t221.length co18)] 25 (0, 0))) ∧ Aside0 (Below w.heap.size w wc))
    case first =>
      have H := HC10.out
      clear HC10
      by_cases c20 : t227 = 0
      · rw [if_pos c20] at H
        have c20b0 : (t227 == 0) = true := beq_iff_eq.mpr c20
        have c20b1 : (t227 != 0) = false := bne_eq_false_iff_eq.mpr c20
        clear c20
        (first | rw [c20b0] | (simp only [i64_w, i32_w]; rw [c20b0]) | rw [c20b1] | skip)
        by_cases c21 : 0 ≤ t226
        · rw [if_pos c21] at H
          have c21b0 := eq_true c21
          have c21b1 : decide (0 ≤ t226) = true := decide_eq_true c21
          clear c21
          by_cases c22 : t226 ≤ (t225.size : Int)
          · rw [if_pos c22] at H
            have c22b0 := eq_true c22
            have c22b1 : decide (t226 ≤ (t225.size : Int)) = true := decide_eq_true c22
            clear c22
            obtain ⟨y228, hy228⟩ : ∃ y_ : List Int, y_ = (([a2] : List Int)) := ⟨_, rfl⟩
            replace H : (if (t225.extract 0 (t226 : Int).toNat).size + (strOfNums y228).size ≤ 9223372036854775807 then (if 0 ≤ (wrap64 (t226 + 1)) then (if (wrap64 (t226 + 1)) ≤ (t225.size : Int) then (if ((t225.extract 0 (t226 : Int).toNat) ++ (strOfNums y228)).size + (t225.extract ((wrap64 (t226 + 1)) : Int).toNat t225.size).size ≤ 9223372036854775807 then (porticolaw4_URLTurned.j0 k (((t225.extract 0 (t226 : Int).toNat) ++ (strOfNums y228)) ++ (t225.extract ((wrap64 (t226 + 1)) : Int).toNat t225.size))) else (none)) else (none)) else (none)) else (none)) = some r := by first | (rw [hy228]; with_reducible exact H) | (have H2_ := (Option.bind_some _ _).symm.trans H; rw [hy228]; with_reducible exact H2_) | (have H2_ := (Option.bind_some _ _).symm.trans H; with_reducible exact H2_) | with_reducible exact H | (rw [hy228]; exact H) | exact H
            have Ny228 := Aside0.mk hy228
            clear hy228
            by_cases c23 : (t225.extract 0 (t226 : Int).toNat).size + (strOfNums y228).size ≤ 9223372036854775807
            · rw [if_pos c23] at H
              have c23b0 := eq_true c23
              have c23b1 : decide ((t225.extract 0 (t226 : Int).toNat).size + (strOfNums y228).size ≤ 9223372036854775807) = true := decide_eq_true c23
              try have c23b2 : (9223372036854775807 < (t225.extract 0 (t226 : Int).toNat).size + (strOfNums y228).size) = False := eq_false (Nat.not_lt.2 c23)
              try have c23b4 : (9223372036854775807 < t226.toNat + (strOfNums y228).size) = False := eq_false (by have h_ := c23; have q_ : t226 ≤ (t225.size : Int) := of_decide_eq_true (by assumption); simp only [ByteArray.size_append, ByteArray.size_extract] at h_; omega)
              obtain ⟨ji24, hji24⟩ : ∃ j_ : Int, (wrap64 (t226 + 1)) = j_ := ⟨_, rfl⟩
              replace H : (if 0 ≤ (ji24) then (if (ji24) ≤ (t225.size : Int) then (if ((t225.extract 0 (t226 : Int).toNat) ++ (strOfNums y228)).size + (t225.extract ((ji24) : Int).toNat t225.size).size ≤ 9223372036854775807 then (porticolaw4_URLTurned.j0 k (((t225.extract 0 (t226 : Int).toNat) ++ (strOfNums y228)) ++ (t225.extract ((ji24) : Int).toNat t225.size))) else (none)) else (none)) else (none)) = some r := by first | (rw [hji24] at H; exact H) | (simp only [hji24] at H ⊢; exact H)
              have hji24w : (IntKind.i64.wrap (t226 + 1)) = ji24 := (i64_w _).trans hji24
              by_cases c25 : 0 ≤ (ji24)
              · rw [if_pos c25] at H
                have c25b0 := eq_true c25
                have c25b1 : decide (0 ≤ (ji24)) = true := decide_eq_true c25
                clear c25
                by_cases c26 : (ji24) ≤ (t225.size : Int)
                · rw [if_pos c26] at H
                  have c26b0 := eq_true c26
                  have c26b1 : decide ((ji24) ≤ (t225.size : Int)) = true := decide_eq_true c26
                  clear c26
                  by_cases c27 : ((t225.extract 0 (t226 : Int).toNat) ++ (strOfNums y228)).size + (t225.extract ((ji24) : Int).toNat t225.size).size ≤ 9223372036854775807
                  · rw [if_pos c27] at H
                    have c27b0 := eq_true c27
                    have c27b1 : decide (((t225.extract 0 (t226 : Int).toNat) ++ (strOfNums y228)).size + (t225.extract ((ji24) : Int).toNat t225.size).size ≤ 9223372036854775807) = true := decide_eq_true c27
                    try have c27b2 : (9223372036854775807 < ((t225.extract 0 (t226 : Int).toNat) ++ (strOfNums y228)).size + (t225.extract ((ji24) : Int).toNat t225.size).size) = False := eq_false (Nat.not_lt.2 c27)
                    try have c27b4 : (9223372036854775807 < t226.toNat + (strOfNums y228).size + (t225.size - ji24.toNat)) = False := eq_false (by have h_ := c27; have q_ : t226 ≤ (t225.size : Int) := of_decide_eq_true (by assumption); simp only [ByteArray.size_append, ByteArray.size_extract] at h_; omega)
                    have H' := Aside0.mk H
                    clear H
                    try go_wp2
                    have m0_ := Aside0.mk (Kd.R_drewN HO220.out (nda_ + nd))
                    have m1_ := Aside0.mk (Kd.R_drewN HO223.out (nda_ + nd))
                    have m2_ := Aside0.mk (blk_drewN BK217.out (nda_ + nd))
                    have m3_ := Aside0.mk (blk_drewN BK224.out (nda_ + nd))
                    have m4_ := Aside0.mk (pw_below_drewN HB.out (nda_ + nd))
                    clear HO220 HO223 BK217 BK224 HB
                    have HO220 := m0_
                    have HO223 := m1_
                    have BK217 := m2_
                    have BK224 := m3_
                    have HB := m4_
                    clear m0_ m1_ m2_ m3_ m4_
                    generalize w19.drewN (nda_ + nd) = wq19 at HO220 HO223 BK217 BK224 HB ⊢
                    have n0_ := Aside0.mk (Kd.R_drew HO220.out)
                    have n1_ := Aside0.mk (Kd.R_drew HO223.out)
                    have n2_ := Aside0.mk (blk_drew BK217.out)
                    have n3_ := Aside0.mk (blk_drew BK224.out)
                    have n4_ := Aside0.mk (below_drew1 HB.out)
                    clear HO220
                    clear HO223
                    clear BK217
                    clear BK224
                    clear HB
                    have HO220 := n0_
                    have HO223 := n1_
                    have BK217 := n2_
                    have BK224 := n3_
                    have HB := n4_
                    clear n0_ n1_ n2_ n3_ n4_
                    refine start_ (n := 13) (S := fun w' => True) (ds := []) #[false, false, false, false, false, false, false, false, false, false, false, false, false] (by kernel_rfl) rfl rfl trivial (fun hHeld => ?_); refine with_tabW porticolaw4_URLTurned.tab9 porticolaw4_URLTurned.bits9 (fun HT_ HW_ => ?_)
                    generalize wq19.drew = w28 at HO220 HO223 BK217 BK224 HB hHeld ⊢
                    refine pure_ (i := 0) (N := some 37) (v := ?_) (a' := ?_) #[true, false, false, false, false, false, false, false, false, false, false, false, false] rfl rfl (any_of HT_.out (by kernel_rfl)) (fun _ _ _ h => h) (Or.inl ⟨by rfl, ?_⟩) ?_ ?_
                    rotate_left
                    · intro w'
                      go_simp
                      with_reducible rfl
                    rotate_left
                    · simp only [Act.put, List.setIfInBounds_toArray, List.set_cons_zero, List.set_cons_succ, i64_w, i32_w]
                      rfl
                    refine pure_ (i := 1) (N := some 38) (v := ?_) (a' := ?_) #[true, true, false, false, false, false, false, false, false, false, false, false, false] rfl rfl (any_of HT_.out (by kernel_rfl)) (fun _ _ _ h => h) (Or.inl ⟨by rfl, ?_⟩) ?_ ?_
                    rotate_left
                    · intro w'
                      go_simp
                      with_reducible rfl
                    rotate_left
                    · simp only [Act.put, List.setIfInBounds_toArray, List.set_cons_zero, List.set_cons_succ, i64_w, i32_w]
                      rfl
                    refine pure_ (i := 2) (N := some 39) (v := ?_) (a' := ?_) #[true, true, true, false, false, false, false, false, false, false, false, false, false] rfl rfl (any_of HT_.out (by kernel_rfl)) (fun _ _ _ h => h) (Or.inl ⟨by rfl, ?_⟩) ?_ ?_
                    rotate_left
                    · intro w'
                      go_simp
                      with_reducible rfl
                    rotate_left
                    · simp only [Act.put, List.setIfInBounds_toArray, List.set_cons_zero, List.set_cons_succ, i64_w, i32_w]
                      rfl
                    refine pure_ (i := 3) (N := some 40) (v := ?_) (a' := ?_) #[true, true, true, true, false, false, false, false, false, false, false, false, false] rfl rfl (any_of HT_.out (by kernel_rfl)) (fun _ _ _ h => h) (Or.inl ⟨by rfl, ?_⟩) ?_ ?_
                    rotate_left
                    · intro w'
                      go_simp
                      with_reducible rfl
                    rotate_left
                    · simp only [Act.put, List.setIfInBounds_toArray, List.set_cons_zero, List.set_cons_succ, i64_w, i32_w]
                      rfl
                    refine pure_ (i := 7) (N := some 44) (v := ?_) (a' := ?_) #[true, true, true, true, false, false, false, true, false, false, false, false, false] rfl rfl (any_of HT_.out (by kernel_rfl)) (fun _ _ _ h => h) (Or.inl ⟨by rfl, ?_⟩) ?_ ?_
                    rotate_left
                    · intro w'
                      go_simp
                      with_reducible rfl
                    rotate_left
                    · simp only [Act.put, List.setIfInBounds_toArray, List.set_cons_zero, List.set_cons_succ, i64_w, i32_w]
                      rfl
                    refine pure_ (i := 8) (N := some 45) (v := ?_) (a' := ?_) #[true, true, true, true, false, false, false, true, true, false, false, false, false] rfl rfl (any_of HT_.out (by kernel_rfl)) (fun _ _ _ h => h) (Or.inl ⟨by rfl, ?_⟩) ?_ ?_
                    rotate_left
                    · intro w'
                      go_simp
                      with_reducible rfl
                    rotate_left
                    · simp only [Act.put, List.setIfInBounds_toArray, List.set_cons_zero, List.set_cons_succ, i64_w, i32_w]
                      rfl
                    refine pure_ (i := 9) (N := some 46) (v := ?_) (a' := ?_) #[true, true, true, true, false, false, false, true, true, true, false, false, false] rfl rfl (any_of HT_.out (by kernel_rfl)) (fun _ _ _ h => h) (Or.inl ⟨by rfl, ?_⟩) ?_ ?_
                    rotate_left
                    · intro w'
                      go_simp
                      with_reducible rfl
                    rotate_left
                    · simp only [Act.put, List.setIfInBounds_toArray, List.set_cons_zero, List.set_cons_succ, i64_w, i32_w]
                      rfl
                    refine pure_ (i := 10) (N := some 47) (v := ?_) (a' := ?_) #[true, true, true, true, false, false, false, true, true, true, true, false, false] rfl rfl (any_of HT_.out (by kernel_rfl)) (fun _ _ _ h => h) (Or.inl ⟨by rfl, ?_⟩) ?_ ?_
                    rotate_left
                    · intro w'
                      go_simp
                      with_reducible rfl
                    rotate_left
                    · simp only [Act.put, List.setIfInBounds_toArray, List.set_cons_zero, List.set_cons_succ, i64_w, i32_w]
                      rfl
                    refine one_ (i := 4) (N := some 41) #[true, true, true, true, true, false, false, true, true, true, true, false, false] rfl rfl (one_of HT_.out (by kernel_rfl)) (by decide) (fun K hK => ?_)
                    refine Kd.R_lit_step (Kd.int .u8) _ 5 ?hg (N := 41) ?hd (xs := ([a2] : List Int)) (inner := [.int .u8 a2]) (ok := fun _ => True) (okp := fun _ => True) ?hr ?hp (fun _ hk => hk) trivial (Below.refl _ _) (Nat.le_refl _) (by simp) ?_; (case hd => rfl); (case hg => rfl); (case hr => first | (go_simp; done) | (go_simp; rfl)); (case hp => exact (Reps.one (show Kd.M (Kd.int .u8) _ _ _ a2 [.int .u8 a2] from rfl) (Reps.none _ _)))
                    intro v229 w29 ho30 hb hg_ hnew_
                    clear hg_ hnew_
                    (first | rw [← Ny228.out] at ho30 | (simp only [Int.reduceToNat] at ho30; rw [← Ny228.out] at ho30))
                    have n0_ := Aside0.mk (Kd.R_below (by (with_reducible repeat (first | apply Kd.R_alloc | apply Kd.R_drewN | apply Kd.R_drew)); exact HO220.out) hb)
                    have n1_ := Aside0.mk (Kd.R_below (by (with_reducible repeat (first | apply Kd.R_alloc | apply Kd.R_drewN | apply Kd.R_drew)); exact HO223.out) hb)
                    have n2_ := Aside0.mk (Kd.R_lower ho30 (below_size (by repeat (first | (with_reducible first | exact HB.out | apply below_alloc | apply pw_below_drewN | apply below_drew1 | refine below_set ?_ GE217.out | refine below_set ?_ GE224.out) | exact HB.out))))
                    have n3_ := Aside0.mk (blk_below (g := gb217) (o := .cells #[.slice A0_0 l0_0.length c0_0, .slice A0_1 l0_1.length c0_1, .slice A0_2 l0_2.length c0_2] 41 (0, 0)) (by (with_reducible repeat (first | refine blk_drewN ?_ _ | refine blk_drew ?_ | refine blk_alloc ?_ _)); exact BK217.out) hb)
                    have n4_ := Aside0.mk (blk_below (g := gb224) (o := .cells #[.slice Ao15 t218.length co15, .slice Ao18 t221.length co18] 25 (0, 0)) (by (with_reducible repeat (first | refine blk_drewN ?_ _ | refine blk_drew ?_ | refine blk_alloc ?_ _)); exact BK224.out) hb)
                    have n5_ := Aside0.mk (below_step (by repeat (first | (with_reducible first | exact HB.out | apply below_alloc | apply pw_below_drewN | apply below_drew1 | refine below_set ?_ GE217.out | refine below_set ?_ GE224.out) | exact HB.out)) hb)
                    clear HO220
                    clear HO223
                    clear BK217
                    clear BK224
                    clear HB
                    have HO220 := n0_
                    have HO223 := n1_
                    have HO230 := n2_
                    have BK217 := n3_
                    have BK224 := n4_
                    have HB := n5_
                    clear n0_ n1_ n2_ n3_ n4_ n5_
                    clear hb ho30
                    refine hK.out _ _ trivial (fun hHeld => ?_)
                    clear hK K
                    refine norm_ (a' := ?_) ?_ ?_
                    rotate_left
                    · show Act.put _ (some 41) _ = _
                      simp only [Act.put, List.setIfInBounds_toArray, List.set_cons_zero, List.set_cons_succ, i64_w, i32_w]
                      rfl
                    refine one_ (i := 5) (N := some 42) #[true, true, true, true, true, true, false, true, true, true, true, false, false] rfl rfl (one_of HT_.out (by kernel_rfl)) (by decide) (fun K hK => ?_)
                    have hcv31 := own_string (P := Tryd.prog) Tryd.underlying44 Tryd.underlying5 Tryd.underlying9 (Kd.own_of_R HO230.out)
                    refine value_ (w1 := ?_) (v := ?_) (by rfl) rfl ?_ ?_
                    rotate_left 2
                    · go_simp
                      constructor
                      · rfl
                      · rfl
                    clear hcv31
                    refine hK.out _ _ trivial (fun hHeld => ?_)
                    clear hK K
                    refine norm_ (a' := ?_) ?_ ?_
                    rotate_left
                    · show Act.put _ (some 42) _ = _
                      simp only [Act.put, List.setIfInBounds_toArray, List.set_cons_zero, List.set_cons_succ, i64_w, i32_w]
                      rfl
                    refine pure_ (i := 6) (N := some 43) (v := ?_) (a' := ?_) #[true, true, true, true, true, true, true, true, true, true, true, false, false] rfl rfl (any_of HT_.out (by kernel_rfl)) (fun _ _ _ h => h) (Or.inl ⟨by rfl, ?_⟩) ?_ ?_
                    rotate_left
                    · intro w'
                      go_simp
                      with_reducible rfl
                    rotate_left
                    · simp only [Act.put, List.setIfInBounds_toArray, List.set_cons_zero, List.set_cons_succ, i64_w, i32_w]
                      rfl
                    refine pure_ (i := 11) (N := some 48) (v := ?_) (a' := ?_) #[true, true, true, true, true, true, true, true, true, true, true, true, false] rfl rfl (any_of HT_.out (by kernel_rfl)) (fun _ _ _ h => h) (Or.inl ⟨by rfl, ?_⟩) ?_ ?_
                    rotate_left
                    · intro w'
                      go_simp
                      with_reducible rfl
                    rotate_left
                    · simp only [Act.put, List.setIfInBounds_toArray, List.set_cons_zero, List.set_cons_succ, i64_w, i32_w]
                      rfl
                    refine pure_ (i := 12) (N := some 10) (v := ?_) (a' := ?_) #[true, true, true, true, true, true, true, true, true, true, true, true, true] rfl rfl (any_of HT_.out (by kernel_rfl)) (fun _ _ _ h => h) (Or.inl ⟨by rfl, ?_⟩) ?_ ?_
                    rotate_left
                    · intro w'
                      go_simp
                      with_reducible rfl
                    rotate_left
                    · simp only [Act.put, List.setIfInBounds_toArray, List.set_cons_zero, List.set_cons_succ, i64_w, i32_w]
                      rfl
                    refine done_ (done_of HT_.out (by kernel_rfl)) ?_
                    try go_wp2
                    go_meet
                    case rel => exact ⟨_, (((t225.extract 0 (t226 : Int).toNat) ++ (strOfNums y228)) ++ (t225.extract ((ji24) : Int).toNat t225.size)), (by first | rfl | (simp; done) | (simp only [← hji24] <;> (first | rfl | simp)) | (simp [*]; done)), H', ⟨by first | omega | exact Nat.le_refl _⟩, ⟨by (with_reducible repeat (first | apply Kd.R_alloc | apply Kd.R_drewN | apply Kd.R_drew)); exact HO220.out⟩, ⟨by (with_reducible repeat (first | apply Kd.R_alloc | apply Kd.R_drewN | apply Kd.R_drew)); exact HO223.out⟩, ⟨by (with_reducible repeat (first | refine blk_drewN ?_ _ | refine blk_drew ?_ | refine blk_alloc ?_ _)); exact BK217.out⟩, ⟨by (with_reducible repeat (first | refine blk_drewN ?_ _ | refine blk_drew ?_ | refine blk_alloc ?_ _)); exact BK224.out⟩, ⟨by repeat (first | (with_reducible first | exact HB.out | apply below_alloc | apply pw_below_drewN | apply below_drew1 | refine below_set ?_ GE217.out | refine below_set ?_ GE224.out) | exact HB.out)⟩⟩
                  · rw [if_neg c27] at H
                    exact absurd H (by simp)
                · rw [if_neg c26] at H
                  exact absurd H (by simp)
              · rw [if_neg c25] at H
                exact absurd H (by simp)
            · rw [if_neg c23] at H
              exact absurd H (by simp)
          · rw [if_neg c22] at H
            exact absurd H (by simp)
        · rw [if_neg c21] at H
          exact absurd H (by simp)
      · rw [if_neg c20] at H
        have c20b0 : (t227 == 0) = false := beq_eq_false_iff_ne.mpr c20
        have c20b1 : (t227 != 0) = true := bne_iff_ne.mpr c20
        (first | rw [c20b0] | (simp only [i64_w, i32_w]; rw [c20b0]) | rw [c20b1] | skip)
        by_cases c32 : t227 = 1
        · rw [if_pos c32] at H
          have c32b0 : (t227 == 1) = true := beq_iff_eq.mpr c32
          have c32b1 : (t227 != 1) = false := bne_eq_false_iff_eq.mpr c32
          clear c32
          by_cases c33 : 0 ≤ t226
          · rw [if_pos c33] at H
            have c33b0 := eq_true c33
            have c33b1 : decide (0 ≤ t226) = true := decide_eq_true c33
            clear c33
            by_cases c34 : t226 ≤ (t225.size : Int)
            · rw [if_pos c34] at H
              have c34b0 := eq_true c34
              have c34b1 : decide (t226 ≤ (t225.size : Int)) = true := decide_eq_true c34
              clear c34
              obtain ⟨y231, hy231⟩ : ∃ y_ : List Int, y_ = (([a2] : List Int)) := ⟨_, rfl⟩
              replace H : (if (t225.extract 0 (t226 : Int).toNat).size + (strOfNums y231).size ≤ 9223372036854775807 then (if ((t225.extract 0 (t226 : Int).toNat) ++ (strOfNums y231)).size + (t225.extract (t226 : Int).toNat t225.size).size ≤ 9223372036854775807 then (porticolaw4_URLTurned.j0 k (((t225.extract 0 (t226 : Int).toNat) ++ (strOfNums y231)) ++ (t225.extract (t226 : Int).toNat t225.size))) else (none)) else (none)) = some r := by first | (rw [hy231]; with_reducible exact H) | (have H2_ := (Option.bind_some _ _).symm.trans H; rw [hy231]; with_reducible exact H2_) | (have H2_ := (Option.bind_some _ _).symm.trans H; with_reducible exact H2_) | with_reducible exact H | (rw [hy231]; exact H) | exact H
              have Ny231 := Aside0.mk hy231
              clear hy231
              by_cases c35 : (t225.extract 0 (t226 : Int).toNat).size + (strOfNums y231).size ≤ 9223372036854775807
              · rw [if_pos c35] at H
                have c35b0 := eq_true c35
                have c35b1 : decide ((t225.extract 0 (t226 : Int).toNat).size + (strOfNums y231).size ≤ 9223372036854775807) = true := decide_eq_true c35
                try have c35b2 : (9223372036854775807 < (t225.extract 0 (t226 : Int).toNat).size + (strOfNums y231).size) = False := eq_false (Nat.not_lt.2 c35)
                try have c35b4 : (9223372036854775807 < t226.toNat + (strOfNums y231).size) = False := eq_false (by have h_ := c35; have q_ : t226 ≤ (t225.size : Int) := of_decide_eq_true (by assumption); simp only [ByteArray.size_append, ByteArray.size_extract] at h_; omega)
                have c36b0 := eq_true (of_decide_eq_true (by first | (with_reducible assumption) | assumption) : 0 ≤ t226)
                have c37b0 := eq_true (of_decide_eq_true (by first | (with_reducible assumption) | assumption) : t226 ≤ (t225.size : Int))
                by_cases c38 : ((t225.extract 0 (t226 : Int).toNat) ++ (strOfNums y231)).size + (t225.extract (t226 : Int).toNat t225.size).size ≤ 9223372036854775807
                · rw [if_pos c38] at H
                  have c38b0 := eq_true c38
                  have c38b1 : decide (((t225.extract 0 (t226 : Int).toNat) ++ (strOfNums y231)).size + (t225.extract (t226 : Int).toNat t225.size).size ≤ 9223372036854775807) = true := decide_eq_true c38
                  try have c38b2 : (9223372036854775807 < ((t225.extract 0 (t226 : Int).toNat) ++ (strOfNums y231)).size + (t225.extract (t226 : Int).toNat t225.size).size) = False := eq_false (Nat.not_lt.2 c38)
                  try have c38b4 : (9223372036854775807 < t226.toNat + (strOfNums y231).size + (t225.size - t226.toNat)) = False := eq_false (by have h_ := c38; have q_ : t226 ≤ (t225.size : Int) := of_decide_eq_true (by assumption); simp only [ByteArray.size_append, ByteArray.size_extract] at h_; omega)
                  have H' := Aside0.mk H
                  clear H
                  try go_wp2
                  have m0_ := Aside0.mk (Kd.R_drewN HO220.out (nda_ + nd))
                  have m1_ := Aside0.mk (Kd.R_drewN HO223.out (nda_ + nd))
                  have m2_ := Aside0.mk (blk_drewN BK217.out (nda_ + nd))
                  have m3_ := Aside0.mk (blk_drewN BK224.out (nda_ + nd))
                  have m4_ := Aside0.mk (pw_below_drewN HB.out (nda_ + nd))
                  clear HO220 HO223 BK217 BK224 HB
                  have HO220 := m0_
                  have HO223 := m1_
                  have BK217 := m2_
                  have BK224 := m3_
                  have HB := m4_
                  clear m0_ m1_ m2_ m3_ m4_
                  generalize w19.drewN (nda_ + nd) = wq19 at HO220 HO223 BK217 BK224 HB ⊢
                  have n0_ := Aside0.mk (Kd.R_drew HO220.out)
                  have n1_ := Aside0.mk (Kd.R_drew HO223.out)
                  have n2_ := Aside0.mk (blk_drew BK217.out)
                  have n3_ := Aside0.mk (blk_drew BK224.out)
                  have n4_ := Aside0.mk (below_drew1 HB.out)
                  clear HO220
                  clear HO223
                  clear BK217
                  clear BK224
                  clear HB
                  have HO220 := n0_
                  have HO223 := n1_
                  have BK217 := n2_
                  have BK224 := n3_
                  have HB := n4_
                  clear n0_ n1_ n2_ n3_ n4_
                  refine start_ (n := 12) (S := fun w' => True) (ds := []) #[false, false, false, false, false, false, false, false, false, false, false, false] (by kernel_rfl) rfl rfl trivial (fun hHeld => ?_); refine with_tabW porticolaw4_URLTurned.tab11 porticolaw4_URLTurned.bits11 (fun HT_ HW_ => ?_)
                  generalize wq19.drew = w39 at HO220 HO223 BK217 BK224 HB hHeld ⊢
                  refine pure_ (i := 0) (N := some 51) (v := ?_) (a' := ?_) #[true, false, false, false, false, false, false, false, false, false, false, false] rfl rfl (any_of HT_.out (by kernel_rfl)) (fun _ _ _ h => h) (Or.inl ⟨by rfl, ?_⟩) ?_ ?_
                  rotate_left
                  · intro w'
                    go_simp
                    with_reducible rfl
                  rotate_left
                  · simp only [Act.put, List.setIfInBounds_toArray, List.set_cons_zero, List.set_cons_succ, i64_w, i32_w]
                    rfl
                  refine pure_ (i := 1) (N := some 52) (v := ?_) (a' := ?_) #[true, true, false, false, false, false, false, false, false, false, false, false] rfl rfl (any_of HT_.out (by kernel_rfl)) (fun _ _ _ h => h) (Or.inl ⟨by rfl, ?_⟩) ?_ ?_
                  rotate_left
                  · intro w'
                    go_simp
                    with_reducible rfl
                  rotate_left
                  · simp only [Act.put, List.setIfInBounds_toArray, List.set_cons_zero, List.set_cons_succ, i64_w, i32_w]
                    rfl
                  refine pure_ (i := 2) (N := some 53) (v := ?_) (a' := ?_) #[true, true, true, false, false, false, false, false, false, false, false, false] rfl rfl (any_of HT_.out (by kernel_rfl)) (fun _ _ _ h => h) (Or.inl ⟨by rfl, ?_⟩) ?_ ?_
                  rotate_left
                  · intro w'
                    go_simp
                    with_reducible rfl
                  rotate_left
                  · simp only [Act.put, List.setIfInBounds_toArray, List.set_cons_zero, List.set_cons_succ, i64_w, i32_w]
                    rfl
                  refine pure_ (i := 3) (N := some 54) (v := ?_) (a' := ?_) #[true, true, true, true, false, false, false, false, false, false, false, false] rfl rfl (any_of HT_.out (by kernel_rfl)) (fun _ _ _ h => h) (Or.inl ⟨by rfl, ?_⟩) ?_ ?_
                  rotate_left
                  · intro w'
                    go_simp
                    with_reducible rfl
                  rotate_left
                  · simp only [Act.put, List.setIfInBounds_toArray, List.set_cons_zero, List.set_cons_succ, i64_w, i32_w]
                    rfl
                  refine pure_ (i := 7) (N := some 58) (v := ?_) (a' := ?_) #[true, true, true, true, false, false, false, true, false, false, false, false] rfl rfl (any_of HT_.out (by kernel_rfl)) (fun _ _ _ h => h) (Or.inl ⟨by rfl, ?_⟩) ?_ ?_
                  rotate_left
                  · intro w'
                    go_simp
                    with_reducible rfl
                  rotate_left
                  · simp only [Act.put, List.setIfInBounds_toArray, List.set_cons_zero, List.set_cons_succ, i64_w, i32_w]
                    rfl
                  refine pure_ (i := 8) (N := some 59) (v := ?_) (a' := ?_) #[true, true, true, true, false, false, false, true, true, false, false, false] rfl rfl (any_of HT_.out (by kernel_rfl)) (fun _ _ _ h => h) (Or.inl ⟨by rfl, ?_⟩) ?_ ?_
                  rotate_left
                  · intro w'
                    go_simp
                    with_reducible rfl
                  rotate_left
                  · simp only [Act.put, List.setIfInBounds_toArray, List.set_cons_zero, List.set_cons_succ, i64_w, i32_w]
                    rfl
                  refine pure_ (i := 9) (N := some 60) (v := ?_) (a' := ?_) #[true, true, true, true, false, false, false, true, true, true, false, false] rfl rfl (any_of HT_.out (by kernel_rfl)) (fun _ _ _ h => h) (Or.inl ⟨by rfl, ?_⟩) ?_ ?_
                  rotate_left
                  · intro w'
                    go_simp
                    with_reducible rfl
                  rotate_left
                  · simp only [Act.put, List.setIfInBounds_toArray, List.set_cons_zero, List.set_cons_succ, i64_w, i32_w]
                    rfl
                  refine one_ (i := 4) (N := some 55) #[true, true, true, true, true, false, false, true, true, true, false, false] rfl rfl (one_of HT_.out (by kernel_rfl)) (by decide) (fun K hK => ?_)
                  refine Kd.R_lit_step (Kd.int .u8) _ 5 ?hg (N := 55) ?hd (xs := ([a2] : List Int)) (inner := [.int .u8 a2]) (ok := fun _ => True) (okp := fun _ => True) ?hr ?hp (fun _ hk => hk) trivial (Below.refl _ _) (Nat.le_refl _) (by simp) ?_; (case hd => rfl); (case hg => rfl); (case hr => first | (go_simp; done) | (go_simp; rfl)); (case hp => exact (Reps.one (show Kd.M (Kd.int .u8) _ _ _ a2 [.int .u8 a2] from rfl) (Reps.none _ _)))
                  intro v232 w40 ho41 hb hg_ hnew_
                  clear hg_ hnew_
                  (first | rw [← Ny231.out] at ho41 | (simp only [Int.reduceToNat] at ho41; rw [← Ny231.out] at ho41))
                  have n0_ := Aside0.mk (Kd.R_below (by (with_reducible repeat (first | apply Kd.R_alloc | apply Kd.R_drewN | apply Kd.R_drew)); exact HO220.out) hb)
                  have n1_ := Aside0.mk (Kd.R_below (by (with_reducible repeat (first | apply Kd.R_alloc | apply Kd.R_drewN | apply Kd.R_drew)); exact HO223.out) hb)
                  have n2_ := Aside0.mk (Kd.R_lower ho41 (below_size (by repeat (first | (with_reducible first | exact HB.out | apply below_alloc | apply pw_below_drewN | apply below_drew1 | refine below_set ?_ GE217.out | refine below_set ?_ GE224.out) | exact HB.out))))
                  have n3_ := Aside0.mk (blk_below (g := gb217) (o := .cells #[.slice A0_0 l0_0.length c0_0, .slice A0_1 l0_1.length c0_1, .slice A0_2 l0_2.length c0_2] 41 (0, 0)) (by (with_reducible repeat (first | refine blk_drewN ?_ _ | refine blk_drew ?_ | refine blk_alloc ?_ _)); exact BK217.out) hb)
                  have n4_ := Aside0.mk (blk_below (g := gb224) (o := .cells #[.slice Ao15 t218.length co15, .slice Ao18 t221.length co18] 25 (0, 0)) (by (with_reducible repeat (first | refine blk_drewN ?_ _ | refine blk_drew ?_ | refine blk_alloc ?_ _)); exact BK224.out) hb)
                  have n5_ := Aside0.mk (below_step (by repeat (first | (with_reducible first | exact HB.out | apply below_alloc | apply pw_below_drewN | apply below_drew1 | refine below_set ?_ GE217.out | refine below_set ?_ GE224.out) | exact HB.out)) hb)
                  clear HO220
                  clear HO223
                  clear BK217
                  clear BK224
                  clear HB
                  have HO220 := n0_
                  have HO223 := n1_
                  have HO233 := n2_
                  have BK217 := n3_
                  have BK224 := n4_
                  have HB := n5_
                  clear n0_ n1_ n2_ n3_ n4_ n5_
                  clear hb ho41
                  refine hK.out _ _ trivial (fun hHeld => ?_)
                  clear hK K
                  refine norm_ (a' := ?_) ?_ ?_
                  rotate_left
                  · show Act.put _ (some 55) _ = _
                    simp only [Act.put, List.setIfInBounds_toArray, List.set_cons_zero, List.set_cons_succ, i64_w, i32_w]
                    rfl
                  refine one_ (i := 5) (N := some 56) #[true, true, true, true, true, true, false, true, true, true, false, false] rfl rfl (one_of HT_.out (by kernel_rfl)) (by decide) (fun K hK => ?_)
                  have hcv42 := own_string (P := Tryd.prog) Tryd.underlying44 Tryd.underlying5 Tryd.underlying9 (Kd.own_of_R HO233.out)
                  refine value_ (w1 := ?_) (v := ?_) (by rfl) rfl ?_ ?_
                  rotate_left 2
                  · go_simp
                    constructor
                    · rfl
                    · rfl
                  clear hcv42
                  refine hK.out _ _ trivial (fun hHeld => ?_)
                  clear hK K
                  refine norm_ (a' := ?_) ?_ ?_
                  rotate_left
                  · show Act.put _ (some 56) _ = _
                    simp only [Act.put, List.setIfInBounds_toArray, List.set_cons_zero, List.set_cons_succ, i64_w, i32_w]
                    rfl
                  refine pure_ (i := 6) (N := some 57) (v := ?_) (a' := ?_) #[true, true, true, true, true, true, true, true, true, true, false, false] rfl rfl (any_of HT_.out (by kernel_rfl)) (fun _ _ _ h => h) (Or.inl ⟨by rfl, ?_⟩) ?_ ?_
                  rotate_left
                  · intro w'
                    go_simp
                    with_reducible rfl
                  rotate_left
                  · simp only [Act.put, List.setIfInBounds_toArray, List.set_cons_zero, List.set_cons_succ, i64_w, i32_w]
                    rfl
                  refine pure_ (i := 10) (N := some 61) (v := ?_) (a' := ?_) #[true, true, true, true, true, true, true, true, true, true, true, false] rfl rfl (any_of HT_.out (by kernel_rfl)) (fun _ _ _ h => h) (Or.inl ⟨by rfl, ?_⟩) ?_ ?_
                  rotate_left
                  · intro w'
                    go_simp
                    with_reducible rfl
                  rotate_left
                  · simp only [Act.put, List.setIfInBounds_toArray, List.set_cons_zero, List.set_cons_succ, i64_w, i32_w]
                    rfl
                  refine pure_ (i := 11) (N := some 10) (v := ?_) (a' := ?_) #[true, true, true, true, true, true, true, true, true, true, true, true] rfl rfl (any_of HT_.out (by kernel_rfl)) (fun _ _ _ h => h) (Or.inl ⟨by rfl, ?_⟩) ?_ ?_
                  rotate_left
                  · intro w'
                    go_simp
                    with_reducible rfl
                  rotate_left
                  · simp only [Act.put, List.setIfInBounds_toArray, List.set_cons_zero, List.set_cons_succ, i64_w, i32_w]
                    rfl
                  refine done_ (done_of HT_.out (by kernel_rfl)) ?_
                  try go_wp2
                  go_meet
                  case rel => exact ⟨_, (((t225.extract 0 (t226 : Int).toNat) ++ (strOfNums y231)) ++ (t225.extract (t226 : Int).toNat t225.size)), (by first | rfl | (simp; done) | (simp [*]; done)), H', ⟨by first | omega | exact Nat.le_refl _⟩, ⟨by (with_reducible repeat (first | apply Kd.R_alloc | apply Kd.R_drewN | apply Kd.R_drew)); exact HO220.out⟩, ⟨by (with_reducible repeat (first | apply Kd.R_alloc | apply Kd.R_drewN | apply Kd.R_drew)); exact HO223.out⟩, ⟨by (with_reducible repeat (first | refine blk_drewN ?_ _ | refine blk_drew ?_ | refine blk_alloc ?_ _)); exact BK217.out⟩, ⟨by (with_reducible repeat (first | refine blk_drewN ?_ _ | refine blk_drew ?_ | refine blk_alloc ?_ _)); exact BK224.out⟩, ⟨by repeat (first | (with_reducible first | exact HB.out | apply below_alloc | apply pw_below_drewN | apply below_drew1 | refine below_set ?_ GE217.out | refine below_set ?_ GE224.out) | exact HB.out)⟩⟩
                · rw [if_neg c38] at H
                  exact absurd H (by simp)
              · rw [if_neg c35] at H
                exact absurd H (by simp)
            · rw [if_neg c34] at H
              exact absurd H (by simp)
          · rw [if_neg c33] at H
            exact absurd H (by simp)
        · rw [if_neg c32] at H
          have c32b0 : (t227 == 1) = false := beq_eq_false_iff_ne.mpr c32
          have c32b1 : (t227 != 1) = true := bne_iff_ne.mpr c32
          by_cases c43 : t227 = 2
          · rw [if_pos c43] at H
            have c43b0 : (t227 == 2) = true := beq_iff_eq.mpr c43
            have c43b1 : (t227 != 2) = false := bne_eq_false_iff_eq.mpr c43
            clear c43
            by_cases c44 : 0 ≤ t226
            · rw [if_pos c44] at H
              have c44b0 := eq_true c44
              have c44b1 : decide (0 ≤ t226) = true := decide_eq_true c44
              clear c44
              by_cases c45 : t226 ≤ (t225.size : Int)
              · rw [if_pos c45] at H
                have c45b0 := eq_true c45
                have c45b1 : decide (t226 ≤ (t225.size : Int)) = true := decide_eq_true c45
                clear c45
                obtain ⟨ji46, hji46⟩ : ∃ j_ : Int, (wrap64 (t226 + 1)) = j_ := ⟨_, rfl⟩
                replace H : (if 0 ≤ (ji46) then (if (ji46) ≤ (t225.size : Int) then (if (t225.extract 0 (t226 : Int).toNat).size + (t225.extract ((ji46) : Int).toNat t225.size).size ≤ 9223372036854775807 then (porticolaw4_URLTurned.j0 k ((t225.extract 0 (t226 : Int).toNat) ++ (t225.extract ((ji46) : Int).toNat t225.size))) else (none)) else (none)) else (none)) = some r := by first | (rw [hji46] at H; exact H) | (simp only [hji46] at H ⊢; exact H)
                have hji46w : (IntKind.i64.wrap (t226 + 1)) = ji46 := (i64_w _).trans hji46
                by_cases c47 : 0 ≤ (ji46)
                · rw [if_pos c47] at H
                  have c47b0 := eq_true c47
                  have c47b1 : decide (0 ≤ (ji46)) = true := decide_eq_true c47
                  clear c47
                  by_cases c48 : (ji46) ≤ (t225.size : Int)
                  · rw [if_pos c48] at H
                    have c48b0 := eq_true c48
                    have c48b1 : decide ((ji46) ≤ (t225.size : Int)) = true := decide_eq_true c48
                    clear c48
                    by_cases c49 : (t225.extract 0 (t226 : Int).toNat).size + (t225.extract ((ji46) : Int).toNat t225.size).size ≤ 9223372036854775807
                    · rw [if_pos c49] at H
                      have c49b0 := eq_true c49
                      have c49b1 : decide ((t225.extract 0 (t226 : Int).toNat).size + (t225.extract ((ji46) : Int).toNat t225.size).size ≤ 9223372036854775807) = true := decide_eq_true c49
                      try have c49b2 : (9223372036854775807 < (t225.extract 0 (t226 : Int).toNat).size + (t225.extract ((ji46) : Int).toNat t225.size).size) = False := eq_false (Nat.not_lt.2 c49)
                      try have c49b4 : (9223372036854775807 < t226.toNat + (t225.size - ji46.toNat)) = False := eq_false (by have h_ := c49; have q_ : t226 ≤ (t225.size : Int) := of_decide_eq_true (by assumption); simp only [ByteArray.size_append, ByteArray.size_extract] at h_; omega)
                      have H' := Aside0.mk H
                      clear H
                      try go_wp2
                      have m0_ := Aside0.mk (Kd.R_drewN HO220.out (nda_ + nd))
                      have m1_ := Aside0.mk (Kd.R_drewN HO223.out (nda_ + nd))
                      have m2_ := Aside0.mk (blk_drewN BK217.out (nda_ + nd))
                      have m3_ := Aside0.mk (blk_drewN BK224.out (nda_ + nd))
                      have m4_ := Aside0.mk (pw_below_drewN HB.out (nda_ + nd))
                      clear HO220 HO223 BK217 BK224 HB
                      have HO220 := m0_
                      have HO223 := m1_
                      have BK217 := m2_
                      have BK224 := m3_
                      have HB := m4_
                      clear m0_ m1_ m2_ m3_ m4_
                      generalize w19.drewN (nda_ + nd) = wq19 at HO220 HO223 BK217 BK224 HB ⊢
                      have n0_ := Aside0.mk (Kd.R_drew HO220.out)
                      have n1_ := Aside0.mk (Kd.R_drew HO223.out)
                      have n2_ := Aside0.mk (blk_drew BK217.out)
                      have n3_ := Aside0.mk (blk_drew BK224.out)
                      have n4_ := Aside0.mk (below_drew1 HB.out)
                      clear HO220
                      clear HO223
                      clear BK217
                      clear BK224
                      clear HB
                      have HO220 := n0_
                      have HO223 := n1_
                      have BK217 := n2_
                      have BK224 := n3_
                      have HB := n4_
                      clear n0_ n1_ n2_ n3_ n4_
                      refine start_ (n := 9) (S := fun w' => True) (ds := []) #[false, false, false, false, false, false, false, false, false] (by kernel_rfl) rfl rfl trivial (fun hHeld => ?_); refine with_tabW porticolaw4_URLTurned.tab13 porticolaw4_URLTurned.bits13 (fun HT_ HW_ => ?_)
                      generalize wq19.drew = w50 at HO220 HO223 BK217 BK224 HB hHeld ⊢
                      refine pure_ (i := 0) (N := some 64) (v := ?_) (a' := ?_) #[true, false, false, false, false, false, false, false, false] rfl rfl (any_of HT_.out (by kernel_rfl)) (fun _ _ _ h => h) (Or.inl ⟨by rfl, ?_⟩) ?_ ?_
                      rotate_left
                      · intro w'
                        go_simp
                        with_reducible rfl
                      rotate_left
                      · simp only [Act.put, List.setIfInBounds_toArray, List.set_cons_zero, List.set_cons_succ, i64_w, i32_w]
                        rfl
                      refine pure_ (i := 1) (N := some 65) (v := ?_) (a' := ?_) #[true, true, false, false, false, false, false, false, false] rfl rfl (any_of HT_.out (by kernel_rfl)) (fun _ _ _ h => h) (Or.inl ⟨by rfl, ?_⟩) ?_ ?_
                      rotate_left
                      · intro w'
                        go_simp
                        with_reducible rfl
                      rotate_left
                      · simp only [Act.put, List.setIfInBounds_toArray, List.set_cons_zero, List.set_cons_succ, i64_w, i32_w]
                        rfl
                      refine pure_ (i := 2) (N := some 66) (v := ?_) (a' := ?_) #[true, true, true, false, false, false, false, false, false] rfl rfl (any_of HT_.out (by kernel_rfl)) (fun _ _ _ h => h) (Or.inl ⟨by rfl, ?_⟩) ?_ ?_
                      rotate_left
                      · intro w'
                        go_simp
                        with_reducible rfl
                      rotate_left
                      · simp only [Act.put, List.setIfInBounds_toArray, List.set_cons_zero, List.set_cons_succ, i64_w, i32_w]
                        rfl
                      refine pure_ (i := 3) (N := some 67) (v := ?_) (a' := ?_) #[true, true, true, true, false, false, false, false, false] rfl rfl (any_of HT_.out (by kernel_rfl)) (fun _ _ _ h => h) (Or.inl ⟨by rfl, ?_⟩) ?_ ?_
                      rotate_left
                      · intro w'
                        go_simp
                        with_reducible rfl
                      rotate_left
                      · simp only [Act.put, List.setIfInBounds_toArray, List.set_cons_zero, List.set_cons_succ, i64_w, i32_w]
                        rfl
                      refine pure_ (i := 4) (N := some 68) (v := ?_) (a' := ?_) #[true, true, true, true, true, false, false, false, false] rfl rfl (any_of HT_.out (by kernel_rfl)) (fun _ _ _ h => h) (Or.inl ⟨by rfl, ?_⟩) ?_ ?_
                      rotate_left
                      · intro w'
                        go_simp
                        with_reducible rfl
                      rotate_left
                      · simp only [Act.put, List.setIfInBounds_toArray, List.set_cons_zero, List.set_cons_succ, i64_w, i32_w]
                        rfl
                      refine pure_ (i := 5) (N := some 69) (v := ?_) (a' := ?_) #[true, true, true, true, true, true, false, false, false] rfl rfl (any_of HT_.out (by kernel_rfl)) (fun _ _ _ h => h) (Or.inl ⟨by rfl, ?_⟩) ?_ ?_
                      rotate_left
                      · intro w'
                        go_simp
                        with_reducible rfl
                      rotate_left
                      · simp only [Act.put, List.setIfInBounds_toArray, List.set_cons_zero, List.set_cons_succ, i64_w, i32_w]
                        rfl
                      refine pure_ (i := 6) (N := some 70) (v := ?_) (a' := ?_) #[true, true, true, true, true, true, true, false, false] rfl rfl (any_of HT_.out (by kernel_rfl)) (fun _ _ _ h => h) (Or.inl ⟨by rfl, ?_⟩) ?_ ?_
                      rotate_left
                      · intro w'
                        go_simp
                        with_reducible rfl
                      rotate_left
                      · simp only [Act.put, List.setIfInBounds_toArray, List.set_cons_zero, List.set_cons_succ, i64_w, i32_w]
                        rfl
                      refine pure_ (i := 7) (N := some 71) (v := ?_) (a' := ?_) #[true, true, true, true, true, true, true, true, false] rfl rfl (any_of HT_.out (by kernel_rfl)) (fun _ _ _ h => h) (Or.inl ⟨by rfl, ?_⟩) ?_ ?_
                      rotate_left
                      · intro w'
                        go_simp
                        with_reducible rfl
                      rotate_left
                      · simp only [Act.put, List.setIfInBounds_toArray, List.set_cons_zero, List.set_cons_succ, i64_w, i32_w]
                        rfl
                      refine pure_ (i := 8) (N := some 10) (v := ?_) (a' := ?_) #[true, true, true, true, true, true, true, true, true] rfl rfl (any_of HT_.out (by kernel_rfl)) (fun _ _ _ h => h) (Or.inl ⟨by rfl, ?_⟩) ?_ ?_
                      rotate_left
                      · intro w'
                        go_simp
                        with_reducible rfl
                      rotate_left
                      · simp only [Act.put, List.setIfInBounds_toArray, List.set_cons_zero, List.set_cons_succ, i64_w, i32_w]
                        rfl
                      refine done_ (done_of HT_.out (by kernel_rfl)) ?_
                      try go_wp2
                      go_meet
                      case rel => exact ⟨_, ((t225.extract 0 (t226 : Int).toNat) ++ (t225.extract ((ji46) : Int).toNat t225.size)), (by first | rfl | (simp; done) | (simp only [← hji46] <;> (first | rfl | simp)) | (simp [*]; done)), H', ⟨by first | omega | exact Nat.le_refl _⟩, ⟨by (with_reducible repeat (first | apply Kd.R_alloc | apply Kd.R_drewN | apply Kd.R_drew)); exact HO220.out⟩, ⟨by (with_reducible repeat (first | apply Kd.R_alloc | apply Kd.R_drewN | apply Kd.R_drew)); exact HO223.out⟩, ⟨by (with_reducible repeat (first | refine blk_drewN ?_ _ | refine blk_drew ?_ | refine blk_alloc ?_ _)); exact BK217.out⟩, ⟨by (with_reducible repeat (first | refine blk_drewN ?_ _ | refine blk_drew ?_ | refine blk_alloc ?_ _)); exact BK224.out⟩, ⟨by repeat (first | (with_reducible first | exact HB.out | apply below_alloc | apply pw_below_drewN | apply below_drew1 | refine below_set ?_ GE217.out | refine below_set ?_ GE224.out) | exact HB.out)⟩⟩
                    · rw [if_neg c49] at H
                      exact absurd H (by simp)
                  · rw [if_neg c48] at H
                    exact absurd H (by simp)
                · rw [if_neg c47] at H
                  exact absurd H (by simp)
              · rw [if_neg c45] at H
                exact absurd H (by simp)
            · rw [if_neg c44] at H
              exact absurd H (by simp)
          · rw [if_neg c43] at H
            have c43b0 : (t227 == 2) = false := beq_eq_false_iff_ne.mpr c43
            have c43b1 : (t227 != 2) = true := bne_iff_ne.mpr c43
            obtain ⟨y234, hy234⟩ : ∃ y_ : List Int, y_ = (([a2] : List Int)) := ⟨_, rfl⟩
            replace H : (if t225.size + (strOfNums y234).size ≤ 9223372036854775807 then (porticolaw4_URLTurned.j0 k (t225 ++ (strOfNums y234))) else (none)) = some r := by first | (rw [hy234]; with_reducible exact H) | (have H2_ := (Option.bind_some _ _).symm.trans H; rw [hy234]; with_reducible exact H2_) | (have H2_ := (Option.bind_some _ _).symm.trans H; with_reducible exact H2_) | with_reducible exact H | (rw [hy234]; exact H) | exact H
            have Ny234 := Aside0.mk hy234
            clear hy234
            by_cases c51 : t225.size + (strOfNums y234).size ≤ 9223372036854775807
            · rw [if_pos c51] at H
              have c51b0 := eq_true c51
              have c51b1 : decide (t225.size + (strOfNums y234).size ≤ 9223372036854775807) = true := decide_eq_true c51
              try have c51b2 : (9223372036854775807 < t225.size + (strOfNums y234).size) = False := eq_false (Nat.not_lt.2 c51)
              try have c51b4 : (9223372036854775807 < t225.size + (strOfNums y234).size) = False := eq_false (by have h_ := c51; have q_ : t226 ≤ (t225.size : Int) := of_decide_eq_true (by assumption); simp only [ByteArray.size_append, ByteArray.size_extract] at h_; omega)
              have H' := Aside0.mk H
              clear H
              go_wp2_with (first | ((with_reducible refine gate_dst (N := 32) rfl ?_); refine Kd.R_lit (Kd.int .u8) _ 5 ?hg (N := 32) ?hd (xs := ([a2] : List Int)) (inner := [.int .u8 a2]) (ok := fun _ => True) (okp := fun _ => True) ?hr ?hp (fun _ hk => hk) trivial (Below.refl _ _) (Nat.le_refl _) (by simp) ?_; (case hd => rfl); (case hg => rfl); (case hr => first | (go_simp; done) | (go_simp; rfl)); (case hp => exact (Reps.one (show Kd.M (Kd.int .u8) _ _ _ a2 [.int .u8 a2] from rfl) (Reps.none _ _))); intro v235 w52 ho53 hb hg_ hnew_; clear hg_ hnew_; (first | rw [← Ny234.out] at ho53 | (simp only [Int.reduceToNat] at ho53; rw [← Ny234.out] at ho53)); have n0_ := Aside0.mk (Kd.R_below (by (with_reducible repeat (first | apply Kd.R_alloc | apply Kd.R_drewN | apply Kd.R_drew)); exact HO220.out) hb); have n1_ := Aside0.mk (Kd.R_below (by (with_reducible repeat (first | apply Kd.R_alloc | apply Kd.R_drewN | apply Kd.R_drew)); exact HO223.out) hb); have n2_ := Aside0.mk (Kd.R_lower ho53 (below_size (by repeat (first | (with_reducible first | exact HB.out | apply below_alloc | apply pw_below_drewN | apply below_drew1 | refine below_set ?_ GE217.out | refine below_set ?_ GE224.out) | exact HB.out)))); have n3_ := Aside0.mk (blk_below (g := gb217) (o := .cells #[.slice A0_0 l0_0.length c0_0, .slice A0_1 l0_1.length c0_1, .slice A0_2 l0_2.length c0_2] 41 (0, 0)) (by (with_reducible repeat (first | refine blk_drewN ?_ _ | refine blk_drew ?_ | refine blk_alloc ?_ _)); exact BK217.out) hb); have n4_ := Aside0.mk (blk_below (g := gb224) (o := .cells #[.slice Ao15 t218.length co15, .slice Ao18 t221.length co18] 25 (0, 0)) (by (with_reducible repeat (first | refine blk_drewN ?_ _ | refine blk_drew ?_ | refine blk_alloc ?_ _)); exact BK224.out) hb); have n5_ := Aside0.mk (below_step (by repeat (first | (with_reducible first | exact HB.out | apply below_alloc | apply pw_below_drewN | apply below_drew1 | refine below_set ?_ GE217.out | refine below_set ?_ GE224.out) | exact HB.out)) hb); clear HO220; clear HO223; clear BK217; clear BK224; clear HB; have HO220 := n0_; have HO223 := n1_; have HO236 := n2_; have BK217 := n3_; have BK224 := n4_; have HB := n5_; clear n0_ n1_ n2_ n3_ n4_ n5_; clear hb ho53; have hcv54 := own_string (P := Tryd.prog) Tryd.underlying44 Tryd.underlying5 Tryd.underlying9 (Kd.own_of_R HO236.out)))
              go_meet
              case rel => exact ⟨_, (t225 ++ (strOfNums y234)), (by first | rfl | (simp; done) | (simp [*]; done)), H', ⟨by first | omega | exact Nat.le_refl _⟩, ⟨by (with_reducible repeat (first | apply Kd.R_alloc | apply Kd.R_drewN | apply Kd.R_drew)); exact HO220.out⟩, ⟨by (with_reducible repeat (first | apply Kd.R_alloc | apply Kd.R_drewN | apply Kd.R_drew)); exact HO223.out⟩, ⟨by (with_reducible repeat (first | refine blk_drewN ?_ _ | refine blk_drew ?_ | refine blk_alloc ?_ _)); exact BK217.out⟩, ⟨by (with_reducible repeat (first | refine blk_drewN ?_ _ | refine blk_drew ?_ | refine blk_alloc ?_ _)); exact BK224.out⟩, ⟨by repeat (first | (with_reducible first | exact HB.out | apply below_alloc | apply pw_below_drewN | apply below_drew1 | refine below_set ?_ GE217.out | refine below_set ?_ GE224.out) | exact HB.out)⟩⟩
            · rw [if_neg c51] at H
              exact absurd H (by simp)
    case rest =>
      clear HC10
      try clear c1
      try clear c2
      try clear p2
      try clear c3
      try clear hcv3
      try clear c4
      try clear hcv4
      try clear c5
      try clear hcv5
      try clear p6
      try clear c7
      try clear c7b0
      try clear c7b1
      try clear c12
      try clear c16
      try clear c17
      try clear c20
      try clear c20b0
      try clear c20b1
      try clear c21
      try clear c21b0
      try clear c21b1
      try clear c22
      try clear c22b0
      try clear c22b1
      try clear c23
      try clear c23b0
      try clear c23b1
      try clear c23b2
      try clear c25
      try clear c25b0
      try clear c25b1
      try clear c26
      try clear c26b0
      try clear c26b1
      try clear c27
      try clear c27b0
      try clear c27b1
      try clear c27b2
      try clear hcv31
      try clear c32
      try clear c32b0
      try clear c32b1
      try clear c33
      try clear c33b0
      try clear c33b1
      try clear c34
      try clear c34b0
      try clear c34b1
      try clear c35
      try clear c35b0
      try clear c35b1
      try clear c35b2
      try clear c36
      try clear c36b0
      try clear c37
      try clear c37b0
      try clear c38
      try clear c38b0
      try clear c38b1
      try clear c38b2
      try clear hcv42
      try clear c43
      try clear c43b0
      try clear c43b1
      try clear c44
      try clear c44b0
      try clear c44b1
      try clear c45
      try clear c45b0
      try clear c45b1
      try clear c47
      try clear c47b0
      try clear c47b1
      try clear c48
      try clear c48b0
      try clear c48b1
      try clear c49
      try clear c49b0
      try clear c49b1
      try clear c49b2
      try clear c51
      try clear c51b0
      try clear c51b1
      try clear c51b2
      try clear hcv54
      try clear hcz12_0
      try clear hcz12_1
      try clear hcz12_2
      try clear hcz17_0
      try clear hcz17_1
      try clear hfz12_0
      try clear hfz12_1
      try clear hfz12_2
      try clear hfz17_0
      try clear hfz17_1
      obtain ⟨kq, x10_9, rfl, HA, HJ9, HO_225000, HO_225001, BK217, BK224, HB⟩ := hcut
      cases kq with
      | zero => exact absurd HA.out (by simp [porticolaw4_URLTurned.j0])
      | succ kj9 =>
        have H := HA.out
        clear HA
        simp only [porticolaw4_URLTurned.j0] at H
        replace H := Option.bind_eq_some_iff.mp H
        obtain ⟨⟨t237, t240, t243⟩, A550, H⟩ := H
        replace H : (if t243 = 0 then ((url_Print.f t237 t240).bind fun t247 => ((url_Parse.f kj9 t247).bind fun bt248 => (if bt248.2.2 = 0 then ((porticolaw4_equal.f kj9 t237 t240 bt248.1 bt248.2.1).bind fun t256 => (if t256 = true then ((porticolaw4_URLRuns.f kj9).bind fun t257 => (some t257)) else (none))) else (none)))) else (if t243 = 1 then ((porticolaw4_equal.f kj9 t237 t240 ([] : List ByteArray) ([] : List (S32))).bind fun t245 => (if t245 = true then ((porticolaw4_URLRuns.f kj9).bind fun t246 => (some t246)) else (none))) else (none))) = some r := H
        have A55 := Aside0.mk A550
        clear A550
        by_cases c56 : t243 = 0
        · rw [if_pos c56] at H
          have c56b0 : (t243 == 0) = true := beq_iff_eq.mpr c56
          have c56b1 : (t243 != 0) = false := bne_eq_false_iff_eq.mpr c56
          clear c56
          replace H := Option.bind_eq_some_iff.mp H
          obtain ⟨t247, A570, H⟩ := H
          replace H : ((url_Parse.f kj9 t247).bind fun bt248 => (if bt248.2.2 = 0 then ((porticolaw4_equal.f kj9 t237 t240 bt248.1 bt248.2.1).bind fun t256 => (if t256 = true then ((porticolaw4_URLRuns.f kj9).bind fun t257 => (some t257)) else (none))) else (none))) = some r := H
          have A57 := Aside0.mk A570
          clear A570
          replace H := Option.bind_eq_some_iff.mp H
          obtain ⟨⟨t248, t251, t254⟩, A580, H⟩ := H
          replace H : (if t254 = 0 then ((porticolaw4_equal.f kj9 t237 t240 t248 t251).bind fun t256 => (if t256 = true then ((porticolaw4_URLRuns.f kj9).bind fun t257 => (some t257)) else (none))) else (none)) = some r := H
          have A58 := Aside0.mk A580
          clear A580
          by_cases c59 : t254 = 0
          · rw [if_pos c59] at H
            have c59b0 : (t254 == 0) = true := beq_iff_eq.mpr c59
            have c59b1 : (t254 != 0) = false := bne_eq_false_iff_eq.mpr c59
            clear c59
            replace H := Option.bind_eq_some_iff.mp H
            obtain ⟨t256, A600, H⟩ := H
            replace H : (if t256 = true then ((porticolaw4_URLRuns.f kj9).bind fun t257 => (some t257)) else (none)) = some r := H
            have A60 := Aside0.mk A600
            clear A600
            by_cases c61 : t256 = true
            · subst c61
              have H1 : ((porticolaw4_URLRuns.f kj9).bind fun t257 => (some t257)) = some r := by rw [if_pos rfl] at H; exact H
              clear H
              have H := H1
              clear H1
              replace H := Option.bind_eq_some_iff.mp H
              obtain ⟨t257, A620, H⟩ := H
              replace H : (some t257) = some r := H
              have A62 := Aside0.mk A620
              clear A620
              obtain rfl := Option.some.inj H
              go_wp2_with (first | ((with_reducible refine gate_callee (f := 9) rfl ?_); refine goesL_ (some 74) rfl rfl Tryd.func9 (by kernel_rfl) rfl #[.string x10_9] rfl (by (try simp only [List.map_toArray, List.map_cons, List.map_nil]); first | done | rfl | (simp only [List.length_drop, List.length_take]; rfl)) ?_; (with_reducible refine (url_Parse.calls kj9 x10_9 t237 t240 t243 _ A55.out).mono ?_); rintro e w63 ⟨v238, v241, rfl, ho0, ho1, hb⟩; refine ⟨_, rfl, ?_⟩; have n0_ := Aside0.mk (Kd.R_elder' (by (with_reducible repeat (first | apply Kd.R_alloc | apply Kd.R_drewN | apply Kd.R_drew)); exact HO_225000.out) (Kd.R_base ho0) hb); have n1_ := Aside0.mk (Kd.R_elder' (by (with_reducible repeat (first | apply Kd.R_alloc | apply Kd.R_drewN | apply Kd.R_drew)); exact HO_225001.out) (Kd.R_base ho1) hb); have n2_ := Aside0.mk (Kd.R_lower (Kd.R_new' ho0 (Kd.R_lt (by (with_reducible repeat (first | apply Kd.R_alloc | apply Kd.R_drewN | apply Kd.R_drew)); exact HO_225000.out))) (below_size (by repeat (first | (with_reducible first | exact HB.out | apply below_alloc | apply pw_below_drewN | apply below_drew1 | refine below_set ?_ GE217.out | refine below_set ?_ GE224.out) | exact HB.out)))); have n3_ := Aside0.mk (Kd.R_lower (Kd.R_new' ho1 (Kd.R_lt (by (with_reducible repeat (first | apply Kd.R_alloc | apply Kd.R_drewN | apply Kd.R_drew)); exact HO_225001.out))) (below_size (by repeat (first | (with_reducible first | exact HB.out | apply below_alloc | apply pw_below_drewN | apply below_drew1 | refine below_set ?_ GE217.out | refine below_set ?_ GE224.out) | exact HB.out)))); have n4_ := Aside0.mk (blk_below (g := gb217) (o := .cells #[.slice A0_0 l0_0.length c0_0, .slice A0_1 l0_1.length c0_1, .slice A0_2 l0_2.length c0_2] 41 (0, 0)) (by (with_reducible repeat (first | refine blk_drewN ?_ _ | refine blk_drew ?_ | refine blk_alloc ?_ _)); exact BK217.out) hb); have n5_ := Aside0.mk (blk_below (g := gb224) (o := .cells #[.slice Ao15 t218.length co15, .slice Ao18 t221.length co18] 25 (0, 0)) (by (with_reducible repeat (first | refine blk_drewN ?_ _ | refine blk_drew ?_ | refine blk_alloc ?_ _)); exact BK224.out) hb); have n6_ := Aside0.mk (below_step (by repeat (first | (with_reducible first | exact HB.out | apply below_alloc | apply pw_below_drewN | apply below_drew1 | refine below_set ?_ GE217.out | refine below_set ?_ GE224.out) | exact HB.out)) hb); clear HO_225000; clear HO_225001; clear BK217; clear BK224; clear HB; have HO_225000 := n0_; have HO_225001 := n1_; have HO239 := n2_; have HO242 := n3_; have BK217 := n4_; have BK224 := n5_; have HB := n6_; clear n0_ n1_ n2_ n3_ n4_ n5_ n6_; (try clear hb); (try clear hb2); (try clear hk); (try clear hi); (try clear ho0); (try clear ho1)) | ((with_reducible refine gate_dst (N := 12) rfl ?_); refine box_event ?hg (N := 12) ?hd (cs := #[.slice none 0 0, .slice none 0 0]) (t := 25) ?hr ?_; (case hd => rfl); (case hg => rfl); (case hr => first | (go_simp; done) | (go_simp; rfl)); intro gb244 hg w64 hbox hb; have n0_ := Aside0.mk (Kd.R_below (by (with_reducible repeat (first | apply Kd.R_alloc | apply Kd.R_drewN | apply Kd.R_drew)); exact HO_225000.out) hb); have n1_ := Aside0.mk (Kd.R_below (by (with_reducible repeat (first | apply Kd.R_alloc | apply Kd.R_drewN | apply Kd.R_drew)); exact HO_225001.out) hb); have n2_ := Aside0.mk (Kd.R_below (by (with_reducible repeat (first | apply Kd.R_alloc | apply Kd.R_drewN | apply Kd.R_drew)); exact HO239.out) hb); have n3_ := Aside0.mk (Kd.R_below (by (with_reducible repeat (first | apply Kd.R_alloc | apply Kd.R_drewN | apply Kd.R_drew)); exact HO242.out) hb); have n4_ := Aside0.mk (blk_below (g := gb217) (o := .cells #[.slice A0_0 l0_0.length c0_0, .slice A0_1 l0_1.length c0_1, .slice A0_2 l0_2.length c0_2] 41 (0, 0)) (by (with_reducible repeat (first | refine blk_drewN ?_ _ | refine blk_drew ?_ | refine blk_alloc ?_ _)); exact BK217.out) hb); have n5_ := Aside0.mk (blk_below (g := gb224) (o := .cells #[.slice Ao15 t218.length co15, .slice Ao18 t221.length co18] 25 (0, 0)) (by (with_reducible repeat (first | refine blk_drewN ?_ _ | refine blk_drew ?_ | refine blk_alloc ?_ _)); exact BK224.out) hb); have n6_ := Aside0.mk (below_step (by repeat (first | (with_reducible first | exact HB.out | apply below_alloc | apply pw_below_drewN | apply below_drew1 | refine below_set ?_ GE217.out | refine below_set ?_ GE224.out) | exact HB.out)) hb); have n7_ := Aside0.mk (hbox); have n8_ := Aside0.mk ((by rw [hg]; exact (below_size (by repeat (first | (with_reducible first | exact HB.out | apply below_alloc | apply pw_below_drewN | apply below_drew1 | refine below_set ?_ GE217.out | refine below_set ?_ GE224.out) | exact HB.out))) : w.heap.size ≤ gb244)); have n9_ := Aside0.mk ((by rw [hg]; exact (below_size (by repeat (first | (with_reducible first | exact HB.out | apply below_alloc | apply pw_below_drewN | apply below_drew1 | refine below_set ?_ GE217.out | refine below_set ?_ GE224.out) | exact HB.out))) : w.heap.size ≤ gb244)); have n10_ := Aside0.mk ((by rw [hg]; exact Nat.ne_of_lt (blk_lt (g := gb217) (o := .cells #[.slice A0_0 l0_0.length c0_0, .slice A0_1 l0_1.length c0_1, .slice A0_2 l0_2.length c0_2] 41 (0, 0)) (by (with_reducible repeat (first | refine blk_drewN ?_ _ | refine blk_drew ?_ | refine blk_alloc ?_ _)); exact BK217.out)) : gb217 ≠ gb244)); have n11_ := Aside0.mk ((by rw [hg]; exact Nat.ne_of_gt (blk_lt (g := gb217) (o := .cells #[.slice A0_0 l0_0.length c0_0, .slice A0_1 l0_1.length c0_1, .slice A0_2 l0_2.length c0_2] 41 (0, 0)) (by (with_reducible repeat (first | refine blk_drewN ?_ _ | refine blk_drew ?_ | refine blk_alloc ?_ _)); exact BK217.out)) : gb244 ≠ gb217)); have n12_ := Aside0.mk ((by rw [hg]; exact Nat.ne_of_lt (blk_lt (g := gb224) (o := .cells #[.slice Ao15 t218.length co15, .slice Ao18 t221.length co18] 25 (0, 0)) (by (with_reducible repeat (first | refine blk_drewN ?_ _ | refine blk_drew ?_ | refine blk_alloc ?_ _)); exact BK224.out)) : gb224 ≠ gb244)); have n13_ := Aside0.mk ((by rw [hg]; exact Nat.ne_of_gt (blk_lt (g := gb224) (o := .cells #[.slice Ao15 t218.length co15, .slice Ao18 t221.length co18] 25 (0, 0)) (by (with_reducible repeat (first | refine blk_drewN ?_ _ | refine blk_drew ?_ | refine blk_alloc ?_ _)); exact BK224.out)) : gb244 ≠ gb224)); clear HO_225000; clear HO_225001; clear HO239; clear HO242; clear BK217; clear BK224; clear HB; have HO_225000 := n0_; have HO_225001 := n1_; have HO239 := n2_; have HO242 := n3_; have BK217 := n4_; have BK224 := n5_; have HB := n6_; have BK244 := n7_; have GW244 := n8_; have GE244 := n9_; have NB217_244 := n10_; have NB244_217 := n11_; have NB224_244 := n12_; have NB244_224 := n13_; clear n0_ n1_ n2_ n3_ n4_ n5_ n6_ n7_ n8_ n9_ n10_ n11_ n12_ n13_; clear hb hbox hg; obtain ⟨Ao65, co65, eo65⟩ := Kd.R_slice HO239.out; subst eo65; have hnb66 := NB244_217.out; have hnc66 := NB217_244.out; have hnb67 := NB244_224.out; have hnc67 := NB224_244.out; have hcz68_0 : w64.cell? ⟨gb244, 0, none⟩ = some (.slice none 0 0) := (blk_cell BK244.out 0).trans rfl; have hcz68_1 : w64.cell? ⟨gb244, 1, none⟩ = some (.slice none 0 0) := (blk_cell BK244.out 1).trans rfl; have hfz68_0 := blk_frozen BK244.out 0; have hfz68_1 := blk_frozen BK244.out 1; obtain ⟨Ao69, co69, eo69⟩ := Kd.R_slice HO242.out; subst eo69) | ((with_reducible refine gate_callee (f := 12) rfl ?_); refine goesL_ (some 91) rfl rfl Tryd.func12 (by kernel_rfl) rfl #[.agg #[.slice Ao65 t237.length co65, .slice Ao69 t240.length co69]] rfl (by (try simp only [List.map_toArray, List.map_cons, List.map_nil]); first | done | rfl | (simp only [List.length_drop, List.length_take]; rfl)) ?_; (with_reducible refine (url_Print.calls _ _ t237 _ _ t240 t247 _ ?side1 ?side2 ?side3 ?side4 A57.out).mono ?_); (case side1 => refine (Kd.R_reads' (e := 9) (base := w.heap.size) (ok := fun k_ => (True ∧ some k_ ≠ (.slice Ao15 t218.length co15 : Value).ownBlock)) (n := t237.length) (c := co65) ?_).2.2; exact (by (with_reducible repeat (first | apply Kd.R_alloc | apply Kd.R_drewN | apply Kd.R_drew)); exact (Kd.R_mono (Kd.R_far (p := ⟨gb244, 1, none⟩) (Kd.R_far (p := ⟨gb244, 0, none⟩) (Kd.R_types HO239.out BK244.out (by decide)) (fun _ hk => hk.2) (.slice Ao65 t237.length co65)) (fun _ hk => hk.2) (.slice Ao69 t240.length co69)) (fun _ h_ => h_.1)))); (case side2 => exact (Kd.R_reads' HO239.out).2.1); (case side3 => refine (Kd.R_reads' (e := 32) (base := w.heap.size) (ok := fun k_ => (True ∧ some k_ ≠ (.slice Ao18 t221.length co18 : Value).ownBlock)) (n := t240.length) (c := co69) ?_).2.2; exact (by (with_reducible repeat (first | apply Kd.R_alloc | apply Kd.R_drewN | apply Kd.R_drew)); exact (Kd.R_mono (Kd.R_far (p := ⟨gb244, 1, none⟩) (Kd.R_far (p := ⟨gb244, 0, none⟩) (Kd.R_types HO242.out BK244.out (by decide)) (fun _ hk => hk.2) (.slice Ao65 t237.length co65)) (fun _ hk => hk.2) (.slice Ao69 t240.length co69)) (fun _ h_ => h_.1)))); (case side4 => exact (Kd.R_reads' HO242.out).2.1); rintro e w70 ⟨rfl, hb⟩; refine ⟨_, rfl, ?_⟩; have n0_ := Aside0.mk (Kd.R_below (by (with_reducible repeat (first | apply Kd.R_alloc | apply Kd.R_drewN | apply Kd.R_drew)); exact (Kd.R_mono (Kd.R_far (p := ⟨gb244, 1, none⟩) (Kd.R_far (p := ⟨gb244, 0, none⟩) (Kd.R_types HO_225000.out BK244.out (by decide)) (fun _ hk => hk.2) (.slice Ao65 t237.length co65)) (fun _ hk => hk.2) (.slice Ao69 t240.length co69)) (fun _ h_ => h_.1))) hb); have n1_ := Aside0.mk (Kd.R_below (by (with_reducible repeat (first | apply Kd.R_alloc | apply Kd.R_drewN | apply Kd.R_drew)); exact (Kd.R_mono (Kd.R_far (p := ⟨gb244, 1, none⟩) (Kd.R_far (p := ⟨gb244, 0, none⟩) (Kd.R_types HO_225001.out BK244.out (by decide)) (fun _ hk => hk.2) (.slice Ao65 t237.length co65)) (fun _ hk => hk.2) (.slice Ao69 t240.length co69)) (fun _ h_ => h_.1))) hb); have n2_ := Aside0.mk (Kd.R_below (by (with_reducible repeat (first | apply Kd.R_alloc | apply Kd.R_drewN | apply Kd.R_drew)); exact (Kd.R_mono (Kd.R_far (p := ⟨gb244, 1, none⟩) (Kd.R_far (p := ⟨gb244, 0, none⟩) (Kd.R_types HO239.out BK244.out (by decide)) (fun _ hk => hk.2) (.slice Ao65 t237.length co65)) (fun _ hk => hk.2) (.slice Ao69 t240.length co69)) (fun _ h_ => h_.1))) hb); have n3_ := Aside0.mk (Kd.R_below (by (with_reducible repeat (first | apply Kd.R_alloc | apply Kd.R_drewN | apply Kd.R_drew)); exact (Kd.R_mono (Kd.R_far (p := ⟨gb244, 1, none⟩) (Kd.R_far (p := ⟨gb244, 0, none⟩) (Kd.R_types HO242.out BK244.out (by decide)) (fun _ hk => hk.2) (.slice Ao65 t237.length co65)) (fun _ hk => hk.2) (.slice Ao69 t240.length co69)) (fun _ h_ => h_.1))) hb); have n4_ := Aside0.mk (blk_below (g := gb217) (o := .cells #[.slice A0_0 l0_0.length c0_0, .slice A0_1 l0_1.length c0_1, .slice A0_2 l0_2.length c0_2] 41 (0, 0)) (by (with_reducible repeat (first | refine blk_drewN ?_ _ | refine blk_drew ?_ | refine blk_alloc ?_ _)); refine blk_far ?_ NB217_244.out _; (with_reducible repeat (first | refine blk_drewN ?_ _ | refine blk_drew ?_ | refine blk_alloc ?_ _)); refine blk_far ?_ NB217_244.out _; (with_reducible repeat (first | refine blk_drewN ?_ _ | refine blk_drew ?_ | refine blk_alloc ?_ _)); exact BK217.out) hb); have n5_ := Aside0.mk (blk_below (g := gb224) (o := .cells #[.slice Ao15 t218.length co15, .slice Ao18 t221.length co18] 25 (0, 0)) (by (with_reducible repeat (first | refine blk_drewN ?_ _ | refine blk_drew ?_ | refine blk_alloc ?_ _)); refine blk_far ?_ NB224_244.out _; (with_reducible repeat (first | refine blk_drewN ?_ _ | refine blk_drew ?_ | refine blk_alloc ?_ _)); refine blk_far ?_ NB224_244.out _; (with_reducible repeat (first | refine blk_drewN ?_ _ | refine blk_drew ?_ | refine blk_alloc ?_ _)); exact BK224.out) hb); have n6_ := Aside0.mk (blk_below (g := gb244) (o := .cells #[.slice Ao65 t237.length co65, .slice Ao69 t240.length co69] 25 (0, 0)) (by (with_reducible repeat (first | refine blk_drewN ?_ _ | refine blk_drew ?_ | refine blk_alloc ?_ _)); refine blk_put (cs := #[.slice Ao65 t237.length co65, .slice none 0 0]) ?_ 1 _ rfl; (with_reducible repeat (first | refine blk_drewN ?_ _ | refine blk_drew ?_ | refine blk_alloc ?_ _)); refine blk_put (cs := #[.slice none 0 0, .slice none 0 0]) ?_ 0 _ rfl; (with_reducible repeat (first | refine blk_drewN ?_ _ | refine blk_drew ?_ | refine blk_alloc ?_ _)); exact BK244.out) hb); have n7_ := Aside0.mk (below_step (by repeat (first | (with_reducible first | exact HB.out | apply below_alloc | apply pw_below_drewN | apply below_drew1 | refine below_set ?_ GE217.out | refine below_set ?_ GE224.out | refine below_set ?_ GE244.out) | exact HB.out)) hb); clear HO_225000; clear HO_225001; clear HO239; clear HO242; clear BK217; clear BK224; clear BK244; clear HB; have HO_225000 := n0_; have HO_225001 := n1_; have HO239 := n2_; have HO242 := n3_; have BK217 := n4_; have BK224 := n5_; have BK244 := n6_; have HB := n7_; clear n0_ n1_ n2_ n3_ n4_ n5_ n6_ n7_; (try clear hb); (try clear hb2); (try clear hk); (try clear hi)) | ((with_reducible refine gate_callee (f := 9) rfl ?_); refine goesL_ (some 92) rfl rfl Tryd.func9 (by kernel_rfl) rfl #[.string t247] rfl (by (try simp only [List.map_toArray, List.map_cons, List.map_nil]); first | done | rfl | (simp only [List.length_drop, List.length_take]; rfl)) ?_; (with_reducible refine (url_Parse.calls kj9 t247 t248 t251 t254 _ A58.out).mono ?_); rintro e w71 ⟨v249, v252, rfl, ho0, ho1, hb⟩; refine ⟨_, rfl, ?_⟩; have n0_ := Aside0.mk (Kd.R_elder' (by (with_reducible repeat (first | apply Kd.R_alloc | apply Kd.R_drewN | apply Kd.R_drew)); exact HO_225000.out) (Kd.R_base ho0) hb); have n1_ := Aside0.mk (Kd.R_elder' (by (with_reducible repeat (first | apply Kd.R_alloc | apply Kd.R_drewN | apply Kd.R_drew)); exact HO_225001.out) (Kd.R_base ho1) hb); have n2_ := Aside0.mk (Kd.R_elder' (by (with_reducible repeat (first | apply Kd.R_alloc | apply Kd.R_drewN | apply Kd.R_drew)); exact HO239.out) (Kd.R_base ho0) hb); have n3_ := Aside0.mk (Kd.R_elder' (by (with_reducible repeat (first | apply Kd.R_alloc | apply Kd.R_drewN | apply Kd.R_drew)); exact HO242.out) (Kd.R_base ho1) hb); have n4_ := Aside0.mk (Kd.R_lower (Kd.R_new' (Kd.R_new' ho0 (Kd.R_lt (by (with_reducible repeat (first | apply Kd.R_alloc | apply Kd.R_drewN | apply Kd.R_drew)); exact HO_225000.out))) (Kd.R_lt (by (with_reducible repeat (first | apply Kd.R_alloc | apply Kd.R_drewN | apply Kd.R_drew)); exact HO239.out))) (below_size (by repeat (first | (with_reducible first | exact HB.out | apply below_alloc | apply pw_below_drewN | apply below_drew1 | refine below_set ?_ GE217.out | refine below_set ?_ GE224.out | refine below_set ?_ GE244.out) | exact HB.out)))); have n5_ := Aside0.mk (Kd.R_lower (Kd.R_new' (Kd.R_new' ho1 (Kd.R_lt (by (with_reducible repeat (first | apply Kd.R_alloc | apply Kd.R_drewN | apply Kd.R_drew)); exact HO_225001.out))) (Kd.R_lt (by (with_reducible repeat (first | apply Kd.R_alloc | apply Kd.R_drewN | apply Kd.R_drew)); exact HO242.out))) (below_size (by repeat (first | (with_reducible first | exact HB.out | apply below_alloc | apply pw_below_drewN | apply below_drew1 | refine below_set ?_ GE217.out | refine below_set ?_ GE224.out | refine below_set ?_ GE244.out) | exact HB.out)))); have n6_ := Aside0.mk (blk_below (g := gb217) (o := .cells #[.slice A0_0 l0_0.length c0_0, .slice A0_1 l0_1.length c0_1, .slice A0_2 l0_2.length c0_2] 41 (0, 0)) (by (with_reducible repeat (first | refine blk_drewN ?_ _ | refine blk_drew ?_ | refine blk_alloc ?_ _)); exact BK217.out) hb); have n7_ := Aside0.mk (blk_below (g := gb224) (o := .cells #[.slice Ao15 t218.length co15, .slice Ao18 t221.length co18] 25 (0, 0)) (by (with_reducible repeat (first | refine blk_drewN ?_ _ | refine blk_drew ?_ | refine blk_alloc ?_ _)); exact BK224.out) hb); have n8_ := Aside0.mk (blk_below (g := gb244) (o := .cells #[.slice Ao65 t237.length co65, .slice Ao69 t240.length co69] 25 (0, 0)) (by (with_reducible repeat (first | refine blk_drewN ?_ _ | refine blk_drew ?_ | refine blk_alloc ?_ _)); exact BK244.out) hb); have n9_ := Aside0.mk (below_step (by repeat (first | (with_reducible first | exact HB.out | apply below_alloc | apply pw_below_drewN | apply below_drew1 | refine below_set ?_ GE217.out | refine below_set ?_ GE224.out | refine below_set ?_ GE244.out) | exact HB.out)) hb); clear HO_225000; clear HO_225001; clear HO239; clear HO242; clear BK217; clear BK224; clear BK244; clear HB; have HO_225000 := n0_; have HO_225001 := n1_; have HO239 := n2_; have HO242 := n3_; have HO250 := n4_; have HO253 := n5_; have BK217 := n6_; have BK224 := n7_; have BK244 := n8_; have HB := n9_; clear n0_ n1_ n2_ n3_ n4_ n5_ n6_ n7_ n8_ n9_; (try clear hb); (try clear hb2); (try clear hk); (try clear hi); (try clear ho0); (try clear ho1)) | ((with_reducible refine gate_dst (N := 14) rfl ?_); refine box_event ?hg (N := 14) ?hd (cs := #[.slice none 0 0, .slice none 0 0]) (t := 25) ?hr ?_; (case hd => rfl); (case hg => rfl); (case hr => first | (go_simp; done) | (go_simp; rfl)); intro gb255 hg w72 hbox hb; have n0_ := Aside0.mk (Kd.R_below (by (with_reducible repeat (first | apply Kd.R_alloc | apply Kd.R_drewN | apply Kd.R_drew)); exact HO_225000.out) hb); have n1_ := Aside0.mk (Kd.R_below (by (with_reducible repeat (first | apply Kd.R_alloc | apply Kd.R_drewN | apply Kd.R_drew)); exact HO_225001.out) hb); have n2_ := Aside0.mk (Kd.R_below (by (with_reducible repeat (first | apply Kd.R_alloc | apply Kd.R_drewN | apply Kd.R_drew)); exact HO239.out) hb); have n3_ := Aside0.mk (Kd.R_below (by (with_reducible repeat (first | apply Kd.R_alloc | apply Kd.R_drewN | apply Kd.R_drew)); exact HO242.out) hb); have n4_ := Aside0.mk (Kd.R_below (by (with_reducible repeat (first | apply Kd.R_alloc | apply Kd.R_drewN | apply Kd.R_drew)); exact HO250.out) hb); have n5_ := Aside0.mk (Kd.R_below (by (with_reducible repeat (first | apply Kd.R_alloc | apply Kd.R_drewN | apply Kd.R_drew)); exact HO253.out) hb); have n6_ := Aside0.mk (blk_below (g := gb217) (o := .cells #[.slice A0_0 l0_0.length c0_0, .slice A0_1 l0_1.length c0_1, .slice A0_2 l0_2.length c0_2] 41 (0, 0)) (by (with_reducible repeat (first | refine blk_drewN ?_ _ | refine blk_drew ?_ | refine blk_alloc ?_ _)); exact BK217.out) hb); have n7_ := Aside0.mk (blk_below (g := gb224) (o := .cells #[.slice Ao15 t218.length co15, .slice Ao18 t221.length co18] 25 (0, 0)) (by (with_reducible repeat (first | refine blk_drewN ?_ _ | refine blk_drew ?_ | refine blk_alloc ?_ _)); exact BK224.out) hb); have n8_ := Aside0.mk (blk_below (g := gb244) (o := .cells #[.slice Ao65 t237.length co65, .slice Ao69 t240.length co69] 25 (0, 0)) (by (with_reducible repeat (first | refine blk_drewN ?_ _ | refine blk_drew ?_ | refine blk_alloc ?_ _)); exact BK244.out) hb); have n9_ := Aside0.mk (below_step (by repeat (first | (with_reducible first | exact HB.out | apply below_alloc | apply pw_below_drewN | apply below_drew1 | refine below_set ?_ GE217.out | refine below_set ?_ GE224.out | refine below_set ?_ GE244.out) | exact HB.out)) hb); have n10_ := Aside0.mk (hbox); have n11_ := Aside0.mk ((by rw [hg]; exact (below_size (by repeat (first | (with_reducible first | exact HB.out | apply below_alloc | apply pw_below_drewN | apply below_drew1 | refine below_set ?_ GE217.out | refine below_set ?_ GE224.out | refine below_set ?_ GE244.out) | exact HB.out))) : w.heap.size ≤ gb255)); have n12_ := Aside0.mk ((by rw [hg]; exact (below_size (by repeat (first | (with_reducible first | exact HB.out | apply below_alloc | apply pw_below_drewN | apply below_drew1 | refine below_set ?_ GE217.out | refine below_set ?_ GE224.out | refine below_set ?_ GE244.out) | exact HB.out))) : w.heap.size ≤ gb255)); have n13_ := Aside0.mk ((by rw [hg]; exact Nat.ne_of_lt (blk_lt (g := gb217) (o := .cells #[.slice A0_0 l0_0.length c0_0, .slice A0_1 l0_1.length c0_1, .slice A0_2 l0_2.length c0_2] 41 (0, 0)) (by (with_reducible repeat (first | refine blk_drewN ?_ _ | refine blk_drew ?_ | refine blk_alloc ?_ _)); exact BK217.out)) : gb217 ≠ gb255)); have n14_ := Aside0.mk ((by rw [hg]; exact Nat.ne_of_gt (blk_lt (g := gb217) (o := .cells #[.slice A0_0 l0_0.length c0_0, .slice A0_1 l0_1.length c0_1, .slice A0_2 l0_2.length c0_2] 41 (0, 0)) (by (with_reducible repeat (first | refine blk_drewN ?_ _ | refine blk_drew ?_ | refine blk_alloc ?_ _)); exact BK217.out)) : gb255 ≠ gb217)); have n15_ := Aside0.mk ((by rw [hg]; exact Nat.ne_of_lt (blk_lt (g := gb224) (o := .cells #[.slice Ao15 t218.length co15, .slice Ao18 t221.length co18] 25 (0, 0)) (by (with_reducible repeat (first | refine blk_drewN ?_ _ | refine blk_drew ?_ | refine blk_alloc ?_ _)); exact BK224.out)) : gb224 ≠ gb255)); have n16_ := Aside0.mk ((by rw [hg]; exact Nat.ne_of_gt (blk_lt (g := gb224) (o := .cells #[.slice Ao15 t218.length co15, .slice Ao18 t221.length co18] 25 (0, 0)) (by (with_reducible repeat (first | refine blk_drewN ?_ _ | refine blk_drew ?_ | refine blk_alloc ?_ _)); exact BK224.out)) : gb255 ≠ gb224)); have n17_ := Aside0.mk ((by rw [hg]; exact Nat.ne_of_lt (blk_lt (g := gb244) (o := .cells #[.slice Ao65 t237.length co65, .slice Ao69 t240.length co69] 25 (0, 0)) (by (with_reducible repeat (first | refine blk_drewN ?_ _ | refine blk_drew ?_ | refine blk_alloc ?_ _)); exact BK244.out)) : gb244 ≠ gb255)); have n18_ := Aside0.mk ((by rw [hg]; exact Nat.ne_of_gt (blk_lt (g := gb244) (o := .cells #[.slice Ao65 t237.length co65, .slice Ao69 t240.length co69] 25 (0, 0)) (by (with_reducible repeat (first | refine blk_drewN ?_ _ | refine blk_drew ?_ | refine blk_alloc ?_ _)); exact BK244.out)) : gb255 ≠ gb244)); clear HO_225000; clear HO_225001; clear HO239; clear HO242; clear HO250; clear HO253; clear BK217; clear BK224; clear BK244; clear HB; have HO_225000 := n0_; have HO_225001 := n1_; have HO239 := n2_; have HO242 := n3_; have HO250 := n4_; have HO253 := n5_; have BK217 := n6_; have BK224 := n7_; have BK244 := n8_; have HB := n9_; have BK255 := n10_; have GW255 := n11_; have GE255 := n12_; have NB217_255 := n13_; have NB255_217 := n14_; have NB224_255 := n15_; have NB255_224 := n16_; have NB244_255 := n17_; have NB255_244 := n18_; clear n0_ n1_ n2_ n3_ n4_ n5_ n6_ n7_ n8_ n9_ n10_ n11_ n12_ n13_ n14_ n15_ n16_ n17_ n18_; clear hb hbox hg; obtain ⟨Ao73, co73, eo73⟩ := Kd.R_slice HO250.out; subst eo73; have hnb74 := NB255_217.out; have hnc74 := NB217_255.out; have hnb75 := NB255_224.out; have hnc75 := NB224_255.out; have hnb76 := NB255_244.out; have hnc76 := NB244_255.out; have hcz77_0 : w72.cell? ⟨gb255, 0, none⟩ = some (.slice none 0 0) := (blk_cell BK255.out 0).trans rfl; have hcz77_1 : w72.cell? ⟨gb255, 1, none⟩ = some (.slice none 0 0) := (blk_cell BK255.out 1).trans rfl; have hfz77_0 := blk_frozen BK255.out 0; have hfz77_1 := blk_frozen BK255.out 1; obtain ⟨Ao78, co78, eo78⟩ := Kd.R_slice HO253.out; subst eo78; have hcz79_0 : w72.cell? ⟨gb244, 0, none⟩ = some (.slice Ao65 t237.length co65) := (blk_cell BK244.out 0).trans rfl; have hcz79_1 : w72.cell? ⟨gb244, 1, none⟩ = some (.slice Ao69 t240.length co69) := (blk_cell BK244.out 1).trans rfl; have hfz79_0 := blk_frozen BK244.out 0; have hfz79_1 := blk_frozen BK244.out 1) | (go_at_call 15; (with_reducible refine (porticolaw4_equal.calls kj9 _ _ t237 _ _ t240 _ _ t248 _ _ t251 true _ ?side1 ?side2 ?side3 ?side4 ?side5 ?side6 ?side7 ?side8 A60.out).mono ?_); (case side1 => refine (Kd.R_reads' (e := 9) (base := w.heap.size) (ok := fun k_ => ((True ∧ some k_ ≠ (.slice Ao15 t218.length co15 : Value).ownBlock) ∧ some k_ ≠ (.slice Ao73 t248.length co73 : Value).ownBlock)) (n := t237.length) (c := co65) ?_).2.2; exact (by (with_reducible repeat (first | apply Kd.R_alloc | apply Kd.R_drewN | apply Kd.R_drew)); exact (Kd.R_mono (Kd.R_far (p := ⟨gb255, 1, none⟩) (Kd.R_far (p := ⟨gb255, 0, none⟩) (Kd.R_types HO239.out BK255.out (by decide)) (fun _ hk => hk.2) (.slice Ao73 t248.length co73)) (fun _ hk => hk.2) (.slice Ao78 t251.length co78)) (fun _ h_ => h_.1)))); (case side2 => exact (Kd.R_reads' HO239.out).2.1); (case side3 => refine (Kd.R_reads' (e := 32) (base := w.heap.size) (ok := fun k_ => ((True ∧ some k_ ≠ (.slice Ao18 t221.length co18 : Value).ownBlock) ∧ some k_ ≠ (.slice Ao78 t251.length co78 : Value).ownBlock)) (n := t240.length) (c := co69) ?_).2.2; exact (by (with_reducible repeat (first | apply Kd.R_alloc | apply Kd.R_drewN | apply Kd.R_drew)); exact (Kd.R_mono (Kd.R_far (p := ⟨gb255, 1, none⟩) (Kd.R_far (p := ⟨gb255, 0, none⟩) (Kd.R_types HO242.out BK255.out (by decide)) (fun _ hk => hk.2) (.slice Ao73 t248.length co73)) (fun _ hk => hk.2) (.slice Ao78 t251.length co78)) (fun _ h_ => h_.1)))); (case side4 => exact (Kd.R_reads' HO242.out).2.1); (case side5 => refine (Kd.R_reads' (e := 9) (base := w.heap.size) (ok := fun k_ => ((True ∧ some k_ ≠ (.slice Ao15 t218.length co15 : Value).ownBlock) ∧ some k_ ≠ (.slice Ao65 t237.length co65 : Value).ownBlock)) (n := t248.length) (c := co73) ?_).2.2; exact (by (with_reducible repeat (first | apply Kd.R_alloc | apply Kd.R_drewN | apply Kd.R_drew)); exact (Kd.R_mono (Kd.R_far (p := ⟨gb255, 1, none⟩) (Kd.R_far (p := ⟨gb255, 0, none⟩) (Kd.R_types HO250.out BK255.out (by decide)) (fun _ hk => hk.2) (.slice Ao73 t248.length co73)) (fun _ hk => hk.2) (.slice Ao78 t251.length co78)) (fun _ h_ => h_.1)))); (case side6 => exact (Kd.R_reads' HO250.out).2.1); (case side7 => refine (Kd.R_reads' (e := 32) (base := w.heap.size) (ok := fun k_ => ((True ∧ some k_ ≠ (.slice Ao18 t221.length co18 : Value).ownBlock) ∧ some k_ ≠ (.slice Ao69 t240.length co69 : Value).ownBlock)) (n := t251.length) (c := co78) ?_).2.2; exact (by (with_reducible repeat (first | apply Kd.R_alloc | apply Kd.R_drewN | apply Kd.R_drew)); exact (Kd.R_mono (Kd.R_far (p := ⟨gb255, 1, none⟩) (Kd.R_far (p := ⟨gb255, 0, none⟩) (Kd.R_types HO253.out BK255.out (by decide)) (fun _ hk => hk.2) (.slice Ao73 t248.length co73)) (fun _ hk => hk.2) (.slice Ao78 t251.length co78)) (fun _ h_ => h_.1)))); (case side8 => exact (Kd.R_reads' HO253.out).2.1); rintro e w80 ⟨rfl, hb⟩; have n0_ := Aside0.mk (Kd.R_below (by (with_reducible repeat (first | apply Kd.R_alloc | apply Kd.R_drewN | apply Kd.R_drew)); exact (Kd.R_mono (Kd.R_far (p := ⟨gb255, 1, none⟩) (Kd.R_far (p := ⟨gb255, 0, none⟩) (Kd.R_types HO_225000.out BK255.out (by decide)) (fun _ hk => hk.2) (.slice Ao73 t248.length co73)) (fun _ hk => hk.2) (.slice Ao78 t251.length co78)) (fun _ h_ => h_.1))) hb); have n1_ := Aside0.mk (Kd.R_below (by (with_reducible repeat (first | apply Kd.R_alloc | apply Kd.R_drewN | apply Kd.R_drew)); exact (Kd.R_mono (Kd.R_far (p := ⟨gb255, 1, none⟩) (Kd.R_far (p := ⟨gb255, 0, none⟩) (Kd.R_types HO_225001.out BK255.out (by decide)) (fun _ hk => hk.2) (.slice Ao73 t248.length co73)) (fun _ hk => hk.2) (.slice Ao78 t251.length co78)) (fun _ h_ => h_.1))) hb); have n2_ := Aside0.mk (Kd.R_below (by (with_reducible repeat (first | apply Kd.R_alloc | apply Kd.R_drewN | apply Kd.R_drew)); exact (Kd.R_mono (Kd.R_far (p := ⟨gb255, 1, none⟩) (Kd.R_far (p := ⟨gb255, 0, none⟩) (Kd.R_types HO239.out BK255.out (by decide)) (fun _ hk => hk.2) (.slice Ao73 t248.length co73)) (fun _ hk => hk.2) (.slice Ao78 t251.length co78)) (fun _ h_ => h_.1))) hb); have n3_ := Aside0.mk (Kd.R_below (by (with_reducible repeat (first | apply Kd.R_alloc | apply Kd.R_drewN | apply Kd.R_drew)); exact (Kd.R_mono (Kd.R_far (p := ⟨gb255, 1, none⟩) (Kd.R_far (p := ⟨gb255, 0, none⟩) (Kd.R_types HO242.out BK255.out (by decide)) (fun _ hk => hk.2) (.slice Ao73 t248.length co73)) (fun _ hk => hk.2) (.slice Ao78 t251.length co78)) (fun _ h_ => h_.1))) hb); have n4_ := Aside0.mk (Kd.R_below (by (with_reducible repeat (first | apply Kd.R_alloc | apply Kd.R_drewN | apply Kd.R_drew)); exact (Kd.R_mono (Kd.R_far (p := ⟨gb255, 1, none⟩) (Kd.R_far (p := ⟨gb255, 0, none⟩) (Kd.R_types HO250.out BK255.out (by decide)) (fun _ hk => hk.2) (.slice Ao73 t248.length co73)) (fun _ hk => hk.2) (.slice Ao78 t251.length co78)) (fun _ h_ => h_.1))) hb); have n5_ := Aside0.mk (Kd.R_below (by (with_reducible repeat (first | apply Kd.R_alloc | apply Kd.R_drewN | apply Kd.R_drew)); exact (Kd.R_mono (Kd.R_far (p := ⟨gb255, 1, none⟩) (Kd.R_far (p := ⟨gb255, 0, none⟩) (Kd.R_types HO253.out BK255.out (by decide)) (fun _ hk => hk.2) (.slice Ao73 t248.length co73)) (fun _ hk => hk.2) (.slice Ao78 t251.length co78)) (fun _ h_ => h_.1))) hb); have n6_ := Aside0.mk (blk_below (g := gb217) (o := .cells #[.slice A0_0 l0_0.length c0_0, .slice A0_1 l0_1.length c0_1, .slice A0_2 l0_2.length c0_2] 41 (0, 0)) (by (with_reducible repeat (first | refine blk_drewN ?_ _ | refine blk_drew ?_ | refine blk_alloc ?_ _)); refine blk_far ?_ NB217_255.out _; (with_reducible repeat (first | refine blk_drewN ?_ _ | refine blk_drew ?_ | refine blk_alloc ?_ _)); refine blk_far ?_ NB217_255.out _; (with_reducible repeat (first | refine blk_drewN ?_ _ | refine blk_drew ?_ | refine blk_alloc ?_ _)); exact BK217.out) hb); have n7_ := Aside0.mk (blk_below (g := gb224) (o := .cells #[.slice Ao15 t218.length co15, .slice Ao18 t221.length co18] 25 (0, 0)) (by (with_reducible repeat (first | refine blk_drewN ?_ _ | refine blk_drew ?_ | refine blk_alloc ?_ _)); refine blk_far ?_ NB224_255.out _; (with_reducible repeat (first | refine blk_drewN ?_ _ | refine blk_drew ?_ | refine blk_alloc ?_ _)); refine blk_far ?_ NB224_255.out _; (with_reducible repeat (first | refine blk_drewN ?_ _ | refine blk_drew ?_ | refine blk_alloc ?_ _)); exact BK224.out) hb); have n8_ := Aside0.mk (blk_below (g := gb244) (o := .cells #[.slice Ao65 t237.length co65, .slice Ao69 t240.length co69] 25 (0, 0)) (by (with_reducible repeat (first | refine blk_drewN ?_ _ | refine blk_drew ?_ | refine blk_alloc ?_ _)); refine blk_far ?_ NB244_255.out _; (with_reducible repeat (first | refine blk_drewN ?_ _ | refine blk_drew ?_ | refine blk_alloc ?_ _)); refine blk_far ?_ NB244_255.out _; (with_reducible repeat (first | refine blk_drewN ?_ _ | refine blk_drew ?_ | refine blk_alloc ?_ _)); exact BK244.out) hb); have n9_ := Aside0.mk (blk_below (g := gb255) (o := .cells #[.slice Ao73 t248.length co73, .slice Ao78 t251.length co78] 25 (0, 0)) (by (with_reducible repeat (first | refine blk_drewN ?_ _ | refine blk_drew ?_ | refine blk_alloc ?_ _)); refine blk_put (cs := #[.slice Ao73 t248.length co73, .slice none 0 0]) ?_ 1 _ rfl; (with_reducible repeat (first | refine blk_drewN ?_ _ | refine blk_drew ?_ | refine blk_alloc ?_ _)); refine blk_put (cs := #[.slice none 0 0, .slice none 0 0]) ?_ 0 _ rfl; (with_reducible repeat (first | refine blk_drewN ?_ _ | refine blk_drew ?_ | refine blk_alloc ?_ _)); exact BK255.out) hb); have n10_ := Aside0.mk (below_step (by repeat (first | (with_reducible first | exact HB.out | apply below_alloc | apply pw_below_drewN | apply below_drew1 | refine below_set ?_ GE217.out | refine below_set ?_ GE224.out | refine below_set ?_ GE244.out | refine below_set ?_ GE255.out) | exact HB.out)) hb); clear HO_225000; clear HO_225001; clear HO239; clear HO242; clear HO250; clear HO253; clear BK217; clear BK224; clear BK244; clear BK255; clear HB; have HO_225000 := n0_; have HO_225001 := n1_; have HO239 := n2_; have HO242 := n3_; have HO250 := n4_; have HO253 := n5_; have BK217 := n6_; have BK224 := n7_; have BK244 := n8_; have BK255 := n9_; have HB := n10_; clear n0_ n1_ n2_ n3_ n4_ n5_ n6_ n7_ n8_ n9_ n10_; (try clear hb); (try clear hb2); (try clear hk); (try clear hi)) | (go_at_call 3; (with_reducible refine (porticolaw4_URLRuns.calls kj9  t257 _ A62.out).mono ?_); rintro e w81 ⟨rfl, hb⟩; have n0_ := Aside0.mk (Kd.R_below (by (with_reducible repeat (first | apply Kd.R_alloc | apply Kd.R_drewN | apply Kd.R_drew)); exact HO_225000.out) hb); have n1_ := Aside0.mk (Kd.R_below (by (with_reducible repeat (first | apply Kd.R_alloc | apply Kd.R_drewN | apply Kd.R_drew)); exact HO_225001.out) hb); have n2_ := Aside0.mk (Kd.R_below (by (with_reducible repeat (first | apply Kd.R_alloc | apply Kd.R_drewN | apply Kd.R_drew)); exact HO239.out) hb); have n3_ := Aside0.mk (Kd.R_below (by (with_reducible repeat (first | apply Kd.R_alloc | apply Kd.R_drewN | apply Kd.R_drew)); exact HO242.out) hb); have n4_ := Aside0.mk (Kd.R_below (by (with_reducible repeat (first | apply Kd.R_alloc | apply Kd.R_drewN | apply Kd.R_drew)); exact HO250.out) hb); have n5_ := Aside0.mk (Kd.R_below (by (with_reducible repeat (first | apply Kd.R_alloc | apply Kd.R_drewN | apply Kd.R_drew)); exact HO253.out) hb); have n6_ := Aside0.mk (blk_below (g := gb217) (o := .cells #[.slice A0_0 l0_0.length c0_0, .slice A0_1 l0_1.length c0_1, .slice A0_2 l0_2.length c0_2] 41 (0, 0)) (by (with_reducible repeat (first | refine blk_drewN ?_ _ | refine blk_drew ?_ | refine blk_alloc ?_ _)); exact BK217.out) hb); have n7_ := Aside0.mk (blk_below (g := gb224) (o := .cells #[.slice Ao15 t218.length co15, .slice Ao18 t221.length co18] 25 (0, 0)) (by (with_reducible repeat (first | refine blk_drewN ?_ _ | refine blk_drew ?_ | refine blk_alloc ?_ _)); exact BK224.out) hb); have n8_ := Aside0.mk (blk_below (g := gb244) (o := .cells #[.slice Ao65 t237.length co65, .slice Ao69 t240.length co69] 25 (0, 0)) (by (with_reducible repeat (first | refine blk_drewN ?_ _ | refine blk_drew ?_ | refine blk_alloc ?_ _)); exact BK244.out) hb); have n9_ := Aside0.mk (blk_below (g := gb255) (o := .cells #[.slice Ao73 t248.length co73, .slice Ao78 t251.length co78] 25 (0, 0)) (by (with_reducible repeat (first | refine blk_drewN ?_ _ | refine blk_drew ?_ | refine blk_alloc ?_ _)); exact BK255.out) hb); have n10_ := Aside0.mk (below_step (by repeat (first | (with_reducible first | exact HB.out | apply below_alloc | apply pw_below_drewN | apply below_drew1 | refine below_set ?_ GE217.out | refine below_set ?_ GE224.out | refine below_set ?_ GE244.out | refine below_set ?_ GE255.out) | exact HB.out)) hb); clear HO_225000; clear HO_225001; clear HO239; clear HO242; clear HO250; clear HO253; clear BK217; clear BK224; clear BK244; clear BK255; clear HB; have HO_225000 := n0_; have HO_225001 := n1_; have HO239 := n2_; have HO242 := n3_; have HO250 := n4_; have HO253 := n5_; have BK217 := n6_; have BK224 := n7_; have BK244 := n8_; have BK255 := n9_; have HB := n10_; clear n0_ n1_ n2_ n3_ n4_ n5_ n6_ n7_ n8_ n9_ n10_; (try clear hb); (try clear hb2); (try clear hk); (try clear hi)))
              go_ret
              exact ⟨by first | rfl | (simp [errW_none, errW_some] <;> rfl) | (simp [*, errW_none, errW_some] <;> rfl), by repeat (first | (with_reducible first | exact HB.out | apply below_alloc | apply pw_below_drewN | apply below_drew1 | refine below_set ?_ GE217.out | refine below_set ?_ GE224.out | refine below_set ?_ GE244.out | refine below_set ?_ GE255.out) | exact HB.out)⟩
            · replace c61 := Bool.eq_false_iff.mpr c61
              subst c61
              have H1 : (none) = some r := by rw [if_neg (show ¬ (false = true) by decide)] at H; exact H
              clear H
              have H := H1
              clear H1
              exact absurd H (by simp)
          · rw [if_neg c59] at H
            exact absurd H (by simp)
        · rw [if_neg c56] at H
          have c56b0 : (t243 == 0) = false := beq_eq_false_iff_ne.mpr c56
          have c56b1 : (t243 != 0) = true := bne_iff_ne.mpr c56
          by_cases c82 : t243 = 1
          · rw [if_pos c82] at H
            have c82b0 : (t243 == 1) = true := beq_iff_eq.mpr c82
            have c82b1 : (t243 != 1) = false := bne_eq_false_iff_eq.mpr c82
            clear c82
            replace H := Option.bind_eq_some_iff.mp H
            obtain ⟨t245, A830, H⟩ := H
            replace H : (if t245 = true then ((porticolaw4_URLRuns.f kj9).bind fun t246 => (some t246)) else (none)) = some r := H
            have A83 := Aside0.mk A830
            clear A830
            by_cases c84 : t245 = true
            · subst c84
              have H1 : ((porticolaw4_URLRuns.f kj9).bind fun t246 => (some t246)) = some r := by rw [if_pos rfl] at H; exact H
              clear H
              have H := H1
              clear H1
              replace H := Option.bind_eq_some_iff.mp H
              obtain ⟨t246, A850, H⟩ := H
              replace H : (some t246) = some r := H
              have A85 := Aside0.mk A850
              clear A850
              obtain rfl := Option.some.inj H
              go_wp2_with (first | ((with_reducible refine gate_callee (f := 9) rfl ?_); refine goesL_ (some 74) rfl rfl Tryd.func9 (by kernel_rfl) rfl #[.string x10_9] rfl (by (try simp only [List.map_toArray, List.map_cons, List.map_nil]); first | done | rfl | (simp only [List.length_drop, List.length_take]; rfl)) ?_; (with_reducible refine (url_Parse.calls kj9 x10_9 t237 t240 t243 _ A55.out).mono ?_); rintro e w86 ⟨v238, v241, rfl, ho0, ho1, hb⟩; refine ⟨_, rfl, ?_⟩; have n0_ := Aside0.mk (Kd.R_elder' (by (with_reducible repeat (first | apply Kd.R_alloc | apply Kd.R_drewN | apply Kd.R_drew)); exact HO_225000.out) (Kd.R_base ho0) hb); have n1_ := Aside0.mk (Kd.R_elder' (by (with_reducible repeat (first | apply Kd.R_alloc | apply Kd.R_drewN | apply Kd.R_drew)); exact HO_225001.out) (Kd.R_base ho1) hb); have n2_ := Aside0.mk (Kd.R_lower (Kd.R_new' ho0 (Kd.R_lt (by (with_reducible repeat (first | apply Kd.R_alloc | apply Kd.R_drewN | apply Kd.R_drew)); exact HO_225000.out))) (below_size (by repeat (first | (with_reducible first | exact HB.out | apply below_alloc | apply pw_below_drewN | apply below_drew1 | refine below_set ?_ GE217.out | refine below_set ?_ GE224.out) | exact HB.out)))); have n3_ := Aside0.mk (Kd.R_lower (Kd.R_new' ho1 (Kd.R_lt (by (with_reducible repeat (first | apply Kd.R_alloc | apply Kd.R_drewN | apply Kd.R_drew)); exact HO_225001.out))) (below_size (by repeat (first | (with_reducible first | exact HB.out | apply below_alloc | apply pw_below_drewN | apply below_drew1 | refine below_set ?_ GE217.out | refine below_set ?_ GE224.out) | exact HB.out)))); have n4_ := Aside0.mk (blk_below (g := gb217) (o := .cells #[.slice A0_0 l0_0.length c0_0, .slice A0_1 l0_1.length c0_1, .slice A0_2 l0_2.length c0_2] 41 (0, 0)) (by (with_reducible repeat (first | refine blk_drewN ?_ _ | refine blk_drew ?_ | refine blk_alloc ?_ _)); exact BK217.out) hb); have n5_ := Aside0.mk (blk_below (g := gb224) (o := .cells #[.slice Ao15 t218.length co15, .slice Ao18 t221.length co18] 25 (0, 0)) (by (with_reducible repeat (first | refine blk_drewN ?_ _ | refine blk_drew ?_ | refine blk_alloc ?_ _)); exact BK224.out) hb); have n6_ := Aside0.mk (below_step (by repeat (first | (with_reducible first | exact HB.out | apply below_alloc | apply pw_below_drewN | apply below_drew1 | refine below_set ?_ GE217.out | refine below_set ?_ GE224.out) | exact HB.out)) hb); clear HO_225000; clear HO_225001; clear BK217; clear BK224; clear HB; have HO_225000 := n0_; have HO_225001 := n1_; have HO239 := n2_; have HO242 := n3_; have BK217 := n4_; have BK224 := n5_; have HB := n6_; clear n0_ n1_ n2_ n3_ n4_ n5_ n6_; (try clear hb); (try clear hb2); (try clear hk); (try clear hi); (try clear ho0); (try clear ho1)) | ((with_reducible refine gate_dst (N := 12) rfl ?_); refine box_event ?hg (N := 12) ?hd (cs := #[.slice none 0 0, .slice none 0 0]) (t := 25) ?hr ?_; (case hd => rfl); (case hg => rfl); (case hr => first | (go_simp; done) | (go_simp; rfl)); intro gb244 hg w87 hbox hb; have n0_ := Aside0.mk (Kd.R_below (by (with_reducible repeat (first | apply Kd.R_alloc | apply Kd.R_drewN | apply Kd.R_drew)); exact HO_225000.out) hb); have n1_ := Aside0.mk (Kd.R_below (by (with_reducible repeat (first | apply Kd.R_alloc | apply Kd.R_drewN | apply Kd.R_drew)); exact HO_225001.out) hb); have n2_ := Aside0.mk (Kd.R_below (by (with_reducible repeat (first | apply Kd.R_alloc | apply Kd.R_drewN | apply Kd.R_drew)); exact HO239.out) hb); have n3_ := Aside0.mk (Kd.R_below (by (with_reducible repeat (first | apply Kd.R_alloc | apply Kd.R_drewN | apply Kd.R_drew)); exact HO242.out) hb); have n4_ := Aside0.mk (blk_below (g := gb217) (o := .cells #[.slice A0_0 l0_0.length c0_0, .slice A0_1 l0_1.length c0_1, .slice A0_2 l0_2.length c0_2] 41 (0, 0)) (by (with_reducible repeat (first | refine blk_drewN ?_ _ | refine blk_drew ?_ | refine blk_alloc ?_ _)); exact BK217.out) hb); have n5_ := Aside0.mk (blk_below (g := gb224) (o := .cells #[.slice Ao15 t218.length co15, .slice Ao18 t221.length co18] 25 (0, 0)) (by (with_reducible repeat (first | refine blk_drewN ?_ _ | refine blk_drew ?_ | refine blk_alloc ?_ _)); exact BK224.out) hb); have n6_ := Aside0.mk (below_step (by repeat (first | (with_reducible first | exact HB.out | apply below_alloc | apply pw_below_drewN | apply below_drew1 | refine below_set ?_ GE217.out | refine below_set ?_ GE224.out) | exact HB.out)) hb); have n7_ := Aside0.mk (hbox); have n8_ := Aside0.mk ((by rw [hg]; exact (below_size (by repeat (first | (with_reducible first | exact HB.out | apply below_alloc | apply pw_below_drewN | apply below_drew1 | refine below_set ?_ GE217.out | refine below_set ?_ GE224.out) | exact HB.out))) : w.heap.size ≤ gb244)); have n9_ := Aside0.mk ((by rw [hg]; exact (below_size (by repeat (first | (with_reducible first | exact HB.out | apply below_alloc | apply pw_below_drewN | apply below_drew1 | refine below_set ?_ GE217.out | refine below_set ?_ GE224.out) | exact HB.out))) : w.heap.size ≤ gb244)); have n10_ := Aside0.mk ((by rw [hg]; exact Nat.ne_of_lt (blk_lt (g := gb217) (o := .cells #[.slice A0_0 l0_0.length c0_0, .slice A0_1 l0_1.length c0_1, .slice A0_2 l0_2.length c0_2] 41 (0, 0)) (by (with_reducible repeat (first | refine blk_drewN ?_ _ | refine blk_drew ?_ | refine blk_alloc ?_ _)); exact BK217.out)) : gb217 ≠ gb244)); have n11_ := Aside0.mk ((by rw [hg]; exact Nat.ne_of_gt (blk_lt (g := gb217) (o := .cells #[.slice A0_0 l0_0.length c0_0, .slice A0_1 l0_1.length c0_1, .slice A0_2 l0_2.length c0_2] 41 (0, 0)) (by (with_reducible repeat (first | refine blk_drewN ?_ _ | refine blk_drew ?_ | refine blk_alloc ?_ _)); exact BK217.out)) : gb244 ≠ gb217)); have n12_ := Aside0.mk ((by rw [hg]; exact Nat.ne_of_lt (blk_lt (g := gb224) (o := .cells #[.slice Ao15 t218.length co15, .slice Ao18 t221.length co18] 25 (0, 0)) (by (with_reducible repeat (first | refine blk_drewN ?_ _ | refine blk_drew ?_ | refine blk_alloc ?_ _)); exact BK224.out)) : gb224 ≠ gb244)); have n13_ := Aside0.mk ((by rw [hg]; exact Nat.ne_of_gt (blk_lt (g := gb224) (o := .cells #[.slice Ao15 t218.length co15, .slice Ao18 t221.length co18] 25 (0, 0)) (by (with_reducible repeat (first | refine blk_drewN ?_ _ | refine blk_drew ?_ | refine blk_alloc ?_ _)); exact BK224.out)) : gb244 ≠ gb224)); clear HO_225000; clear HO_225001; clear HO239; clear HO242; clear BK217; clear BK224; clear HB; have HO_225000 := n0_; have HO_225001 := n1_; have HO239 := n2_; have HO242 := n3_; have BK217 := n4_; have BK224 := n5_; have HB := n6_; have BK244 := n7_; have GW244 := n8_; have GE244 := n9_; have NB217_244 := n10_; have NB244_217 := n11_; have NB224_244 := n12_; have NB244_224 := n13_; clear n0_ n1_ n2_ n3_ n4_ n5_ n6_ n7_ n8_ n9_ n10_ n11_ n12_ n13_; clear hb hbox hg; obtain ⟨Ao88, co88, eo88⟩ := Kd.R_slice HO239.out; subst eo88; have hnb89 := NB244_217.out; have hnc89 := NB217_244.out; have hnb90 := NB244_224.out; have hnc90 := NB224_244.out; have hcz91_0 : w87.cell? ⟨gb244, 0, none⟩ = some (.slice none 0 0) := (blk_cell BK244.out 0).trans rfl; have hcz91_1 : w87.cell? ⟨gb244, 1, none⟩ = some (.slice none 0 0) := (blk_cell BK244.out 1).trans rfl; have hfz91_0 := blk_frozen BK244.out 0; have hfz91_1 := blk_frozen BK244.out 1; obtain ⟨Ao92, co92, eo92⟩ := Kd.R_slice HO242.out; subst eo92) | (go_at_call 15; (refine (porticolaw4_equal.calls kj9 _ _ t237 _ _ t240 _ _ ([] : List ByteArray) _ _ ([] : List (S32)) true _ ?side1 ?side2 ?side3 ?side4 ?side5 ?side6 ?side7 ?side8 A83.out).mono ?_); (case side1 => refine (Kd.R_reads' (e := 9) (base := w.heap.size) (ok := fun k_ => (True ∧ some k_ ≠ (.slice Ao15 t218.length co15 : Value).ownBlock)) (n := t237.length) (c := co88) ?_).2.2; exact (by (with_reducible repeat (first | apply Kd.R_alloc | apply Kd.R_drewN | apply Kd.R_drew)); exact (Kd.R_mono (Kd.R_far (p := ⟨gb244, 1, none⟩) (Kd.R_far (p := ⟨gb244, 0, none⟩) (Kd.R_types HO239.out BK244.out (by decide)) (fun _ hk => hk.2) (.slice Ao88 t237.length co88)) (fun _ hk => hk.2) (.slice Ao92 t240.length co92)) (fun _ h_ => h_.1)))); (case side2 => exact (Kd.R_reads' HO239.out).2.1); (case side3 => refine (Kd.R_reads' (e := 32) (base := w.heap.size) (ok := fun k_ => (True ∧ some k_ ≠ (.slice Ao18 t221.length co18 : Value).ownBlock)) (n := t240.length) (c := co92) ?_).2.2; exact (by (with_reducible repeat (first | apply Kd.R_alloc | apply Kd.R_drewN | apply Kd.R_drew)); exact (Kd.R_mono (Kd.R_far (p := ⟨gb244, 1, none⟩) (Kd.R_far (p := ⟨gb244, 0, none⟩) (Kd.R_types HO242.out BK244.out (by decide)) (fun _ hk => hk.2) (.slice Ao88 t237.length co88)) (fun _ hk => hk.2) (.slice Ao92 t240.length co92)) (fun _ h_ => h_.1)))); (case side4 => exact (Kd.R_reads' HO242.out).2.1); (case side5 => exact Kd.C_nil _ _); (case side6 => exact Nat.le_refl _); (case side7 => exact Kd.C_nil _ _); (case side8 => exact Nat.le_refl _); rintro e w93 ⟨rfl, hb⟩; have n0_ := Aside0.mk (Kd.R_below (by (with_reducible repeat (first | apply Kd.R_alloc | apply Kd.R_drewN | apply Kd.R_drew)); exact (Kd.R_mono (Kd.R_far (p := ⟨gb244, 1, none⟩) (Kd.R_far (p := ⟨gb244, 0, none⟩) (Kd.R_types HO_225000.out BK244.out (by decide)) (fun _ hk => hk.2) (.slice Ao88 t237.length co88)) (fun _ hk => hk.2) (.slice Ao92 t240.length co92)) (fun _ h_ => h_.1))) hb); have n1_ := Aside0.mk (Kd.R_below (by (with_reducible repeat (first | apply Kd.R_alloc | apply Kd.R_drewN | apply Kd.R_drew)); exact (Kd.R_mono (Kd.R_far (p := ⟨gb244, 1, none⟩) (Kd.R_far (p := ⟨gb244, 0, none⟩) (Kd.R_types HO_225001.out BK244.out (by decide)) (fun _ hk => hk.2) (.slice Ao88 t237.length co88)) (fun _ hk => hk.2) (.slice Ao92 t240.length co92)) (fun _ h_ => h_.1))) hb); have n2_ := Aside0.mk (Kd.R_below (by (with_reducible repeat (first | apply Kd.R_alloc | apply Kd.R_drewN | apply Kd.R_drew)); exact (Kd.R_mono (Kd.R_far (p := ⟨gb244, 1, none⟩) (Kd.R_far (p := ⟨gb244, 0, none⟩) (Kd.R_types HO239.out BK244.out (by decide)) (fun _ hk => hk.2) (.slice Ao88 t237.length co88)) (fun _ hk => hk.2) (.slice Ao92 t240.length co92)) (fun _ h_ => h_.1))) hb); have n3_ := Aside0.mk (Kd.R_below (by (with_reducible repeat (first | apply Kd.R_alloc | apply Kd.R_drewN | apply Kd.R_drew)); exact (Kd.R_mono (Kd.R_far (p := ⟨gb244, 1, none⟩) (Kd.R_far (p := ⟨gb244, 0, none⟩) (Kd.R_types HO242.out BK244.out (by decide)) (fun _ hk => hk.2) (.slice Ao88 t237.length co88)) (fun _ hk => hk.2) (.slice Ao92 t240.length co92)) (fun _ h_ => h_.1))) hb); have n4_ := Aside0.mk (blk_below (g := gb217) (o := .cells #[.slice A0_0 l0_0.length c0_0, .slice A0_1 l0_1.length c0_1, .slice A0_2 l0_2.length c0_2] 41 (0, 0)) (by (with_reducible repeat (first | refine blk_drewN ?_ _ | refine blk_drew ?_ | refine blk_alloc ?_ _)); refine blk_far ?_ NB217_244.out _; (with_reducible repeat (first | refine blk_drewN ?_ _ | refine blk_drew ?_ | refine blk_alloc ?_ _)); refine blk_far ?_ NB217_244.out _; (with_reducible repeat (first | refine blk_drewN ?_ _ | refine blk_drew ?_ | refine blk_alloc ?_ _)); exact BK217.out) hb); have n5_ := Aside0.mk (blk_below (g := gb224) (o := .cells #[.slice Ao15 t218.length co15, .slice Ao18 t221.length co18] 25 (0, 0)) (by (with_reducible repeat (first | refine blk_drewN ?_ _ | refine blk_drew ?_ | refine blk_alloc ?_ _)); refine blk_far ?_ NB224_244.out _; (with_reducible repeat (first | refine blk_drewN ?_ _ | refine blk_drew ?_ | refine blk_alloc ?_ _)); refine blk_far ?_ NB224_244.out _; (with_reducible repeat (first | refine blk_drewN ?_ _ | refine blk_drew ?_ | refine blk_alloc ?_ _)); exact BK224.out) hb); have n6_ := Aside0.mk (blk_below (g := gb244) (o := .cells #[.slice Ao88 t237.length co88, .slice Ao92 t240.length co92] 25 (0, 0)) (by (with_reducible repeat (first | refine blk_drewN ?_ _ | refine blk_drew ?_ | refine blk_alloc ?_ _)); refine blk_put (cs := #[.slice Ao88 t237.length co88, .slice none 0 0]) ?_ 1 _ rfl; (with_reducible repeat (first | refine blk_drewN ?_ _ | refine blk_drew ?_ | refine blk_alloc ?_ _)); refine blk_put (cs := #[.slice none 0 0, .slice none 0 0]) ?_ 0 _ rfl; (with_reducible repeat (first | refine blk_drewN ?_ _ | refine blk_drew ?_ | refine blk_alloc ?_ _)); exact BK244.out) hb); have n7_ := Aside0.mk (below_step (by repeat (first | (with_reducible first | exact HB.out | apply below_alloc | apply pw_below_drewN | apply below_drew1 | refine below_set ?_ GE217.out | refine below_set ?_ GE224.out | refine below_set ?_ GE244.out) | exact HB.out)) hb); clear HO_225000; clear HO_225001; clear HO239; clear HO242; clear BK217; clear BK224; clear BK244; clear HB; have HO_225000 := n0_; have HO_225001 := n1_; have HO239 := n2_; have HO242 := n3_; have BK217 := n4_; have BK224 := n5_; have BK244 := n6_; have HB := n7_; clear n0_ n1_ n2_ n3_ n4_ n5_ n6_ n7_; (try clear hb); (try clear hb2); (try clear hk); (try clear hi)) | (go_at_call 3; (with_reducible refine (porticolaw4_URLRuns.calls kj9  t246 _ A85.out).mono ?_); rintro e w94 ⟨rfl, hb⟩; have n0_ := Aside0.mk (Kd.R_below (by (with_reducible repeat (first | apply Kd.R_alloc | apply Kd.R_drewN | apply Kd.R_drew)); exact HO_225000.out) hb); have n1_ := Aside0.mk (Kd.R_below (by (with_reducible repeat (first | apply Kd.R_alloc | apply Kd.R_drewN | apply Kd.R_drew)); exact HO_225001.out) hb); have n2_ := Aside0.mk (Kd.R_below (by (with_reducible repeat (first | apply Kd.R_alloc | apply Kd.R_drewN | apply Kd.R_drew)); exact HO239.out) hb); have n3_ := Aside0.mk (Kd.R_below (by (with_reducible repeat (first | apply Kd.R_alloc | apply Kd.R_drewN | apply Kd.R_drew)); exact HO242.out) hb); have n4_ := Aside0.mk (blk_below (g := gb217) (o := .cells #[.slice A0_0 l0_0.length c0_0, .slice A0_1 l0_1.length c0_1, .slice A0_2 l0_2.length c0_2] 41 (0, 0)) (by (with_reducible repeat (first | refine blk_drewN ?_ _ | refine blk_drew ?_ | refine blk_alloc ?_ _)); exact BK217.out) hb); have n5_ := Aside0.mk (blk_below (g := gb224) (o := .cells #[.slice Ao15 t218.length co15, .slice Ao18 t221.length co18] 25 (0, 0)) (by (with_reducible repeat (first | refine blk_drewN ?_ _ | refine blk_drew ?_ | refine blk_alloc ?_ _)); exact BK224.out) hb); have n6_ := Aside0.mk (blk_below (g := gb244) (o := .cells #[.slice Ao88 t237.length co88, .slice Ao92 t240.length co92] 25 (0, 0)) (by (with_reducible repeat (first | refine blk_drewN ?_ _ | refine blk_drew ?_ | refine blk_alloc ?_ _)); exact BK244.out) hb); have n7_ := Aside0.mk (below_step (by repeat (first | (with_reducible first | exact HB.out | apply below_alloc | apply pw_below_drewN | apply below_drew1 | refine below_set ?_ GE217.out | refine below_set ?_ GE224.out | refine below_set ?_ GE244.out) | exact HB.out)) hb); clear HO_225000; clear HO_225001; clear HO239; clear HO242; clear BK217; clear BK224; clear BK244; clear HB; have HO_225000 := n0_; have HO_225001 := n1_; have HO239 := n2_; have HO242 := n3_; have BK217 := n4_; have BK224 := n5_; have BK244 := n6_; have HB := n7_; clear n0_ n1_ n2_ n3_ n4_ n5_ n6_ n7_; (try clear hb); (try clear hb2); (try clear hk); (try clear hi)))
              go_ret
              exact ⟨by first | rfl | (simp [errW_none, errW_some] <;> rfl) | (simp [*, errW_none, errW_some] <;> rfl), by repeat (first | (with_reducible first | exact HB.out | apply below_alloc | apply pw_below_drewN | apply below_drew1 | refine below_set ?_ GE217.out | refine below_set ?_ GE224.out | refine below_set ?_ GE244.out) | exact HB.out)⟩
            · replace c84 := Bool.eq_false_iff.mpr c84
              subst c84
              have H1 : (none) = some r := by rw [if_neg (show ¬ (false = true) by decide)] at H; exact H
              clear H
              have H := H1
              clear H1
              exact absurd H (by simp)
          · rw [if_neg c82] at H
            exact absurd H (by simp)

end Go.Proofs.YtcaaggfobdfgpaaDoor.PURLTurned
