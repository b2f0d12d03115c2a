/- What the printed texts of the seat of life are given: maps of numbers. -/
import Derived.Test.YtnpmmmgaghhndaaProg
import Derived.Test.YtnpmmmgaghhndaaMapV
import Derived.Test.YtnpmmmgaghhndaaSl
import Derived.Test.YtnpmmmgaghhndaaIRow
import Derived.Test.YtnpmmmgaghhndaaWWords
import Derived.Test.YtnpmmmgaghhndaaWLast
import Derived.Test.YtnpmmmgaghhndaaWMore
import Derived.Maps.AppendAt
import Derived.OwnWalk
import Derived.Tactics
import Derived.WalkKit
import Derived.KernelRfl
import Derived.BigQuiet
import Derived.Deep.CutBlock
import Derived.Deep.DeepCutAuto
set_option linter.unusedVariables false
set_option linter.unusedSimpArgs false
namespace Go.Proofs.Ytnpmmmgaghhndaa.Given
open Go.RowKit Go.Maps Go.Proofs.Ytnpmmmgaghhndaa.Mv
theorem intKeyed : Keyed Try.prog 3 := int_keyed Try.underlying3
abbrev ki (x : Int) : Lit := .int .i64 x
theorem ki_key {x : Int} (h : (Lit.int .i64 x).wf = true) : keyOf Try.prog 3 (.int .i64 x) = some (ki x) := keyOf_int_mk Try.underlying3 h
theorem zeroState (w : World) : (zeroValue 36).run Try.prog w = .ok (.int .i64 0) w := by kernel_rfl
open Classical in
noncomputable def upd {α : Type} (f : Lit → α) (k : Lit) (v : α) : Lit → α := fun x => if x = k then v else f x
theorem upd_same {α : Type} (f : Lit → α) (k : Lit) (v : α) : upd f k v k = v := by simp [upd]
theorem upd_other {α : Type} (f : Lit → α) {k x : Lit} (v : α) (h : x ≠ k) : upd f k v x = f x := by simp [upd, h]
/-- A state behind an event. -/
def nextP (s k : Int) : Int × Bool := if (s = 0 ∧ k = 1) ∨ (s = 2 ∧ k = 2) then (1, true) else if s = 1 ∧ k = 3 then (2, true) else if k = 4 ∧ (s = 1 ∨ s = 2) then (3, true) else (s, false)
set_option maxHeartbeats 1000000 in
theorem Next_any (s k : Int) (w : World) : Calls Try.prog 14 #[.int .i64 s, .int .i64 k] w fun e w' => e = .returned (.tuple #[.int .i64 (nextP s k).1, .bool (nextP s k).2]) ∧ w' = w := by
  go_enter Try.func14, Try.ntmps14
  go_wp2_with fail
  all_goals go_ret2
  all_goals refine ⟨?_, rfl⟩
  all_goals (unfold nextP; (repeat' split) <;> first | rfl | (exfalso; simp_all <;> omega) | (simp_all; done) | simp_all)
end Go.Proofs.Ytnpmmmgaghhndaa.Given
