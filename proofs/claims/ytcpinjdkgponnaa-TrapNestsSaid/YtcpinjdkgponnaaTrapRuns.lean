/- TrapRuns: the walk. -/
import Derived.Test.YtcpinjdkgponnaaTrap
set_option linter.unusedVariables false
set_option linter.unusedSimpArgs false
namespace Go.Proofs.Ytcpinjdkgponnaa.Trap
open Go.RowKit

theorem throws1 (w : World) : Calls Try.prog 8 #[] w fun en w' => en = thrown 6 ⟨#[120]⟩ 3 ∧ Below w.heap.size w w' := by
  go_enter Try.func8, Try.ntmps8
  go_wp2_with (go_at_call 9; refine (Throw_any _ _ _ _).mono ?_; rintro e w' ⟨rfl, rfl⟩)
  exact ⟨rfl, rfl, Below.refl _ _⟩
theorem passes2 (w : World) : Calls Try.prog 10 #[] w fun en w' => en = .returned (.tuple #[]) ∧ Below w.heap.size w w' := by
  go_enter Try.func10, Try.ntmps10
  go_wp2_with (go_at_call 11; refine (Must_true _ _ _ _).mono ?_; rintro e w' ⟨rfl, rfl⟩)
  go_end0
  exact ⟨rfl, Below.refl _ _⟩
set_option maxHeartbeats 1000000 in
theorem TrapRuns_any (w : World) : Calls Try.prog 3 #[] w fun en w' => en = .returned (.bool true) ∧ Below w.heap.size w w' := by
  have hc1 : ∀ w : World, (callFunc 8 #[]).run Try.prog w = .ok (.enter 8 #[]) w := fun w => by simp [go_sem, Try.func8]
  have hc2 : ∀ w : World, (callFunc 10 #[]).run Try.prog w = .ok (.enter 10 #[]) w := fun w => by simp [go_sem, Try.func10]
  go_enter Try.func3, Try.ntmps3
  go_wp2_with (fail)
  refine (Run_panics_below 6 ⟨#[120]⟩ 3 8 #[] _ hc1 throws1).mono ?_
  rintro e w1 ⟨rfl, b1⟩
  have B1 : Hid (Below w.heap.size w w1) := b1
  clear b1 hc1
  go_wp2_with (fail)
  refine (Run_returns_below 10 #[] _ hc2 passes2).mono ?_
  rintro e w2 ⟨rfl, b2⟩
  have hlt : w1.heap.size < (w1.alloc (.cells #[.int .i64 6, .string ⟨#[120]⟩, .int .i64 3] 24)).heap.size := by simp [go_sem]
  have c0 : ∀ o, (w2.alloc o).cell? ⟨w1.heap.size, 0, none⟩ = some (.int .i64 6) := fun o => by
    rw [World.cell?_alloc_past _ _ _ (Nat.lt_of_lt_of_le hlt b2.size), b2.cell (p := ⟨w1.heap.size, 0, none⟩) hlt]
    simp [go_sem]
  have c1 : ∀ o, (w2.alloc o).cell? ⟨w1.heap.size, 1, none⟩ = some (.string ⟨#[120]⟩) := fun o => by
    rw [World.cell?_alloc_past _ _ _ (Nat.lt_of_lt_of_le hlt b2.size), b2.cell (p := ⟨w1.heap.size, 1, none⟩) hlt]
    simp [go_sem]
  have c2 : ∀ o, (w2.alloc o).cell? ⟨w1.heap.size, 2, none⟩ = some (.int .i64 3) := fun o => by
    rw [World.cell?_alloc_past _ _ _ (Nat.lt_of_lt_of_le hlt b2.size), b2.cell (p := ⟨w1.heap.size, 2, none⟩) hlt]
    simp [go_sem]
  have hs2 := b2.size
  have B2 : Hid (Below w.heap.size w w2) := B1.out.trans (Below.trans ((Below.refl _ _).alloc B1.out.size _) (b2.mono (Nat.le_trans B1.out.size (Nat.le_of_lt hlt))))
  have hsz : Hid (w.heap.size ≤ w2.heap.size) := B2.out.size
  clear b2 hc2 hs2 hlt
  go_wp2_with (fail)
  go_ret
  exact ⟨rfl, B2.out.alloc hsz.out _⟩
end Go.Proofs.Ytcpinjdkgponnaa.Trap
