/- Package scroll: what its functions give, by bits. -/
import Derived.Test.YtemanoiaaaaopaaFloat
import Derived.Test.YtemanoiaaaaopaaWWords
import Derived.BigQuiet
import Derived.Deep.QuietTactic
import Derived.Lib.Hide
set_option linter.unusedVariables false
set_option linter.unusedSimpArgs false
namespace Go.Proofs.Ytemanoiaaaaopaa.Fl
open Go.RowKit

theorem bitsRun (b : Nat) (w : World) : (callFunc 7 #[.float .f64 b]).run Try.prog w = .ok (.value (.int .u64 (b : Int))) w := by kernel_rfl
theorem fromRun (n : Int) (w : World) : (callFunc 18 #[.int .u64 n]).run Try.prog w = .ok (.value (.float .f64 n.toNat)) w := by kernel_rfl
theorem offset_any (x : Nat) (hx : x < 18446744073709551616) (w : World) : Calls Try.prog 20 #[.float .f64 x] w fun en w' => en = .returned (.float .f64 (cl x)) ∧ w' = w := by
  have h1 := cmpTop x hx
  have h2 := cmpZero x hx
  have h1' : (FloatKind.f64.format.order x 4697254411347427328 == some .gt || FloatKind.f64.format.order x 4697254411347427328 == some .eq) = decide (top ≤ x ∧ x ≤ inf) := h1
  have h2' : (FloatKind.f64.format.order x 0 == some .gt) = decide (0 < x ∧ x ≤ inf) := h2
  clear h1 h2
  by_cases c1 : top ≤ x ∧ x ≤ inf
  · rw [decide_eq_true c1] at h1'
    have hc : cl x = top := by unfold cl; rw [if_pos c1.2]; split <;> omega
    rw [hc]
    go_enter Try.func20, Try.ntmps20
    go_wp2
    go_ret
    exact ⟨rfl, rfl⟩
  · rw [decide_eq_false c1] at h1'
    by_cases c2 : 0 < x ∧ x ≤ inf
    · rw [decide_eq_true c2] at h2'
      have hc : cl x = x := by unfold cl; rw [if_pos c2.2, if_pos (by omega)]
      rw [hc]
      go_enter Try.func20, Try.ntmps20
      go_wp2
      go_ret
      exact ⟨rfl, rfl⟩
    · rw [decide_eq_false c2] at h2'
      have hc : cl x = 0 := by
        unfold cl
        split
        · rw [if_pos (by simp only [top]; omega)]; omega
        · rfl
      rw [hc]
      go_enter Try.func20, Try.ntmps20
      go_wp2
      go_ret
      exact ⟨rfl, rfl⟩
theorem clean_any (x : Nat) (hx : x < 18446744073709551616) (w : World) : Calls Try.prog 17 #[.int .u64 (x : Int)] w fun en w' => en = .returned (.float .f64 (cl x)) ∧ w' = w := by
  have h1 := fromRun (x : Int)
  rw [Int.toNat_natCast] at h1
  go_enter Try.func17, Try.ntmps17
  go_wp2_with (go_at_call 20; refine (offset_any x hx _).mono ?_; rintro e w' ⟨rfl, rfl⟩)
  go_ret
  exact ⟨rfl, rfl⟩
theorem Clean_any (x : Nat) (hx : x < 18446744073709551616) (w : World) : Calls Try.prog 8 #[.int .u64 (x : Int)] w fun en w' => en = .returned (.int .u64 (cl x : Int)) ∧ w' = w := by
  have h1 := bitsRun (cl x)
  go_enter Try.func8, Try.ntmps8
  go_wp2_with (go_at_call 17; refine (clean_any x hx _).mono ?_; rintro e w' ⟨rfl, rfl⟩)
  go_ret
  exact ⟨rfl, rfl⟩
theorem Right_any (x : Nat) (hx : x < 18446744073709551616) (w : World) : Calls Try.prog 16 #[.int .u64 (x : Int)] w fun en w' => en = .returned (.bool (decide (cl x = x))) ∧ w' = w := by
  go_enter Try.func16, Try.ntmps16
  go_wp2_with (go_at_call 8; refine (Clean_any x hx _).mono ?_; rintro e w' ⟨rfl, rfl⟩)
  go_ret
  refine ⟨?_, rfl⟩
  congr 2
  by_cases c : cl x = x
  · rw [decide_eq_true c, beq_iff_eq.2 (by rw [c])]; rfl
  · rw [decide_eq_false c, beq_eq_false_iff_ne.2 (by omega)]; rfl
theorem Compare_any (x y : Nat) (hx : x < 18446744073709551616) (hy : y < 18446744073709551616) (w : World) : Calls Try.prog 13 #[.int .u64 (x : Int), .int .u64 (y : Int)] w fun en w' => en = .returned (.int .i64 (if cl x < cl y then -1 else if cl y < cl x then 1 else 0)) ∧ ∃ n, w' = w.drewN n := by
  have ha : cl x < inf := by have := cl_le x; simp only [top, inf] at *; omega
  have hb : cl y < inf := by have := cl_le y; simp only [top, inf] at *; omega
  have ho : FloatKind.f64.format.order (cl x) (cl y) = some (compare (cl x) (cl y)) := order_nn ha hb
  rcases Nat.lt_trichotomy (cl x) (cl y) with h | h | h
  · rw [Nat.compare_eq_lt.2 h] at ho
    rw [if_pos h]
    clear ha hb h
    go_enter Try.func13, Try.ntmps13
    go_wp2_with (first | (go_at_call 17; refine (clean_any x hx _).mono ?_; rintro e w' ⟨rfl, rfl⟩) | (go_at_call 17; refine (clean_any y hy _).mono ?_; rintro e w' ⟨rfl, rfl⟩))
    go_ret
    exact ⟨rfl, 0, rfl⟩
  · rw [Nat.compare_eq_eq.2 h] at ho
    rw [if_neg (by omega), if_neg (by omega)]
    clear ha hb h
    go_enter Try.func13, Try.ntmps13
    go_wp2_with (first | (go_at_call 17; refine (clean_any x hx _).mono ?_; rintro e w' ⟨rfl, rfl⟩) | (go_at_call 17; refine (clean_any y hy _).mono ?_; rintro e w' ⟨rfl, rfl⟩))
    go_ret
    exact ⟨rfl, 0, rfl⟩
  · rw [Nat.compare_eq_gt.2 h] at ho
    rw [if_neg (by omega), if_pos h]
    clear ha hb h
    go_enter Try.func13, Try.ntmps13
    go_wp2_with (first | (go_at_call 17; refine (clean_any x hx _).mono ?_; rintro e w' ⟨rfl, rfl⟩) | (go_at_call 17; refine (clean_any y hy _).mono ?_; rintro e w' ⟨rfl, rfl⟩))
    go_ret
    exact ⟨rfl, 0, rfl⟩
theorem IsNaN_any (x : Nat) (b : Bool) (hb : (FloatKind.f64.format.order x x != some .eq) = b) (w : World) : Calls Try.prog 19 #[.float .f64 x] w fun en w' => en = .returned (.bool b) ∧ w' = w := by
  go_enter Try.func19, Try.ntmps19
  go_wp2
  go_ret
  exact ⟨rfl, rfl⟩
theorem Add_nan (x y : Nat) (hx : x < 18446744073709551616) (hy : (FloatKind.f64.format.order y y != some .eq) = true) (w : World) : Calls Try.prog 11 #[.int .u64 (x : Int), .int .u64 (y : Int)] w fun en w' => en = .returned (.int .u64 (cl x : Int)) ∧ w' = w := by
  have h1 := fromRun (y : Int)
  rw [Int.toNat_natCast] at h1
  have HY := Lib.hid hy
  clear hy
  go_enter Try.func11, Try.ntmps11
  go_wp2_with (first | (go_at_call 19; refine (IsNaN_any y true HY.out _).mono ?_; rintro e w' ⟨rfl, rfl⟩) | (go_at_call 8; refine (Clean_any x hx _).mono ?_; rintro e w' ⟨rfl, rfl⟩))
  go_ret
  exact ⟨rfl, rfl⟩
theorem Add_any (x y r : Nat) (hx : x < 18446744073709551616) (hy : (FloatKind.f64.format.order y y != some .eq) = false) (hr : Ieee.double.add (cl x) y = some r) (w : World) : Calls Try.prog 11 #[.int .u64 (x : Int), .int .u64 (y : Int)] w fun en w' => en = .returned (.int .u64 (cl r : Int)) ∧ w' = w := by
  have h1 := fromRun (y : Int)
  rw [Int.toNat_natCast] at h1
  have h2 := bitsRun (cl r)
  have h3 : ∀ (t : TypeId) (w : World), (binOp .add t (.float .f64 (cl x)) (.float .f64 y)).run Try.prog w = .ok (.float .f64 r) w := fun t w => run_float_arith w .add t .f64 (cl x) y r hr
  have hr2 : r < 18446744073709551616 := Ieee.Format.add_lt _ hr
  have HY := Lib.hid hy
  clear hy hr
  go_enter Try.func11, Try.ntmps11
  go_wp2_with (first | (go_at_call 19; refine (IsNaN_any y false HY.out _).mono ?_; rintro e w' ⟨rfl, rfl⟩) | (go_at_call 17; refine (clean_any x hx _).mono ?_; rintro e w' ⟨rfl, rfl⟩) | (go_at_call 20; refine (offset_any r hr2 _).mono ?_; rintro e w' ⟨rfl, rfl⟩))
  go_ret
  exact ⟨rfl, rfl⟩
theorem Inf_any (w : World) : Calls Try.prog 10 #[.int .i64 1] w fun en w' => en = .returned (.float .f64 9218868437227405312) ∧ w' = w := by
  have h1 := fromRun 9218868437227405312
  go_enter Try.func10, Try.ntmps10
  go_wp2
  go_ret
  exact ⟨rfl, rfl⟩
theorem NaN_any (w : World) : Calls Try.prog 9 #[] w fun en w' => en = .returned (.float .f64 9221120237041090561) ∧ w' = w := by
  have h1 := fromRun 9221120237041090561
  go_enter Try.func9, Try.ntmps9
  go_wp2
  go_ret
  exact ⟨rfl, rfl⟩
/-! The same at numbers as the walk spells them. -/
theorem Clean_int (n : Int) (h0 : 0 ≤ n) (h1 : n < 18446744073709551616) (w : World) : Calls Try.prog 8 #[.int .u64 n] w fun en w' => en = .returned (.int .u64 (cl n.toNat : Int)) ∧ w' = w := by
  obtain ⟨x, rfl⟩ := Int.eq_ofNat_of_zero_le h0
  exact Clean_any x (by omega) w
theorem Part_some (w : World) : Calls Try.prog 12 #[.int .u64 4613937818241073152, .int .u64 4622945017495814144] w fun en w' => en = .returned (.int .u64 4598175219545276416) ∧ w' = w := by
  have h1 : ∀ (t : TypeId) (w : World), (binOp .quo t (.float .f64 4613937818241073152) (.float .f64 4622945017495814144)).run Try.prog w = .ok (.float .f64 4598175219545276416) w := fun t w => run_float_arith w .quo t .f64 _ _ _ (by decide)
  have h2 := bitsRun 4598175219545276416
  have h3 : (FloatKind.f64.format.order 4622945017495814144 0 == some .eq) = false := by decide
  have k1 : cl 4613937818241073152 = 4613937818241073152 := by decide
  have k2 : cl 4622945017495814144 = 4622945017495814144 := by decide
  have a1 := clean_any 4613937818241073152 (by decide)
  have a2 := clean_any 4622945017495814144 (by decide)
  rw [k1] at a1
  rw [k2] at a2
  have h4 : ∀ w : World, (Builtin.min_ #[24, 24] 24 #[.float .f64 4598175219545276416, .float .f64 4607182418800017408]).run Try.prog w = .ok (.float .f64 4598175219545276416) w := fun w => by kernel_rfl
  have A1 := Lib.hid a1
  have A2 := Lib.hid a2
  clear a1 a2 k1 k2
  go_enter Try.func12, Try.ntmps12
  go_wp2_with (first | (go_at_call 17; refine (A1.out _).mono ?_; rintro e w' ⟨rfl, rfl⟩) | (go_at_call 17; refine (A2.out _).mono ?_; rintro e w' ⟨rfl, rfl⟩))
  go_ret
  exact ⟨rfl, rfl⟩
theorem Part_none (w : World) : Calls Try.prog 12 #[.int .u64 4613937818241073152, .int .u64 0] w fun en w' => en = .returned (.int .u64 0) ∧ w' = w := by
  have h3 : (FloatKind.f64.format.order 0 0 == some .eq) = true := by decide
  have a2 := clean_any 0 (by decide)
  rw [show cl 0 = 0 from by decide] at a2
  have A2 := Lib.hid a2
  clear a2
  go_enter Try.func12, Try.ntmps12
  go_wp2_with (first | (go_at_call 17; refine (A2.out _).mono ?_; rintro e w' ⟨rfl, rfl⟩))
  go_ret
  exact ⟨rfl, rfl⟩
theorem Add_low (w : World) : Calls Try.prog 11 #[.int .u64 4617315517961601024, .int .u64 13844628204490326016] w fun en w' => en = .returned (.int .u64 0) ∧ w' = w := by
  have := Add_any 4617315517961601024 13844628204490326016 13839561654909534208 (by decide) (by decide) (by decide) w
  rwa [show cl 13839561654909534208 = 0 from by decide] at this
theorem Add_nan5 (w : World) : Calls Try.prog 11 #[.int .u64 4617315517961601024, .int .u64 9221120237041090561] w fun en w' => en = .returned (.int .u64 4617315517961601024) ∧ w' = w := by
  have := Add_nan 4617315517961601024 9221120237041090561 (by decide) (by decide) w
  rwa [show cl 4617315517961601024 = 4617315517961601024 from by decide] at this
theorem Compare_12 (w : World) : Calls Try.prog 13 #[.int .u64 4607182418800017408, .int .u64 4611686018427387904] w fun en w' => en = .returned (.int .i64 (-1)) ∧ ∃ n, w' = w.drewN n := by
  have := Compare_any 4607182418800017408 4611686018427387904 (by decide) (by decide) w
  rwa [if_pos (by decide)] at this
theorem Clean_lit0 (w : World) : Calls Try.prog 8 #[.int .u64 13830554455654793216] w fun en w' => en = .returned (.int .u64 0) ∧ w' = w := by
  have := Clean_any 13830554455654793216 (by decide) w
  rwa [show cl 13830554455654793216 = 0 from by decide] at this
theorem Clean_lit1 (w : World) : Calls Try.prog 8 #[.int .u64 9221120237041090561] w fun en w' => en = .returned (.int .u64 0) ∧ w' = w := by
  have := Clean_any 9221120237041090561 (by decide) w
  rwa [show cl 9221120237041090561 = 0 from by decide] at this
theorem Clean_lit2 (w : World) : Calls Try.prog 8 #[.int .u64 9223372036854775808] w fun en w' => en = .returned (.int .u64 0) ∧ w' = w := by
  have := Clean_any 9223372036854775808 (by decide) w
  rwa [show cl 9223372036854775808 = 0 from by decide] at this
theorem Clean_lit3 (w : World) : Calls Try.prog 8 #[.int .u64 9218868437227405312] w fun en w' => en = .returned (.int .u64 4697254411347427328) ∧ w' = w := by
  have := Clean_any 9218868437227405312 (by decide) w
  rwa [show cl 9218868437227405312 = 4697254411347427328 from by decide] at this
end Go.Proofs.Ytemanoiaaaaopaa.Fl
