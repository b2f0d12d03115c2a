/- ScrollAdds: the walk. -/
import Derived.Test.YtemanoiaaaaopaaScrollCleans
import Derived.Test.YtemanoiaaaaopaaFloat3
import Derived.Test.YtemanoiaaaaopaaPScrollAddsx1
import Derived.Laws.BitsAllLaws
import Derived.Laws.Bits64b
set_option linter.unusedVariables false
set_option linter.unusedSimpArgs false
namespace Go.Proofs.Ytemanoiaaaaopaa.Fl
open Go.RowKit Go.Proofs.YtemanoiaaaaopaaW.PrintWords Go.Proofs.Ytemanoiaaaaopaa.PScrollAdds

theorem within (a lo hi : Int) (h : lo ≤ hi) (h0 : -1000000 ≤ lo) (h1 : hi ≤ 1000000) : ∃ r : Int, porticobook_Within.f a lo hi = some r ∧ lo ≤ r ∧ r ≤ hi := by
  have e1 : wrap64 ((wrap64 (hi - lo)) + 1) = hi - lo + 1 := by unfold wrap64; omega
  unfold porticobook_Within.f
  rw [e1, if_neg (by omega)]
  have hl := Int.tmod_lt_of_pos a (show (0 : Int) < hi - lo + 1 by omega)
  have hg := Int.lt_tmod_of_pos a (show (0 : Int) < hi - lo + 1 by omega)
  generalize Int.tmod a (hi - lo + 1) = q at *
  by_cases c : q < 0
  · rw [if_pos c]
    refine ⟨lo + (q + hi - lo + 1), ?_, by omega, by omega⟩
    congr 1
    unfold wrap64
    omega
  · rw [if_neg c]
    refine ⟨lo + q, ?_, by omega, by omega⟩
    congr 1
    unfold wrap64
    omega
theorem cl_lt (x : Nat) : cl x < inf := by have := cl_le x; simp only [top, inf] at *; omega
theorem cl_id {x : Nat} (h : x ≤ top) : cl x = x := by unfold cl; rw [if_pos (by simp only [top, inf] at *; omega), if_pos h]
theorem cl_min {R c : Nat} (hc : c ≤ top) (h : c ≤ R) : c ≤ cl (min R inf) := by
  unfold cl
  rw [if_pos (Nat.min_le_right _ _)]
  split <;> simp only [top, inf] at * <;> omega
theorem cl_min_le {R c : Nat} (hc : c ≤ top) (h : R ≤ c) : cl (min R inf) ≤ c := by
  rw [cl_id (by simp only [top, inf] at *; omega)]
  omega
theorem cl_neg (r : Nat) (h : r ≤ inf) : cl (sw + r) = 0 := by unfold cl; rw [if_neg (by simp only [sw, inf] at *; omega)]
/-- Is a word a NaN? -/
def isn (x : Nat) : Bool := decide ((inf < x ∧ x < sw) ∨ sw + inf < x)
theorem isn_eq (x : Nat) (hx : x < 18446744073709551616) : (FloatKind.f64.format.order x x != some .eq) = isn x := nan_iff x hx
/-- What Add gives: an offset, above or below as the sign says. -/
theorem Add_sum (x y : Nat) (hx : x < 18446744073709551616) (hy : y < 18446744073709551616) : ∃ z, z ≤ top ∧ (isn y = true → z = cl x) ∧ (isn y = false → y < sw → cl x ≤ z) ∧ (isn y = false → sw ≤ y → z ≤ cl x) ∧
    ∀ w, Calls Try.prog 11 #[.int .u64 (x : Int), .int .u64 (y : Int)] w fun en w' => en = .returned (.int .u64 (z : Int)) ∧ w' = w := by
  have hn := isn_eq y hy
  have hc := cl_lt x
  have ht := cl_le x
  cases hb : isn y with
  | true =>
    rw [hb] at hn
    exact ⟨cl x, ht, fun _ => rfl, fun h => (by cases h), fun h => (by cases h), Add_nan x y hx hn⟩
  | false =>
    rw [hb] at hn
    have hnn : ¬ ((inf < y ∧ y < sw) ∨ sw + inf < y) := of_decide_eq_false hb
    rcases Nat.lt_or_ge y sw with h1 | h1
    · rcases Nat.lt_or_ge y inf with h2 | h2
      · obtain ⟨R, e1, e2, e3⟩ := add_pos hc h2
        exact ⟨cl (min R inf), cl_le _, fun h => (by cases h), fun _ _ => cl_min ht (e2 _ (by omega)), fun _ h => (by omega), Add_any x y _ hx hn e1⟩
      · have : y = inf := by omega
        subst this
        exact ⟨cl inf, cl_le _, fun h => (by cases h), fun _ _ => (by rw [show cl inf = top from by decide]; exact ht), fun _ h => (by omega), Add_any x inf _ hx hn (add_inf hc)⟩
    · obtain ⟨b, rfl⟩ : ∃ b, y = sw + b := ⟨y - sw, by omega⟩
      rcases Nat.lt_or_ge b inf with h2 | h2
      · rcases add_neg hc h2 with ⟨g0, R, e1, e2, e3⟩ | ⟨g0, R, e1⟩
        · exact ⟨cl (min R inf), cl_le _, fun h => (by cases h), fun _ h => (by omega), fun _ _ => cl_min_le ht (e3 _ (by omega)), Add_any x _ _ hx hn e1⟩
        · exact ⟨cl (sw + min R inf), cl_le _, fun h => (by cases h), fun _ h => (by omega), fun _ _ => (by rw [cl_neg _ (Nat.min_le_right _ _)]; omega), Add_any x _ _ hx hn e1⟩
      · have : b = inf := by omega
        subst this
        exact ⟨cl (sw + inf), cl_le _, fun h => (by cases h), fun _ h => (by omega), fun _ _ => (by rw [cl_neg _ (Nat.le_refl _)]; omega), Add_any x _ _ hx hn (add_ninf hc)⟩
theorem Add_at (x y z : Nat) (hx : x < 18446744073709551616) (hy : y < 18446744073709551616) (h : isn y = false) (ha : Ieee.double.add (cl x) y = some z) (w : World) : Calls Try.prog 11 #[.int .u64 (x : Int), .int .u64 (y : Int)] w fun en w' => en = .returned (.int .u64 (cl z : Int)) ∧ w' = w :=
  Add_any x y z hx ((isn_eq y hy).trans h) ha w
theorem isn_le {y : Nat} (h : y ≤ inf) : isn y = false := decide_eq_false (by simp only [inf, sw] at *; omega)
theorem isn_neg {y : Nat} (h : y ≤ inf) : isn (sw + y) = false := decide_eq_false (by simp only [inf, sw] at *; omega)
theorem run_eighth (n : Nat) (h : n ≤ 1500) (t : TypeId) (w : World) : (binOp .quo t (.float .f64 (floatOfInt .f64 (n : Int))) (.float .f64 4620693217682128896)).run Try.prog w = .ok (.float .f64 (W8 n)) w :=
  run_float_arith w .quo t .f64 _ _ _ (by have := List.all_eq_true.1 eighths n (List.mem_range.2 (by omega)); exact beq_iff_eq.1 this)
theorem run_fourth (n : Nat) (h : n ≤ 1000) (t : TypeId) (w : World) : (binOp .quo t (.float .f64 (floatOfInt .f64 (n : Int))) (.float .f64 4616189618054758400)).run Try.prog w = .ok (.float .f64 (W8 (2 * n))) w :=
  run_float_arith w .quo t .f64 _ _ _ (by have := List.all_eq_true.1 fourths n (List.mem_range.2 (by omega)); exact beq_iff_eq.1 this)
theorem bits_abs (y : Nat) (hy : y < 18446744073709551616) : bits .andNot .u64 (y : Int) 9223372036854775808 = ((y % 9223372036854775808 : Nat) : Int) := by
  have := u64_andNot_nat y 9223372036854775808 hy (by decide)
  rw [show ((9223372036854775808 : Nat) : Int) = 9223372036854775808 from rfl] at this
  rw [this]
  congr 1
  have h := Nat.and_two_pow_sub_one_eq_mod y 63
  exact h
theorem bits_sign (q : Nat) (hq : q < 9223372036854775808) : bits .or .u64 (q : Int) 9223372036854775808 = ((sw + q : Nat) : Int) := by
  have := bits_or_u64_nat q 9223372036854775808 (by omega) (by decide)
  rw [show ((9223372036854775808 : Nat) : Int) = 9223372036854775808 from rfl] at this
  rw [this]
  congr 1
  have h := Nat.two_pow_add_eq_or_of_lt (i := 63) (b := q) (by omega) 1
  rw [Nat.or_comm]
  simpa using h.symm
theorem isn_abs (y : Nat) (hy : y < 18446744073709551616) : decide ((9218868437227405312 : Int) < ((y % 9223372036854775808 : Nat) : Int)) = isn y := by
  unfold isn
  congr 1
  simp only [inf, sw, eq_iff_iff]
  omega
theorem add_W8 (a b : Nat) (ha : a ≤ 100000) (hb : b ≤ 100000) : Ieee.double.add (W8 a) (W8 b) = some (W8 (a + b)) := by
  have h1 := W8_le a (by omega)
  have h2 := W8_le b (by omega)
  have h3 := W8_le (a + b) (by omega)
  exact add_pos_eq (by simp only [top, inf] at *; omega) (by simp only [top, inf] at *; omega) (by simp only [top, inf] at *; omega) (by rw [V_W8 a (by omega), V_W8 b (by omega), V_W8 (a + b) (by omega), Nat.add_mul])
theorem sub_W8 (a b : Nat) (ha : a ≤ 100000) (hb : b ≤ 100000) : Ieee.double.add (W8 (a + b)) (sw + W8 b) = some (W8 a) := by
  have h1 := W8_le a (by omega)
  have h2 := W8_le b (by omega)
  have h3 := W8_le (a + b) (by omega)
  exact add_neg_eq (by simp only [top, inf] at *; omega) (by simp only [top, inf] at *; omega) (by simp only [top, inf] at *; omega) (by rw [V_W8 a (by omega), V_W8 b (by omega), V_W8 (a + b) (by omega), Nat.add_mul])
set_option maxHeartbeats 2000000 in
set_option maxRecDepth 100000 in
theorem ScrollAdds_any (x y : Nat) (n m : Int) (hx : x < 18446744073709551616) (hy : y < 18446744073709551616) (w : World) : Calls Try.prog 4 #[.int .u64 (x : Int), .int .u64 (y : Int), .int .i64 n, .int .i64 m] w fun en w' => en = .returned (.bool true) ∧ Below w.heap.size w w' := by
  obtain ⟨z, hz, zn, zu, zd, hA⟩ := Add_sum x y hx hy
  have hc0 := cl_lt x
  have hc := cl_le x
  have hcc := cl_cl x
  have ez : ∀ b, V b = 0 → b < inf → Ieee.double.add (cl x) b = some (cl x) := fun b h0 hb => add_pos_eq hc0 hb (Nat.le_of_lt hc0) (by rw [h0, Nat.add_zero])
  have hA2 : ∀ w, Calls Try.prog 11 #[.int .u64 (x : Int), .int .u64 0] w fun en w' => en = .returned (.int .u64 (cl x : Int)) ∧ w' = w := fun w => by
    have := Add_at x 0 (cl x) hx (by decide) (by decide) (add_pos_eq hc0 (by decide) (Nat.le_of_lt hc0) (by rw [V_zero, Nat.add_zero])) w
    rwa [hcc] at this
  have hA3 : ∀ w, Calls Try.prog 11 #[.int .u64 (x : Int), .int .u64 9223372036854775808] w fun en w' => en = .returned (.int .u64 (cl x : Int)) ∧ w' = w := fun w => by
    have := Add_at x 9223372036854775808 (cl x) hx (by decide) (by decide) (add_neg_eq (b := 0) hc0 (by decide) (Nat.le_of_lt hc0) (by rw [V_zero, Nat.add_zero])) w
    rwa [hcc] at this
  have hA4 : ∀ w, Calls Try.prog 11 #[.int .u64 (x : Int), .int .u64 9221120237041090561] w fun en w' => en = .returned (.int .u64 (cl x : Int)) ∧ w' = w := fun w => Add_nan x 9221120237041090561 hx (by decide) w
  have hA5 : ∀ w, Calls Try.prog 11 #[.int .u64 (x : Int), .int .u64 9218868437227405312] w fun en w' => en = .returned (.int .u64 4697254411347427328) ∧ w' = w := fun w => by
    have := Add_at x inf inf hx (by decide) (by decide) (add_inf hc0) w
    rwa [show cl inf = 4697254411347427328 from by decide] at this
  have hA6 : ∀ w, Calls Try.prog 11 #[.int .u64 (x : Int), .int .u64 18442240474082181120] w fun en w' => en = .returned (.int .u64 0) ∧ w' = w := fun w => by
    have := Add_at x (sw + inf) (sw + inf) hx (by decide) (by decide) (add_ninf hc0) w
    rwa [show cl (sw + inf) = 0 from by decide] at this
  obtain ⟨a', hwa, ha0, ha1⟩ := within n 0 1000 (by omega) (by omega) (by omega)
  obtain ⟨a, rfl⟩ := Int.eq_ofNat_of_zero_le ha0
  obtain ⟨b', hwb, hb0, hb1⟩ := within m 0 1000 (by omega) (by omega) (by omega)
  obtain ⟨b, rfl⟩ := Int.eq_ofNat_of_zero_le hb0
  have HA := Lib.hid (And.intro hA (And.intro hA2 (And.intro hA3 (And.intro hA4 (And.intro hA5 hA6)))))
  have HZ := Lib.hid (And.intro zn (And.intro zu zd))
  have HW := Lib.hid (And.intro hwa hwb)
  have HZT := Lib.hid hz
  clear hA hA2 hA3 hA4 hA5 hA6 zn zu zd hwa hwb ez hcc hz ha0 hb0
  go_enter Try.func4, Try.ntmps4
  go_wp2_with fail
  refine (HA.out.1 _).mono ?_
  rintro e w1 ⟨rfl, rfl⟩
  go_wp2_with fail
  refine (lawOffset_any z HZT.out _).mono ?_
  rintro e w2 ⟨rfl, rfl⟩
  go_wp2_with fail
  refine (HA.out.2.1 _).mono ?_
  rintro e w3 ⟨rfl, rfl⟩
  go_wp2_with fail
  refine (Clean_any x hx _).mono ?_
  rintro e w4 ⟨rfl, rfl⟩
  go_wp2_with fail
  refine (HA.out.2.2.1 _).mono ?_
  rintro e w5 ⟨rfl, rfl⟩
  go_wp2_with fail
  refine (Clean_any x hx _).mono ?_
  rintro e w6 ⟨rfl, rfl⟩
  go_wp2_with fail
  refine (HA.out.2.2.2.1 _).mono ?_
  rintro e w7 ⟨rfl, rfl⟩
  go_wp2_with fail
  refine (Clean_any x hx _).mono ?_
  rintro e w8 ⟨rfl, rfl⟩
  have hbit := bits_abs y hy
  have hN := isn_abs y hy
  rw [Int.natCast_emod, show ((9223372036854775808 : Nat) : Int) = 9223372036854775808 from rfl] at hbit hN
  go_upto_region 6 with fail
  go_cut [10, 11, 79] (fun _ _ t79 wc => t79 = .bool false ∧ wc = w8)
  case first =>
    cases hb : isn y with
    | true =>
      have hzc := HZ.out.1 hb
      subst hzc
      rw [hb] at hN
      go_wp2_with fail
      refine (Clean_any x hx _).mono ?_
      rintro e w9 ⟨rfl, rfl⟩
      go_wp2_with fail
      go_meet
      case rel => exact ⟨rfl, rfl⟩
    | false =>
      rw [hb] at hN
      by_cases hu : y < sw
      · have hup : ((y : Int) / 9223372036854775808 == 0) = true := beq_iff_eq.2 (by simp only [sw] at hu; omega)
        have hzl : ¬ (z : Int) < (cl x : Int) := by have := HZ.out.2.1 hb hu; omega
        go_wp2_with fail
        refine (Clean_any x hx _).mono ?_
        rintro e w9 ⟨rfl, rfl⟩
        go_wp2_with fail
        go_meet
        case rel => exact ⟨congrArg Value.bool (decide_eq_false (by omega)), rfl⟩
      · have hup : ((y : Int) / 9223372036854775808 == 0) = false := beq_eq_false_iff_ne.2 (by simp only [sw] at hu; omega)
        have hzl : ¬ (cl x : Int) < (z : Int) := by have := HZ.out.2.2 hb (by omega); omega
        go_wp2_with fail
        refine (Clean_any x hx _).mono ?_
        rintro e w9 ⟨rfl, rfl⟩
        go_wp2_with fail
        go_meet
        case rel => exact ⟨congrArg Value.bool (decide_eq_false (by omega)), rfl⟩
  case rest =>
    obtain ⟨rfl, rfl⟩ := hcut
    clear hbit hN
    have hp := W8_le a (by omega)
    have hq := W8_le (2 * b) (by omega)
    have hr := W8_le (a + 2 * b) (by omega)
    have g1 := run_eighth a (by omega)
    have g2 := run_fourth b (by omega)
    have g3 := bitsRun (W8 a)
    have g4 := bitsRun (W8 (2 * b))
    have g5 := bitsRun (W8 (a + 2 * b))
    have g6 : ∀ (t : TypeId) (w : World), (binOp .add t (.float .f64 (W8 a)) (.float .f64 (W8 (2 * b)))).run Try.prog w = .ok (.float .f64 (W8 (a + 2 * b))) w := fun t w => run_float_arith w .add t .f64 _ _ _ (add_W8 a (2 * b) (by omega) (by omega))
    have g7 := bitsRun 4697254411347427328
    have g8 := bits_sign (W8 (2 * b)) (by simp only [top] at hq; omega)
    have hB1 : Hid (∀ w, Calls Try.prog 11 #[.int .u64 (W8 a : Int), .int .u64 (W8 (2 * b) : Int)] w fun en w' => en = .returned (.int .u64 (W8 (a + 2 * b) : Int)) ∧ w' = w) := Lib.hid (fun w => by
      have := Add_at (W8 a) (W8 (2 * b)) (W8 (a + 2 * b)) (by simp only [top] at hp; omega) (by simp only [top] at hq; omega) (isn_le (by simp only [top, inf] at *; omega)) (by rw [cl_id hp]; exact add_W8 a (2 * b) (by omega) (by omega)) w
      rwa [cl_id hr] at this)
    have hB2 : Hid (∀ w, Calls Try.prog 11 #[.int .u64 (W8 (a + 2 * b) : Int), .int .u64 ((sw + W8 (2 * b) : Nat) : Int)] w fun en w' => en = .returned (.int .u64 (W8 a : Int)) ∧ w' = w) := Lib.hid (fun w => by
      have := Add_at (W8 (a + 2 * b)) (sw + W8 (2 * b)) (W8 a) (by simp only [top] at hr; omega) (by simp only [top] at hq; simp only [sw]; omega) (isn_neg (by simp only [top, inf] at *; omega)) (by rw [cl_id hr]; exact sub_W8 a (2 * b) (by omega) (by omega)) w
      rwa [cl_id hp] at this)
    generalize W8 (a + 2 * b) = P at *
    generalize W8 (2 * b) = Q at *
    generalize W8 a = T at *
    generalize sw + Q = Q' at *
    clear hp hq hr hc hc0
    go_wp2_with fail
    refine (porticobook_Within.calls n 0 1000 _ _ HW.out.1).mono ?_
    rintro e w1 ⟨rfl, ⟨q1, rfl⟩⟩
    go_wp2_with fail
    refine (porticobook_Within.calls m 0 1000 _ _ HW.out.2).mono ?_
    rintro e w2 ⟨rfl, ⟨q2, rfl⟩⟩
    go_wp2_with fail
    refine (hB1.out _).mono ?_
    rintro e w3 ⟨rfl, rfl⟩
    go_wp2_with fail
    refine (hB2.out _).mono ?_
    rintro e w4 ⟨rfl, rfl⟩
    go_wp2_with fail
    refine (HA.out.2.2.2.2.1 _).mono ?_
    rintro e w5 ⟨rfl, rfl⟩
    go_wp2_with fail
    refine (HA.out.2.2.2.2.2 _).mono ?_
    rintro e w6 ⟨rfl, rfl⟩
    go_wp2_with fail
    refine (ScrollRuns_any _).mono ?_
    rintro e w7 ⟨rfl, q3, rfl⟩
    go_wp2_with fail
    go_ret
    exact ⟨rfl, pw_below_drewN (Below.refl _ _) _⟩
end Go.Proofs.Ytemanoiaaaaopaa.Fl
