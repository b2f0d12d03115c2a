/- Doubles by their rungs: what a word is worth in units of the least place; order, sums and rounding in those units. -/
import Derived.Test.YtgbhejkgnfkfgaaProg
import Derived.WalkKit
import Derived.WalkLawsBesides
set_option linter.unusedVariables false
set_option linter.unusedSimpArgs false
namespace Go.Proofs.Ytgbhejkgnfkfgaa.Fl

/-- Rungs to a binade; infinity's rung; the sign's weight. -/
abbrev B : Nat := 4503599627370496
abbrev inf : Nat := 9218868437227405312
abbrev sw : Nat := 9223372036854775808
theorem binade_eq : Ieee.double.binade = B := by decide
theorem infRung_eq : Ieee.double.infRung = inf := by decide
theorem sign_eq : Ieee.double.signWeight = sw := by decide
theorem least_eq : Ieee.double.leastPlace = -1074 := by decide
/-- A rung's digits, and how far they are shifted. -/
def mg (r : Nat) : Nat := if r < B then r else B + r % B
def kk (r : Nat) : Nat := if r < B then 0 else r / B - 1
/-- What a rung is worth, in units of the least place. -/
def V (r : Nat) : Nat := mg r * 2 ^ kk r
theorem rung_eq (r : Nat) : r = kk r * B + mg r := by
  unfold mg kk
  split
  · omega
  · have h1 := Nat.div_add_mod r B
    have h2 : 1 ≤ r / B := (Nat.one_le_div_iff (by decide)).2 (by omega)
    have h3 : (r / B - 1) * B + B = r / B * B := by
      rw [Nat.sub_mul]
      have : B ≤ r / B * B := Nat.le_mul_of_pos_left B h2
      omega
    have h4 : B * (r / B) = r / B * B := Nat.mul_comm _ _
    omega
theorem mg_lt (r : Nat) : mg r < 2 * B := by
  unfold mg
  have := Nat.mod_lt r (show B > 0 by decide)
  split <;> omega
theorem mg_ge {r : Nat} (h : 1 ≤ kk r) : B ≤ mg r := by
  unfold kk at h
  unfold mg
  split at h
  · omega
  · rename_i h0
    rw [if_neg h0]
    omega
theorem read_pos {r : Nat} (h : r < inf) : Ieee.double.read r = .number false (mg r) (-1074 + (kk r : Int)) := by
  unfold Ieee.Format.read
  simp only [sign_eq, binade_eq, infRung_eq, least_eq]
  have h1 : r / sw = 0 := Nat.div_eq_of_lt (by simp only [inf, sw] at *; omega)
  have h2 : r % sw = r := Nat.mod_eq_of_lt (by simp only [inf, sw] at *; omega)
  rw [h1, h2]
  unfold mg kk
  by_cases c : r < B
  · rw [if_pos c, if_pos c, if_pos c]; rfl
  · rw [if_neg c, if_neg c, if_neg c, if_pos h]; rfl
theorem read_neg {r : Nat} (h : r < inf) : Ieee.double.read (sw + r) = .number true (mg r) (-1074 + (kk r : Int)) := by
  unfold Ieee.Format.read
  simp only [sign_eq, binade_eq, infRung_eq, least_eq]
  have h1 : (sw + r) / sw = 1 := by simp only [inf, sw] at *; omega
  have h2 : (sw + r) % sw = r := by simp only [inf, sw] at *; omega
  rw [h1, h2]
  unfold mg kk
  by_cases c : r < B
  · rw [if_pos c, if_pos c, if_pos c]; rfl
  · rw [if_neg c, if_neg c, if_neg c, if_pos h]; rfl
theorem read_inf : Ieee.double.read inf = .infinity false := by decide
theorem read_ninf : Ieee.double.read (sw + inf) = .infinity true := by decide
theorem read_nan {r : Nat} (h : inf < r) (h2 : r < sw) : Ieee.double.read r = .nan false (r - inf) := by
  unfold Ieee.Format.read
  simp only [sign_eq, binade_eq, infRung_eq, least_eq]
  have h1 : r / sw = 0 := Nat.div_eq_of_lt h2
  have h3 : r % sw = r := Nat.mod_eq_of_lt h2
  rw [h1, h3, if_neg (by simp only [inf, B] at *; omega), if_neg (by omega), if_neg (by omega)]
  rfl
theorem read_nnan {r : Nat} (h : inf < r) (h2 : r < sw) : Ieee.double.read (sw + r) = .nan true (r - inf) := by
  unfold Ieee.Format.read
  simp only [sign_eq, binade_eq, infRung_eq, least_eq]
  have h1 : (sw + r) / sw = 1 := by simp only [sw] at *; omega
  have h3 : (sw + r) % sw = r := by simp only [sw] at *; omega
  rw [h1, h3, if_neg (by simp only [inf, B] at *; omega), if_neg (by omega), if_neg (by omega)]
  rfl
/-- Rungs and their worths stand alike. -/
theorem V_lt {r s : Nat} (h : r < s) : V r < V s := by
  unfold V
  have er := rung_eq r
  have es := rung_eq s
  have mr := mg_lt r
  have ms := mg_lt s
  rcases Nat.lt_trichotomy (kk r) (kk s) with hk | hk | hk
  · have hg := mg_ge (r := s) (by omega)
    calc mg r * 2 ^ kk r < 2 * B * 2 ^ kk r := Nat.mul_lt_mul_of_pos_right mr (Nat.two_pow_pos _)
      _ = B * 2 ^ (kk r + 1) := by rw [Nat.pow_succ]; simp only [Nat.mul_comm, Nat.mul_assoc, Nat.mul_left_comm]
      _ ≤ B * 2 ^ kk s := Nat.mul_le_mul_left _ (Nat.pow_le_pow_right (by decide) hk)
      _ ≤ mg s * 2 ^ kk s := Nat.mul_le_mul_right _ hg
  · rw [hk] at er ⊢
    exact Nat.mul_lt_mul_of_pos_right (by omega) (Nat.two_pow_pos _)
  · have hg := mg_ge (r := r) (by omega)
    have : (kk s + 1) * B ≤ kk r * B := Nat.mul_le_mul_right _ hk
    rw [Nat.succ_mul] at this
    omega
theorem V_compare (r s : Nat) : compare (V r) (V s) = compare r s := by
  rcases Nat.lt_trichotomy r s with h | h | h
  · rw [Nat.compare_eq_lt.2 h, Nat.compare_eq_lt.2 (V_lt h)]
  · subst h; rw [Nat.compare_eq_eq.2 rfl, Nat.compare_eq_eq.2 rfl]
  · rw [Nat.compare_eq_gt.2 h, Nat.compare_eq_gt.2 (V_lt h)]
theorem V_zero : V 0 = 0 := by decide
theorem mg_zero {r : Nat} : mg r = 0 ↔ r = 0 := by
  constructor
  · intro h
    rcases Nat.eq_zero_or_pos r with h0 | h0
    · exact h0
    · have := V_lt h0
      unfold V at this
      rw [h] at this
      simp at this
  · rintro rfl; decide
theorem shl (m u : Nat) : m <<< u = m * 2 ^ u := Nat.shiftLeft_eq m u
/-- Digits brought to the lesser of two shifts. -/
theorem V_at (r e : Nat) (h : e ≤ kk r) : V r = (mg r <<< (kk r - e)) * 2 ^ e := by
  unfold V
  rw [shl, Nat.mul_assoc, ← Nat.pow_add]
  congr 2
  omega
theorem toNat_at (k e : Nat) : ((-1074 + (k : Int)) - (-1074 + (e : Int))).toNat = k - e := by omega
theorem min_at (k e : Nat) : min (-1074 + (k : Int)) (-1074 + (e : Int)) = -1074 + ((min k e : Nat) : Int) := by omega
theorem compare_mul (a b c : Nat) (h : 0 < c) : compare (a * c) (b * c) = compare a b := by
  rcases Nat.lt_trichotomy a b with h1 | h1 | h1
  · rw [Nat.compare_eq_lt.2 h1, Nat.compare_eq_lt.2 (Nat.mul_lt_mul_of_pos_right h1 h)]
  · subst h1; rw [Nat.compare_eq_eq.2 rfl, Nat.compare_eq_eq.2 rfl]
  · rw [Nat.compare_eq_gt.2 h1, Nat.compare_eq_gt.2 (Nat.mul_lt_mul_of_pos_right h1 h)]
theorem compare_int (a b : Nat) : compare (a : Int) (b : Int) = compare a b := by
  rcases Nat.lt_trichotomy a b with h1 | h1 | h1
  · rw [Nat.compare_eq_lt.2 h1]; simp [compare, compareOfLessAndEq]; omega
  · subst h1; rw [Nat.compare_eq_eq.2 rfl]; simp [compare, compareOfLessAndEq]
  · rw [Nat.compare_eq_gt.2 h1]
    show compareOfLessAndEq (a : Int) (b : Int) = _
    unfold compareOfLessAndEq
    rw [if_neg (by omega), if_neg (by omega)]
theorem order_nn {r s : Nat} (hr : r < inf) (hs : s < inf) : Ieee.double.order r s = some (compare r s) := by
  unfold Ieee.Format.order
  rw [read_pos hr, read_pos hs]
  simp only [Ieee.Datum.order, Ieee.signed, min_at, toNat_at, Bool.false_eq_true, if_false, compare_int]
  congr 1
  rw [← compare_mul _ _ (2 ^ min (kk r) (kk s)) (Nat.two_pow_pos _), ← V_at r _ (Nat.min_le_left _ _), ← V_at s _ (Nat.min_le_right _ _), V_compare]
theorem order_neg {r s : Nat} (hr : r < inf) (hs : s < inf) : Ieee.double.order (sw + r) s = some (if r = 0 ∧ s = 0 then .eq else .lt) := by
  unfold Ieee.Format.order
  rw [read_neg hr, read_pos hs]
  simp only [Ieee.Datum.order, Ieee.signed, min_at, toNat_at, Bool.false_eq_true, if_false, if_true, shl]
  congr 1
  have p1 : 0 < 2 ^ (kk r - min (kk r) (kk s)) := Nat.two_pow_pos _
  have p2 : 0 < 2 ^ (kk s - min (kk r) (kk s)) := Nat.two_pow_pos _
  generalize 2 ^ (kk r - min (kk r) (kk s)) = X at *
  generalize 2 ^ (kk s - min (kk r) (kk s)) = Y at *
  by_cases c : r = 0 ∧ s = 0
  · obtain ⟨rfl, rfl⟩ := c
    rw [if_pos ⟨rfl, rfl⟩, show mg 0 = 0 from rfl]
    simp [compare, compareOfLessAndEq]
  · rw [if_neg c]
    have hpos : 0 < mg r * X + mg s * Y := by
      have h1 := mg_zero (r := r)
      have h2 := mg_zero (r := s)
      rcases Nat.eq_zero_or_pos (mg r) with h3 | h3
      · rcases Nat.eq_zero_or_pos (mg s) with h4 | h4
        · exact absurd ⟨h1.1 h3, h2.1 h4⟩ c
        · have := Nat.mul_pos h4 p2; omega
      · have := Nat.mul_pos h3 p1; omega
    generalize mg r * X = P at *
    generalize mg s * Y = Q at *
    simp [compare, compareOfLessAndEq]
    omega
theorem order_inf_pos {s : Nat} (hs : s < inf) : Ieee.double.order inf s = some .gt := by
  unfold Ieee.Format.order
  rw [read_inf, read_pos hs]
  rfl
theorem order_ninf_pos {s : Nat} (hs : s < inf) : Ieee.double.order (sw + inf) s = some .lt := by
  unfold Ieee.Format.order
  rw [read_ninf, read_pos hs]
  rfl
theorem order_nan {r s : Nat} (h : inf < r) (h2 : r < sw) (hs : s < inf) : Ieee.double.order r s = none := by
  unfold Ieee.Format.order
  rw [read_nan h h2, read_pos hs]
  rfl
theorem order_nnan {r s : Nat} (h : inf < r) (h2 : r < sw) (hs : s < inf) : Ieee.double.order (sw + r) s = none := by
  unfold Ieee.Format.order
  rw [read_nnan h h2, read_pos hs]
  rfl
/-- 2 ^ 20, the greatest offset. -/
abbrev top : Nat := 4697254411347427328
/-- A word against a positive one. -/
theorem order_pos (x s : Nat) (hx : x < 18446744073709551616) (hs : s < inf) (h0 : 0 < s) : Ieee.double.order x s = if x ≤ inf then (if x = inf then some .gt else some (compare x s)) else if x ≤ sw + inf ∧ sw ≤ x then some .lt else none := by
  by_cases c1 : x < inf
  · rw [if_pos (by omega), if_neg (by omega), order_nn c1 hs]
  · by_cases c2 : x = inf
    · subst c2; rw [if_pos (Nat.le_refl _), if_pos rfl, order_inf_pos hs]
    · rw [if_neg (by omega)]
      by_cases c3 : x < sw
      · rw [if_neg (by omega), order_nan (by omega) c3 hs]
      · obtain ⟨r, rfl⟩ : ∃ r, x = sw + r := ⟨x - sw, by omega⟩
        by_cases c4 : r < inf
        · rw [if_pos (by omega), order_neg c4 hs, if_neg (by omega)]
        · by_cases c5 : r = inf
          · subst c5; rw [if_pos ⟨Nat.le_refl _, by omega⟩, order_ninf_pos hs]
          · rw [if_neg (by omega), order_nnan (by omega) (by simp only [sw] at *; omega) hs]
/-- An offset's word out of any word. -/
def cl (x : Nat) : Nat := if x ≤ inf then (if x ≤ top then x else top) else 0
theorem cl_le (x : Nat) : cl x ≤ top := by unfold cl; split <;> (try split) <;> simp only [top] at * <;> omega
theorem cmpTop (x : Nat) (hx : x < 18446744073709551616) : (Ieee.double.order x top == some .gt || Ieee.double.order x top == some .eq) = decide (top ≤ x ∧ x ≤ inf) := by
  rw [order_pos x top hx (by decide) (by decide)]
  by_cases c1 : x ≤ inf
  · rw [if_pos c1]
    by_cases c2 : x = inf
    · rw [if_pos c2]; subst c2; decide
    · rw [if_neg c2]
      rcases Nat.lt_trichotomy x top with h | h | h
      · rw [Nat.compare_eq_lt.2 h, decide_eq_false (by omega)]; rfl
      · subst h; decide
      · rw [Nat.compare_eq_gt.2 h, decide_eq_true (by omega)]; rfl
  · rw [if_neg c1, decide_eq_false (by omega)]
    split <;> rfl
theorem cmpZero (x : Nat) (hx : x < 18446744073709551616) : (Ieee.double.order x 0 == some .gt) = decide (0 < x ∧ x ≤ inf) := by
  by_cases c1 : x < inf
  · rw [order_nn c1 (by decide)]
    rcases Nat.eq_zero_or_pos x with h | h
    · subst h; decide
    · rw [Nat.compare_eq_gt.2 h, decide_eq_true (by omega)]; rfl
  · by_cases c2 : x = inf
    · subst c2; rw [order_inf_pos (by decide)]; decide
    · rw [decide_eq_false (by omega)]
      by_cases c3 : x < sw
      · rw [order_nan (by omega) c3 (by decide)]; rfl
      · obtain ⟨r, rfl⟩ : ∃ r, x = sw + r := ⟨x - sw, by omega⟩
        by_cases c4 : r < inf
        · rw [order_neg c4 (by decide)]; split <;> rfl
        · by_cases c5 : r = inf
          · subst c5; rw [order_ninf_pos (by decide)]; rfl
          · rw [order_nnan (by omega) (by simp only [sw] at *; omega) (by decide)]; rfl
end Go.Proofs.Ytgbhejkgnfkfgaa.Fl
