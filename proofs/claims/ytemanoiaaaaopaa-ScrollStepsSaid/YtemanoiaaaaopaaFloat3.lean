/- Doubles: sums; eighths. -/
import Derived.Test.YtemanoiaaaaopaaFloat2
set_option linter.unusedVariables false
set_option linter.unusedSimpArgs false
namespace Go.Proofs.Ytemanoiaaaaopaa.Fl

theorem V_le {r s : Nat} (h : V r ≤ V s) : r ≤ s := by
  rcases Nat.lt_or_ge s r with h1 | h1
  · have := V_lt h1; omega
  · exact h1
theorem word_pos (r : Nat) : Ieee.double.word false r = r := rfl
theorem word_neg (r : Nat) : Ieee.double.word true r = sw + r := by unfold Ieee.Format.word; rw [if_pos rfl, sign_eq]
/-- What is written of a number of units: a rung that no rung's worth passes. -/
theorem write_units (neg : Bool) (m e : Nat) : ∃ R, Ieee.double.write (.number neg m (-1074 + (e : Int))) = Ieee.double.word neg (min R inf) ∧ (∀ u, V u ≤ m * 2 ^ e → u ≤ R) ∧ (∀ u, m * 2 ^ e ≤ V u → R ≤ u) := by
  unfold Ieee.Format.write
  simp only
  by_cases hm : m = 0
  · subst hm
    refine ⟨0, ?_, fun u hu => ?_, fun u _ => Nat.zero_le _⟩
    · unfold Ieee.Format.nearest
      rw [if_pos rfl]
      rfl
    · rw [Nat.zero_mul, ← V_zero] at hu
      exact V_le hu
  · obtain ⟨kept, h1, h2, h3, h4⟩ := near neg m e hm
    have ht : m * 2 ^ e ≠ 0 := Nat.mul_ne_zero hm (by have := Nat.two_pow_pos e; omega)
    exact ⟨_, h1, fun u hu => round_ge ht h2 hu, fun u hu => round_le ht h3 h4 hu⟩
theorem add_pos {c b : Nat} (hc : c < inf) (hb : b < inf) : ∃ R, Ieee.double.add c b = some (min R inf) ∧ (∀ u, V u ≤ V c + V b → u ≤ R) ∧ (∀ u, V c + V b ≤ V u → R ≤ u) := by
  unfold Ieee.Format.add
  rw [read_pos hc, read_pos hb]
  simp only [Ieee.Datum.sum, Ieee.signed, min_at, toNat_at, Bool.false_eq_true, if_false, Option.map_some]
  have e1 := V_at c (min (kk c) (kk b)) (Nat.min_le_left _ _)
  have e2 := V_at b (min (kk c) (kk b)) (Nat.min_le_right _ _)
  rw [e1, e2, ← Nat.add_mul]
  generalize mg c <<< (kk c - min (kk c) (kk b)) = P
  generalize mg b <<< (kk b - min (kk c) (kk b)) = Q
  have h1 : ((P : Int) + (Q : Int)).natAbs = P + Q := by omega
  have h2 : (if (P : Int) + (Q : Int) = 0 then (false && false) else decide ((P : Int) + (Q : Int) < 0)) = false := by
    split
    · rfl
    · exact decide_eq_false (by omega)
  rw [h1, h2]
  obtain ⟨R, h3, h4⟩ := write_units false (P + Q) (min (kk c) (kk b))
  exact ⟨R, by rw [h3, word_pos], h4⟩
theorem add_neg {c b : Nat} (hc : c < inf) (hb : b < inf) : (V b ≤ V c ∧ ∃ R, Ieee.double.add c (sw + b) = some (min R inf) ∧ (∀ u, V u ≤ V c - V b → u ≤ R) ∧ (∀ u, V c - V b ≤ V u → R ≤ u)) ∨ (V c < V b ∧ ∃ R, Ieee.double.add c (sw + b) = some (sw + min R inf)) := by
  unfold Ieee.Format.add
  rw [read_pos hc, read_neg hb]
  simp only [Ieee.Datum.sum, Ieee.signed, min_at, toNat_at, Bool.false_eq_true, if_false, if_true, Option.map_some]
  have e1 := V_at c (min (kk c) (kk b)) (Nat.min_le_left _ _)
  have e2 := V_at b (min (kk c) (kk b)) (Nat.min_le_right _ _)
  rw [e1, e2, ← Nat.sub_mul]
  generalize mg c <<< (kk c - min (kk c) (kk b)) = P
  generalize mg b <<< (kk b - min (kk c) (kk b)) = Q
  have hp := Nat.two_pow_pos (min (kk c) (kk b))
  rcases Nat.lt_or_ge P Q with h | h
  · right
    refine ⟨Nat.mul_lt_mul_of_pos_right h hp, ?_⟩
    have h2 : (if (P : Int) + -(Q : Int) = 0 then (false && true) else decide ((P : Int) + -(Q : Int) < 0)) = true := by
      rw [if_neg (by omega)]
      exact decide_eq_true (by omega)
    rw [h2]
    obtain ⟨R, h3, h4⟩ := write_units true ((P : Int) + -(Q : Int)).natAbs (min (kk c) (kk b))
    exact ⟨R, by rw [h3, word_neg]⟩
  · left
    refine ⟨Nat.mul_le_mul_right _ h, ?_⟩
    have h1 : ((P : Int) + -(Q : Int)).natAbs = P - Q := by omega
    have h2 : (if (P : Int) + -(Q : Int) = 0 then (false && true) else decide ((P : Int) + -(Q : Int) < 0)) = false := by
      split
      · rfl
      · exact decide_eq_false (by omega)
    rw [h1, h2]
    obtain ⟨R, h3, h4⟩ := write_units false (P - Q) (min (kk c) (kk b))
    exact ⟨R, by rw [h3, word_pos], h4⟩
theorem add_inf {c : Nat} (hc : c < inf) : Ieee.double.add c inf = some inf := by
  unfold Ieee.Format.add
  rw [read_pos hc, read_inf]
  rfl
theorem add_ninf {c : Nat} (hc : c < inf) : Ieee.double.add c (sw + inf) = some (sw + inf) := by
  unfold Ieee.Format.add
  rw [read_pos hc, read_ninf]
  rfl
theorem add_pos_eq {c b u : Nat} (hc : c < inf) (hb : b < inf) (hu : u ≤ inf) (h : V c + V b = V u) : Ieee.double.add c b = some u := by
  obtain ⟨R, h1, h2, h3⟩ := add_pos hc hb
  have e1 := h2 u (by omega)
  have e2 := h3 u (by omega)
  rw [h1]
  congr 1
  omega
theorem add_neg_eq {c b u : Nat} (hc : c < inf) (hb : b < inf) (hu : u ≤ inf) (h : V c = V u + V b) : Ieee.double.add c (sw + b) = some u := by
  rcases add_neg hc hb with ⟨h0, R, h1, h2, h3⟩ | ⟨h0, _⟩
  · have e1 := h2 u (by omega)
    have e2 := h3 u (by omega)
    rw [h1]
    congr 1
    omega
  · omega
/-- A number against itself. -/
theorem nan_iff (x : Nat) (hx : x < 18446744073709551616) : (Ieee.double.order x x != some .eq) = decide ((inf < x ∧ x < sw) ∨ sw + inf < x) := by
  have hself : ∀ (s : Bool) (m : Nat) (p : Int), Ieee.Datum.order (.number s m p) (.number s m p) = some .eq := fun s m p => by
    simp [Ieee.Datum.order, compare, compareOfLessAndEq]
  unfold Ieee.Format.order
  by_cases c1 : x < inf
  · rw [read_pos c1, hself, decide_eq_false (by simp only [inf, sw] at *; omega)]; rfl
  · by_cases c2 : x = inf
    · subst c2; decide
    · by_cases c3 : x < sw
      · rw [read_nan (by omega) c3, decide_eq_true (by omega)]; rfl
      · obtain ⟨r, rfl⟩ : ∃ r, x = sw + r := ⟨x - sw, by omega⟩
        by_cases c4 : r < inf
        · rw [read_neg c4, hself, decide_eq_false (by simp only [inf, sw] at *; omega)]; rfl
        · by_cases c5 : r = inf
          · subst c5; decide
          · rw [read_nnan (by omega) (by simp only [sw] at *; omega), decide_eq_true (by omega)]; rfl
/-- The word of n eighths. -/
def W8 (n : Nat) : Nat := if n = 0 then 0 else (n.log2 + 1019) * B + n * 2 ^ (52 - n.log2)
theorem V_mk (k m : Nat) (h1 : B ≤ m) (h2 : m < 2 * B) : V (k * B + m) = m * 2 ^ k := by
  obtain ⟨q, rfl⟩ : ∃ q, m = B + q := ⟨m - B, by omega⟩
  have e1 : (k * B + (B + q)) / B = k + 1 := by
    rw [show k * B + (B + q) = q + (k + 1) * B by rw [Nat.succ_mul]; omega, Nat.add_mul_div_right _ _ (by decide), Nat.div_eq_of_lt (by omega)]
    omega
  have e2 : (k * B + (B + q)) % B = q := by
    rw [show k * B + (B + q) = q + (k + 1) * B by rw [Nat.succ_mul]; omega, Nat.add_mul_mod_self_right, Nat.mod_eq_of_lt (by omega)]
  have e3 : ¬ k * B + (B + q) < B := by omega
  unfold V mg kk
  rw [if_neg e3, if_neg e3, e1, e2, Nat.add_sub_cancel]
/-- An eighth, in units of the least place. -/
def k1071 : Nat := 1071
theorem k1071_eq : k1071 = 1071 := rfl
def U : Nat := 2 ^ k1071
theorem U_eq : U = 2 ^ k1071 := by unfold U; rfl
theorem U_pos : 0 < U := by rw [U_eq]; exact Nat.two_pow_pos _
theorem pow_U (l q : Nat) (h : l ≤ 52) (hq : q = l + 1019) : 2 ^ (52 - l) * 2 ^ q = U := by
  have hk := k1071_eq
  rw [U_eq, ← Nat.pow_add, show 52 - l + q = k1071 by omega]
theorem V_W8 (n : Nat) (h : n < 9007199254740992) : V (W8 n) = n * U := by
  unfold W8
  by_cases h0 : n = 0
  · subst h0; rw [if_pos rfl, V_zero, Nat.zero_mul]
  · rw [if_neg h0]
    have ⟨a, b⟩ := log2_bounds h0
    have hl : n.log2 ≤ 52 := by
      have : n.log2 < 53 := (Nat.pow_lt_pow_iff_right (by decide : 1 < 2)).1 (Nat.lt_of_le_of_lt a (by simpa using h))
      omega
    have h1 : B ≤ n * 2 ^ (52 - n.log2) := by
      rw [B_pow, show 52 = n.log2 + (52 - n.log2) by omega, Nat.pow_add]
      rw [show n.log2 + (52 - n.log2) - n.log2 = 52 - n.log2 by omega]
      exact Nat.mul_le_mul_right _ a
    have h2 : n * 2 ^ (52 - n.log2) < 2 * B := by
      have : 2 * B = 2 ^ (n.log2 + 1) * 2 ^ (52 - n.log2) := by rw [← Nat.pow_add, show n.log2 + 1 + (52 - n.log2) = 53 by omega]; rfl
      rw [this]
      exact Nat.mul_lt_mul_of_pos_right b (Nat.two_pow_pos _)
    rw [V_mk _ _ h1 h2, Nat.mul_assoc, pow_U _ _ hl rfl]
theorem V_top : V top = 8388608 * U := by
  have hk := k1071_eq
  have h1 : kk top = 1042 := by decide
  have h2 : mg top = 2 ^ 52 := by decide
  have h3 : (8388608 : Nat) = 2 ^ 23 := by decide
  unfold V
  rw [h2, h3, U_eq, ← Nat.pow_add, ← Nat.pow_add, show 52 + kk top = 23 + k1071 by omega]
theorem W8_le (n : Nat) (h : n ≤ 8388608) : W8 n ≤ top := V_le (by rw [V_W8 n (by omega), V_top]; exact Nat.mul_le_mul_right _ h)
theorem W8_lt {a b : Nat} (h : a < b) (hb : b < 9007199254740992) : W8 a < W8 b := by
  rcases Nat.lt_or_ge (W8 a) (W8 b) with h1 | h1
  · exact h1
  · exfalso
    have : V (W8 b) ≤ V (W8 a) := by
      rcases Nat.lt_or_ge (W8 b) (W8 a) with h2 | h2
      · exact Nat.le_of_lt (V_lt h2)
      · rw [Nat.le_antisymm h1 h2]; exact Nat.le_refl _
    rw [V_W8 a (by omega), V_W8 b hb] at this
    have := Nat.le_of_mul_le_mul_right this U_pos
    omega
/-- n / 8 and n / 4, as the walk makes them. -/
theorem eighths : (List.range 1501).all (fun n => Ieee.double.div (floatOfInt .f64 (n : Int)) 4620693217682128896 == some (W8 n)) = true := by decide +kernel
theorem neighths : (List.range 26).all (fun n => n == 0 || Ieee.double.div (floatOfInt .f64 (-(n : Int))) 4620693217682128896 == some (sw + W8 n)) = true := by decide +kernel
theorem fourths : (List.range 1001).all (fun n => Ieee.double.div (floatOfInt .f64 (n : Int)) 4616189618054758400 == some (W8 (2 * n))) = true := by decide +kernel
end Go.Proofs.Ytemanoiaaaaopaa.Fl
