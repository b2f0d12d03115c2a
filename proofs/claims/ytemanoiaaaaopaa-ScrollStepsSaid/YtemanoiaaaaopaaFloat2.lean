/- Doubles: rounding, sums. -/
import Derived.Test.YtemanoiaaaaopaaFloat
set_option linter.unusedVariables false
set_option linter.unusedSimpArgs false
namespace Go.Proofs.Ytemanoiaaaaopaa.Fl

theorem log2_bounds {n : Nat} (h : n ≠ 0) : 2 ^ n.log2 ≤ n ∧ n < 2 ^ (n.log2 + 1) := ⟨Nat.log2_self_le h, Nat.lt_log2_self⟩
theorem log2_unique {n k : Nat} (h1 : 2 ^ k ≤ n) (h2 : n < 2 ^ (k + 1)) : n.log2 = k := by
  have h0 : n ≠ 0 := by have := Nat.two_pow_pos k; omega
  have ⟨a, b⟩ := log2_bounds h0
  have c1 : k < n.log2 + 1 := (Nat.pow_lt_pow_iff_right (by decide : 1 < 2)).1 (Nat.lt_of_le_of_lt h1 b)
  have c2 : n.log2 < k + 1 := (Nat.pow_lt_pow_iff_right (by decide : 1 < 2)).1 (Nat.lt_of_le_of_lt a h2)
  omega
theorem log2_shift (m e : Nat) (h : m ≠ 0) : (m * 2 ^ e).log2 = m.log2 + e := by
  have ⟨a, b⟩ := log2_bounds h
  refine log2_unique ?_ ?_
  · rw [Nat.pow_add]; exact Nat.mul_le_mul_right _ a
  · rw [show m.log2 + e + 1 = (m.log2 + 1) + e by omega, Nat.pow_add]; exact Nat.mul_lt_mul_of_pos_right b (Nat.two_pow_pos _)
/-- Cutting to even: between the floor and one more; the floor where nothing is left. -/
theorem cut_bounds (neg : Bool) (n d : Nat) (hd : d ≤ n.log2 + 2) : n / 2 ^ d ≤ Ieee.Toward.even.cut neg n d ∧ Ieee.Toward.even.cut neg n d ≤ n / 2 ^ d + 1 ∧ (n % 2 ^ d = 0 → Ieee.Toward.even.cut neg n d = n / 2 ^ d) := by
  unfold Ieee.Toward.cut
  simp only [Nat.min_eq_left hd, shl, Nat.one_mul]
  generalize hb : (decide (2 ^ d < 2 * (n % 2 ^ d)) || 2 ^ d == 2 * (n % 2 ^ d) && n / 2 ^ d % 2 == 1) = b
  refine ⟨by omega, by cases b <;> simp, fun h => ?_⟩
  rw [h] at hb
  have hp := Nat.two_pow_pos d
  have : b = false := by
    rw [← hb]
    simp
  subst this
  rfl
/-- A number of units, rounded: how far its digits are shifted, and its digits. -/
theorem near (neg : Bool) (m e : Nat) (hm : m ≠ 0) : ∃ kept, Ieee.double.nearest neg m (-1074 + (e : Int)) = Ieee.double.word neg (min (((m * 2 ^ e).log2 - 52) * B + kept) inf) ∧
    (m * 2 ^ e) / 2 ^ ((m * 2 ^ e).log2 - 52) ≤ kept ∧ kept ≤ (m * 2 ^ e) / 2 ^ ((m * 2 ^ e).log2 - 52) + 1 ∧ ((m * 2 ^ e) % 2 ^ ((m * 2 ^ e).log2 - 52) = 0 → kept = (m * 2 ^ e) / 2 ^ ((m * 2 ^ e).log2 - 52)) := by
  have hl := log2_shift m e hm
  rw [hl]
  unfold Ieee.Format.nearest
  rw [if_neg hm]
  simp only [least_eq, binade_eq, infRung_eq]
  have hf : Ieee.double.fractionBits = 52 := rfl
  rw [hf]
  obtain ⟨k, hk⟩ : ∃ k, k = m.log2 + e - 52 := ⟨_, rfl⟩
  have h1 : max (-1074 + (e : Int) + (m.log2 : Int) - (52 : Nat)) (-1074) = -1074 + (k : Int) := by omega
  rw [h1, ← hk]
  have h2 : ((-1074 : Int) + (e : Int) - (-1074 + (k : Int))).toNat = e - k := by omega
  have h3 : (-1074 + (k : Int) - (-1074 + (e : Int))).toNat = k - e := by omega
  have h4 : (-1074 + (k : Int) - -1074).toNat = k := by omega
  rw [h2, h3, h4]
  refine ⟨_, rfl, ?_⟩
  rw [shl]
  by_cases c : k ≤ e
  · have e1 : k - e = 0 := by omega
    rw [e1]
    have hq : m * 2 ^ e = m * 2 ^ (e - k) * 2 ^ k := by rw [Nat.mul_assoc, ← Nat.pow_add]; congr 2; omega
    have hdiv : m * 2 ^ e / 2 ^ k = m * 2 ^ (e - k) := by rw [hq]; exact Nat.mul_div_cancel _ (Nat.two_pow_pos _)
    rw [hdiv]
    have hc := cut_bounds neg (m * 2 ^ (e - k)) 0 (by omega)
    simp only [Nat.pow_zero, Nat.div_one, Nat.mod_one, forall_const] at hc
    exact ⟨hc.1, hc.2.1, fun _ => hc.2.2⟩
  · have e1 : e - k = 0 := by omega
    rw [e1, Nat.pow_zero, Nat.mul_one]
    have hp : 2 ^ k = 2 ^ (k - e) * 2 ^ e := by rw [← Nat.pow_add]; congr 1; omega
    have hdiv : m * 2 ^ e / 2 ^ k = m / 2 ^ (k - e) := by rw [hp]; exact Nat.mul_div_mul_right _ _ (Nat.two_pow_pos _)
    have hmod : m * 2 ^ e % 2 ^ k = m % 2 ^ (k - e) * 2 ^ e := by rw [hp]; exact Nat.mul_mod_mul_right _ _ _
    rw [hdiv, hmod]
    have hc := cut_bounds neg m (k - e) (by omega)
    refine ⟨hc.1, hc.2.1, fun h => hc.2.2 ?_⟩
    rcases Nat.mul_eq_zero.1 h with h | h
    · exact h
    · have := Nat.two_pow_pos e; omega
theorem B_pow : B = 2 ^ 52 := by decide
/-- What is worth as much as a rung, or more, rounds to it or above. -/
theorem round_ge {t c kept : Nat} (ht : t ≠ 0) (hk : t / 2 ^ (t.log2 - 52) ≤ kept) (h : V c ≤ t) : c ≤ (t.log2 - 52) * B + kept := by
  have ⟨a, b⟩ := log2_bounds ht
  have ec := rung_eq c
  have hm := mg_lt c
  unfold V at h
  obtain ⟨k, hkk⟩ : ∃ k, t.log2 - 52 = k := ⟨_, rfl⟩
  rw [hkk] at hk ⊢
  rcases Nat.lt_trichotomy (kk c) k with h1 | h1 | h1
  · have h52 : t.log2 = 52 + k := by omega
    rw [h52, Nat.pow_add, ← B_pow] at a
    have : B ≤ t / 2 ^ k := (Nat.le_div_iff_mul_le (Nat.two_pow_pos _)).2 a
    have : (kk c + 1) * B ≤ k * B := Nat.mul_le_mul_right _ h1
    rw [Nat.succ_mul] at this
    omega
  · rw [h1] at h ec
    have : mg c ≤ t / 2 ^ k := (Nat.le_div_iff_mul_le (Nat.two_pow_pos _)).2 h
    omega
  · exfalso
    have hg := mg_ge (r := c) (by omega)
    have h2 : 2 ^ (52 + kk c) ≤ mg c * 2 ^ kk c := by rw [Nat.pow_add, ← B_pow]; exact Nat.mul_le_mul_right _ hg
    have h3 : 2 ^ (t.log2 + 1) ≤ 2 ^ (52 + kk c) := Nat.pow_le_pow_right (by decide) (by omega)
    omega
/-- What is worth as much as a rung, or less, rounds to it or below. -/
theorem round_le {t c kept : Nat} (ht : t ≠ 0) (hk : kept ≤ t / 2 ^ (t.log2 - 52) + 1) (hx : t % 2 ^ (t.log2 - 52) = 0 → kept = t / 2 ^ (t.log2 - 52)) (h : t ≤ V c) : (t.log2 - 52) * B + kept ≤ c := by
  have ⟨a, b⟩ := log2_bounds ht
  have ec := rung_eq c
  have hm := mg_lt c
  unfold V at h
  obtain ⟨k, hkk⟩ : ∃ k, t.log2 - 52 = k := ⟨_, rfl⟩
  rw [hkk] at hk hx ⊢
  have hdm := Nat.div_add_mod t (2 ^ k)
  have hpk := Nat.two_pow_pos k
  rcases Nat.lt_trichotomy (kk c) k with h1 | h1 | h1
  · exfalso
    have h52 : t.log2 = 52 + k := by omega
    rw [h52, Nat.pow_add, ← B_pow] at a
    have h2 : mg c * 2 ^ kk c < 2 * B * 2 ^ kk c := Nat.mul_lt_mul_of_pos_right hm (Nat.two_pow_pos _)
    have h3 : 2 * B * 2 ^ kk c = B * 2 ^ (kk c + 1) := by rw [Nat.pow_succ]; simp only [Nat.mul_comm, Nat.mul_assoc, Nat.mul_left_comm]
    have h4 : B * 2 ^ (kk c + 1) ≤ B * 2 ^ k := Nat.mul_le_mul_left _ (Nat.pow_le_pow_right (by decide) h1)
    omega
  · rw [h1] at h ec
    have hq : t / 2 ^ k ≤ mg c := Nat.div_le_of_le_mul (by rw [Nat.mul_comm]; exact h)
    rcases Nat.lt_or_ge (t / 2 ^ k) (mg c) with h2 | h2
    · omega
    · have h3 : t / 2 ^ k = mg c := by omega
      rw [h3, Nat.mul_comm] at hdm
      have := hx (by omega)
      omega
  · have hg := mg_ge (r := c) (by omega)
    have hq : t / 2 ^ k < 2 * B := by
      refine (Nat.div_lt_iff_lt_mul hpk).2 (Nat.lt_of_lt_of_le b ?_)
      have : 2 * B * 2 ^ k = 2 ^ (53 + k) := by rw [Nat.pow_add]; rfl
      rw [this]
      exact Nat.pow_le_pow_right (by decide) (by omega)
    have : (k + 1) * B ≤ kk c * B := Nat.mul_le_mul_right _ h1
    rw [Nat.succ_mul] at this
    omega
/-- What is worth just a rung rounds to it. -/
theorem round_eq {t c kept : Nat} (ht : t ≠ 0) (h1 : t / 2 ^ (t.log2 - 52) ≤ kept) (h2 : kept ≤ t / 2 ^ (t.log2 - 52) + 1) (hx : t % 2 ^ (t.log2 - 52) = 0 → kept = t / 2 ^ (t.log2 - 52)) (h : t = V c) : (t.log2 - 52) * B + kept = c :=
  Nat.le_antisymm (round_le ht h2 hx (Nat.le_of_eq h)) (round_ge ht h1 (Nat.le_of_eq h.symm))
end Go.Proofs.Ytemanoiaaaaopaa.Fl
