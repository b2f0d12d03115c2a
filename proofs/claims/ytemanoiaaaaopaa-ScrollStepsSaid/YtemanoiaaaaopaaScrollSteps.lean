/- ScrollSteps: the walk. -/
import Derived.Test.YtemanoiaaaaopaaScrollAdds
import Derived.Deep.LoopGhost
set_option linter.unusedVariables false
set_option linter.unusedSimpArgs false
namespace Go.Proofs.Ytemanoiaaaaopaa.Fl
open Go.RowKit Go.Proofs.YtemanoiaaaaopaaW.PrintWords Go.Proofs.Ytemanoiaaaaopaa.PScrollAdds

theorem run_neighth (n : Nat) (h0 : 1 ≤ n) (h : n ≤ 25) (t : TypeId) (w : World) : (binOp .quo t (.float .f64 (floatOfInt .f64 (-(n : Int)))) (.float .f64 4620693217682128896)).run Try.prog w = .ok (.float .f64 (sw + W8 n)) w :=
  run_float_arith w .quo t .f64 _ _ _ (by
    have := List.all_eq_true.1 neighths n (List.mem_range.2 (by omega))
    rcases (Bool.or_eq_true_iff).1 this with h1 | h1
    · have := beq_iff_eq.1 h1; omega
    · exact beq_iff_eq.1 h1)
/-- The word of n eighths, n of either sign. -/
def Z8 (n : Int) : Nat := if 0 ≤ n then W8 n.toNat else sw + W8 (-n).toNat
theorem run_Z8 (n : Int) (h0 : -25 ≤ n) (h1 : n ≤ 25) (t : TypeId) (w : World) : (binOp .quo t (.float .f64 (floatOfInt .f64 n)) (.float .f64 4620693217682128896)).run Try.prog w = .ok (.float .f64 (Z8 n)) w := by
  unfold Z8
  by_cases c : 0 ≤ n
  · rw [if_pos c]
    obtain ⟨k, rfl⟩ := Int.eq_ofNat_of_zero_le c
    exact run_eighth k (by omega) t w
  · rw [if_neg c]
    obtain ⟨k, hk⟩ := Int.eq_ofNat_of_zero_le (show 0 ≤ -n by omega)
    have hn : n = -(k : Int) := by omega
    subst hn
    rw [show (- -(k : Int)).toNat = k by omega]
    exact run_neighth k (by omega) (by omega) t w
/-- One step. -/
theorem Add_step (a : Nat) (n : Int) (ha : a ≤ 1500) (h0 : -25 ≤ n) (h1 : n ≤ 25) (h2 : 0 ≤ (a : Int) + n) (h3 : (a : Int) + n ≤ 1500) (w : World) : Calls Try.prog 11 #[.int .u64 (W8 a : Int), .int .u64 (Z8 n : Int)] w fun en w' => en = .returned (.int .u64 (W8 ((a : Int) + n).toNat : Int)) ∧ w' = w := by
  have hp := W8_le a (by omega)
  have hr := W8_le ((a : Int) + n).toNat (by omega)
  by_cases c : 0 ≤ n
  · obtain ⟨k, rfl⟩ := Int.eq_ofNat_of_zero_le c
    have hq := W8_le k (by omega)
    have e1 : Z8 (k : Int) = W8 k := by unfold Z8; rw [if_pos c]; rfl
    have e2 : ((a : Int) + (k : Int)).toNat = a + k := by omega
    rw [e2] at hr ⊢
    rw [e1]
    have := Add_at (W8 a) (W8 k) (W8 (a + k)) (by simp only [top] at hp; omega) (by simp only [top] at hq; omega) (isn_le (by simp only [top, inf] at *; omega)) (by rw [cl_id hp]; exact add_W8 a k (by omega) (by omega)) w
    rwa [cl_id hr] at this
  · obtain ⟨k, hk⟩ := Int.eq_ofNat_of_zero_le (show 0 ≤ -n by omega)
    have hn : n = -(k : Int) := by omega
    subst hn
    have hq := W8_le k (by omega)
    have e1 : Z8 (-(k : Int)) = sw + W8 k := by unfold Z8; rw [if_neg c, show (- -(k : Int)).toNat = k by omega]
    obtain ⟨d, rfl⟩ : ∃ d, a = d + k := ⟨a - k, by omega⟩
    have e2 : (((d + k : Nat) : Int) + -(k : Int)).toNat = d := by omega
    rw [e2] at hr ⊢
    rw [e1]
    have := Add_at (W8 (d + k)) (sw + W8 k) (W8 d) (by simp only [top] at hp; omega) (by simp only [top] at hq; simp only [sw]; omega) (isn_neg (by simp only [top, inf] at *; omega)) (by rw [cl_id hp]; exact sub_W8 d k (by omega) (by omega)) w
    rwa [cl_id hr] at this
theorem Compare_step (a b : Nat) (ha : a ≤ 1500) (hb : b ≤ 1500) (w : World) : Calls Try.prog 13 #[.int .u64 (W8 a : Int), .int .u64 (W8 b : Int)] w fun en w' => en = .returned (.int .i64 (if a < b then -1 else if b < a then 1 else 0)) ∧ ∃ n, w' = w.drewN n := by
  have hp := W8_le a (by omega)
  have hq := W8_le b (by omega)
  have := Compare_any (W8 a) (W8 b) (by simp only [top] at hp; omega) (by simp only [top] at hq; omega) w
  rw [cl_id hp, cl_id hq] at this
  rcases Nat.lt_trichotomy a b with h | h | h
  · have h1 := W8_lt h (by omega)
    rw [if_pos h1] at this
    rwa [if_pos h]
  · subst h
    rw [if_neg (Nat.lt_irrefl _), if_neg (Nat.lt_irrefl _)] at this
    rwa [if_neg (Nat.lt_irrefl _), if_neg (Nat.lt_irrefl _)]
  · have h1 := W8_lt h (by omega)
    rw [if_neg (by omega), if_pos h1] at this
    rwa [if_neg (by omega), if_pos h]
theorem Right_W8 (a : Nat) (ha : a ≤ 1500) (w : World) : Calls Try.prog 16 #[.int .u64 (W8 a : Int)] w fun en w' => en = .returned (.bool true) ∧ w' = w := by
  have hp := W8_le a (by omega)
  have := Right_any (W8 a) (by simp only [top] at hp; omega) w
  rwa [decide_eq_true (cl_id hp)] at this
set_option maxHeartbeats 2000000 in
set_option maxRecDepth 100000 in
theorem ScrollSteps_any (first : Int) (A : Option Addr) (c : Nat) (l : List Int) (w : World) (hl : ∀ i (h : i < l.length), ∃ ad, A = some ad ∧ w.cell? (ad.add i) = some (.int .i64 l[i])) :
    Calls Try.prog 6 #[.int .i64 first, .slice A l.length c] w fun en w' => en = .returned (.bool true) ∧ Below w.heap.size w w' := by
  obtain ⟨a0', hw0, hl0, hh0⟩ := within first 500 1000 (by omega) (by omega) (by omega)
  obtain ⟨a0, rfl⟩ := Int.eq_ofNat_of_zero_le (show 0 ≤ a0' by omega)
  have HL := Lib.hid hl
  have HW0 := Lib.hid hw0
  clear hl hw0
  have g1 := run_eighth a0 (by omega)
  have g2 := bitsRun (W8 a0)
  go_enter Try.func6, Try.ntmps6
  go_wp2_with fail
  refine (porticobook_Within.calls first 500 1000 _ _ HW0.out).mono ?_
  rintro e w1 ⟨rfl, ⟨q1, rfl⟩⟩
  go_wp2_with fail
  clear g1 g2
  go_loopw [5, 6, 7] (fun t5 t6 t7 wr => ∃ (i a q : Nat), t5 = .int .i64 (a : Int) ∧ t6 = .int .u64 (W8 a : Int) ∧ t7 = .int .i64 (i : Int) ∧ i ≤ 20 ∧ i ≤ l.length ∧ wr = w.drewN q ∧ Hid (500 ≤ a + 25 * i ∧ a ≤ 1000 + 25 * i)) (fun _ _ t _ => match t with | .int _ i => (20 - i).toNat | _ => 0)
  case atStart => exact ⟨0, a0, q1, rfl, rfl, rfl, by omega, by omega, rfl, by omega, by omega⟩
  case round =>
    obtain ⟨i, a, q, rfl, rfl, rfl, hi20, hi, rfl, HB⟩ := hrel
    have ha : a ≤ 1500 := by have := HB.out; omega
    by_cases c1 : i < l.length
    · by_cases c2 : i < 20
      · obtain ⟨ad, hA, hcell0⟩ := HL.out i c1
        subst hA
        have hcell : (w.drewN q).cell? (ad.add i) = some (.int .i64 l[i]) := hcell0
        clear hcell0
        have q1 : (i : Int) < (l.length : Int) := by omega
        have q2 : (i : Int) < 20 := by omega
        have q3 : (0 : Int) ≤ (i : Int) := by omega
        have hw : wrap64 ((i : Int) + 1) = ((i + 1 : Nat) : Int) := by unfold wrap64; omega
        obtain ⟨n, hwn, hn0, hn1⟩ := within l[i] (-25) 25 (by omega) (by omega) (by omega)
        have HWN := Lib.hid hwn
        clear hwn
        go_wp2_with fail
        refine (porticobook_Within.calls _ (-25) 25 _ _ HWN.out).mono ?_
        rintro e w2 ⟨rfl, ⟨q4, rfl⟩⟩
        have g1 := run_Z8 n hn0 hn1
        have g2 := bitsRun (Z8 n)
        have hsum : 0 ≤ (a : Int) + n ∧ (a : Int) + n ≤ 1500 := by have := HB.out; omega
        have hadd := Lib.hid (Add_step a n ha hn0 hn1 hsum.1 hsum.2)
        have hcmp := Lib.hid (Compare_step ((a : Int) + n).toNat a (by omega) ha)
        have hW : wrap64 ((a : Int) + n) = ((((a : Int) + n).toNat : Nat) : Int) := by unfold wrap64; omega
        have HN := Lib.hid (And.intro hn0 (And.intro hn1 hsum))
        generalize Z8 n = z at *
        clear hn0 hn1 hsum hcell
        go_wp2_with fail
        refine (hadd.out _).mono ?_
        rintro e w3 ⟨rfl, rfl⟩
        clear g1 g2
        rcases Int.lt_trichotomy 0 n with hn | hn | hn
        · skip
          have hf : Hid ((if ((a : Int) + n).toNat < a then (-1 : Int) else if a < ((a : Int) + n).toNat then 1 else 0) = 1) := Lib.hid (by have hn9 := HN.out; rw [if_neg (by omega), if_pos (by omega)])
          go_wp2_with fail
          refine (hcmp.out _).mono ?_
          rintro e w4 ⟨rfl, q5, rfl⟩
          rw [hf.out]
          go_wp2_with fail
          go_roundw
          case rel =>
            have hb := HB.out
            have hn := HN.out
            exact ⟨i + 1, ((a : Int) + n).toNat, q + q4 + q5, by first | rw [hW] | (congr 1; omega), rfl, by first | rfl | simp, by omega, by omega, rfl, Lib.hid (by omega)⟩
          case measure => simp; omega
        · have hn1 : ¬ 0 < n := by omega
          have hn2 : ¬ n < 0 := by omega
          have hf : Hid ((if ((a : Int) + n).toNat < a then (-1 : Int) else if a < ((a : Int) + n).toNat then 1 else 0) = 0) := Lib.hid (by have hn9 := HN.out; rw [if_neg (by omega), if_neg (by omega)])
          clear hn
          go_wp2_with fail
          refine (hcmp.out _).mono ?_
          rintro e w4 ⟨rfl, q5, rfl⟩
          rw [hf.out]
          go_wp2_with fail
          go_roundw
          case rel =>
            have hb := HB.out
            have hn := HN.out
            exact ⟨i + 1, ((a : Int) + n).toNat, q + q4 + q5, by first | rw [hW] | (congr 1; omega), rfl, by first | rfl | simp, by omega, by omega, rfl, Lib.hid (by omega)⟩
          case measure => simp; omega
        · have hn1 : ¬ 0 < n := by omega
          have hf : Hid ((if ((a : Int) + n).toNat < a then (-1 : Int) else if a < ((a : Int) + n).toNat then 1 else 0) = (-1)) := Lib.hid (by have hn9 := HN.out; rw [if_pos (by omega)])
          go_wp2_with fail
          refine (hcmp.out _).mono ?_
          rintro e w4 ⟨rfl, q5, rfl⟩
          rw [hf.out]
          go_wp2_with fail
          go_roundw
          case rel =>
            have hb := HB.out
            have hn := HN.out
            exact ⟨i + 1, ((a : Int) + n).toNat, q + q4 + q5, by first | rw [hW] | (congr 1; omega), rfl, by first | rfl | simp, by omega, by omega, rfl, Lib.hid (by omega)⟩
          case measure => simp; omega
      · have q2 : ¬ (i : Int) < 20 := by omega
        have q1 : (i : Int) < (l.length : Int) := by omega
        have g1 := run_eighth a ha
        have g2 := bitsRun (W8 a)
        clear HB
        go_wp2_with fail
        refine (Right_W8 a ha _).mono ?_
        rintro e w2 ⟨rfl, rfl⟩
        go_wp2_with fail
        refine (ScrollRuns_any _).mono ?_
        rintro e w3 ⟨rfl, q5, rfl⟩
        go_wp2_with fail
        go_ret
        exact ⟨rfl, pw_below_drewN (Below.refl _ _) _⟩
    · have q2 : ¬ (i : Int) < (l.length : Int) := by omega
      have g1 := run_eighth a ha
      have g2 := bitsRun (W8 a)
      clear HB
      go_wp2_with fail
      refine (Right_W8 a ha _).mono ?_
      rintro e w2 ⟨rfl, rfl⟩
      go_wp2_with fail
      refine (ScrollRuns_any _).mono ?_
      rintro e w3 ⟨rfl, q5, rfl⟩
      go_wp2_with fail
      go_ret
      exact ⟨rfl, pw_below_drewN (Below.refl _ _) _⟩
end Go.Proofs.Ytemanoiaaaaopaa.Fl
