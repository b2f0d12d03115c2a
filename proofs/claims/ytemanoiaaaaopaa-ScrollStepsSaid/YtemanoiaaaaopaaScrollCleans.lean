/- ScrollCleans: the walk. -/
import Derived.Test.YtemanoiaaaaopaaScrollRuns
import Derived.Deep.DeepCutAuto
import Derived.Deep.CutBlock
set_option linter.unusedVariables false
set_option linter.unusedSimpArgs false
namespace Go.Proofs.Ytemanoiaaaaopaa.Fl
open Go.RowKit

theorem lawOffset_any (x : Nat) (hx : x ≤ top) (w : World) : Calls Try.prog 14 #[.int .u64 (x : Int)] w fun en w' => en = .returned (.bool true) ∧ w' = w := by
  have h1 := bitsRun 4697254411347427328
  have h2 : (x : Int) ≤ 4697254411347427328 := by simp only [top] at hx; omega
  go_enter Try.func14, Try.ntmps14
  go_wp2
  go_ret
  exact ⟨rfl, rfl⟩
theorem cl_cl (x : Nat) : cl (cl x) = cl x := by
  have h := cl_le x
  generalize cl x = y at *
  unfold cl
  rw [if_pos (by simp only [top, inf] at *; omega), if_pos h]
theorem ScrollCleans_any (x y : Nat) (hx : x < 18446744073709551616) (hy : y < 18446744073709551616) (w : World) : Calls Try.prog 5 #[.int .u64 (x : Int), .int .u64 (y : Int)] w fun en w' => en = .returned (.bool true) ∧ ∃ n, w' = w.drewN n := by
  have b0 := bitsRun 4697254411347427328
  go_enter Try.func5, Try.ntmps5
  go_upto_block 0 with (first | (go_at_call 8; refine (Clean_any x hx _).mono ?_; rintro e w' ⟨rfl, rfl⟩) | (go_at_call 8; refine (Clean_any y hy _).mono ?_; rintro e w' ⟨rfl, rfl⟩))
  go_cut [8] (fun t8 wc => t8 = .int .u64 (cl x : Int) ∧ wc = w')
  case first =>
    by_cases c1 : 9223372036854775808 ≤ x
    · have q1 : (9223372036854775808 : Int) ≤ (x : Int) := by omega
      have hc : Hid (cl x = 0) := Lib.hid (by unfold cl; rw [if_neg (by simp only [inf]; omega)])
      go_wp2
      go_meet
      case rel => exact ⟨by rw [hc.out]; rfl, rfl⟩
    · have q1 : ¬ (9223372036854775808 : Int) ≤ (x : Int) := by omega
      have q2 : (x : Int) / 9223372036854775808 = 0 := by omega
      by_cases c2 : 9218868437227405312 < x
      · have q3 : (9218868437227405312 : Int) < (x : Int) := by omega
        have hc : Hid (cl x = 0) := Lib.hid (by unfold cl; rw [if_neg (by simp only [inf]; omega)])
        go_wp2
        go_meet
        case rel => exact ⟨by rw [hc.out]; rfl, rfl⟩
      · have q3 : ¬ (9218868437227405312 : Int) < (x : Int) := by omega
        by_cases c3 : 4697254411347427328 < x
        · have q4 : (4697254411347427328 : Int) < (x : Int) := by omega
          have hc : Hid (cl x = top) := Lib.hid (by unfold cl; rw [if_pos (by simp only [inf]; omega), if_neg (by simp only [top]; omega)])
          go_wp2
          go_meet
          case rel => exact ⟨by rw [hc.out]; rfl, rfl⟩
        · have q4 : ¬ (4697254411347427328 : Int) < (x : Int) := by omega
          have hc : Hid (cl x = x) := Lib.hid (by unfold cl; rw [if_pos (by simp only [inf]; omega), if_pos (by simp only [top]; omega)])
          go_wp2
          go_meet
          case rel => exact ⟨by rw [hc.out], rfl⟩
  case rest =>
    obtain ⟨rfl, rfl⟩ := hcut
    have hcl := cl_le x
    obtain ⟨o, ho⟩ : ∃ o : Int, (if cl x < cl y then (-1 : Int) else if cl y < cl x then 1 else 0) = o := ⟨_, rfl⟩
    have ho' : (if cl y < cl x then (-1 : Int) else if cl x < cl y then 1 else 0) = -o := by rw [← ho]; split <;> split <;> omega
    have HO := Lib.hid ho
    have HO' := Lib.hid ho'
    clear ho ho'
    go_upto_block 1 with fail
    go_cut [9] (fun t9 wd => t9 = .int .i64 o ∧ wd = wc)
    case first =>
      rcases Nat.lt_trichotomy (cl x) (cl y) with h | h | h
      · have h1 : (cl x : Int) < (cl y : Int) := by omega
        have hz : Hid (o = -1) := Lib.hid (by have := HO.out; rw [if_pos h] at this; exact this.symm)
        go_wp2
        go_meet
        case rel => exact ⟨by rw [hz.out], rfl⟩
      · have h1 : ¬ (cl x : Int) < (cl y : Int) := by omega
        have h2 : ¬ (cl y : Int) < (cl x : Int) := by omega
        have hz : Hid (o = 0) := Lib.hid (by have := HO.out; rw [if_neg (by omega), if_neg (by omega)] at this; exact this.symm)
        clear h
        go_wp2
        go_meet
        case rel => exact ⟨by rw [hz.out], rfl⟩
      · have h1 : ¬ (cl x : Int) < (cl y : Int) := by omega
        have h2 : (cl y : Int) < (cl x : Int) := by omega
        have hz : Hid (o = 1) := Lib.hid (by have := HO.out; rw [if_neg (by omega), if_pos h] at this; exact this.symm)
        go_wp2
        go_meet
        case rel => exact ⟨by rw [hz.out], rfl⟩
    case rest =>
      obtain ⟨rfl, rfl⟩ := hcut
      have hw : wrap64 (-o) = -o := by
        have := HO.out
        unfold wrap64
        split at this <;> (try split at this) <;> omega
      obtain ⟨β, hβ⟩ : ∃ β, decide (cl x = x) = β := ⟨_, rfl⟩
      have hb : ((cl x : Int) == (x : Int)) = β := by
        rw [← hβ]
        by_cases c : cl x = x
        · rw [decide_eq_true c, beq_iff_eq.2 (by rw [c])]
        · rw [decide_eq_false c, beq_eq_false_iff_ne.2 (by omega)]
      have hR : Hid (∀ w, Calls Try.prog 16 #[.int .u64 (x : Int)] w fun en w' => en = .returned (.bool β) ∧ w' = w) := Lib.hid (by rw [← hβ]; exact Right_any x hx)
      have hC : Hid (∀ w, Calls Try.prog 8 #[.int .u64 (cl x : Int)] w fun en w' => en = .returned (.int .u64 (cl x : Int)) ∧ w' = w) := Lib.hid (by have := Clean_any (cl x) (by simp only [top] at hcl; omega); rwa [cl_cl] at this)
      have hK : Hid (∀ w, Calls Try.prog 13 #[.int .u64 (x : Int), .int .u64 (y : Int)] w fun en w' => en = .returned (.int .i64 o) ∧ ∃ n, w' = w.drewN n) := Lib.hid (by have := Compare_any x y hx hy; rwa [HO.out] at this)
      have hK' : Hid (∀ w, Calls Try.prog 13 #[.int .u64 (y : Int), .int .u64 (x : Int)] w fun en w' => en = .returned (.int .i64 (-o)) ∧ ∃ n, w' = w.drewN n) := Lib.hid (by have := Compare_any y x hy hx; rwa [HO'.out] at this)
      have HCL := Lib.hid hcl
      clear hβ hcl
      go_wp2_with fail
      refine (lawOffset_any (cl x) HCL.out _).mono ?_
      rintro e w1 ⟨rfl, rfl⟩
      go_wp2_with fail
      refine (hC.out _).mono ?_
      rintro e w2 ⟨rfl, rfl⟩
      go_wp2_with fail
      refine (hR.out _).mono ?_
      rintro e w3 ⟨rfl, rfl⟩
      go_wp2_with fail
      refine (hK.out _).mono ?_
      rintro e w4 ⟨rfl, n1, rfl⟩
      go_wp2_with fail
      refine (hK'.out _).mono ?_
      rintro e w5 ⟨rfl, n2, rfl⟩
      go_wp2_with fail
      refine (ScrollRuns_any _).mono ?_
      rintro e w6 ⟨rfl, n3, rfl⟩
      go_wp2_with fail
      go_ret
      exact ⟨rfl, n1 + n2 + n3, by simp [World.drewN, Nat.add_assoc]⟩
end Go.Proofs.Ytemanoiaaaaopaa.Fl
