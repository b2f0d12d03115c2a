/- URLParts: the closed sentence URLRuns, Same, few, equal in plain words. -/
import Derived.Test.YtcaaggfobdfgpaaDoorPURLPartsx4
import Derived.Test.YtcaaggfobdfgpaaDoorParseURLParts
set_option linter.unusedVariables false
set_option linter.unusedSimpArgs false
namespace Go.Proofs.YtcaaggfobdfgpaaDoor.UURLParts
open Go.RowKit Go.Proofs.YtcaaggfobdfgpaaDoor.PURLParts Go.Proofs.YtcaaggfobdfgpaaDoorW.PrintWords Go.Proofs.YtcaaggfobdfgpaaDoorW.PrintLast Go.Proofs.YtcaaggfobdfgpaaDoorW.PrintMore Go.Proofs.YtcaaggfobdfgpaaDoor.Pct Go.Proofs.YtcaaggfobdfgpaaDoor.UP Go.Proofs.YtcaaggfobdfgpaaDoor.Given

theorem toList_inj {a b : ByteArray} (h : a.toList = b.toList) : a = b := by
  rw [Lib.toList_data, Lib.toList_data] at h
  apply ByteArray.ext
  exact Array.ext' h
theorem same_l0 (l m : List ByteArray) (hl : l.length = m.length) (hz : l.length ≤ 1000000) : ∀ (n i k : Nat), l.length - i ≤ n → i ≤ l.length → n < k → porticobook_Same_string.l0 k l m (i : Int) = some (decide (l.drop i = m.drop i)) := by
  intro n
  induction n with
  | zero =>
    intro i k h1 h2 h3
    obtain ⟨k, rfl⟩ : ∃ m, k = m + 1 := ⟨k - 1, by omega⟩
    simp only [porticobook_Same_string.l0]
    rw [if_neg (by omega), List.drop_of_length_le (by omega), List.drop_of_length_le (by omega)]
    rfl
  | succ n ih =>
    intro i k h1 h2 h3
    obtain ⟨k, rfl⟩ : ∃ m, k = m + 1 := ⟨k - 1, by omega⟩
    simp only [porticobook_Same_string.l0]
    by_cases hi : i < l.length
    · have hj : i < m.length := by omega
      rw [if_pos (by omega), if_pos (by omega), if_pos (by omega), rdOf_at _ l i hi, rdOf_at _ m i hj, List.drop_eq_getElem_cons hi, List.drop_eq_getElem_cons hj]
      by_cases he : l[i] = m[i]
      · rw [if_pos (by rw [he]), show wrap64 ((i : Int) + 1) = ((i + 1 : Nat) : Int) from wrapS i (by omega), ih (i + 1) k (by omega) (by omega) (by omega), he]
        congr 1
        exact decide_eq_decide.2 ⟨fun e => by rw [e], fun e => (List.cons.inj e).2⟩
      · rw [if_neg (fun e => he (toList_inj e))]
        congr 1
        exact (decide_eq_false (fun e => he (List.cons.inj e).1)).symm
    · rw [if_neg (by omega), List.drop_of_length_le (by omega), List.drop_of_length_le (by omega)]
      rfl
theorem same_eq (l m : List ByteArray) (hz : l.length ≤ 1000000) (k : Nat) (hk : l.length < k) : porticobook_Same_string.f k l m = some (decide (l = m)) := by
  unfold porticobook_Same_string.f
  by_cases h : l.length = m.length
  · rw [if_pos (by omega), show (0 : Int) = ((0 : Nat) : Int) from rfl, same_l0 l m h hz l.length 0 k (by omega) (by omega) hk]
    rfl
  · rw [if_neg (by omega)]
    congr 1
    exact (decide_eq_false (fun e => h (by rw [e]))).symm
theorem pr_eq {a b : Pr} (h0 : a.f0 = b.f0) (h1 : a.f1 = b.f1) : a = b := by
  cases a; cases b
  simp only at h0 h1
  rw [h0, h1]
noncomputable instance : DecidableEq Pr := fun a b => Classical.propDecidable _
theorem sameP_l0 (l m : List Pr) (hl : l.length = m.length) (hz : l.length ≤ 1000000) : ∀ (n i k : Nat), l.length - i ≤ n → i ≤ l.length → n < k → api_Pair.l0 k l m (i : Int) = some (decide (l.drop i = m.drop i)) := by
  intro n
  induction n with
  | zero =>
    intro i k h1 h2 h3
    obtain ⟨k, rfl⟩ : ∃ m, k = m + 1 := ⟨k - 1, by omega⟩
    simp only [api_Pair.l0]
    rw [if_neg (by omega), List.drop_of_length_le (by omega), List.drop_of_length_le (by omega), decide_eq_true rfl]
  | succ n ih =>
    intro i k h1 h2 h3
    obtain ⟨k, rfl⟩ : ∃ m, k = m + 1 := ⟨k - 1, by omega⟩
    simp only [api_Pair.l0]
    by_cases hi : i < l.length
    · have hj : i < m.length := by omega
      rw [if_pos (by omega), if_pos (by omega), if_pos (by omega), rdP_at l i hi, rdP_at m i hj, List.drop_eq_getElem_cons hi, List.drop_eq_getElem_cons hj]
      by_cases he : l[i] = m[i]
      · rw [if_neg (by rw [he]; simp), show wrap64 ((i : Int) + 1) = ((i + 1 : Nat) : Int) from wrapS i (by omega), ih (i + 1) k (by omega) (by omega) (by omega), he]
        congr 1
        exact decide_eq_decide.2 ⟨fun e => by rw [e], fun e => (List.cons.inj e).2⟩
      · rw [if_pos]
        · congr 1
          exact (decide_eq_false (fun e => he (List.cons.inj e).1)).symm
        · by_cases e0 : l[i].f0 = m[i].f0
          · have e1 : ¬ l[i].f1.toList = m[i].f1.toList := fun e => he (pr_eq e0 (toList_inj e))
            simp [e1]
          · have e1 : ¬ l[i].f0.toList = m[i].f0.toList := fun e => e0 (toList_inj e)
            simp [e1]
    · rw [if_neg (by omega), List.drop_of_length_le (by omega), List.drop_of_length_le (by omega), decide_eq_true rfl]
theorem sameP_eq (l m : List Pr) (hz : l.length ≤ 1000000) (k : Nat) (hk : l.length < k) : api_Pair.f k l m = some (decide (l = m)) := by
  unfold api_Pair.f
  by_cases h : l.length = m.length
  · rw [if_pos (by omega), show (0 : Int) = ((0 : Nat) : Int) from rfl, sameP_l0 l m h hz l.length 0 k (by omega) (by omega) hk]
    rfl
  · rw [if_neg (by omega)]
    congr 1
    exact (decide_eq_false (fun e => h (by rw [e]))).symm
theorem no_text (l : List UInt8) (hz : l.length ≤ 1000) (h : parseU l = none) (k : Nat) (hk : 2000 ≤ k) : url_Parse.f k (ba l) = some ([], [], 1) := by
  rw [Parse_eq (ba l) (show l.length < _ by omega) k (show l.length + 100 ≤ k by omega), ba_data, h]
  rfl
def badT : List (List UInt8) := [[47, 97, 47], [97], [47, 97, 63], [47, 47], [], [47, 97, 63, 63]]
theorem bad_none : ∀ x ∈ badT, parseU x = none ∧ x.length ≤ 1000 := by
  have h : badT.all (fun x => (parseU x).isNone && decide (x.length ≤ 1000)) = true := by decide +kernel
  intro x hx
  have := List.all_eq_true.1 h x hx
  simp only [Bool.and_eq_true, Option.isNone_iff_eq_none, decide_eq_true_eq] at this
  exact this
theorem one_parse (k : Nat) (hk : 2000 ≤ k) : url_Parse.f k (⟨#[47, 97, 37, 50, 102, 98, 47, 99, 63, 120, 61, 49, 38, 121]⟩ : ByteArray) = some ([(⟨#[97, 47, 98]⟩ : ByteArray), (⟨#[99]⟩ : ByteArray)], [(⟨(⟨#[120]⟩ : ByteArray), (⟨#[49]⟩ : ByteArray)⟩ : Pr), (⟨(⟨#[121]⟩ : ByteArray), (⟨#[]⟩ : ByteArray)⟩ : Pr)], 0) := by
  rw [Parse_eq ⟨#[47, 97, 37, 50, 102, 98, 47, 99, 63, 120, 61, 49, 38, 121]⟩ (by decide) k (show 14 + 100 ≤ k by omega)]
  have : parseU [47, 97, 37, 50, 102, 98, 47, 99, 63, 120, 61, 49, 38, 121] = some ([(⟨#[97, 47, 98]⟩ : ByteArray), (⟨#[99]⟩ : ByteArray)], [(⟨(⟨#[120]⟩ : ByteArray), (⟨#[49]⟩ : ByteArray)⟩ : Pr), (⟨(⟨#[121]⟩ : ByteArray), (⟨#[]⟩ : ByteArray)⟩ : Pr)]) := by rfl
  show some (outU (parseU [47, 97, 37, 50, 102, 98, 47, 99, 63, 120, 61, 49, 38, 121])) = _
  rw [this]
  rfl
theorem two_parse (k : Nat) (hk : 2000 ≤ k) : url_Parse.f k (⟨#[47]⟩ : ByteArray) = some ([], [], 0) := by
  rw [Parse_eq ⟨#[47]⟩ (by decide) k (show 1 + 100 ≤ k by omega)]
  have : parseU [47] = some ([], []) := by rfl
  show some (outU (parseU [47])) = _
  rw [this]
  rfl
theorem runs_l0 : ∀ (n i k : Nat), 6 - i ≤ n → i ≤ 6 → n + 2000 < k → porticolaw4_URLRuns.l0 k 0 0 (badT.map ba) 6 (i : Int) [(⟨#[97, 47, 98]⟩ : ByteArray), (⟨#[99]⟩ : ByteArray)] [(⟨(⟨#[120]⟩ : ByteArray), (⟨#[49]⟩ : ByteArray)⟩ : Pr), (⟨(⟨#[121]⟩ : ByteArray), (⟨#[]⟩ : ByteArray)⟩ : Pr)] [] [] = some true := by
  intro n
  induction n with
  | zero =>
    intro i k h1 h2 h3
    obtain ⟨k, rfl⟩ : ∃ m, k = m + 1 := ⟨k - 1, by omega⟩
    simp only [porticolaw4_URLRuns.l0]
    rw [if_neg (by omega), if_pos trivial, same_eq _ _ (by simp) k (by simp; omega)]
    simp only [Option.bind_some]
    rw [if_pos (by simp), sameP_eq _ _ (by simp) k (by simp; omega)]
    simp only [Option.bind_some]
    rw [if_pos (by simp)]
    unfold url_Print.f
    simp only [Option.bind_some]
    rw [if_pos (by decide +kernel), if_pos trivial, if_pos (by simp)]
    congr 1
    decide +kernel
  | succ n ih =>
    intro i k h1 h2 h3
    by_cases hi : i < 6
    · obtain ⟨k, rfl⟩ : ∃ m, k = m + 1 := ⟨k - 1, by omega⟩
      simp only [porticolaw4_URLRuns.l0]
      have hb : i < badT.length := hi
      have hx := bad_none badT[i] (List.getElem_mem hb)
      rw [if_pos (by omega), if_pos (by omega), if_pos (by rw [List.length_map]; exact Int.ofNat_lt.2 hb), rdB_at badT i hb, no_text _ hx.2 hx.1 k (by omega)]
      simp only [Option.bind_some]
      rw [if_pos trivial, show wrap64 ((i : Int) + 1) = ((i + 1 : Nat) : Int) from wrapS i (by omega)]
      exact ih (i + 1) k (by omega) (by omega) (by omega)
    · exact ih i k (by omega) h2 (by omega)
theorem runs_eq (k : Nat) (hk : 3000 ≤ k) : porticolaw4_URLRuns.f k = some true := by
  unfold porticolaw4_URLRuns.f
  rw [one_parse k (by omega), two_parse k (by omega)]
  simp only [Option.bind_some]
  exact runs_l0 6 0 k (by omega) (by omega) (by omega)
end Go.Proofs.YtcaaggfobdfgpaaDoor.UURLParts
