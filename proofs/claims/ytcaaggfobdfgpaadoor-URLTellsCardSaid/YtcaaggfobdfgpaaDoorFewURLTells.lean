/- URLTells: few, equal in plain words. -/
import Derived.Test.YtcaaggfobdfgpaaDoorRunsURLTells
set_option linter.unusedVariables false
set_option linter.unusedSimpArgs false
namespace Go.Proofs.YtcaaggfobdfgpaaDoor.UURLTells
open Go.RowKit Go.Proofs.YtcaaggfobdfgpaaDoor.PURLTells Go.Proofs.YtcaaggfobdfgpaaDoorW.PrintWords Go.Proofs.YtcaaggfobdfgpaaDoorW.PrintLast Go.Proofs.YtcaaggfobdfgpaaDoorW.PrintMore Go.Proofs.YtcaaggfobdfgpaaDoor.Pct Go.Proofs.YtcaaggfobdfgpaaDoor.UP Go.Proofs.YtcaaggfobdfgpaaDoor.Given

theorem mn9 (n : Nat) : (mn (n : Int) 9).toNat = min n 9 ∧ 0 ≤ mn (n : Int) 9 ∧ mn (n : Int) 9 ≤ n := by unfold mn; split <;> omega
theorem few_eq (p : List ByteArray) (q : List Pr) : porticolaw4_few.f p q = some (p.take 9, q.take 9) := by
  unfold porticolaw4_few.f
  obtain ⟨a, b, c⟩ := mn9 p.length
  obtain ⟨d, e, f⟩ := mn9 q.length
  simp only [Option.bind_some]
  rw [if_pos b, if_pos c, a, if_pos (by simp; omega), if_pos e, if_pos f, d, if_pos (by simp; omega)]
  have h1 : p.take (min p.length 9) = p.take 9 := by rw [Nat.min_comm, List.take_eq_take_iff]; omega
  have h2 : q.take (min q.length 9) = q.take 9 := by rw [Nat.min_comm, List.take_eq_take_iff]; omega
  rw [h1, h2]
  rfl
theorem equal_eq (p : List ByteArray) (q : List Pr) (p' : List ByteArray) (q' : List Pr) (hp : p.length ≤ 1000) (hq : q.length ≤ 1000) (k : Nat) (hk : 2000 ≤ k) : porticolaw4_equal.f k p q p' q' = some (decide (p = p' ∧ q = q')) := by
  unfold porticolaw4_equal.f
  rw [same_eq p p' (by omega) k (by omega)]
  simp only [Option.bind_some]
  by_cases h : p = p'
  · rw [if_pos (decide_eq_true h), sameP_eq q q' (by omega) k (by omega)]
    simp only [Option.bind_some]
    congr 1
    exact decide_eq_decide.2 (by simp [h])
  · rw [if_neg (by simpa using h)]
    congr 1
    exact (decide_eq_false (fun e => h e.1)).symm
theorem Parse_any (s : ByteArray) (hs : s.size ≤ 100000) (k : Nat) (hk : 200000 ≤ k) : url_Parse.f k s = some ([], [], 1) ∨ ∃ p q, url_Parse.f k s = some (p, q, 0) ∧ rightB p q = true := by
  rw [Parse_eq s (by omega) k (by omega)]
  cases h : parseU s.data.toList with
  | none => exact .inl rfl
  | some u => exact .inr ⟨u.1, u.2, rfl, parse_right h⟩
theorem right_len {p : List ByteArray} {q : List Pr} (h : rightB p q = true) : p.length ≤ 8 ∧ q.length ≤ 8 := ⟨(right_bd h).1, (right_bd h).2.1⟩
end Go.Proofs.YtcaaggfobdfgpaaDoor.UURLTells
