/- porticoref3.Compare in plain words: the same order. Over PRankTells's words. -/
import Derived.Test.YtfllecoenjljpaaTotRankTells
import Derived.Test.YtfllecoenjljpaaPRankTellsx6
set_option linter.unusedVariables false
set_option linter.unusedSimpArgs false
namespace Go.Proofs.Ytfllecoenjljpaa.TotRankTells
open Go.RowKit Go.Proofs.Ytfllecoenjljpaa.Given Go.Proofs.Ytfllecoenjljpaa.PRankTells Go.Proofs.YtfllecoenjljpaaW.PrintWords Go.Proofs.Ytfllecoenjljpaa.OrdRankTells Go.Proofs.Ytfllecoenjljpaa.SortRankTells

theorem ref_l1 (x y : List Sg) (hl : x.length = y.length) (hx : x.length ≤ 20) : ∀ (n i k : Nat), i + n = x.length → n < k → porticoref3_Compare.l1 k x y (x.length : Int) (i : Int) = some (lex cT 1 (x.drop i) (y.drop i)) := by
  intro n
  induction n with
  | zero =>
    intro i k hi hk
    obtain ⟨k, rfl⟩ : ∃ m, k = m + 1 := ⟨k - 1, by omega⟩
    rw [porticoref3_Compare.l1, if_neg (by omega), List.drop_eq_nil_of_le (by omega), List.drop_eq_nil_of_le (by omega)]
    rfl
  | succ n ih =>
    intro i k hi hk
    obtain ⟨k, rfl⟩ : ∃ m, k = m + 1 := ⟨k - 1, by omega⟩
    rw [porticoref3_Compare.l1, if_pos (by omega), if_pos (by omega), if_pos (by omega), if_pos (by omega), wn2 i (by omega), rd_drop x i (by omega), rd_drop y i (by omega)]
    have hlex : lex cT 1 (rd_T23 x i :: x.drop (i + 1)) (rd_T23 y i :: y.drop (i + 1)) = if cT (rd_T23 x i) (rd_T23 y i) = 0 then lex cT 1 (x.drop (i + 1)) (y.drop (i + 1)) else cT (rd_T23 x i) (rd_T23 y i) := rfl
    rw [hlex, ih (i + 1) k (by omega) (by omega)]
    have G := good_T.anti (rd_T23 x i) (rd_T23 y i)
    obtain ⟨p, hp⟩ : ∃ p, rd_T23 x i = p := ⟨_, rfl⟩
    obtain ⟨q, hq⟩ : ∃ q, rd_T23 y i = q := ⟨_, rfl⟩
    rw [hp, hq] at G ⊢
    unfold cT cmpS at G ⊢
    by_cases a1 : Op.bytesLess p.f1.toList q.f1.toList = true
    · simp [a1]
    · rw [if_neg a1] at G ⊢
      rw [if_neg a1]
      by_cases a2 : Op.bytesLess q.f1.toList p.f1.toList = true
      · rw [if_pos a2]
        rw [if_pos a2] at G
        by_cases a3 : p.f1.toList = q.f1.toList
        · rw [if_pos a3] at G; omega
        · rw [if_neg a3, if_neg (by omega)]
      · rw [if_neg a2]
        rw [if_neg a2] at G
        by_cases a3 : p.f1.toList = q.f1.toList
        · rw [if_pos a3, if_pos rfl]
        · rw [if_neg a3, if_neg (fun e => a3 e.symm)] at G; omega
theorem ref_l0 (x y : List Sg) (hx : x.length ≤ 20) (hy : y.length ≤ 20) : ∀ (n i k : Nat), i + n = min x.length y.length → 2 * n + 30 < k → porticoref3_Compare.l0 k x y (i : Int) = some (if lex cK 1 (x.drop i) (y.drop i) = 0 then lex cT 1 x y else lex cK 1 (x.drop i) (y.drop i)) := by
  intro n
  induction n with
  | zero =>
    intro i k hi hk
    obtain ⟨k, rfl⟩ : ∃ m, k = m + 2 := ⟨k - 2, by omega⟩
    have hd : (if (i : Int) < (x.length : Int) then (porticoref3_Compare.j1 (k + 1) x y i (decide ((i : Int) < (y.length : Int)))) else (porticoref3_Compare.j1 (k + 1) x y i false)) = porticoref3_Compare.j1 (k + 1) x y i false := by
      by_cases c : (i : Int) < (x.length : Int)
      · rw [if_pos c, decide_eq_false (by omega)]
      · rw [if_neg c]
    rw [porticoref3_Compare.l0, hd, porticoref3_Compare.j1, if_neg (by simp)]
    by_cases e : x.length = y.length
    · rw [if_pos (by omega), List.drop_eq_nil_of_le (by omega), List.drop_eq_nil_of_le (by omega)]
      have := ref_l1 x y e hx x.length 0 k (by omega) (by omega)
      simp only [lex, if_true]
      simpa using this
    · rw [if_neg (by omega), w64 (by omega) (by omega)]
      unfold porticoref3_sign.f
      by_cases f : x.length < y.length
      · rw [List.drop_eq_nil_of_le (show x.length ≤ i by omega), List.drop_eq_getElem_cons (show i < y.length by omega), if_neg (by omega), if_pos (by omega)]
        simp [lex]
      · rw [List.drop_eq_nil_of_le (show y.length ≤ i by omega), List.drop_eq_getElem_cons (show i < x.length by omega), if_pos (by omega)]
        simp [lex]
  | succ n ih =>
    intro i k hi hk
    obtain ⟨k, rfl⟩ : ∃ m, k = m + 2 := ⟨k - 2, by omega⟩
    rw [porticoref3_Compare.l0, if_pos (by omega), decide_eq_true (show (i : Int) < (y.length : Int) by omega), porticoref3_Compare.j1, if_pos rfl, if_pos (by omega), if_pos (by omega), if_pos (by omega), wn2 i (by omega), ih (i + 1) k (by omega) (by omega), rd_drop x i (by omega), rd_drop y i (by omega)]
    have hlex : lex cK 1 (rd_T23 x i :: x.drop (i + 1)) (rd_T23 y i :: y.drop (i + 1)) = if cK (rd_T23 x i) (rd_T23 y i) = 0 then lex cK 1 (x.drop (i + 1)) (y.drop (i + 1)) else cK (rd_T23 x i) (rd_T23 y i) := rfl
    rw [hlex]
    unfold cK cmpI
    by_cases a1 : (rd_T23 x i).f0 < (rd_T23 y i).f0
    · simp [a1]
    · by_cases a2 : (rd_T23 x i).f0 > (rd_T23 y i).f0
      · simp [a1, a2]
      · simp [a1, a2]
theorem ref_eq (k : Nat) (hk : 100 ≤ k) (x y : List Sg) (hx : x.length ≤ 20) (hy : y.length ≤ 20) : porticoref3_Compare.f k x y = some (cmpP x y) := by
  have := ref_l0 x y hx hy (min x.length y.length) 0 k (by omega) (by omega)
  unfold porticoref3_Compare.f cmpP thenC
  simpa using this
theorem ref_any (A : Option Addr) (c : Nat) (x : List Sg) (B : Option Addr) (d : Nat) (y : List Sg) (w : World) (h1 : Kd.C k23 w A x.length x) (h2 : x.length ≤ c) (h3 : Kd.C k23 w B y.length y) (h4 : y.length ≤ d) (hx : x.length ≤ 20) (hy : y.length ≤ 20) : Calls Try.prog 15 #[.slice A x.length c, .slice B y.length d] w fun e w' => e = .returned (.int .i64 (cmpP x y)) ∧ Below w.heap.size w w' := by
  refine (porticoref3_Compare.calls 100 A c x B d y (cmpP x y) w h1 h2 h3 h4 (ref_eq 100 (by omega) x y hx hy)).mono ?_
  rintro e w' ⟨rfl, q, rfl⟩
  exact ⟨rfl, pw_below_drewN (Below.refl _ _) q⟩
end Go.Proofs.Ytfllecoenjljpaa.TotRankTells
