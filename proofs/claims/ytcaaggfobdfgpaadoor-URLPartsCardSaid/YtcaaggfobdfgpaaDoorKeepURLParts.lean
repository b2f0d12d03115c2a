/- URLParts: URLs that numbers make are right. -/
import Derived.Test.YtcaaggfobdfgpaaDoorPURLPartsx5
import Derived.Test.YtcaaggfobdfgpaaDoorRunsURLParts
set_option linter.unusedVariables false
set_option linter.unusedSimpArgs false
namespace Go.Proofs.YtcaaggfobdfgpaaDoor.UURLParts
open Go.RowKit Go.Proofs.YtcaaggfobdfgpaaDoor.PURLParts Go.Proofs.YtcaaggfobdfgpaaDoorW.PrintWords Go.Proofs.YtcaaggfobdfgpaaDoorW.PrintLast Go.Proofs.YtcaaggfobdfgpaaDoorW.PrintMore Go.Proofs.YtcaaggfobdfgpaaDoor.Pct Go.Proofs.YtcaaggfobdfgpaaDoor.UP Go.Proofs.YtcaaggfobdfgpaaDoor.Given

theorem wf64 {n : Int} (h : (Lit.int .i64 n).wf = true) : -9223372036854775808 ≤ n ∧ n ≤ 9223372036854775807 := by
  simp [Lit.wf, IntKind.min, IntKind.max, IntKind.signed, IntKind.bits] at h
  omega
theorem w64 {n : Int} (h : -9223372036854775808 ≤ n) (h' : n ≤ 9223372036854775807) : wrap64 n = n := by
  unfold wrap64
  omega

theorem within_eq (n lo hi : Int) (h : lo ≤ hi) (h0 : -4611686018427387904 ≤ lo) (h1 : hi ≤ 4611686018427387903) (h2 : hi - lo ≤ 4611686018427387903) :
    porticobook_Within.f n lo hi = some (lo + n % (hi - lo + 1)) := by
  unfold porticobook_Within.f
  rw [w64 (n := hi - lo) (by omega) (by omega), w64 (n := hi - lo + 1) (by omega) (by omega)]
  have hm : 0 < hi - lo + 1 := by omega
  have e := Int.tmod_eq_emod (a := n) (b := hi - lo + 1)
  have p0 := Int.emod_nonneg n (show hi - lo + 1 ≠ 0 by omega)
  have p1 := Int.emod_lt_of_pos n hm
  rw [if_neg (by omega)]
  generalize hr : n % (hi - lo + 1) = r at *
  have hna : ((hi - lo + 1).natAbs : Int) = hi - lo + 1 := by omega
  by_cases hc : 0 ≤ n ∨ hi - lo + 1 ∣ n
  · rw [if_pos hc] at e
    rw [e, if_neg (by omega), w64 (by omega) (by omega)]
    congr 1
    omega
  · rw [if_neg hc, hna] at e
    rw [e, if_pos (by omega), w64 (n := r - (hi - lo + 1) + hi) (by omega) (by omega), w64 (n := _ - lo) (by omega) (by omega), w64 (n := _ + 1) (by omega) (by omega), w64 (by omega) (by omega)]
    congr 1
    omega
theorem within_ok (n lo hi : Int) (h : lo ≤ hi) (h0 : -4611686018427387904 ≤ lo) (h1 : hi ≤ 4611686018427387903) (h2 : hi - lo ≤ 4611686018427387903) :
    ∃ r, porticobook_Within.f n lo hi = some r ∧ lo ≤ r ∧ r ≤ hi := by
  have p0 := Int.emod_nonneg n (show hi - lo + 1 ≠ 0 by omega)
  have p1 := Int.emod_lt_of_pos n (show 0 < hi - lo + 1 by omega)
  exact ⟨_, within_eq n lo hi h h0 h1 h2, by omega, by omega⟩

theorem Parse_any (s : ByteArray) (hs : s.size ≤ 100000) (k : Nat) (hk : 200000 ≤ k) : url_Parse.f k s = some ([], [], 1) ∨ ∃ p q, url_Parse.f k s = some (p, q, 0) ∧ rightB p q = true := by
  rw [Parse_eq s (by omega) k (by omega)]
  cases h : parseU s.data.toList with
  | none => exact .inl rfl
  | some u => exact .inr ⟨u.1, u.2, rfl, parse_right h⟩
theorem right_len {p : List ByteArray} {q : List Pr} (h : rightB p q = true) : p.length ≤ 8 ∧ q.length ≤ 8 := ⟨(right_bd h).1, (right_bd h).2.1⟩
def wordsL : List ByteArray := [(⟨#[97]⟩ : ByteArray), (⟨#[98]⟩ : ByteArray), (⟨#[105, 116, 101, 109]⟩ : ByteArray), (⟨#[120, 32, 121]⟩ : ByteArray), (⟨#[37]⟩ : ByteArray), (⟨#[97, 47, 98]⟩ : ByteArray), (⟨#[46, 46]⟩ : ByteArray), (⟨#[122]⟩ : ByteArray), (⟨#[49]⟩ : ByteArray), (⟨#[108, 105, 115, 116]⟩ : ByteArray), (⟨#[255]⟩ : ByteArray), (⟨#[63, 61, 38]⟩ : ByteArray)]
theorem words_text : ∀ x ∈ wordsL, 1 ≤ x.size ∧ x.size ≤ 64 := by
  have h : wordsL.all (fun x => decide (1 ≤ x.size) && decide (x.size ≤ 64)) = true := by decide +kernel
  intro x hx
  have := List.all_eq_true.1 h x hx
  simpa using this
theorem word_at (i : Int) (h0 : 0 ≤ i) (h1 : i ≤ 11) : rdOf ByteArray.empty wordsL i ∈ wordsL := by
  obtain ⟨n, rfl⟩ : ∃ n : Nat, i = n := ⟨i.toNat, by omega⟩
  rw [rdOf_at _ wordsL n (by show n < 12; omega)]
  exact List.getElem_mem _
theorem pick_ok (l : List Int) (i : Nat) : ∃ r, porticokeep_pick.f l (i : Int) = some r := by
  unfold porticokeep_pick.f
  by_cases h : (l.length : Int) = 0
  · exact ⟨_, if_pos h⟩
  · rw [if_neg h]
    have h1 : 0 ≤ Int.tmod (i : Int) (l.length : Int) := Int.tmod_nonneg _ (by omega)
    have h2 : Int.tmod (i : Int) (l.length : Int) < (l.length : Int) := Int.tmod_lt_of_pos _ (by omega)
    rw [if_pos h1, if_pos h2]
    exact ⟨_, rfl⟩
/-- What numbers make. -/
def Made (p : List ByteArray) (q : List Pr) (n : Nat) : Prop := p.length ≤ 5 ∧ (∀ x ∈ p, x ∈ wordsL) ∧ q.length = min n 3 ∧ ∀ x ∈ q, x.f0 ∈ wordsL ∧ x.f1 ∈ wordsL
theorem Made.right {p : List ByteArray} {q : List Pr} {n : Nat} (h : Made p q n) : rightB p q = true := by
  obtain ⟨h1, h2, h3, h4⟩ := h
  unfold rightB textB
  simp only [Bool.and_eq_true, decide_eq_true_eq, List.all_eq_true]
  refine ⟨⟨⟨by omega, by omega⟩, fun x hx => words_text x (h2 x hx)⟩, fun x hx => ⟨words_text _ (h4 x hx).1, by omega, (words_text _ (h4 x hx).2).2⟩⟩
theorem url_l1 (a b c : List Int) (p : List ByteArray) (hp : p.length ≤ 5) (hw : ∀ x ∈ p, x ∈ wordsL) (hb : b.length ≤ 1000000000000000000) : ∀ (n i k : Nat) (q : List Pr), 4 - i ≤ n → i ≤ min b.length 3 → 2 * n + 2 < k → q.length = i → (∀ x ∈ q, x.f0 ∈ wordsL ∧ x.f1 ∈ wordsL) →
    ∃ q', porticokeep_URL_URL.l1 k wordsL (i : Int) a b c p q = some (p, q') ∧ Made p q' b.length := by
  intro n
  induction n with
  | zero => intro i k q h1 h2; omega
  | succ n ih =>
    intro i k q h1 h2 h3 h4 h5
    obtain ⟨k, rfl⟩ : ∃ m, k = m + 2 := ⟨k - 2, by omega⟩
    simp only [porticokeep_URL_URL.l1]
    by_cases hi : i < b.length
    · rw [if_pos (by omega)]
      simp only [porticokeep_URL_URL.j3]
      by_cases hj : i < 3
      · obtain ⟨r, e1, r0, r1⟩ := within_ok (rd b (i : Int)) 0 11 (by omega) (by omega) (by omega) (by omega)
        obtain ⟨v, e2⟩ := pick_ok c i
        obtain ⟨s, e3, s0, s1⟩ := within_ok v 0 11 (by omega) (by omega) (by omega) (by omega)
        have hl : wrap64 ((wordsL.length : Int) - 1) = 11 := by show wrap64 (((12 : Nat) : Int) - 1) = 11; unfold wrap64; omega
        rw [if_pos (by simp; omega), if_pos (by omega), if_pos (by omega), hl, e1]
        simp only [Option.bind_some]
        rw [if_pos r0, if_pos (by show r < 12; omega), e2]
        simp only [Option.bind_some]
        rw [e3]
        simp only [Option.bind_some]
        rw [if_pos s0, if_pos (by show s < 12; omega), if_pos (by omega), show wrap64 ((i : Int) + 1) = ((i + 1 : Nat) : Int) from wrapS i (by omega)]
        refine ih (i + 1) k _ (by omega) (by omega) (by omega) (by simp; omega) ?_
        intro x hx
        rcases List.mem_append.1 hx with hx | hx
        · exact h5 x hx
        · rw [List.mem_singleton.1 hx]
          exact ⟨word_at r r0 r1, word_at s s0 s1⟩
      · rw [if_neg (by simp; omega)]
        exact ⟨q, rfl, hp, hw, by omega, h5⟩
    · rw [if_neg (by omega)]
      simp only [porticokeep_URL_URL.j3]
      rw [if_neg (by decide)]
      exact ⟨q, rfl, hp, hw, by omega, h5⟩
theorem url_l0 (a b c : List Int) (ha : a.length ≤ 1000000000000000000) (hb : b.length ≤ 1000000000000000000) : ∀ (n i k : Nat) (p : List ByteArray), 6 - i ≤ n → i ≤ min a.length 5 → n + 20 < k → p.length = i → (∀ x ∈ p, x ∈ wordsL) →
    ∃ p' q', porticokeep_URL_URL.l0 k wordsL (i : Int) a b c p = some (p', q') ∧ Made p' q' b.length ∧ p'.length = min a.length 5 := by
  intro n
  induction n with
  | zero => intro i k p h1 h2; omega
  | succ n ih =>
    intro i k p h1 h2 h3 h4 h5
    obtain ⟨k, rfl⟩ : ∃ m, k = m + 2 := ⟨k - 2, by omega⟩
    have fin : i = min a.length 5 → ∃ p' q', porticokeep_URL_URL.j1 (k + 1) wordsL a b c p = some (p', q') ∧ Made p' q' b.length ∧ p'.length = min a.length 5 := by
      intro e
      simp only [porticokeep_URL_URL.j1]
      obtain ⟨q', e1, e2⟩ := url_l1 a b c p (by omega) h5 hb 4 0 k [] (by omega) (by omega) (by omega) rfl (by simp)
      rw [show ((0 : Nat) : Int) = 0 from rfl] at e1
      exact ⟨p, q', e1, e2, by omega⟩
    rw [porticokeep_URL_URL.l0]
    by_cases hi : i < a.length
    · rw [if_pos (by omega)]
      by_cases hj : i < 5
      · obtain ⟨r, e1, r0, r1⟩ := within_ok (rd a (i : Int)) 0 11 (by omega) (by omega) (by omega) (by omega)
        have hl : wrap64 ((wordsL.length : Int) - 1) = 11 := by show wrap64 (((12 : Nat) : Int) - 1) = 11; unfold wrap64; omega
        rw [if_pos (by omega), if_pos (by omega), hl, e1]
        simp only [Option.bind_some]
        rw [if_pos r0, if_pos (by show r < 12; omega), if_pos (by omega), show wrap64 ((i : Int) + 1) = ((i + 1 : Nat) : Int) from wrapS i (by omega)]
        refine ih (i + 1) (k + 1) _ (by omega) (by omega) (by omega) (by simp; omega) ?_
        intro x hx
        rcases List.mem_append.1 hx with hx | hx
        · exact h5 x hx
        · rw [List.mem_singleton.1 hx]
          exact word_at r r0 r1
      · rw [if_neg (by omega)]
        exact fin (by omega)
    · rw [if_neg (by omega)]
      exact fin (by omega)
theorem url_made (a b c : List Int) (ha : a.length ≤ 1000000000000000000) (hb : b.length ≤ 1000000000000000000) (k : Nat) (hk : 100 ≤ k) : ∃ p q, porticokeep_URL_URL.f k a b c = some (p, q) ∧ Made p q b.length ∧ p.length = min a.length 5 := by
  unfold porticokeep_URL_URL.f porticokeep_Words.f
  simp only [Option.bind_some]
  exact url_l0 a b c ha hb 6 0 k [] (by omega) (by omega) (by omega) rfl (by simp)
end Go.Proofs.YtcaaggfobdfgpaaDoor.UURLParts
