/- RuleMore, the plain law: a flag more lets more pass; two parts say what all say; no rules: all passes. -/
import Derived.Test.YtkcpnbllgpkejaaStmRuleMore
namespace Go.Proofs.Ytkcpnbllgpkejaa.PureRuleMore
open Go.RowKit Go.Proofs.Ytkcpnbllgpkejaa.PRuleMore Go.Proofs.YtkcpnbllgpkejaaW.PrintWords

theorem wf64 {n : Int} (h : (Lit.int .i64 n).wf = true) : -9223372036854775808 ≤ n ∧ n ≤ 9223372036854775807 := by
  simp [Lit.wf, IntKind.min, IntKind.max, IntKind.signed, IntKind.bits] at h
  omega
theorem w64 {n : Int} (h : -9223372036854775808 ≤ n) (h' : n ≤ 9223372036854775807) : wrap64 n = n := by
  unfold wrap64
  omega

theorem within_eq (n lo hi : Int) (h : lo ≤ hi) (h0 : -4611686018427387904 ≤ lo) (h1 : hi ≤ 4611686018427387903) (h2 : hi - lo ≤ 4611686018427387903) :
    porticobook_Within.f n lo hi = some (lo + n % (hi - lo + 1)) := by
  unfold porticobook_Within.f
  rw [w64 (n := hi - lo) (by omega) (by omega), w64 (n := hi - lo + 1) (by omega) (by omega)]
  have hm : 0 < hi - lo + 1 := by omega
  have e := Int.tmod_eq_emod (a := n) (b := hi - lo + 1)
  have p0 := Int.emod_nonneg n (show hi - lo + 1 ≠ 0 by omega)
  have p1 := Int.emod_lt_of_pos n hm
  rw [if_neg (by omega)]
  generalize hr : n % (hi - lo + 1) = r at *
  have hna : ((hi - lo + 1).natAbs : Int) = hi - lo + 1 := by omega
  by_cases hc : 0 ≤ n ∨ hi - lo + 1 ∣ n
  · rw [if_pos hc] at e
    rw [e, if_neg (by omega), w64 (by omega) (by omega)]
    congr 1
    omega
  · rw [if_neg hc, hna] at e
    rw [e, if_pos (by omega), w64 (n := r - (hi - lo + 1) + hi) (by omega) (by omega), w64 (n := _ - lo) (by omega) (by omega), w64 (n := _ + 1) (by omega) (by omega), w64 (by omega) (by omega)]
    congr 1
    omega
theorem within_ok (n lo hi : Int) (h : lo ≤ hi) (h0 : -4611686018427387904 ≤ lo) (h1 : hi ≤ 4611686018427387903) (h2 : hi - lo ≤ 4611686018427387903) :
    ∃ r, porticobook_Within.f n lo hi = some r ∧ lo ≤ r ∧ r ≤ hi := by
  have p0 := Int.emod_nonneg n (show hi - lo + 1 ≠ 0 by omega)
  have p1 := Int.emod_lt_of_pos n (show 0 < hi - lo + 1 by omega)
  exact ⟨_, within_eq n lo hi h h0 h1 h2, by omega, by omega⟩

def setP (flag : Int) (l : List Bool) : Bool := decide (0 ≤ flag) && (decide (flag < (l.length : Int)) && rdOf false l flag)
def askP (kind : Int) (set : Bool) (dst : ByteArray) : Int × ByteArray :=
  if kind = 0 then (0, ⟨#[]⟩) else if kind = 2 then (if set = true then (0, ⟨#[]⟩) else (1, ⟨#[]⟩)) else if kind = 4 then (if set = true then (0, ⟨#[]⟩) else (2, dst)) else if kind = 3 then (2, dst) else (1, ⟨#[]⟩)
theorem ask_eq (k : Nat) (kind flag : Int) (dst : ByteArray) (l : List Bool) : rule_Ask.f (k + 1) kind flag dst l = some (askP kind (setP flag l) dst) := by
  unfold rule_Ask.f
  have hj : ∀ b, rule_Ask.j0 (k + 1) b kind flag dst = some (askP kind b dst) := by
    intro b
    simp only [rule_Ask.j0, askP]
    repeat' split
    all_goals rfl
  by_cases h0 : 0 ≤ flag
  · by_cases h1 : flag < (l.length : Int)
    · rw [if_pos h0, if_pos h1, if_pos h0, hj]
      simp [setP, h0, h1]
    · rw [if_pos h0, if_neg h1, hj]
      simp [setP, h1]
  · rw [if_neg h0, hj]
    simp [setP, h0]

theorem runs (k : Nat) : porticolaw9_RuleRuns.f (k + 3) = some true := by
  have h : porticolaw9_RuleRuns.f 3 = some true := by decide +kernel
  have : ∀ n, porticolaw9_RuleRuns.f (3 + n) = some true := by
    intro n
    induction n with
    | zero => exact h
    | succ n ih => exact porticolaw9_RuleRuns.mono (3 + n) true ih
  rw [Nat.add_comm]
  exact this k
theorem mn_le (a b : Int) : mn a b ≤ a ∧ mn a b ≤ b ∧ (0 ≤ a → 0 ≤ b → 0 ≤ mn a b) := by unfold mn; split <;> omega

/-- What all rules say, from place i on. -/
def allP (fs : List Bool) : List S23 → Int → Int × ByteArray × Int
  | [], _ => (0, ⟨#[]⟩, -1)
  | r :: rs, i => if (askP r.f0 (setP r.f1 fs) r.f2).1 = 0 then allP fs rs (i + 1) else ((askP r.f0 (setP r.f1 fs) r.f2).1, (askP r.f0 (setP r.f1 fs) r.f2).2, i)
theorem rd_drop (l : List S23) (i : Nat) (r : S23) (rs : List S23) (h : l.drop i = r :: rs) : rd_T23 l i = r ∧ i < l.length ∧ l.drop (i + 1) = rs := by
  have hi : i < l.length := by
    rcases Nat.lt_or_ge i l.length with h1 | h1
    · exact h1
    · rw [List.drop_eq_nil_of_le h1] at h; cases h
  rw [List.drop_eq_getElem_cons hi] at h
  injection h with h1 h2
  refine ⟨?_, hi, h2⟩
  unfold rd_T23
  simp [List.getD_eq_getElem?_getD, hi, h1]
theorem all_l0 (fs : List Bool) (l : List S23) (hl : l.length ≤ 8) : ∀ (rest : List S23) (i k : Nat), l.drop i = rest → i + rest.length = l.length → rest.length < k → rule_All.l0 (k + 1) fs l (l.length : Int) i = some (allP fs rest i)
  | [], i, k, h, hn, hk => by
    have : ¬ (i : Int) < (l.length : Int) := by simp at hn; omega
    obtain ⟨k, rfl⟩ : ∃ m, k = m + 1 := ⟨k - 1, by omega⟩
    simp only [rule_All.l0, allP]
    rw [if_neg this]
  | r :: rs, i, k, h, hn, hk => by
    obtain ⟨e, hi, h'⟩ := rd_drop l i r rs h
    obtain ⟨k, rfl⟩ : ∃ m, k = m + 1 := ⟨k - 1, by omega⟩
    rw [rule_All.l0, if_pos (by omega), if_pos (by omega), if_pos (by omega), e, ask_eq]
    simp only [Option.bind_some, allP]
    split
    · rw [w64 (by omega) (by omega)]
      have := all_l0 fs l hl rs (i + 1) k h' (by simp at hn; omega) (by simp at hk; omega)
      simpa using this
    · rfl

theorem all_f (k : Nat) (hk : 10 ≤ k) (fs : List Bool) (own : List S23) (hl : own.length ≤ 8) : rule_All.f k own fs = some (allP fs own 0) := by
  obtain ⟨k, rfl⟩ : ∃ m, k = m + 1 := ⟨k - 1, by omega⟩
  exact all_l0 fs own hl own 0 k rfl (by simp) (by omega)
theorem all_cases (fs : List Bool) : ∀ (rs : List S23) (i : Int), 0 ≤ i → (allP fs rs i = (0, ⟨#[]⟩, -1)) ∨ ((allP fs rs i).1 ≠ 0 ∧ i ≤ (allP fs rs i).2.2 ∧ (allP fs rs i).2.2 < i + rs.length)
  | [], i, h => Or.inl rfl
  | r :: rs, i, h => by
    rw [allP]
    split
    · rcases all_cases fs rs (i + 1) (by omega) with h1 | ⟨h1, h2, h3⟩
      · exact Or.inl h1
      · refine Or.inr ⟨h1, by omega, ?_⟩
        rw [List.length_cons]
        omega
    · rename_i hn
      refine Or.inr ⟨hn, ?_, ?_⟩
      · show i ≤ i
        omega
      · show i < i + ((r :: rs).length : Int)
        rw [List.length_cons]
        omega
theorem ask_mono (kind : Int) (b c : Bool) (dst : ByteArray) (hbc : b = true → c = true) (h : (askP kind b dst).1 = 0) : (askP kind c dst).1 = 0 := by
  unfold askP at *
  by_cases h0 : kind = 0
  · simp [h0]
  · by_cases h2 : kind = 2
    · subst h2; cases b <;> cases c <;> simp_all
    · by_cases h4 : kind = 4
      · subst h4; cases b <;> cases c <;> simp_all
      · by_cases h3 : kind = 3 <;> simp_all
theorem all_more (fs gs : List Bool) (hg : ∀ f, setP f fs = true → setP f gs = true) : ∀ (rs : List S23) (i : Int), 0 ≤ i → ((allP fs rs i).1 = 0 → (allP gs rs i).1 = 0) ∧ (0 ≤ (allP gs rs i).2.2 → 0 ≤ (allP fs rs i).2.2 ∧ (allP fs rs i).2.2 ≤ (allP gs rs i).2.2)
  | [], i, h => ⟨fun _ => rfl, fun h => absurd h (show ¬ (0 : Int) ≤ -1 by omega)⟩
  | r :: rs, i, h => by
    by_cases hp : (askP r.f0 (setP r.f1 fs) r.f2).1 = 0
    · have hq := ask_mono r.f0 _ (setP r.f1 gs) r.f2 (hg r.f1) hp
      rw [allP, allP, if_pos hp, if_pos hq]
      exact all_more fs gs hg rs (i + 1) (by omega)
    · have e1 : allP fs (r :: rs) i = ((askP r.f0 (setP r.f1 fs) r.f2).1, (askP r.f0 (setP r.f1 fs) r.f2).2, i) := by rw [allP, if_neg hp]
      rw [e1]
      refine ⟨fun h0 => absurd h0 hp, fun h0 => ⟨h, ?_⟩⟩
      show i ≤ _
      rcases all_cases gs (r :: rs) i h with h1 | ⟨h1, h2, h3⟩
      · rw [h1] at h0
        exact absurd h0 (show ¬ (0 : Int) ≤ -1 by omega)
      · exact h2
theorem all_app (fs : List Bool) (ms : List S23) : ∀ (rs : List S23) (i : Int), allP fs (rs ++ ms) i = if (allP fs rs i).1 = 0 then allP fs ms (i + rs.length) else allP fs rs i
  | [], i => by simp [allP]
  | r :: rs, i => by
    by_cases hp : (askP r.f0 (setP r.f1 fs) r.f2).1 = 0
    · rw [List.cons_append, allP, if_pos hp, allP, if_pos hp, all_app fs ms rs (i + 1), List.length_cons]
      congr 2
      omega
    · rw [List.cons_append, allP, if_neg hp, allP, if_neg hp, if_neg hp]
theorem all_shift (fs : List Bool) : ∀ (rs : List S23) (j i : Int), 0 ≤ i → 0 ≤ j → allP fs rs (i + j) = ((allP fs rs i).1, (allP fs rs i).2.1, if (allP fs rs i).2.2 ≥ 0 then (allP fs rs i).2.2 + j else (allP fs rs i).2.2)
  | [], j, i, _, _ => rfl
  | r :: rs, j, i, hi, hj => by
    by_cases hp : (askP r.f0 (setP r.f1 fs) r.f2).1 = 0
    · rw [allP, if_pos hp, allP, if_pos hp, show i + j + 1 = i + 1 + j by omega, all_shift fs rs j (i + 1) (by omega) hj]
    · rw [allP, if_neg hp, allP, if_neg hp]
      show _ = (_, _, if i ≥ 0 then i + j else i)
      rw [if_pos (show i ≥ 0 from hi)]

theorem j1_true (k : Nat) (hk : 12 ≤ k) (n : Int) (own : List S23) (hl : own.length ≤ 8) (fs : List Bool) : porticolaw9_RuleMore.j1 (k + 1) n own fs (allP fs own 0).2.2 false = some true := by
  rw [porticolaw9_RuleMore.j1, if_neg (by simp)]
  obtain ⟨t, ht, ht0, ht1⟩ := within_ok n 0 (own.length : Int) (by omega) (by omega) (by omega) (by omega)
  obtain ⟨kk, rfl⟩ : ∃ m, k = m + 3 := ⟨k - 3, by omega⟩
  have e0 : allP fs ([] : List S23) 0 = (0, ⟨#[]⟩, -1) := rfl
  have hta : (own.take t.toNat).length = t.toNat := by rw [List.length_take]; omega
  have hW := all_app fs (own.drop t.toNat) (own.take t.toNat) 0
  rw [List.take_append_drop, hta, all_shift fs (own.drop t.toNat) (t.toNat : Int) 0 (by omega) (by omega), show ((t.toNat : Nat) : Int) = t by omega] at hW
  have hcB := all_cases fs (own.drop t.toNat) 0 (by omega)
  have hdl : (own.drop t.toNat).length ≤ 8 := by rw [List.length_drop]; omega
  rw [ht]
  simp only [Option.bind_some]
  rw [if_pos ht0, if_pos ht1, all_f _ (by omega) fs (own.take t.toNat) (by omega), all_f _ (by omega) fs (own.drop t.toNat) (by omega), all_f _ (by omega) fs own hl]
  simp only [Option.bind_some]
  rw [all_f _ (by omega) fs [] (by simp), e0, runs]
  simp only [Option.bind_some]
  generalize allP fs own 0 = W at *
  generalize allP fs (own.take t.toNat) 0 = A at *
  generalize allP fs (own.drop t.toNat) 0 = B at *
  subst hW
  by_cases hA : A.1 = 0
  · rw [if_pos hA, if_pos hA]
    by_cases hB : B.2.2 ≥ 0
    · rw [if_pos hB, if_pos hB]
      have hw : wrap64 (B.2.2 + t) = B.2.2 + t := by
        rcases hcB with h1 | ⟨h1, h2, h3⟩
        · rw [h1] at hB
          exact absurd hB (show ¬ (-1 : Int) ≥ 0 by omega)
        · exact w64 (by omega) (by omega)
      simp [hw]
    · rw [if_neg hB, if_neg hB]
      simp
  · rw [if_neg hA, if_neg hA]
    simp
theorem j0_true (k : Nat) (hk : 12 ≤ k) (n : Int) (own : List S23) (hl : own.length ≤ 8) (fs gs : List Bool) (hg : ∀ f, setP f fs = true → setP f gs = true) : porticolaw9_RuleMore.j0 (k + 2) n own fs (allP fs own 0).1 (allP fs own 0).2.2 gs = some true := by
  obtain ⟨h1, h2⟩ := all_more fs gs hg own 0 (by omega)
  have hj := j1_true k hk n own hl fs
  rw [porticolaw9_RuleMore.j0, all_f _ (by omega) gs own hl]
  simp only [Option.bind_some]
  generalize allP fs own 0 = W at *
  generalize allP gs own 0 = V at *
  have hfin : (if V.2.2 ≥ 0 then (if W.2.2 < 0 then (porticolaw9_RuleMore.j1 (k + 1) n own fs W.2.2 true) else (porticolaw9_RuleMore.j1 (k + 1) n own fs W.2.2 (decide (V.2.2 < W.2.2)))) else (porticolaw9_RuleMore.j1 (k + 1) n own fs W.2.2 false)) = some true := by
    by_cases hv : V.2.2 ≥ 0
    · obtain ⟨h3, h4⟩ := h2 hv
      rw [if_pos hv, if_neg (by omega), show decide (V.2.2 < W.2.2) = false from decide_eq_false (by omega), hj]
    · rw [if_neg hv, hj]
  by_cases hw : W.1 = 0
  · rw [if_pos hw, if_pos (h1 hw)]
    exact hfin
  · rw [if_neg hw]
    exact hfin
theorem set_more (fs : List Bool) (t : Nat) (f : Int) (h : setP f fs = true) : setP f (fs.set t true) = true := by
  unfold setP at *
  rw [List.length_set]
  by_cases h0 : 0 ≤ f
  · by_cases h1 : f < (fs.length : Int)
    · have h : rdOf false fs f = true := by simpa [h0, h1] using h
      rw [decide_eq_true h0, decide_eq_true h1]
      simp only [Bool.true_and]
      unfold rdOf at *
      by_cases ht : t = f.toNat
      · subst ht
        rw [List.getD_eq_getElem?_getD, List.getElem?_set_self (show f.toNat < fs.length by clear h; omega)]
        rfl
      · rw [List.getD_eq_getElem?_getD, List.getElem?_set_ne ht, ← List.getD_eq_getElem?_getD]
        exact h
    · simp [h1] at h
  · simp [h0] at h

theorem pure : StmRuleMore.Pure := by
  intro rs flags n c hr hf _ _
  obtain ⟨K, hK⟩ : ∃ K : Nat, K = 20 := ⟨_, rfl⟩
  refine ⟨K + 2, ?_⟩
  unfold porticolaw9_RuleMore.f
  have hm := mn_le (rs.length : Int) 8
  have hm2 := mn_le (flags.length : Int) 8
  simp only [Option.bind_some]
  have ht : (rs.take (mn (rs.length : Int) 8).toNat).length ≤ 8 := by rw [List.length_take]; omega
  have ht2 : (flags.take (mn (flags.length : Int) 8).toNat).length ≤ 8 := by rw [List.length_take]; omega
  rw [if_pos (by omega), if_pos (by omega), if_pos (by simp only [List.length_nil]; omega), if_pos (by omega), if_pos (by omega), if_pos (by simp only [List.length_nil]; omega)]
  simp only [List.nil_append]
  generalize rs.take (mn (rs.length : Int) 8).toNat = own at *
  generalize flags.take (mn (flags.length : Int) 8).toNat = fs at *
  rw [all_f _ (by omega) fs own ht]
  simp only [Option.bind_some]
  rw [if_pos (by simp only [List.length_nil]; omega)]
  by_cases h0 : (fs.length : Int) > 0
  · rw [if_pos h0, w64 (by omega) (by omega)]
    obtain ⟨t, ht, ht0, ht1⟩ := within_ok n 0 ((fs.length : Int) - 1) (by omega) (by omega) (by omega) (by omega)
    rw [ht]
    simp only [Option.bind_some]
    rw [if_pos ht0, if_pos (by omega)]
    exact j0_true K (by omega) c own (by omega) fs _ (set_more fs t.toNat)
  · rw [if_neg h0]
    exact j0_true K (by omega) c own (by omega) fs fs (fun _ h => h)

end Go.Proofs.Ytkcpnbllgpkejaa.PureRuleMore
