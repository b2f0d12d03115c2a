/- RuleTells, the plain law: each rule says what the document's own answer says; all rules say what the first says that doesn't pass. -/
import Derived.Test.YtkcpnbllgpkejaaStmRuleTells
namespace Go.Proofs.Ytkcpnbllgpkejaa.PureRuleTells
open Go.RowKit Go.Proofs.Ytkcpnbllgpkejaa.PRuleTells Go.Proofs.YtkcpnbllgpkejaaW.PrintWords

theorem wf64 {n : Int} (h : (Lit.int .i64 n).wf = true) : -9223372036854775808 ≤ n ∧ n ≤ 9223372036854775807 := by
  simp [Lit.wf, IntKind.min, IntKind.max, IntKind.signed, IntKind.bits] at h
  omega
theorem w64 {n : Int} (h : -9223372036854775808 ≤ n) (h' : n ≤ 9223372036854775807) : wrap64 n = n := by
  unfold wrap64
  omega

def setP (flag : Int) (l : List Bool) : Bool := decide (0 ≤ flag) && (decide (flag < (l.length : Int)) && rdOf false l flag)
def askP (kind : Int) (set : Bool) (dst : ByteArray) : Int × ByteArray :=
  if kind = 0 then (0, ⟨#[]⟩) else if kind = 2 then (if set = true then (0, ⟨#[]⟩) else (1, ⟨#[]⟩)) else if kind = 4 then (if set = true then (0, ⟨#[]⟩) else (2, dst)) else if kind = 3 then (2, dst) else (1, ⟨#[]⟩)
theorem ask_eq (k : Nat) (kind flag : Int) (dst : ByteArray) (l : List Bool) : rule_Ask.f (k + 1) kind flag dst l = some (askP kind (setP flag l) dst) := by
  unfold rule_Ask.f
  have hj : ∀ b, rule_Ask.j0 (k + 1) b kind flag dst = some (askP kind b dst) := by
    intro b
    simp only [rule_Ask.j0, askP]
    repeat' split
    all_goals rfl
  by_cases h0 : 0 ≤ flag
  · by_cases h1 : flag < (l.length : Int)
    · rw [if_pos h0, if_pos h1, if_pos h0, hj]
      simp [setP, h0, h1]
    · rw [if_pos h0, if_neg h1, hj]
      simp [setP, h1]
  · rw [if_neg h0, hj]
    simp [setP, h0]

theorem runs (k : Nat) : porticolaw9_RuleRuns.f (k + 3) = some true := by
  have h : porticolaw9_RuleRuns.f 3 = some true := by decide +kernel
  have : ∀ n, porticolaw9_RuleRuns.f (3 + n) = some true := by
    intro n
    induction n with
    | zero => exact h
    | succ n ih => exact porticolaw9_RuleRuns.mono (3 + n) true ih
  rw [Nat.add_comm]
  exact this k
theorem mn_le (a b : Int) : mn a b ≤ a ∧ mn a b ≤ b ∧ (0 ≤ a → 0 ≤ b → 0 ≤ mn a b) := by unfold mn; split <;> omega

theorem flag_eq (l : List Bool) (flag : Int) : porticoref8_flag.f l flag = some (setP flag l) := by
  unfold porticoref8_flag.f setP
  by_cases h0 : 0 ≤ flag
  · by_cases h1 : flag < (l.length : Int)
    · rw [if_pos h0, if_pos h1, if_pos h0]; simp [h0, h1]
    · rw [if_pos h0, if_neg h1]; simp [h1]
  · rw [if_neg h0]; simp [h0]
theorem ref_eq (k : Nat) (kind flag : Int) (dst : ByteArray) (l : List Bool) : porticoref8_Ask.f (k + 1) kind flag dst l = some (askP kind (setP flag l) dst) := by
  unfold porticoref8_Ask.f
  simp only [flag_eq, Option.bind_some, porticoref8_Ask.j0, askP]
  by_cases h0 : kind = 0
  · simp [h0]
  · by_cases h2 : kind = 2
    · subst h2; cases setP flag l <;> simp
    · by_cases h4 : kind = 4
      · subst h4; cases setP flag l <;> simp
      · simp only [h0, h2, h4, if_false, Bool.false_eq_true]
        split <;> rfl
def rightP (kind flag : Int) (dst : ByteArray) : Bool := decide (0 ≤ kind) && decide (kind ≤ 4) && decide (0 ≤ flag) && decide (flag < 8) && (decide (dst.toList = []) || decide (kind = 3) || decide (kind = 4))
theorem right_eq (kind flag : Int) (dst : ByteArray) : rule_Right.f kind flag dst = some (rightP kind flag dst) := by
  unfold rule_Right.f rightP
  by_cases a : 0 ≤ kind <;> by_cases b : kind ≤ 4 <;> by_cases c : 0 ≤ flag <;> by_cases d : flag < 8 <;> by_cases e : kind = 3 <;> by_cases f : kind = 4 <;> by_cases g : dst.toList = [] <;> simp [a, b, c, d, e, f, g] <;> omega

/-- What all rules say, from place i on. -/
def allP (fs : List Bool) : List S23 → Int → Int × ByteArray × Int
  | [], _ => (0, ⟨#[]⟩, -1)
  | r :: rs, i => if (askP r.f0 (setP r.f1 fs) r.f2).1 = 0 then allP fs rs (i + 1) else ((askP r.f0 (setP r.f1 fs) r.f2).1, (askP r.f0 (setP r.f1 fs) r.f2).2, i)
theorem rd_drop (l : List S23) (i : Nat) (r : S23) (rs : List S23) (h : l.drop i = r :: rs) : rd_T23 l i = r ∧ i < l.length ∧ l.drop (i + 1) = rs := by
  have hi : i < l.length := by
    rcases Nat.lt_or_ge i l.length with h1 | h1
    · exact h1
    · rw [List.drop_eq_nil_of_le h1] at h; cases h
  rw [List.drop_eq_getElem_cons hi] at h
  injection h with h1 h2
  refine ⟨?_, hi, h2⟩
  unfold rd_T23
  simp [List.getD_eq_getElem?_getD, hi, h1]
theorem all_l0 (fs : List Bool) (l : List S23) (hl : l.length ≤ 8) : ∀ (rest : List S23) (i k : Nat), l.drop i = rest → i + rest.length = l.length → rest.length < k → rule_All.l0 (k + 1) fs l (l.length : Int) i = some (allP fs rest i)
  | [], i, k, h, hn, hk => by
    have : ¬ (i : Int) < (l.length : Int) := by simp at hn; omega
    obtain ⟨k, rfl⟩ : ∃ m, k = m + 1 := ⟨k - 1, by omega⟩
    simp only [rule_All.l0, allP]
    rw [if_neg this]
  | r :: rs, i, k, h, hn, hk => by
    obtain ⟨e, hi, h'⟩ := rd_drop l i r rs h
    obtain ⟨k, rfl⟩ : ∃ m, k = m + 1 := ⟨k - 1, by omega⟩
    rw [rule_All.l0, if_pos (by omega), if_pos (by omega), if_pos (by omega), e, ask_eq]
    simp only [Option.bind_some, allP]
    split
    · rw [w64 (by omega) (by omega)]
      have := all_l0 fs l hl rs (i + 1) k h' (by simp at hn; omega) (by simp at hk; omega)
      simpa using this
    · rfl

theorem j2_step (k : Nat) (own : List S23) (fs : List Bool) (x7 x9 x10 x14 : Int) (x8 x15 : ByteArray) (x32 : List S23) (x33 x34 : Int) (x64 : Bool) (kind flag : Int) (dst : ByteArray) :
    porticolaw9_RuleTells.j2 (k + 1) own fs x7 x8 x9 x10 x14 x15 x32 x33 x34 x64 kind flag dst = porticolaw9_RuleTells.l0 k own fs (if x64 = true then x14 else x7) (if x64 = true then x15 else x8) (if x64 = true then x10 else x9) x32 x33 (wrap64 (x34 + 1)) := by
  simp only [porticolaw9_RuleTells.j2, right_eq, Option.bind_some]
  by_cases hx : x64 = true <;> by_cases a : 0 ≤ kind <;> by_cases b : kind ≤ 4 <;> by_cases c : 0 ≤ flag <;> by_cases d : flag < 8 <;> by_cases e : kind = 3 <;> by_cases f : kind = 4 <;> by_cases g : dst.toList = [] <;> simp [rightP, hx, a, b, c, d, e, f, g]
/-- What is known so far: nothing, or the first rule's word. -/
theorem tells_l0 (fs : List Bool) (own : List S23) (hl : own.length ≤ 8) : ∀ (rest : List S23) (i k : Nat) (x7 x9 : Int) (x8 : ByteArray), own.drop i = rest → i + rest.length = own.length → rest.length * 3 + 20 < k →
    (x9 < 0 → x7 = 0 ∧ x8 = ⟨#[]⟩ ∧ x9 = -1) → (allP fs own 0 = if x9 < 0 then allP fs rest i else (x7, x8, x9)) → porticolaw9_RuleTells.l0 k own fs x7 x8 x9 own (own.length : Int) i = some true
  | [], i, k, x7, x9, x8, h, hn, hk, h9, hall => by
    have : ¬ (i : Int) < (own.length : Int) := by simp at hn; omega
    obtain ⟨k, rfl⟩ : ∃ m, k = m + 3 + 1 := ⟨k - 4, by omega⟩
    have hf : rule_All.f (k + 3) own fs = some (allP fs own 0) := by
      have := all_l0 fs own hl own 0 (k + 2) rfl (by simp) (by simp at hk; omega)
      exact this
    rw [porticolaw9_RuleTells.l0, if_neg this, hf]
    simp only [Option.bind_some]
    have e : allP fs own 0 = (x7, x8, x9) := by
      rw [hall]
      split
      · rename_i hneg
        obtain ⟨rfl, rfl, rfl⟩ := h9 hneg
        rfl
      · rfl
    rw [e]
    simp only [if_true]
    rw [runs]
    rfl
  | r :: rs, i, k, x7, x9, x8, h, hn, hk, h9, hall => by
    obtain ⟨e, hi, h'⟩ := rd_drop own i r rs h
    obtain ⟨k, rfl⟩ : ∃ m, k = m + 3 + 1 := ⟨k - 4, by omega⟩
    rw [porticolaw9_RuleTells.l0, if_pos (by omega), if_pos (by omega), if_pos (by omega), e, ask_eq, ref_eq]
    simp only [Option.bind_some, if_true]
    have hne : ((askP r.f0 (setP r.f1 fs) r.f2).2.toList != (askP r.f0 (setP r.f1 fs) r.f2).2.toList) = false := by simp
    rw [hne, porticolaw9_RuleTells.j1]
    simp only [Bool.false_eq_true, if_false]
    generalize hq : askP r.f0 (setP r.f1 fs) r.f2 = q
    have hw : wrap64 ((i : Int) + 1) = ((i + 1 : Nat) : Int) := by rw [w64 (by omega) (by omega)]; simp
    by_cases hneg : x9 < 0
    · rw [if_pos hneg, j2_step, hw]
      obtain ⟨rfl, rfl, rfl⟩ := h9 hneg
      rw [if_pos hneg] at hall
      by_cases h0 : q.1 = 0
      · have hb : (q.1 != 0) = false := by simp [h0]
        rw [hb]
        simp only [Bool.false_eq_true, if_false]
        refine tells_l0 fs own hl rs (i + 1) _ 0 (-1) _ h' (by simp at hn; omega) (by simp at hk; omega) (fun _ => ⟨rfl, rfl, rfl⟩) ?_
        rw [hall, allP, hq, if_pos h0, if_pos (by omega)]
        simp
      · have hb : (q.1 != 0) = true := by simp [h0]
        rw [hb]
        simp only [if_true]
        refine tells_l0 fs own hl rs (i + 1) _ q.1 i q.2 h' (by simp at hn; omega) (by simp at hk; omega) (fun h => by omega) ?_
        rw [hall, allP, hq, if_neg h0, if_neg (by omega)]
    · rw [if_neg hneg, j2_step, hw]
      rw [if_neg hneg] at hall
      simp only [Bool.false_eq_true, if_false]
      refine tells_l0 fs own hl rs (i + 1) _ x7 x9 x8 h' (by simp at hn; omega) (by simp at hk; omega) (fun h => by omega) ?_
      rw [hall, if_neg hneg]

theorem pure : StmRuleTells.Pure := by
  intro rs flags hr hf
  refine ⟨60, ?_⟩
  unfold porticolaw9_RuleTells.f
  have hm := mn_le (rs.length : Int) 8
  have hm2 := mn_le (flags.length : Int) 10
  simp only [Option.bind_some]
  have ht : (rs.take (mn (rs.length : Int) 8).toNat).length ≤ 8 := by rw [List.length_take]; omega
  rw [if_pos (by omega), if_pos (by omega), if_pos (by simp only [List.length_nil]; omega), if_pos (by omega), if_pos (by omega)]
  generalize hfs : ([] : List S23) ++ rs.take (mn (rs.length : Int) 8).toNat = own
  have hfl : own.length ≤ 8 := by rw [← hfs]; simpa using ht
  exact tells_l0 _ own hfl own 0 60 0 (-1) ⟨#[]⟩ rfl (by simp) (by omega) (fun _ => ⟨rfl, rfl, rfl⟩) (by rw [if_pos (by omega)]; rfl)

end Go.Proofs.Ytkcpnbllgpkejaa.PureRuleTells
