/- RuleFlags, the plain law: what a rule says hangs on its own flag alone; a flag that isn't there isn't set. -/
import Derived.Test.YtkcpnbllgpkejaaStmRuleFlags
namespace Go.Proofs.Ytkcpnbllgpkejaa.PureRuleFlags
open Go.RowKit Go.Proofs.Ytkcpnbllgpkejaa.PRuleFlags Go.Proofs.YtkcpnbllgpkejaaW.PrintWords

theorem wf64 {n : Int} (h : (Lit.int .i64 n).wf = true) : -9223372036854775808 ≤ n ∧ n ≤ 9223372036854775807 := by
  simp [Lit.wf, IntKind.min, IntKind.max, IntKind.signed, IntKind.bits] at h
  omega
theorem w64 {n : Int} (h : -9223372036854775808 ≤ n) (h' : n ≤ 9223372036854775807) : wrap64 n = n := by
  unfold wrap64
  omega
theorem within_eq (n lo hi : Int) (h : lo ≤ hi) (h0 : -4611686018427387904 ≤ lo) (h1 : hi ≤ 4611686018427387903) (h2 : hi - lo ≤ 4611686018427387903) :
    porticobook_Within.f n lo hi = some (lo + n % (hi - lo + 1)) := by
  unfold porticobook_Within.f
  rw [w64 (n := hi - lo) (by omega) (by omega), w64 (n := hi - lo + 1) (by omega) (by omega)]
  have hm : 0 < hi - lo + 1 := by omega
  have e := Int.tmod_eq_emod (a := n) (b := hi - lo + 1)
  have p0 := Int.emod_nonneg n (show hi - lo + 1 ≠ 0 by omega)
  have p1 := Int.emod_lt_of_pos n hm
  rw [if_neg (by omega)]
  generalize hr : n % (hi - lo + 1) = r at *
  have hna : ((hi - lo + 1).natAbs : Int) = hi - lo + 1 := by omega
  by_cases hc : 0 ≤ n ∨ hi - lo + 1 ∣ n
  · rw [if_pos hc] at e
    rw [e, if_neg (by omega), w64 (by omega) (by omega)]
    congr 1
    omega
  · rw [if_neg hc, hna] at e
    rw [e, if_pos (by omega), w64 (n := r - (hi - lo + 1) + hi) (by omega) (by omega), w64 (n := _ - lo) (by omega) (by omega), w64 (n := _ + 1) (by omega) (by omega), w64 (by omega) (by omega)]
    congr 1
    omega
theorem within_ok (n lo hi : Int) (h : lo ≤ hi) (h0 : -4611686018427387904 ≤ lo) (h1 : hi ≤ 4611686018427387903) (h2 : hi - lo ≤ 4611686018427387903) :
    ∃ r, porticobook_Within.f n lo hi = some r ∧ lo ≤ r ∧ r ≤ hi := by
  have p0 := Int.emod_nonneg n (show hi - lo + 1 ≠ 0 by omega)
  have p1 := Int.emod_lt_of_pos n (show 0 < hi - lo + 1 by omega)
  exact ⟨_, within_eq n lo hi h h0 h1 h2, by omega, by omega⟩

def setP (flag : Int) (l : List Bool) : Bool := decide (0 ≤ flag) && (decide (flag < (l.length : Int)) && rdOf false l flag)
def askP (kind : Int) (set : Bool) (dst : ByteArray) : Int × ByteArray :=
  if kind = 0 then (0, ⟨#[]⟩) else if kind = 2 then (if set = true then (0, ⟨#[]⟩) else (1, ⟨#[]⟩)) else if kind = 4 then (if set = true then (0, ⟨#[]⟩) else (2, dst)) else if kind = 3 then (2, dst) else (1, ⟨#[]⟩)
theorem ask_eq (k : Nat) (kind flag : Int) (dst : ByteArray) (l : List Bool) : rule_Ask.f (k + 1) kind flag dst l = some (askP kind (setP flag l) dst) := by
  unfold rule_Ask.f
  have hj : ∀ b, rule_Ask.j0 (k + 1) b kind flag dst = some (askP kind b dst) := by
    intro b
    simp only [rule_Ask.j0, askP]
    repeat' split
    all_goals rfl
  by_cases h0 : 0 ≤ flag
  · by_cases h1 : flag < (l.length : Int)
    · rw [if_pos h0, if_pos h1, if_pos h0, hj]
      simp [setP, h0, h1]
    · rw [if_pos h0, if_neg h1, hj]
      simp [setP, h1]
  · rw [if_neg h0, hj]
    simp [setP, h0]

theorem runs (k : Nat) : porticolaw9_RuleRuns.f (k + 3) = some true := by
  have h : porticolaw9_RuleRuns.f 3 = some true := by decide +kernel
  have : ∀ n, porticolaw9_RuleRuns.f (3 + n) = some true := by
    intro n
    induction n with
    | zero => exact h
    | succ n ih => exact porticolaw9_RuleRuns.mono (3 + n) true ih
  rw [Nat.add_comm]
  exact this k
theorem mn_le (a b : Int) : mn a b ≤ a ∧ mn a b ≤ b ∧ (0 ≤ a → 0 ≤ b → 0 ≤ mn a b) := by unfold mn; split <;> omega

theorem set_none (flag : Int) (l : List Bool) (h : ∀ b ∈ l, b = false) : setP flag l = false := by
  unfold setP rdOf
  by_cases h0 : 0 ≤ flag
  · by_cases h1 : flag < (l.length : Int)
    · have hm : l.getD flag.toNat false = false := by
        rw [List.getD_eq_getElem?_getD, List.getElem?_eq_getElem (by omega)]
        exact h _ (List.getElem_mem _)
      rw [hm]; simp
    · simp [h1]
  · simp [h0]
theorem set_take (flag : Int) (l : List Bool) (h0 : 0 ≤ flag) : setP flag (l.take flag.toNat) = false := by
  unfold setP
  have : ¬ flag < ((l.take flag.toNat).length : Int) := by rw [List.length_take]; omega
  rw [decide_eq_false this]; simp
theorem set_set (flag t : Int) (l : List Bool) (b : Bool) (ht : 0 ≤ t) (hne : t ≠ flag) : setP flag (l.set t.toNat b) = setP flag l := by
  unfold setP rdOf
  by_cases h0 : 0 ≤ flag
  · rw [List.length_set]
    have : (l.set t.toNat b).getD flag.toNat false = l.getD flag.toNat false := by
      rw [List.getD_eq_getElem?_getD, List.getD_eq_getElem?_getD, List.getElem?_set_ne (by omega)]
    rw [this]
  · simp [h0]
theorem ask_to (kind : Int) (b : Bool) (dst : ByteArray) (h : (askP kind b dst).1 ≠ 2) : (askP kind b dst).2.toList = [] := by
  have e : ByteArray.toList ⟨#[]⟩ = ([] : List UInt8) := by decide +kernel
  unfold askP at *
  repeat' split
  all_goals first | exact e | (exfalso; revert h; simp_all)

theorem j1_true (k : Nat) (x7 x14 : List Bool) (x72 : Bool) (kind flag : Int) (dst : ByteArray) (hx : x72 = true → 0 ≤ flag ∧ flag < (x7.length : Int)) (hn : x72 = false → setP flag x14 = false) :
    porticolaw9_RuleFlags.j1 (k + 4) x7 (askP kind (setP flag x7) dst).1 (askP kind (setP flag x7) dst).2 (askP kind (setP flag x7) dst).1 (askP kind (setP flag x7) dst).2 x14 x72 kind flag dst = some true := by
  have hr : setP flag (List.replicate 9 false) = false := set_none _ _ (fun b hb => (List.mem_replicate.1 hb).2)
  have ht := ask_to kind (setP flag x7) dst
  simp only [porticolaw9_RuleFlags.j1]
  cases x72 with
  | true =>
    obtain ⟨h0, h1⟩ := hx rfl
    rw [if_pos rfl, if_pos h0, if_pos (by omega), if_pos (by omega), ask_eq, ask_eq, hr, set_take flag x7 h0]
    simp only [Option.bind_some, if_true]
    rw [runs]
    simp only [Option.bind_some]
    split
    · rfl
    · rename_i h2
      rw [if_pos (ht h2)]
  | false =>
    rw [if_neg (by simp), if_pos (by omega), ask_eq, ask_eq, hr, hn rfl]
    simp only [Option.bind_some, if_true]
    rw [runs]
    simp only [Option.bind_some]
    split
    · rfl
    · rename_i h2
      rw [if_pos (ht h2)]
theorem j0_true (k : Nat) (fs turned : List Bool) (kind flag : Int) (dst : ByteArray) (h : setP flag turned = setP flag fs) :
    porticolaw9_RuleFlags.j0 (k + 5) fs (askP kind (setP flag fs) dst).1 (askP kind (setP flag fs) dst).2 turned kind flag dst = some true := by
  simp only [porticolaw9_RuleFlags.j0]
  rw [ask_eq, h]
  simp only [Option.bind_some]
  by_cases h0 : 0 ≤ flag
  · rw [if_pos h0]
    refine j1_true k fs fs _ kind flag dst (fun hd => ⟨h0, of_decide_eq_true hd⟩) (fun hd => ?_)
    have hd' := of_decide_eq_false hd
    simp [setP, hd']
  · rw [if_neg h0]
    refine j1_true k fs fs _ kind flag dst (fun hd => by cases hd) (fun _ => ?_)
    simp [setP, h0]

theorem pure : StmRuleFlags.Pure := by
  intro kind flag dst l n _ _ _ hl _
  refine ⟨5, ?_⟩
  unfold porticolaw9_RuleFlags.f
  have hm := mn_le (l.length : Int) 9
  simp only [Option.bind_some]
  have ht : (l.take (mn (l.length : Int) 9).toNat).length ≤ 9 := by rw [List.length_take]; omega
  rw [if_pos (by omega), if_pos (by omega), if_pos (by simp only [List.length_nil]; omega)]
  generalize hfs : ([] : List Bool) ++ l.take (mn (l.length : Int) 9).toNat = fs
  have hfl : fs.length ≤ 9 := by rw [← hfs]; simpa using ht
  rw [ask_eq]
  simp only [Option.bind_some, List.nil_append]
  rw [if_pos (by simp only [List.length_nil]; omega)]
  by_cases h0 : (fs.length : Int) > 0
  · rw [if_pos h0, w64 (by omega) (by omega)]
    obtain ⟨t, ht, ht0, ht1⟩ := within_ok n 0 ((fs.length : Int) - 1) (by omega) (by omega) (by omega) (by omega)
    rw [ht]
    simp only [Option.bind_some]
    by_cases hne : t = flag
    · rw [if_pos hne]
      exact j0_true 0 fs fs kind flag dst rfl
    · rw [if_neg hne, if_pos ht0, if_pos (by omega)]
      exact j0_true 0 fs _ kind flag dst (set_set flag t fs _ ht0 hne)
  · rw [if_neg h0]
    exact j0_true 0 fs fs kind flag dst rfl

end Go.Proofs.Ytkcpnbllgpkejaa.PureRuleFlags
