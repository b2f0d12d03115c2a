/- URLTells, the plain law: any URL, any text: the program's answers are the document's. -/
import Derived.Test.YtcaaggfobdfgpaaDoorStmURLTells
import Derived.Test.YtcaaggfobdfgpaaDoorRefURLTells
import Derived.Test.YtcaaggfobdfgpaaDoorFewURLTells
set_option linter.unusedVariables false
set_option linter.unusedSimpArgs false
namespace Go.Proofs.YtcaaggfobdfgpaaDoor.PureURLTells
open Go.RowKit Go.Proofs.YtcaaggfobdfgpaaDoor.PURLTells Go.Proofs.YtcaaggfobdfgpaaDoorW.PrintWords Go.Proofs.YtcaaggfobdfgpaaDoorW.PrintLast Go.Proofs.YtcaaggfobdfgpaaDoorW.PrintMore Go.Proofs.YtcaaggfobdfgpaaDoor.Pct Go.Proofs.YtcaaggfobdfgpaaDoor.UP Go.Proofs.YtcaaggfobdfgpaaDoor.Given Go.Proofs.YtcaaggfobdfgpaaDoor.UURLTells

/-- The first value of a name. -/
def getV (name : ByteArray) : List Pr → ByteArray × Bool
  | [] => (⟨#[]⟩, false)
  | x :: r => if x.f0 = name then (x.f1, true) else getV name r
theorem get_l0 (name : ByteArray) (q : List Pr) (hq : q.length ≤ 1000) : ∀ (n i k : Nat), q.length - i ≤ n → i ≤ q.length → n < k → url_Get.l0 k name q (q.length : Int) (i : Int) = some (getV name (q.drop i)) := by
  intro n
  induction n with
  | zero =>
    intro i k h1 h2 h3
    obtain ⟨k, rfl⟩ : ∃ m, k = m + 1 := ⟨k - 1, by omega⟩
    rw [url_Get.l0, if_neg (by omega), List.drop_of_length_le (by omega)]
    rfl
  | succ n ih =>
    intro i k h1 h2 h3
    by_cases hi : i < q.length
    · obtain ⟨k, rfl⟩ : ∃ m, k = m + 1 := ⟨k - 1, by omega⟩
      have hw := Lib.hid (wrapS i (by omega))
      have hI := ih (i + 1) k (by omega) (by omega) (by omega)
      rw [url_Get.l0, if_pos (by omega), if_pos (by omega), if_pos (by omega), rdP_at q i hi, List.drop_eq_getElem_cons hi]
      unfold getV
      by_cases he : q[i].f0 = name
      · rw [if_pos (by rw [he]), if_pos he]
      · rw [if_neg (fun e => he (toList_inj e)), if_neg he, hw.out, hI]
    · exact ih i k (by omega) h2 (by omega)
theorem get_eq (p : List ByteArray) (q : List Pr) (name : ByteArray) (hq : q.length ≤ 1000) (k : Nat) (hk : 1001 ≤ k) : url_Get.f k p q name = some (getV name q) := by
  have := get_l0 name q hq q.length 0 k (by omega) (by omega) (by omega)
  unfold url_Get.f
  rw [List.drop_zero] at this
  exact this
theorem seq_l0 (l m : List ByteArray) (hl : l.length = m.length) (hz : l.length ≤ 1000000) : ∀ (n i k : Nat), l.length - i ≤ n → i ≤ l.length → n < k → slices_Equal_string_string.l0 k l m (l.length : Int) (i : Int) = some (decide (l.drop i = m.drop i)) := by
  intro n
  induction n with
  | zero =>
    intro i k h1 h2 h3
    obtain ⟨k, rfl⟩ : ∃ m, k = m + 1 := ⟨k - 1, by omega⟩
    rw [slices_Equal_string_string.l0, if_neg (by omega), List.drop_of_length_le (by omega), List.drop_of_length_le (by omega)]
    rfl
  | succ n ih =>
    intro i k h1 h2 h3
    obtain ⟨k, rfl⟩ : ∃ m, k = m + 1 := ⟨k - 1, by omega⟩
    rw [slices_Equal_string_string.l0]
    by_cases hi : i < l.length
    · have hj : i < m.length := by omega
      rw [if_pos (by omega), if_pos (by omega), if_pos (by omega), if_pos (by omega), rdOf_at _ l i hi, rdOf_at _ m i hj, List.drop_eq_getElem_cons hi, List.drop_eq_getElem_cons hj]
      by_cases he : l[i] = m[i]
      · rw [if_pos (by rw [he]), wrapS i (by omega), ih (i + 1) k (by omega) (by omega) (by omega), he]
        congr 1
        exact decide_eq_decide.2 ⟨fun e => by rw [e], fun e => (List.cons.inj e).2⟩
      · rw [if_neg (fun e => he (toList_inj e))]
        congr 1
        exact (decide_eq_false (fun e => he (List.cons.inj e).1)).symm
    · rw [if_neg (by omega), List.drop_of_length_le (by omega), List.drop_of_length_le (by omega)]
      rfl
theorem seq_eq (l m : List ByteArray) (hz : l.length ≤ 1000000) (k : Nat) (hk : l.length < k) : slices_Equal_string_string.f k l m = some (decide (l = m)) := by
  unfold slices_Equal_string_string.f
  by_cases h : l.length = m.length
  · rw [if_pos (by omega), show (0 : Int) = ((0 : Nat) : Int) from rfl, seq_l0 l m h hz l.length 0 k (by omega) (by omega) hk]
    rfl
  · rw [if_neg (by omega)]
    congr 1
    exact (decide_eq_false (fun e => h (by rw [e]))).symm
theorem peq_l0 (l m : List Pr) (hl : l.length = m.length) (hz : l.length ≤ 1000000) : ∀ (n i k : Nat), l.length - i ≤ n → i ≤ l.length → n < k → api_Pair_37.l0 k l m (l.length : Int) (i : Int) = some (decide (l.drop i = m.drop i)) := by
  intro n
  induction n with
  | zero =>
    intro i k h1 h2 h3
    obtain ⟨k, rfl⟩ : ∃ m, k = m + 1 := ⟨k - 1, by omega⟩
    rw [api_Pair_37.l0, if_neg (by omega), List.drop_of_length_le (by omega), List.drop_of_length_le (by omega), decide_eq_true rfl]
  | succ n ih =>
    intro i k h1 h2 h3
    obtain ⟨k, rfl⟩ : ∃ m, k = m + 1 := ⟨k - 1, by omega⟩
    rw [api_Pair_37.l0]
    by_cases hi : i < l.length
    · have hj : i < m.length := by omega
      rw [if_pos (by omega), if_pos (by omega), if_pos (by omega), if_pos (by omega), rdP_at l i hi, rdP_at m i hj, List.drop_eq_getElem_cons hi, List.drop_eq_getElem_cons hj]
      by_cases he : l[i] = m[i]
      · rw [if_neg (by rw [he]; simp), wrapS i (by omega), ih (i + 1) k (by omega) (by omega) (by omega), he]
        congr 1
        exact decide_eq_decide.2 ⟨fun e => by rw [e], fun e => (List.cons.inj e).2⟩
      · rw [if_pos]
        · congr 1
          exact (decide_eq_false (fun e => he (List.cons.inj e).1)).symm
        · by_cases e0 : l[i].f0 = m[i].f0
          · have e1 : ¬ l[i].f1.toList = m[i].f1.toList := fun e => he (pr_eq e0 (toList_inj e))
            simp [e1]
          · have e1 : ¬ l[i].f0.toList = m[i].f0.toList := fun e => e0 (toList_inj e)
            simp [e1]
    · rw [if_neg (by omega), List.drop_of_length_le (by omega), List.drop_of_length_le (by omega), decide_eq_true rfl]
theorem peq_eq (l m : List Pr) (hz : l.length ≤ 1000000) (k : Nat) (hk : l.length < k) : api_Pair_37.f k l m = some (decide (l = m)) := by
  unfold api_Pair_37.f
  by_cases h : l.length = m.length
  · rw [if_pos (by omega), show (0 : Int) = ((0 : Nat) : Int) from rfl, peq_l0 l m h hz l.length 0 k (by omega) (by omega) hk]
    rfl
  · rw [if_neg (by omega)]
    congr 1
    exact (decide_eq_false (fun e => h (by rw [e]))).symm
theorem usame_eq (p : List ByteArray) (q : List Pr) (p' : List ByteArray) (q' : List Pr) (hp : p.length ≤ 1000) (hq : q.length ≤ 1000) (k : Nat) (hk : 2000 ≤ k) : url_Same.f k p q p' q' = some (decide (p = p' ∧ q = q')) := by
  unfold url_Same.f
  rw [seq_eq p p' (by omega) k (by omega)]
  simp only [Option.bind_some]
  by_cases h : p = p'
  · rw [if_pos (decide_eq_true h), peq_eq q q' (by omega) k (by omega)]
    simp only [Option.bind_some]
    congr 1
    exact decide_eq_decide.2 (by simp [h])
  · rw [if_neg (by simpa using h)]
    congr 1
    exact (decide_eq_false (fun e => h e.1)).symm
theorem wrapD (i : Nat) (h : i ≤ 1000000) : wrap64 (((i + 1 : Nat) : Int) - 1 - 1) = (i : Int) - 1 := by unfold wrap64; omega
/-- The law's own look-up, from behind. -/
theorem back_l0 (name : ByteArray) (e f : Int) (u : List ByteArray) (q : List Pr) (u' : List ByteArray) (q' : List Pr) (x : List ByteArray) (xq : List Pr) (y : List ByteArray) (yq : List Pr) (hq : q.length ≤ 1000) (K0 : Nat)
    (hF : ∀ k, K0 ≤ k → porticolaw4_URLTells.l0 k name e f (getV name q).1 (getV name q).2 (-1) u q u' q' x xq y yq = some true) : ∀ (n k : Nat), n ≤ q.length → K0 + n ≤ k →
    porticolaw4_URLTells.l0 k name e f (getV name (q.drop n)).1 (getV name (q.drop n)).2 ((n : Int) - 1) u q u' q' x xq y yq = some true := by
  intro n
  induction n with
  | zero =>
    intro k h1 h2
    rw [List.drop_zero]
    exact hF k (by omega)
  | succ n ih =>
    intro k h1 h2
    obtain ⟨k, rfl⟩ : ∃ m, k = m + 1 := ⟨k - 1, by omega⟩
    have hi : n < q.length := by omega
    have hI := ih k (by omega) (by omega)
    have hw := Lib.hid (wrapD n (by omega))
    rw [List.drop_eq_getElem_cons hi] at hI
    unfold getV at hI
    have p1 : ((n + 1 : Nat) : Int) - 1 ≥ 0 := by omega
    have p2 : 0 ≤ ((n + 1 : Nat) : Int) - 1 := by omega
    have p3 : ((n + 1 : Nat) : Int) - 1 < (q.length : Int) := by omega
    have hr : rd_T32 q (((n + 1 : Nat) : Int) - 1) = q[n] := by
      rw [show ((n + 1 : Nat) : Int) - 1 = (n : Int) by omega]
      exact rdP_at q n hi
    rw [porticolaw4_URLTells.l0, if_pos p1, if_pos p2, if_pos p3, hr, hw.out]
    by_cases he : q[n].f0 = name
    · rw [if_pos he] at hI
      rw [if_pos (by rw [he])]
      exact hI
    · rw [if_neg he] at hI
      rw [if_neg (fun e => he (toList_inj e))]
      exact hI
theorem pure : StmURLTells.Pure := by
  unfold StmURLTells.Pure
  intro p q p' q' s name _ _ _ _ _ _
  refine ⟨400000, ?_⟩
  obtain ⟨K, hK⟩ : ∃ K, K = 400000 := ⟨_, rfl⟩
  rw [← hK]
  unfold porticolaw4_URLTells.f
  rw [few_eq, few_eq]
  simp only [Option.bind_some]
  have hl1 : (p.take 9).length ≤ 9 := by rw [List.length_take]; omega
  have hl2 : (q.take 9).length ≤ 9 := by rw [List.length_take]; omega
  obtain ⟨u, hu⟩ : ∃ u, p.take 9 = u := ⟨_, rfl⟩
  obtain ⟨v, hv⟩ : ∃ v, q.take 9 = v := ⟨_, rfl⟩
  obtain ⟨u', hu'⟩ : ∃ u, p'.take 9 = u := ⟨_, rfl⟩
  obtain ⟨v', hv'⟩ : ∃ v, q'.take 9 = v := ⟨_, rfl⟩
  rw [hu, hv, hu', hv']
  rw [hu] at hl1
  rw [hv] at hl2
  have hm : 0 ≤ mn (s.size : Int) 120 ∧ mn (s.size : Int) 120 ≤ s.size ∧ (mn (s.size : Int) 120).toNat ≤ 120 := by unfold mn; split <;> omega
  rw [if_pos hm.1, if_pos hm.2.1]
  obtain ⟨t, ht⟩ : ∃ t, s.extract 0 (mn (s.size : Int) 120).toNat = t := ⟨_, rfl⟩
  have hts : t.size ≤ 120 := by rw [← ht, ByteArray.size_extract]; omega
  rw [ht, Parse_eq t (by omega) K (by omega), rParse t hts K (by omega)]
  simp only [Option.bind_some]
  have hout : (outU (parseU t.data.toList)).1.length ≤ 8 ∧ (outU (parseU t.data.toList)).2.1.length ≤ 8 := by
    cases h : parseU t.data.toList with
    | none => exact ⟨Nat.zero_le _, Nat.zero_le _⟩
    | some o => exact right_len (parse_right (l := t.data.toList) (p := o.1) (q := o.2) h)
  obtain ⟨o, ho⟩ : ∃ o, outU (parseU t.data.toList) = o := ⟨_, rfl⟩
  rw [ho] at hout ⊢
  have hw : wrap64 ((v.length : Int) - 1) = (v.length : Int) - 1 := by unfold wrap64; omega
  rw [hw]
  have hE := back_l0 name o.2.2 o.2.2 u v u' v' o.1 o.2.1 o.1 o.2.1 (by omega) 300000 (by
    intro k hk
    obtain ⟨k, rfl⟩ : ∃ m, k = m + 1 := ⟨k - 1, by omega⟩
    rw [porticolaw4_URLTells.l0, if_neg (by omega), get_eq u v name (by omega) k (by omega)]
    simp only [Option.bind_some]
    rw [right_eq u v k (by omega)]
    simp only [Option.bind_some]
    rw [rRight u v k (by omega)]
    simp only [Option.bind_some]
    rw [if_pos (by simp)]
    unfold url_Print.f
    simp only [Option.bind_some]
    rw [rPrint u v k (by omega)]
    simp only [Option.bind_some]
    rw [if_pos trivial, equal_eq _ _ _ _ (by omega) (by omega) k (by omega)]
    simp only [Option.bind_some]
    rw [if_pos (by simp), if_pos trivial, if_pos trivial, if_pos (by simp), usame_eq u v u' v' (by omega) (by omega) k (by omega)]
    simp only [Option.bind_some]
    rw [equal_eq u v u' v' (by omega) (by omega) k (by omega)]
    simp only [Option.bind_some]
    rw [if_pos (by simp), usame_eq u v u v (by omega) (by omega) k (by omega)]
    simp only [Option.bind_some]
    rw [if_pos (by simp), runs_eq k (by omega)]
    rfl) v.length K (Nat.le_refl _) (by omega)
  rw [List.drop_length] at hE
  exact hE
end Go.Proofs.YtcaaggfobdfgpaaDoor.PureURLTells
