/- URLBack, the plain law: a right URL comes back out of its text; two have one text just if they are the same. -/
import Derived.Test.YtcaaggfobdfgpaaDoorStmURLBack
import Derived.Test.YtcaaggfobdfgpaaDoorFewURLBack
set_option linter.unusedVariables false
set_option linter.unusedSimpArgs false
namespace Go.Proofs.YtcaaggfobdfgpaaDoor.PureURLBack
open Go.RowKit Go.Proofs.YtcaaggfobdfgpaaDoor.PURLBack Go.Proofs.YtcaaggfobdfgpaaDoorW.PrintWords Go.Proofs.YtcaaggfobdfgpaaDoorW.PrintLast Go.Proofs.YtcaaggfobdfgpaaDoorW.PrintMore Go.Proofs.YtcaaggfobdfgpaaDoor.Pct Go.Proofs.YtcaaggfobdfgpaaDoor.UP Go.Proofs.YtcaaggfobdfgpaaDoor.Given Go.Proofs.YtcaaggfobdfgpaaDoor.UURLBack

theorem text_toList_ne {p : List ByteArray} {q : List Pr} (h : rightB p q = true) : (textOf p q).toList ≠ [] := by
  rw [textOf_right h, Lib.toList_data, ba_data]
  exact print_ne p q
theorem rest (k : Nat) (hk : 300000 ≤ k) (s : ByteArray) (hs : s.size ≤ 120) : porticolaw4_URLBack.j1 k s = some true := by
  obtain ⟨k, rfl⟩ : ∃ m, k = m + 1 := ⟨k - 1, by omega⟩
  simp only [porticolaw4_URLBack.j1]
  rcases Parse_any s (by omega) k (by omega) with h | ⟨p, q, h, hr⟩
  · rw [h]
    simp only [Option.bind_some]
    rw [if_neg (by decide), if_pos trivial, equal_eq [] [] [] [] (by simp) (by simp) k (by omega)]
    simp only [Option.bind_some]
    rw [if_pos (by simp), runs_eq k (by omega)]
    rfl
  · obtain ⟨hp, hq⟩ := right_len hr
    rw [h]
    simp only [Option.bind_some]
    rw [if_pos trivial]
    unfold url_Print.f
    simp only [Option.bind_some]
    rw [Parse_text p q hr k (by omega)]
    simp only [Option.bind_some]
    rw [right_eq p q k (by omega)]
    simp only [Option.bind_some]
    rw [if_pos hr, if_pos trivial, equal_eq p q p q (by omega) (by omega) k (by omega)]
    simp only [Option.bind_some]
    have hne : (textOf p q).size > 0 := by
      have h1 := text_toList_ne hr
      rw [Lib.toList_data] at h1
      have h2 : (textOf p q).data.toList.length = (textOf p q).size := by simp
      rcases Nat.eq_zero_or_pos (textOf p q).size with h3 | h3
      · exact absurd (List.eq_nil_of_length_eq_zero (h2.trans h3)) h1
      · exact h3
    rw [if_pos (by simp), if_pos trivial, if_pos (by omega), runs_eq k (by omega)]
    rfl
theorem pure : StmURLBack.Pure := by
  unfold StmURLBack.Pure
  intro p q p' q' s _ _ _ _ _
  refine ⟨400000, ?_⟩
  obtain ⟨K, hK⟩ : ∃ K, K = 400000 := ⟨_, rfl⟩
  rw [← hK]
  unfold porticolaw4_URLBack.f
  rw [few_eq, few_eq]
  simp only [Option.bind_some]
  obtain ⟨u, hu⟩ : ∃ u, p.take 9 = u := ⟨_, rfl⟩
  obtain ⟨v, hv⟩ : ∃ v, q.take 9 = v := ⟨_, rfl⟩
  obtain ⟨u', hu'⟩ : ∃ u, p'.take 9 = u := ⟨_, rfl⟩
  obtain ⟨v', hv'⟩ : ∃ v, q'.take 9 = v := ⟨_, rfl⟩
  rw [hu, hv, hu', hv']
  have hm : 0 ≤ mn (s.size : Int) 120 ∧ mn (s.size : Int) 120 ≤ s.size ∧ (mn (s.size : Int) 120).toNat ≤ 120 := by unfold mn; split <;> omega
  rw [if_pos hm.1, if_pos hm.2.1]
  obtain ⟨t, ht⟩ : ∃ t, s.extract 0 (mn (s.size : Int) 120).toNat = t := ⟨_, rfl⟩
  have hts : t.size ≤ 120 := by rw [← ht, ByteArray.size_extract]; omega
  rw [ht]
  have hrest := rest K (by omega) t hts
  obtain ⟨K1, hK1⟩ : ∃ m, K = m + 1 := ⟨K - 1, by omega⟩
  have hrest1 := rest K1 (by omega) t hts
  unfold url_Print.f
  simp only [Option.bind_some]
  rw [right_eq u v K (by omega)]
  simp only [Option.bind_some]
  by_cases hr : rightB u v = true
  · obtain ⟨hp, hq⟩ := right_len hr
    rw [if_pos hr, Parse_text u v hr K (by omega)]
    simp only [Option.bind_some]
    rw [if_pos trivial, equal_eq u v u v (by omega) (by omega) K (by omega)]
    simp only [Option.bind_some]
    have hne : ((textOf u v).toList == ([] : List UInt8)) = false := by simpa using text_toList_ne hr
    rw [if_pos (by simp), hne, hK1]
    simp only [porticolaw4_URLBack.j0]
    rw [if_neg (by decide), right_eq u' v' K1 (by omega)]
    simp only [Option.bind_some]
    by_cases hr' : rightB u' v' = true
    · rw [if_pos hr', equal_eq u v u' v' (by omega) (by omega) K1 (by omega)]
      simp only [Option.bind_some]
      have he : ((textOf u v).toList == (textOf u' v').toList) = decide (u = u' ∧ v = v') := by
        by_cases h : u = u' ∧ v = v'
        · rw [decide_eq_true h, h.1, h.2]
          simp
        · rw [decide_eq_false h]
          simp only [beq_eq_false_iff_ne, ne_eq]
          intro e
          exact h (text_inj hr hr' (toList_inj e))
      rw [he, if_neg (by simp)]
      exact hrest1
    · rw [if_neg hr']
      exact hrest1
  · rw [if_neg hr, textOf_wrong hr, if_pos (by decide +kernel)]
    exact hrest
end Go.Proofs.YtcaaggfobdfgpaaDoor.PureURLBack
