/- URLTurned, the plain law: whatever text: no URL, or one whose text parses to it. -/
import Derived.Test.YtcaaggfobdfgpaaDoorStmURLTurned
import Derived.Test.YtcaaggfobdfgpaaDoorKeepURLTurned
set_option linter.unusedVariables false
set_option linter.unusedSimpArgs false
namespace Go.Proofs.YtcaaggfobdfgpaaDoor.PureURLTurned
open Go.RowKit Go.Proofs.YtcaaggfobdfgpaaDoor.PURLTurned Go.Proofs.YtcaaggfobdfgpaaDoorW.PrintWords Go.Proofs.YtcaaggfobdfgpaaDoorW.PrintLast Go.Proofs.YtcaaggfobdfgpaaDoorW.PrintMore Go.Proofs.YtcaaggfobdfgpaaDoor.Pct Go.Proofs.YtcaaggfobdfgpaaDoor.UP Go.Proofs.YtcaaggfobdfgpaaDoor.Given Go.Proofs.YtcaaggfobdfgpaaDoor.UURLTurned

theorem text_pos {p : List ByteArray} {q : List Pr} (h : rightB p q = true) : 1 ≤ (textOf p q).size := by
  rw [textOf_right h]
  have h1 := print_ne p q
  have h2 : (ba (printL p q)).size = (printL p q).length := rfl
  rw [h2]
  exact List.length_pos_iff.2 h1
theorem rest (k : Nat) (hk : 300000 ≤ k) (s : ByteArray) (hs : s.size ≤ 100000) : porticolaw4_URLTurned.j0 k s = some true := by
  obtain ⟨k, rfl⟩ : ∃ m, k = m + 1 := ⟨k - 1, by omega⟩
  simp only [porticolaw4_URLTurned.j0]
  rcases Parse_any s (by omega) k (by omega) with h | ⟨p, q, h, hr⟩
  · rw [h]
    simp only [Option.bind_some]
    rw [if_neg (by decide), if_pos trivial, equal_eq [] [] [] [] (by simp) (by simp) k (by omega)]
    simp only [Option.bind_some]
    rw [if_pos (by simp), runs_eq k (by omega)]
    rfl
  · obtain ⟨hp, hq⟩ := right_len hr
    rw [h]
    simp only [Option.bind_some]
    rw [if_pos trivial]
    unfold url_Print.f
    simp only [Option.bind_some]
    rw [Parse_text p q hr k (by omega)]
    simp only [Option.bind_some]
    rw [if_pos trivial, equal_eq p q p q (by omega) (by omega) k (by omega)]
    simp only [Option.bind_some]
    rw [if_pos (by simp), runs_eq k (by omega)]
    rfl
theorem one_size (x : Int) : (strOfNums [x]).size = 1 := rfl
theorem pure : StmURLTurned.Pure := by
  unfold StmURLTurned.Pure
  intro a b c i x how ha hb hc hi hx hh
  refine ⟨400000, ?_⟩
  obtain ⟨K, hK⟩ : ∃ K, K = 400000 := ⟨_, rfl⟩
  rw [← hK]
  unfold porticolaw4_URLTurned.f
  obtain ⟨p, q, e, hm, _⟩ := url_made a b c (by omega) (by omega) K (by omega)
  rw [e]
  simp only [Option.bind_some]
  unfold url_Print.f
  simp only [Option.bind_some]
  have h1 := text_pos hm.right
  have h2 := text_size p q
  obtain ⟨t, ht⟩ : ∃ t, textOf p q = t := ⟨_, rfl⟩
  rw [ht] at h1 h2 ⊢
  obtain ⟨m, hm⟩ : ∃ m, t.size = m := ⟨_, rfl⟩
  rw [hm] at h1 h2
  have hw : wrap64 ((t.size : Int) - 1) = (m : Int) - 1 := by rw [hm]; exact w64 (by omega) (by omega)
  obtain ⟨r, e1, r0, r1⟩ := within_ok i 0 ((m : Int) - 1) (by omega) (by omega) (by omega) (by omega)
  obtain ⟨v, e2, v0, v1⟩ := within_ok how 0 3 (by omega) (by omega) (by omega) (by omega)
  rw [if_neg (by omega), hw, e1]
  simp only [Option.bind_some]
  rw [e2]
  simp only [Option.bind_some]
  have hr1 : wrap64 (r + 1) = r + 1 := w64 (by omega) (by omega)
  have z1 : (t.extract 0 r.toNat).size ≤ 4700 := by rw [ByteArray.size_extract]; omega
  have z2 : (t.extract (r + 1).toNat t.size).size ≤ 4700 := by rw [ByteArray.size_extract]; omega
  have z3 : (t.extract r.toNat t.size).size ≤ 4700 := by rw [ByteArray.size_extract]; omega
  have z4 := one_size x
  by_cases c0 : v = 0
  · rw [if_pos c0, if_pos r0, if_pos (by omega), if_pos (by rw [z4]; omega), hr1, if_pos (by omega), if_pos (by omega), if_pos (by rw [ByteArray.size_append, z4]; omega)]
    exact rest K (by omega) _ (by rw [ByteArray.size_append, ByteArray.size_append, z4]; omega)
  · rw [if_neg c0]
    by_cases c1 : v = 1
    · rw [if_pos c1, if_pos r0, if_pos (by omega), if_pos (by rw [z4]; omega), if_pos (by rw [ByteArray.size_append, z4]; omega)]
      exact rest K (by omega) _ (by rw [ByteArray.size_append, ByteArray.size_append, z4]; omega)
    · rw [if_neg c1]
      by_cases c2 : v = 2
      · rw [if_pos c2, if_pos r0, if_pos (by omega), hr1, if_pos (by omega), if_pos (by omega), if_pos (by omega)]
        exact rest K (by omega) _ (by rw [ByteArray.size_append]; omega)
      · rw [if_neg c2, if_pos (by rw [z4]; omega)]
        exact rest K (by omega) _ (by rw [ByteArray.size_append, z4]; omega)
end Go.Proofs.YtcaaggfobdfgpaaDoor.PureURLTurned
