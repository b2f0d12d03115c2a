/- RankSorted, the plain law. -/
import Derived.Test.YtfllecoenjljpaaStmRankSorted
import Derived.Test.YtfllecoenjljpaaTotRankSorted
set_option linter.unusedVariables false
set_option linter.unusedSimpArgs false
namespace Go.Proofs.Ytfllecoenjljpaa.PureRankSorted
open Go.RowKit Go.Proofs.Ytfllecoenjljpaa.Given Go.Proofs.Ytfllecoenjljpaa.PRankSorted Go.Proofs.YtfllecoenjljpaaW.PrintWords Go.Proofs.Ytfllecoenjljpaa.OrdRankSorted Go.Proofs.Ytfllecoenjljpaa.SortRankSorted Go.Proofs.Ytfllecoenjljpaa.TotRankSorted

theorem same_from (l : List Int) (hl : l.length ≤ 1000) : ∀ (d i : Nat), i + d = l.length → ∀ k, d < k → porticobook_Same_int.l0 k l l (i : Int) = some true := by
  intro d
  induction d with
  | zero =>
    intro i hi k hk
    obtain ⟨k, rfl⟩ : ∃ m, k = m + 1 := ⟨k - 1, by omega⟩
    simp only [porticobook_Same_int.l0]
    rw [if_neg (by omega)]
  | succ d ih =>
    intro i hi k hk
    obtain ⟨k, rfl⟩ : ∃ m, k = m + 1 := ⟨k - 1, by omega⟩
    simp only [porticobook_Same_int.l0]
    rw [wn2 i (by omega)]
    have := ih (i + 1) (by omega) k (by omega)
    (repeat' split) <;> first | exact this | omega | simp_all
theorem same_self (k : Nat) (l : List Int) (hl : l.length ≤ 1000) (hk : 1100 ≤ k) : porticobook_Same_int.f k l l = some true := by
  unfold porticobook_Same_int.f
  rw [if_pos rfl]
  exact same_from l hl l.length 0 (by omega) _ (by omega)
theorem rd_get1 (l : List Int) (i : Nat) (hi : i < l.length) : rd l (i : Int) = l[i] := by
  unfold rd
  rw [List.getD_eq_getElem?_getD]
  simp [List.getElem?_eq_getElem hi]
theorem left_l0 (x7 x9 : Ls) (x10 x11 c : List Int) (hc : c.length ≤ 100) : ∀ (n i k : Nat) (acc : List Int), i + n = c.length → n < k → acc.length ≤ i → ∃ k', k ≤ k' + n + 1 ∧ porticolaw6_RankSorted.l0 k x7 x9 x10 x11 acc c (c.length : Int) (i : Int) = porticolaw6_RankSorted.l1 k' x7 x9 x10 x11 (acc ++ (c.drop i).filter (fun x => x != (x7.length : Int))) (x10.length : Int) 0 := by
  intro n
  induction n with
  | zero =>
    intro i k acc hi hk ha
    obtain ⟨k, rfl⟩ : ∃ m, k = m + 1 := ⟨k - 1, by omega⟩
    rw [porticolaw6_RankSorted.l0, if_neg (by omega), List.drop_eq_nil_of_le (by omega)]
    exact ⟨k, by omega, by simp⟩
  | succ n ih =>
    intro i k acc hi hk ha
    obtain ⟨k, rfl⟩ : ∃ m, k = m + 1 := ⟨k - 1, by omega⟩
    rw [porticolaw6_RankSorted.l0, if_pos (by omega), if_pos (by omega), if_pos (by omega), wn2 i (by omega), rd_get1 c i (by omega), List.drop_eq_getElem_cons (show i < c.length by omega)]
    by_cases e : c[i] = (x7.length : Int)
    · rw [if_pos e, List.filter_cons_of_neg (by simpa using e)]
      obtain ⟨k', h1, h2⟩ := ih (i + 1) k acc (by omega) (by omega) (by omega)
      exact ⟨k', by omega, h2⟩
    · rw [if_neg e, if_pos (by omega), List.filter_cons_of_pos (by simpa using e)]
      obtain ⟨k', h1, h2⟩ := ih (i + 1) k (acc ++ [c[i]]) (by omega) (by omega) (by simp; omega)
      exact ⟨k', by omega, by rw [h2]; simp⟩
theorem pairs_l1 (L T : Ls) (a b left : List Int) (R : Option Bool) (hL : L.length < 20) (hx : ∀ x ∈ L, x.length ≤ 20) (hy : ∀ x ∈ T, x.length ≤ 20) (hT : T.length = L.length) (ha : a.length = L.length) (hb : b.length = L.length) (ha2 : ∀ x ∈ a, 0 ≤ x ∧ x < L.length) (hb2 : ∀ x ∈ b, 0 ≤ x ∧ x < L.length) (he : a.map (gl L) = b.map (gl T))
    (hR : ∀ k, 2000 ≤ k → ((porticobook_Same_int.f k left a).bind fun t278 => (if t278 = true then (if (L.length : Int) = 0 then ((porticolaw6_RankRuns.f k).bind fun t279 => (some t279)) else ((rank_First.f k L).bind fun t280 => (if 0 < (a.length : Int) then (if t280 = (rd a 0) then ((porticolaw6_RankRuns.f k).bind fun t282 => (some t282)) else (none)) else (none)))) else (none))) = R) : ∀ (n i k : Nat), i + n = L.length → n + 3000 < k → porticolaw6_RankSorted.l1 k L T a b left (a.length : Int) (i : Int) = R := by
  intro n
  induction n with
  | zero =>
    intro i k hi hk
    obtain ⟨k, rfl⟩ : ∃ m, k = m + 1 := ⟨k - 1, by omega⟩
    rw [porticolaw6_RankSorted.l1, if_neg (by omega)]
    exact hR k (by omega)
  | succ n ih =>
    intro i k hi hk
    obtain ⟨k, rfl⟩ : ∃ m, k = m + 1 := ⟨k - 1, by omega⟩
    have h1 := ha2 a[i] (List.getElem_mem (by omega))
    have h2 := hb2 b[i] (List.getElem_mem (by omega))
    rw [porticolaw6_RankSorted.l1, if_pos (by omega), if_pos (by omega), if_pos (by omega), rd_get1 a i (by omega), rd_get1 b i (by omega), if_neg (by omega), if_neg (by omega), if_pos (by omega), if_neg (by omega), if_neg (by omega), if_pos (by omega), if_pos (by omega), if_pos (by omega), if_pos (by omega)]
    have hg : gl L a[i] = gl T b[i] := by
      have := congrArg (fun l => l[i]?) he
      simpa [List.getElem?_eq_getElem (show i < a.length by omega), List.getElem?_eq_getElem (show i < b.length by omega)] using this
    have e1 : rank_Compare.f k (rd_L3 L a[i]) (rd_L3 T b[i]) = some (cmpP (gl L a[i]) (gl T b[i])) := cmp_eq k (by omega) _ _ (gl_len hx _) (gl_len hy _)
    rw [e1, hg, good_P.self]
    simp only [Option.bind_some, if_true]
    rw [wn2 i (by omega)]
    exact ih (i + 1) k (by omega) (by omega)
theorem pureK (K : Nat) (hK : 6000 ≤ K) (ks : List S31) (cut : Int) (m0 m1 : List Int) (m2 : Int) (h0 : ∀ x ∈ ks, x.f1.length * 8 ≤ 140737488351232) (h3 : m1.length * 8 ≤ 140737488351232) : porticolaw6_RankSorted.f K ks cut m0 m1 m2 = some true := by
  unfold porticolaw6_RankSorted.f
  obtain ⟨L, hLf, hL⟩ := some_ok K (by omega) ks [] h0
  have hlen := hL.1
  obtain ⟨t, ht, t0, t1⟩ := within_ok cut 0 (L.length : Int) (by omega) (by omega) (by omega) (by omega)
  obtain ⟨E, hE, hE5⟩ := segs_ok K (by omega) m0 m1 h3 m2
  obtain ⟨T, hT⟩ : ∃ T, L.drop t.toNat ++ L.take t.toNat = T := ⟨_, rfl⟩
  have hTp : L.Perm T := by
    rw [← hT]
    have := (List.perm_append_comm (l₁ := L.take t.toNat) (l₂ := L.drop t.toNat))
    rwa [List.take_append_drop] at this
  have hTl : T.length = L.length := hTp.length_eq.symm
  have hx : ∀ x ∈ L, x.length ≤ 20 := fun x h => by have := hL.2 x h; omega
  have hy : ∀ x ∈ T, x.length ≤ 20 := fun x h => hx x (hTp.mem_iff.2 h)
  have s1 := sorted_ok (z := L) (by omega) hx
  have s2 := sorted_ok (z := T) (by omega) hy
  have s3 := sorted_ok (z := L ++ [E]) (by simp; omega) (fun x h => by
    rcases List.mem_append.1 h with h | h
    · exact hx x h
    · rw [List.mem_singleton.1 h]; omega)
  have la : (sortL L).length = L.length := by rw [(inOrder_ex L).1.length_eq, places_len]
  have lb : (sortL T).length = L.length := by rw [(inOrder_ex T).1.length_eq, places_len, hTl]
  have lc : (sortL (L ++ [E])).length = L.length + 1 := by rw [(inOrder_ex _).1.length_eq, places_len]; simp
  have hT2 : ([] ++ L.drop t.toNat : Ls) ++ L.take t.toNat = T := by rw [List.nil_append]; exact hT
  have hL2 : ([] ++ L : Ls) ++ [E] = L ++ [E] := by rw [List.nil_append]
  have b1 : ([] : Ls).length + (L.drop t.toNat).length < 5864062014805 := by
    rw [List.length_nil, List.length_drop]; omega
  have b2 : ([] ++ L.drop t.toNat : Ls).length + (L.take t.toNat).length < 5864062014805 := by
    rw [List.nil_append, List.length_drop, List.length_take]; omega
  have b3 : ([] : Ls).length + L.length < 5864062014805 := by rw [List.length_nil]; omega
  have b4 : ([] ++ L : Ls).length < 5864062014805 := by rw [List.nil_append]; omega
  rw [hLf, Option.bind_some, ht, Option.bind_some, Option.bind_some, if_pos t0, if_pos t1, Option.bind_some, if_pos b1, Option.bind_some, Option.bind_some, if_pos b2, Option.bind_some, hT2, s1, Option.bind_some, s2, Option.bind_some, Option.bind_some, if_pos b3, Option.bind_some, hE, Option.bind_some, if_pos b4, hL2, s3, Option.bind_some]
  rw [if_pos (by omega), if_pos (by omega)]
  obtain ⟨J, rfl⟩ : ∃ J, K = J + 1 := ⟨K - 1, by omega⟩
  have hne : (((sortL (L ++ [E])).length : Int) != wrap64 ((L.length : Int) + 1)) = false := by
    rw [wn2 _ (by omega), lc]; simp
  rw [hne, porticolaw6_RankSorted.j0, if_neg (by simp)]
  obtain ⟨k', hk', h9⟩ := left_l0 L T (sortL L) (sortL T) (sortL (L ++ [E])) (by omega) (sortL (L ++ [E])).length 0 J [] (by omega) (by omega) (by simp)
  have h9' : porticolaw6_RankSorted.l0 J L T (sortL L) (sortL T) [] (sortL (L ++ [E])) ((sortL (L ++ [E])).length : Int) 0 = _ := h9
  rw [h9', List.drop_zero, List.nil_append, sort_more]
  refine pairs_l1 L T (sortL L) (sortL T) (sortL L) (some true) (by omega) hx hy hTl la lb (fun x h => places_mem.1 ((inOrder_ex L).1.mem_iff.1 h)) (fun x h => by
    have := places_mem.1 ((inOrder_ex T).1.mem_iff.1 h)
    omega) (sort_perm hTp) (fun k hk => ?_) L.length 0 k' (by omega) (by omega)
  rw [same_self k (sortL L) (by omega) (by omega)]
  obtain ⟨k, rfl⟩ : ∃ j, k = j + 12 := ⟨k - 12, by omega⟩
  simp only [Option.bind_some, if_true, runs]
  by_cases hz : (L.length : Int) = 0
  · rw [if_pos hz]
  · rw [if_neg hz]
    obtain ⟨r, hr, _, hr2⟩ := first_ok (k + 12) (by omega) L (by omega) hx
    obtain ⟨r0, r1, r2⟩ := hr2 (by omega)
    obtain ⟨tl, htl⟩ := first_sorted r0 r1 r2
    rw [hr]
    simp only [Option.bind_some]
    rw [if_pos (by omega), htl, if_pos (by rfl)]
theorem pure : StmRankSorted.Pure := by
  unfold StmRankSorted.Pure
  intro ks cut m0 m1 m2 h0 h1 h2 h3 h4
  exact ⟨6000, pureK 6000 (Nat.le_refl _) ks cut m0 m1 m2 (fun x hx => (h0.2 x hx).2.1.1) h3.1⟩
end Go.Proofs.Ytfllecoenjljpaa.PureRankSorted
