/- rank.Sorted: the insertion sort. Over PRankTells's words. -/
import Derived.Test.YtfllecoenjljpaaSortARankTells
set_option linter.unusedVariables false
set_option linter.unusedSimpArgs false
namespace Go.Proofs.Ytfllecoenjljpaa.SortRankTells
open Go.RowKit Go.Proofs.Ytfllecoenjljpaa.Given Go.Proofs.Ytfllecoenjljpaa.PRankTells Go.Proofs.YtfllecoenjljpaaW.PrintWords Go.Proofs.YtfllecoenjljpaaW.PrintLast Go.Proofs.YtfllecoenjljpaaW.PrintMore Go.Proofs.Ytfllecoenjljpaa.OrdRankTells Go.Proofs.Ytfllecoenjljpaa.Sl

/-- Which place goes first. -/
def ltp (ls : Ls) (x y : Int) : Prop := cz ls x y < 0 ∨ (cz ls x y = 0 ∧ x < y)
theorem good_z (ls : Ls) : OrdRankTells.Good (cz ls) := good_P.on (gl ls)
theorem ltp_trans {ls : Ls} {x y z : Int} (h1 : ltp ls x y) (h2 : ltp ls y z) : ltp ls x z := by
  have G := good_z ls
  rcases h1 with h1 | ⟨h1, h3⟩ <;> rcases h2 with h2 | ⟨h2, h4⟩
  · exact .inl (G.trl h1 (by omega))
  · exact .inl (G.trl h1 (by omega))
  · exact .inl (G.trr (by omega) h2)
  · exact .inr ⟨G.tr0 h1 h2, by omega⟩
theorem ltp_irrefl {ls : Ls} {x : Int} (h : ltp ls x x) : False := by
  have := (good_z ls).self x
  rcases h with h | ⟨_, h⟩ <;> omega
def places (i : Nat) : List Int := (List.range i).map (fun j : Nat => (j : Int))
theorem places_succ (i : Nat) : places (i + 1) = places i ++ [(i : Int)] := by
  unfold places
  rw [List.range_succ, List.map_append]; rfl
theorem places_len (i : Nat) : (places i).length = i := by unfold places; simp
theorem places_mem {i : Nat} {x : Int} : x ∈ places i ↔ 0 ≤ x ∧ x < i := by
  unfold places
  rw [List.mem_map]
  constructor
  · rintro ⟨j, hj, rfl⟩
    have := List.mem_range.1 hj
    omega
  · rintro ⟨h0, h1⟩
    exact ⟨x.toNat, List.mem_range.2 (by omega), by omega⟩
theorem places_drop (n i : Nat) (hi : i < n) : (places n).drop i = (i : Int) :: (places n).drop (i + 1) := by
  rw [List.drop_eq_getElem_cons (by rw [places_len]; exact hi)]
  congr 1
  unfold places
  simp
/-- Behind i rounds. -/
def Outer (ls : Ls) (n i : Nat) (d : List Int) : Prop := ∃ P, d = P ++ (places n).drop i ∧ P.Perm (places i) ∧ P.Pairwise (ltp ls)
/-- Within a round. -/
def Inner (ls : Ls) (n i j : Nat) (d : List Int) : Prop := ∃ P Q, d = P ++ (i : Int) :: (Q ++ (places n).drop (i + 1)) ∧ P.length = j ∧ (P ++ Q).Perm (places i) ∧ (P ++ Q).Pairwise (ltp ls) ∧ ∀ q ∈ Q, ltp ls (i : Int) q
theorem Outer.enter {ls : Ls} {n i : Nat} {d : List Int} (h : Outer ls n i d) (hi : i < n) : Inner ls n i i d := by
  obtain ⟨P, rfl, h1, h2⟩ := h
  exact ⟨P, [], by rw [places_drop n i hi]; rfl, by rw [h1.length_eq, places_len], by rw [List.append_nil]; exact h1, by rw [List.append_nil]; exact h2, fun q hq => by cases hq⟩
theorem Inner.leave {ls : Ls} {n i j : Nat} {d : List Int} (h : Inner ls n i j d) (hs : ∀ P p T, d = P ++ p :: T → P.length + 1 = j → ¬ cz ls (i : Int) p < 0) : Outer ls n (i + 1) d := by
  obtain ⟨P, Q, rfl, hj, h1, h2, h3⟩ := h
  refine ⟨P ++ (i : Int) :: Q, by simp, ?_, ?_⟩
  · rw [places_succ]
    exact List.perm_middle.trans ((List.Perm.cons _ h1).trans (List.perm_append_singleton _ _).symm)
  · have hP := List.pairwise_append.1 h2
    have hlt : ∀ p ∈ P, ltp ls p (i : Int) := by
      rcases List.eq_nil_or_concat P with rfl | ⟨P', p, rfl⟩
      · intro p hp; cases hp
      · have hp0 : ¬ cz ls (i : Int) p < 0 := hs P' p _ (by simp; rfl) (by simp at hj; exact hj)
        have hpm : p < (i : Int) := (places_mem.1 (h1.mem_iff.1 (by simp))).2
        have hp1 : ltp ls p (i : Int) := by
          have := (good_z ls).anti p (i : Int)
          by_cases e : cz ls p (i : Int) = 0
          · exact .inr ⟨e, hpm⟩
          · exact .inl (by omega)
        intro q hq
        rw [List.concat_eq_append] at hq hP
        rcases List.mem_append.1 hq with hq | hq
        · exact ltp_trans ((List.pairwise_append.1 hP.1).2.2 q hq p (by simp)) hp1
        · rw [List.mem_singleton.1 hq]; exact hp1
    refine List.pairwise_append.2 ⟨hP.1, List.pairwise_cons.2 ⟨h3, hP.2.1⟩, fun a ha b hb => ?_⟩
    rcases List.mem_cons.1 hb with rfl | hb
    · exact hlt a ha
    · exact hP.2.2 a ha b hb
theorem Inner.step {ls : Ls} {n i : Nat} {P T : List Int} {p x : Int} (h : Inner ls n i (P.length + 1) (P ++ p :: x :: T)) : x = (i : Int) ∧ (cz ls x p < 0 → Inner ls n i P.length (P ++ x :: p :: T)) := by
  obtain ⟨P', Q, h0, hj, h1, h2, h3⟩ := h
  have hl : P ++ [p] = P' ∧ x :: T = (i : Int) :: (Q ++ (places n).drop (i + 1)) := List.append_inj (by simpa using h0) (by simp; omega)
  obtain ⟨rfl, h4⟩ := hl
  injection h4 with h4 h5
  refine ⟨h4, fun hc => ⟨P, p :: Q, by rw [h4, h5]; rfl, rfl, by simpa using h1, by simpa using h2, fun q hq => ?_⟩⟩
  rw [h4] at hc
  rcases List.mem_cons.1 hq with rfl | hq
  · exact .inl hc
  · exact h3 q hq
theorem Inner.len {ls : Ls} {n i j : Nat} {d : List Int} (h : Inner ls n i j d) (hi : i < n) : d.length = n ∧ j ≤ i := by
  obtain ⟨P, Q, rfl, hj, h1, h2, h3⟩ := h
  have := h1.length_eq
  rw [places_len, List.length_append] at this
  refine ⟨?_, by omega⟩
  rw [List.length_append, List.length_cons, List.length_append, List.length_drop, places_len]
  omega
theorem Inner.mem {ls : Ls} {n i j : Nat} {d : List Int} (h : Inner ls n i j d) (hi : i < n) : ∀ x ∈ d, 0 ≤ x ∧ x < n := by
  obtain ⟨P, Q, rfl, hj, h1, h2, h3⟩ := h
  intro x hx
  rw [List.mem_append, List.mem_cons, List.mem_append] at hx
  rcases hx with hx | hx | hx | hx
  · have := places_mem.1 (h1.mem_iff.1 (List.mem_append.2 (.inl hx))); omega
  · omega
  · have := places_mem.1 (h1.mem_iff.1 (List.mem_append.2 (.inr hx))); omega
  · exact places_mem.1 (List.mem_of_mem_drop hx)
theorem Outer.start (ls : Ls) (n : Nat) (h : 0 < n) : Outer ls n 1 (places n) := by
  refine ⟨[0], ?_, List.Perm.refl _, List.pairwise_singleton _ _⟩
  have := places_drop n 0 h
  simpa using this
/-- The places in order. -/
def InOrder (ls : Ls) (R : List Int) : Prop := R.Perm (places ls.length) ∧ R.Pairwise (ltp ls)
theorem InOrder.uniq {ls : Ls} {R T : List Int} (h : InOrder ls R) (g : InOrder ls T) : R = T :=
  (h.1.trans g.1.symm).eq_of_pairwise (le := ltp ls) (fun a b _ _ h1 h2 => (ltp_irrefl (ltp_trans h1 h2)).elim) h.2 g.2
theorem Outer.done {ls : Ls} {d : List Int} (h : Outer ls ls.length ls.length d) : InOrder ls d := by
  obtain ⟨P, rfl, h1, h2⟩ := h
  rw [List.drop_eq_nil_of_le (by rw [places_len]; exact Nat.le_refl _), List.append_nil]
  exact ⟨h1, h2⟩
open Classical in
noncomputable def sortL (ls : Ls) : List Int := if h : ∃ R, InOrder ls R then Classical.choose h else []
theorem sortL_eq {ls : Ls} {R : List Int} (h : InOrder ls R) : sortL ls = R := by
  have hx : ∃ R, InOrder ls R := ⟨R, h⟩
  unfold sortL
  rw [dif_pos hx]
  exact (Classical.choose_spec hx).uniq h
end Go.Proofs.Ytfllecoenjljpaa.SortRankTells
