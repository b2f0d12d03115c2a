/- The plain theory of sorted patterns: made patterns, first, sorted. Over PRankTells's words. -/
import Derived.Test.YtfllecoenjljpaaSortRankTells
import Derived.Test.YtfllecoenjljpaaPRankTellsx2
import Derived.Test.YtfllecoenjljpaaPRankTellsx5
import Derived.Lib.SlicesS
set_option linter.unusedVariables false
set_option linter.unusedSimpArgs false
namespace Go.Proofs.Ytfllecoenjljpaa.TotRankTells
open Go.RowKit Go.Proofs.Ytfllecoenjljpaa.Given Go.Proofs.Ytfllecoenjljpaa.PRankTells Go.Proofs.YtfllecoenjljpaaW.PrintWords Go.Proofs.Ytfllecoenjljpaa.OrdRankTells Go.Proofs.Ytfllecoenjljpaa.SortRankTells

theorem within_eq (n lo hi : Int) (h : lo ≤ hi) (h0 : -4611686018427387904 ≤ lo) (h1 : hi ≤ 4611686018427387903) (h2 : hi - lo ≤ 4611686018427387903) :
    porticobook_Within.f n lo hi = some (lo + n % (hi - lo + 1)) := by
  unfold porticobook_Within.f
  rw [w64 (n := hi - lo) (by omega) (by omega), w64 (n := hi - lo + 1) (by omega) (by omega)]
  have hm : 0 < hi - lo + 1 := by omega
  have e := Int.tmod_eq_emod (a := n) (b := hi - lo + 1)
  have p0 := Int.emod_nonneg n (show hi - lo + 1 ≠ 0 by omega)
  have p1 := Int.emod_lt_of_pos n hm
  rw [if_neg (by omega)]
  generalize hr : n % (hi - lo + 1) = r at *
  have hna : ((hi - lo + 1).natAbs : Int) = hi - lo + 1 := by omega
  by_cases hc : 0 ≤ n ∨ hi - lo + 1 ∣ n
  · rw [if_pos hc] at e
    rw [e, if_neg (by omega), w64 (by omega) (by omega)]
    congr 1
    omega
  · rw [if_neg hc, hna] at e
    rw [e, if_pos (by omega), w64 (n := r - (hi - lo + 1) + hi) (by omega) (by omega), w64 (n := _ - lo) (by omega) (by omega), w64 (n := _ + 1) (by omega) (by omega), w64 (by omega) (by omega)]
    congr 1
    omega
theorem within_ok (n lo hi : Int) (h : lo ≤ hi) (h0 : -4611686018427387904 ≤ lo) (h1 : hi ≤ 4611686018427387903) (h2 : hi - lo ≤ 4611686018427387903) :
    ∃ r, porticobook_Within.f n lo hi = some r ∧ lo ≤ r ∧ r ≤ hi := by
  have p0 := Int.emod_nonneg n (show hi - lo + 1 ≠ 0 by omega)
  have p1 := Int.emod_lt_of_pos n (show 0 < hi - lo + 1 by omega)
  exact ⟨_, within_eq n lo hi h h0 h1 h2, by omega, by omega⟩

/-! made patterns -/
theorem pick_ok (l : List Int) (hl : l.length ≤ 140737488351232) (i : Nat) : ∃ v, porticokeep_pick.f l (i : Int) = some v := by
  unfold porticokeep_pick.f
  by_cases h : (l.length : Int) = 0
  · exact ⟨_, if_pos h⟩
  · rw [if_neg h, Int.tmod_eq_emod_of_nonneg (by omega)]
    have h1 := Int.emod_nonneg (i : Int) h
    have h2 := Int.emod_lt_of_pos (i : Int) (show 0 < (l.length : Int) by omega)
    rw [if_pos h1, if_pos h2]
    exact ⟨_, rfl⟩
def texts : List ByteArray := [(⟨#[97]⟩ : ByteArray), (⟨#[98]⟩ : ByteArray), (⟨#[105, 116, 101, 109]⟩ : ByteArray), (⟨#[122]⟩ : ByteArray), (⟨#[49]⟩ : ByteArray), (⟨#[108, 105, 115, 116]⟩ : ByteArray)]
theorem segs_end (k : Nat) (ts : List ByteArray) (acc : List Sg) (i : Int) (ks ws : List Int) (last : Int) (ha : acc.length ≤ 4) : ∃ z, porticokeep_Pattern_Segs.j1 (k + 1) ts acc i false ks ws last = some z ∧ z.length ≤ 5 := by
  rw [porticokeep_Pattern_Segs.j1, if_neg (by simp)]
  obtain ⟨t, ht, h0, h1⟩ := within_ok last 0 5 (by omega) (by omega) (by omega) (by omega)
  rw [ht]
  simp only [Option.bind_some]
  split
  · rw [if_pos (by omega)]
    exact ⟨_, rfl, by simp; omega⟩
  · split
    · rw [if_pos (by omega)]
      exact ⟨_, rfl, by simp; omega⟩
    · exact ⟨_, rfl, by omega⟩
theorem segs_l0 (ks ws : List Int) (hw : ws.length ≤ 140737488351232) (last : Int) : ∀ (n i k : Nat) (acc : List Sg), i + n = 4 → acc.length ≤ i → 2 * n + 6 ≤ k → ∃ z, porticokeep_Pattern_Segs.l0 k texts acc (i : Int) ks ws last = some z ∧ z.length ≤ 5 := by
  intro n
  induction n with
  | zero =>
    intro i k acc hi ha hk
    obtain ⟨k, rfl⟩ : ∃ m, k = m + 2 := ⟨k - 2, by omega⟩
    rw [porticokeep_Pattern_Segs.l0, show decide ((i : Int) < 4) = false from decide_eq_false (by omega)]
    have := segs_end k texts acc i ks ws last (by omega)
    split <;> exact this
  | succ n ih =>
    intro i k acc hi ha hk
    obtain ⟨k, rfl⟩ : ∃ m, k = m + 2 := ⟨k - 2, by omega⟩
    rw [porticokeep_Pattern_Segs.l0]
    by_cases hlt : (i : Int) < (ks.length : Int)
    · rw [if_pos hlt, show decide ((i : Int) < 4) = true from decide_eq_true (by omega), porticokeep_Pattern_Segs.j1, if_pos rfl, if_pos (by omega), if_pos hlt]
      obtain ⟨t, ht, h0, h1⟩ := within_ok (rd ks i) 0 1 (by omega) (by omega) (by omega) (by omega)
      obtain ⟨v, hv⟩ := pick_ok ws hw i
      obtain ⟨u, hu, u0, u1⟩ := within_ok v 0 5 (by omega) (by omega) (by omega) (by omega)
      rw [ht]
      simp only [Option.bind_some]
      rw [hv]
      simp only [Option.bind_some]
      rw [show wrap64 ((texts.length : Int) - 1) = 5 by decide +kernel, hu]
      simp only [Option.bind_some]
      have hz : (texts.length : Int) = 6 := rfl
      rw [if_pos u0, if_pos (by omega), wn i (by omega)]
      split
      · rw [if_pos (by simp [strOfNums, ByteArray.size]), if_pos (by omega)]
        exact ih (i + 1) k _ (by omega) (by simp; omega) (by omega)
      · rw [if_pos (by omega)]
        exact ih (i + 1) k _ (by omega) (by simp; omega) (by omega)
    · rw [if_neg hlt]
      exact segs_end k texts acc i ks ws last (by omega)
theorem segs_ok (k : Nat) (hk : 20 ≤ k) (ks ws : List Int) (hw : ws.length * 8 ≤ 140737488351232) (last : Int) : ∃ z, porticokeep_Pattern_Segs.f k ks ws last = some z ∧ z.length ≤ 5 := by
  have := segs_l0 ks ws (by omega) last 4 0 k [] (by omega) (by simp) (by omega)
  exact this

theorem runs (k : Nat) : porticolaw6_RankRuns.f (k + 12) = some true := by
  have h : porticolaw6_RankRuns.f 12 = some true := by decide +kernel
  have : ∀ n, porticolaw6_RankRuns.f (12 + n) = some true := by
    intro n
    induction n with
    | zero => exact h
    | succ n ih => exact porticolaw6_RankRuns.mono (12 + n) true ih
  rw [Nat.add_comm]
  exact this k
/-! some patterns -/
def Few (z : Ls) : Prop := z.length ≤ 11 ∧ ∀ x ∈ z, x.length ≤ 6
theorem wn2 (i : Nat) (h : i < 100000) : wrap64 ((i : Int) + 1) = ((i + 1 : Nat) : Int) := by rw [w64 (by omega) (by omega)]; simp
theorem rdL_drop (l : Ls) (i : Nat) : rd_L3 l (i : Int) = gl l (i : Int) := rfl
theorem some_l1 (raw : Ls) : ∀ (n i k : Nat) (acc : Ls), i + n = 3 → n < k → acc.length ≤ 8 + i → (∀ x ∈ acc, x.length ≤ 6) → ∃ z, porticolaw6_some.l1 k raw acc (i : Int) = some z ∧ Few z := by
  intro n
  induction n with
  | zero =>
    intro i k acc hi hk ha hx
    obtain ⟨k, rfl⟩ : ∃ m, k = m + 1 := ⟨k - 1, by omega⟩
    rw [porticolaw6_some.l1]
    refine ⟨acc, ?_, by omega, hx⟩
    split
    · rw [if_neg (by omega)]
    · rfl
  | succ n ih =>
    intro i k acc hi hk ha hx
    obtain ⟨k, rfl⟩ : ∃ m, k = m + 1 := ⟨k - 1, by omega⟩
    rw [porticolaw6_some.l1]
    by_cases c : (i : Int) < (raw.length : Int)
    · rw [if_pos c, if_pos (by omega)]
      simp only [Option.bind_some, List.nil_append]
      have hm := mn_le ((rd_L3 raw (i : Int)).length : Int) 6
      have h0 : 0 ≤ mn ((rd_L3 raw (i : Int)).length : Int) 6 := hm.2.2.1 (by omega) (by omega)
      rw [if_pos (by omega), if_pos h0, if_pos hm.1, if_pos (by
        simp only [List.length_nil, List.length_take]
        omega), if_pos (by omega), wn2 i (by omega)]
      refine ih (i + 1) k _ (by omega) (by omega) (by simp; omega) (fun x h => ?_)
      rcases List.mem_append.1 h with h | h
      · exact hx x h
      · rw [List.mem_singleton.1 h, List.length_take]
        omega
    · rw [if_neg c]
      exact ⟨acc, rfl, by omega, hx⟩
theorem some_l0 (ks : List S31) (raw : Ls) (hks : ∀ x ∈ ks, x.f1.length * 8 ≤ 140737488351232) : ∀ (n i k : Nat) (acc : Ls), i + n = 8 → n + 30 < k → acc.length = i → (∀ x ∈ acc, x.length ≤ 6) → ∃ z, porticolaw6_some.l0 k ks raw acc (i : Int) = some z ∧ Few z := by
  intro n
  have hj : ∀ k acc, 5 ≤ k → acc.length ≤ 8 → (∀ x ∈ acc, x.length ≤ 6) → ∃ z, porticolaw6_some.j1 k raw acc = some z ∧ Few z := by
    intro k acc hk ha hx
    obtain ⟨k, rfl⟩ : ∃ m, k = m + 1 := ⟨k - 1, by omega⟩
    rw [porticolaw6_some.j1]
    exact some_l1 raw 3 0 k acc (by omega) (by omega) (by omega) hx
  induction n with
  | zero =>
    intro i k acc hi hk ha hx
    obtain ⟨k, rfl⟩ : ∃ m, k = m + 1 := ⟨k - 1, by omega⟩
    rw [porticolaw6_some.l0]
    split
    · rw [if_neg (by omega)]
      exact hj k acc (by omega) (by omega) hx
    · exact hj k acc (by omega) (by omega) hx
  | succ n ih =>
    intro i k acc hi hk ha hx
    obtain ⟨k, rfl⟩ : ∃ m, k = m + 1 := ⟨k - 1, by omega⟩
    rw [porticolaw6_some.l0]
    by_cases c : (i : Int) < (ks.length : Int)
    · rw [if_pos c, if_pos (by omega), if_pos (by omega)]
      have hmem : rd_T31 ks (i : Int) ∈ ks := by
        unfold rd_T31
        rw [List.getD_eq_getElem?_getD, List.getElem?_eq_getElem (by omega)]
        exact List.getElem_mem _
      obtain ⟨t, ht, hl⟩ := segs_ok k (by omega) (rd_T31 ks (i : Int)).f0 (rd_T31 ks (i : Int)).f1 (hks _ hmem) (rd_T31 ks (i : Int)).f2
      rw [ht]
      simp only [Option.bind_some]
      rw [if_pos (by omega), wn2 i (by omega)]
      refine ih (i + 1) k _ (by omega) (by omega) (by simp; omega) (fun x h => ?_)
      rcases List.mem_append.1 h with h | h
      · exact hx x h
      · rw [List.mem_singleton.1 h]
        omega
    · rw [if_neg c]
      exact hj k acc (by omega) (by omega) hx
theorem some_ok (k : Nat) (hk : 100 ≤ k) (ks : List S31) (raw : Ls) (hks : ∀ x ∈ ks, x.f1.length * 8 ≤ 140737488351232) : ∃ z, porticolaw6_some.f k ks raw = some z ∧ Few z :=
  some_l0 ks raw hks 8 0 k [] (by omega) (by omega) rfl (fun x h => by cases h)
/-! sorted -/
theorem places_nodup (n : Nat) : (places n).Nodup := by
  unfold places
  exact List.pairwise_map.2 (List.nodup_range.imp (fun h e => h (Int.ofNat_inj.1 e)))
def leP (ls : Ls) (a b : Int) : Bool := decide (cz ls a b < 0 ∨ (cz ls a b = 0 ∧ a ≤ b))
theorem inOrder_ex (ls : Ls) : InOrder ls (sortL ls) := by
  have G := good_z ls
  have hp := List.mergeSort_perm (places ls.length) (leP ls)
  have hs := List.pairwise_mergeSort (le := leP ls) (by
    intro a b c h1 h2
    simp only [leP, decide_eq_true_eq] at *
    rcases h1 with h1 | ⟨h1, h3⟩ <;> rcases h2 with h2 | ⟨h2, h4⟩
    · exact .inl (G.trl h1 (by omega))
    · exact .inl (G.trl h1 (by omega))
    · exact .inl (G.trr (by omega) h2)
    · exact .inr ⟨G.tr0 h1 h2, by omega⟩) (by
    intro a b
    simp only [leP, Bool.or_eq_true, decide_eq_true_eq]
    have := G.anti a b
    omega) (places ls.length)
  have hn : ((places ls.length).mergeSort (leP ls)).Nodup := hp.nodup_iff.2 (places_nodup _)
  have h : InOrder ls ((places ls.length).mergeSort (leP ls)) := ⟨hp, (hs.and hn).imp (fun {a b} h => by
    have h1 := h.1
    have h2 := h.2
    simp only [leP, decide_eq_true_eq] at h1
    unfold ltp
    omega)⟩
  rw [sortL_eq h]
  exact h
theorem sorted_ok {z : Ls} (h : z.length < 20) (hx : ∀ x ∈ z, x.length ≤ 20) : rank_Sorted.f z = some (sortL z) := by
  unfold rank_Sorted.f
  exact if_pos ⟨h, hx⟩
theorem cmpP_eq {x y : List Sg} (h : cmpP x y = 0) : x = y := by
  unfold cmpP thenC at h
  split at h
  · rename_i h1
    have h2 := (lex_zero cK 1 (by omega) x y).1 h1
    have h3 := (lex_zero cT 1 (by omega) x y).1 h
    refine List.ext_getElem h2.1 fun i hi hi' => ?_
    have e1 := (cmpI_zero _ _).1 (h2.2 i hi hi')
    have e2 := (cmpS_zero _ _).1 (h3.2 i hi hi')
    have e3 : x[i].f1 = y[i].f1 := (Lib.bytes_beq_iff _ _).1 (by rw [e2]; exact beq_self_eq_true _)
    show (⟨x[i].f0, x[i].f1⟩ : Sg) = ⟨y[i].f0, y[i].f1⟩
    rw [e1, e3]
  · exact absurd h (by assumption)
theorem gl_in {ls : Ls} {x : Int} (h0 : 0 ≤ x) (h1 : x < ls.length) : gl ls x = ls[x.toNat]'(by omega) := by
  unfold gl
  rw [List.getD_eq_getElem?_getD, List.getElem?_eq_getElem (by omega)]; rfl
theorem map_places (ls : Ls) : (places ls.length).map (gl ls) = ls := by
  refine List.ext_getElem (by rw [List.length_map, places_len]) fun i hi hi' => ?_
  rw [List.getElem_map]
  have : (places ls.length)[i]'(by rw [places_len]; exact hi') = (i : Int) := by unfold places; simp
  rw [this, gl_in (by omega) (by omega)]
  simp
theorem inOrder_maps {ls : Ls} {R : List Int} (h : InOrder ls R) : (R.map (gl ls)).Perm ls ∧ (R.map (gl ls)).Pairwise (fun x y => cmpP x y ≤ 0) := by
  refine ⟨?_, List.pairwise_map.2 (h.2.imp fun {a b} hab => ?_)⟩
  · have := h.1.map (gl ls)
    rwa [map_places] at this
  · show cz ls a b ≤ 0
    rcases hab with h | h <;> omega
/-- The same patterns in another order are sorted alike. -/
theorem sort_perm {ls ts : Ls} (h : ls.Perm ts) : (sortL ls).map (gl ls) = (sortL ts).map (gl ts) := by
  have h1 := inOrder_maps (inOrder_ex ls)
  have h2 := inOrder_maps (inOrder_ex ts)
  refine ((h1.1.trans h).trans h2.1.symm).eq_of_pairwise (le := fun x y => cmpP x y ≤ 0) (fun a b _ _ hab hba => cmpP_eq ?_) h1.2 h2.2
  have := good_P.anti a b
  omega
/-- One more pattern leaves the others' order. -/
theorem sort_more (ls : Ls) (e : List Sg) : (sortL (ls ++ [e])).filter (fun x => x != (ls.length : Int)) = sortL ls := by
  have h := inOrder_ex (ls ++ [e])
  have hlen : (ls ++ [e]).length = ls.length + 1 := by simp
  have hg : ∀ x : Int, 0 ≤ x → x < ls.length → gl (ls ++ [e]) x = gl ls x := fun x h0 h1 => by
    unfold gl
    rw [List.getD_eq_getElem?_getD, List.getD_eq_getElem?_getD, List.getElem?_append_left (by omega)]
  refine (InOrder.uniq ⟨?_, ?_⟩ (inOrder_ex ls))
  · have h1 := h.1.filter (fun x => x != (ls.length : Int))
    have h2 : (places (ls.length + 1)).filter (fun x => x != (ls.length : Int)) = places ls.length := by
      rw [places_succ, List.filter_append, List.filter_cons_of_neg (by simp), List.filter_nil, List.append_nil]
      exact List.filter_eq_self.2 (fun x hx => by
        have := places_mem.1 hx
        simp
        omega)
    rw [hlen, h2] at h1
    exact h1
  · refine List.Pairwise.imp_of_mem (fun {a b} ha hb hab => ?_) (h.2.filter _)
    have ha1 := List.mem_filter.1 ha
    have hb1 := List.mem_filter.1 hb
    have ha2 := places_mem.1 (h.1.mem_iff.1 ha1.1)
    have hb2 := places_mem.1 (h.1.mem_iff.1 hb1.1)
    have ha3 : a ≠ (ls.length : Int) := by simpa using ha1.2
    have hb3 : b ≠ (ls.length : Int) := by simpa using hb1.2
    rw [hlen] at ha2 hb2
    unfold ltp cz at hab ⊢
    rwa [hg a ha2.1 (by omega), hg b hb2.1 (by omega)] at hab
/-! first -/
theorem first_l0 (ls : Ls) (hl : ls.length < 20) (hx : ∀ x ∈ ls, x.length ≤ 20) : ∀ (n i k : Nat) (o : Int), i + n = ls.length → n + 100 < k → (i = 0 → o = -1) → (0 < i → 0 ≤ o ∧ o < i ∧ ∀ x : Int, 0 ≤ x → x < i → x ≠ o → ltp ls o x) →
    ∃ r, rank_First.l0 k ls o ls (ls.length : Int) (i : Int) = some r ∧ (ls.length = 0 → r = -1) ∧ (0 < ls.length → 0 ≤ r ∧ r < ls.length ∧ ∀ x : Int, 0 ≤ x → x < ls.length → x ≠ r → ltp ls r x) := by
  intro n
  induction n with
  | zero =>
    intro i k o hi hk h0 h1
    obtain ⟨k, rfl⟩ : ∃ m, k = m + 1 := ⟨k - 1, by omega⟩
    rw [rank_First.l0, if_neg (by omega)]
    have hi' : i = ls.length := by omega
    subst hi'
    exact ⟨o, rfl, h0, h1⟩
  | succ n ih =>
    intro i k o hi hk h0 h1
    obtain ⟨k, rfl⟩ : ∃ m, k = m + 1 := ⟨k - 1, by omega⟩
    rw [rank_First.l0, if_pos (by omega), if_pos (by omega), if_pos (by omega), wn2 i (by omega)]
    by_cases c : o < 0
    · rw [if_pos c]
      have hi0 : i = 0 := by
        by_cases e : i = 0
        · exact e
        · have := h1 (by omega); omega
      subst hi0
      refine ih 1 k _ (by omega) (by omega) (fun h => by omega) (fun _ => ⟨by omega, by omega, fun x h2 h3 h4 => by omega⟩)
    · have hi0 : 0 < i := by
        by_cases e : i = 0
        · have := h0 e; omega
        · omega
      obtain ⟨g0, g1, g2⟩ := h1 hi0
      rw [if_neg c, if_pos g0, if_pos (by omega)]
      have e1 : rank_Compare.f k (rd_L3 ls (i : Int)) (rd_L3 ls o) = some (cz ls (i : Int) o) := cmp_eq k (by omega) _ _ (gl_len hx _) (gl_len hx _)
      rw [e1]
      simp only [Option.bind_some]
      have G := good_z ls
      by_cases d : cz ls (i : Int) o < 0
      · rw [if_pos d]
        refine ih (i + 1) k _ (by omega) (by omega) (fun h => by omega) (fun _ => ⟨by omega, by omega, fun x h2 h3 h4 => ?_⟩)
        by_cases e : x = o
        · rw [e]; exact .inl d
        · exact ltp_trans (.inl d) (g2 x h2 (by omega) e)
      · rw [if_neg d]
        refine ih (i + 1) k _ (by omega) (by omega) (fun h => by omega) (fun _ => ⟨by omega, by omega, fun x h2 h3 h4 => ?_⟩)
        by_cases e : x = (i : Int)
        · rw [e]
          have := G.anti (i : Int) o
          unfold ltp
          omega
        · exact g2 x h2 (by omega) h4
theorem first_ok (k : Nat) (hk : 200 ≤ k) (ls : Ls) (hl : ls.length < 20) (hx : ∀ x ∈ ls, x.length ≤ 20) : ∃ r, rank_First.f k ls = some r ∧ (ls.length = 0 → r = -1) ∧ (0 < ls.length → 0 ≤ r ∧ r < ls.length ∧ ∀ x : Int, 0 ≤ x → x < ls.length → x ≠ r → ltp ls r x) :=
  first_l0 ls hl hx ls.length 0 k (-1) (by omega) (by omega) (fun _ => rfl) (fun h => by omega)
theorem first_sorted {ls : Ls} {r : Int} (h0 : 0 ≤ r) (h1 : r < ls.length) (h : ∀ x : Int, 0 ≤ x → x < ls.length → x ≠ r → ltp ls r x) : ∃ t, sortL ls = r :: t := by
  have ho := inOrder_ex ls
  cases e : sortL ls with
  | nil =>
    rw [e] at ho
    have := ho.1.length_eq
    rw [places_len] at this
    simp at this
    omega
  | cons a t =>
    rw [e] at ho
    have ha := places_mem.1 (ho.1.mem_iff.1 (List.mem_cons_self ..))
    by_cases c : a = r
    · exact ⟨t, by rw [c]⟩
    · have hr : r ∈ a :: t := ho.1.mem_iff.2 (places_mem.2 ⟨h0, h1⟩)
      have hrt : r ∈ t := (List.mem_cons.1 hr).resolve_left (fun e => c e.symm)
      have k1 := (List.pairwise_cons.1 ho.2).1 r hrt
      exact (ltp_irrefl (ltp_trans k1 (h a ha.1 ha.2 c))).elim
end Go.Proofs.Ytfllecoenjljpaa.TotRankTells
