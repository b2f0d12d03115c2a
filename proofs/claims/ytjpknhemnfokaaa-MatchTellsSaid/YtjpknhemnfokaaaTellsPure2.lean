/- MatchTells: the plain part: what is kept, gone, left. -/
import Derived.Test.YtjpknhemnfokaaaTellsPure
set_option linter.unusedVariables false
set_option linter.unusedSimpArgs false
namespace Go.Proofs.Ytjpknhemnfokaaa.Mt
open Go.RowKit Go.Maps Go.Proofs.YtjpknhemnfokaaaW.PrintWords Go.Proofs.YtjpknhemnfokaaaW.PrintLast Go.Proofs.Ytjpknhemnfokaaa.Sl Go.Proofs.Ytjpknhemnfokaaa.Mv Go.Proofs.Ytjpknhemnfokaaa.PMatchTells

theorem same_from (l : List Int) (hl : l.length ≤ 1000000) : ∀ (d i : Nat), i + d = l.length → ∀ k, d < k → porticobook_Same_int.l0 k l l (i : Int) = some true := by
  intro d
  induction d with
  | zero =>
    intro i hi k hk
    obtain ⟨k, rfl⟩ : ∃ m, k = m + 1 := ⟨k - 1, by omega⟩
    simp only [porticobook_Same_int.l0]
    rw [if_neg (by omega)]
  | succ d ih =>
    intro i hi k hk
    obtain ⟨k, rfl⟩ : ∃ m, k = m + 1 := ⟨k - 1, by omega⟩
    have hw : wrap64 ((i : Int) + 1) = ((i + 1 : Nat) : Int) := by unfold wrap64; omega
    simp only [porticobook_Same_int.l0]
    rw [if_pos (by omega), if_pos (by omega), if_pos (by omega), if_pos trivial, hw]
    exact ih (i + 1) (by omega) k (by omega)
theorem same_self (l : List Int) (hl : l.length < 20) : porticobook_Same_int.f 20 l l = some true := by
  unfold porticobook_Same_int.f
  rw [if_pos rfl]
  exact same_from l (by omega) l.length 0 (by omega) _ (by omega)
theorem kept_from (l : List Int) (hl : l.length ≤ 1000) : ∀ (d i : Nat) (x : Int), i + d = l.length → 0 ≤ x → x ≤ i → ∀ k, d < k → match_Kept.l0 k x l (l.length : Int) (i : Int) = some (x + ((l.drop i).countP (fun y => decide (0 ≤ y)) : Int)) := by
  intro d
  induction d with
  | zero =>
    intro i x hi hx hxi k hk
    obtain ⟨k, rfl⟩ : ∃ m, k = m + 1 := ⟨k - 1, by omega⟩
    simp only [match_Kept.l0]
    rw [if_neg (by omega), List.drop_of_length_le (by omega)]
    simp
  | succ d ih =>
    intro i x hi hx hxi k hk
    obtain ⟨k, rfl⟩ : ∃ m, k = m + 1 := ⟨k - 1, by omega⟩
    have hw : wrap64 ((i : Int) + 1) = ((i + 1 : Nat) : Int) := by unfold wrap64; omega
    have hw2 : wrap64 (x + 1) = x + 1 := by unfold wrap64; omega
    have hrd : rd l (i : Int) = l[i]'(by omega) := by simp [rd, List.getD_eq_getElem?_getD, show i < l.length by omega]
    simp only [match_Kept.l0]
    rw [if_pos (by omega), if_pos (by omega), if_pos (by omega), hw, hw2, hrd, List.drop_eq_getElem_cons (show i < l.length by omega), List.countP_cons]
    by_cases c : l[i]'(by omega) ≥ 0
    · rw [if_pos c, ih (i + 1) (x + 1) (by omega) (by omega) (by omega) k (by omega), if_pos (by simpa using c)]
      congr 1
      omega
    · rw [if_neg c, ih (i + 1) x (by omega) (by omega) (by omega) k (by omega), if_neg (by simpa using c)]
      congr 1
theorem kept_cnt (l : List Int) (hl : l.length < 20) : match_Kept.f 20 l = some (l.countP (fun y => decide (0 ≤ y)) : Int) := by
  unfold match_Kept.f
  have := kept_from l (by omega) l.length 0 0 (by omega) (by omega) (by omega) 20 (by omega)
  simpa using this
/-- How many of the first j go on. -/
def kc (lo ln : List Tr) (j : Nat) : Nat := (refP lo ln j).countP (fun y => decide (0 ≤ y))
theorem kc_succ (lo ln : List Tr) (j : Nat) : kc lo ln (j + 1) = kc lo ln j + (match fst_ lo (us lo ln j) (g_ ln j) with | none => 0 | some _ => 1) := by
  unfold kc
  rw [refP_succ, List.countP_append]
  congr 1
  unfold el
  cases fst_ lo (us lo ln j) (g_ ln j) <;> simp [oi]
theorem kc_le (lo ln : List Tr) (j : Nat) : kc lo ln j ≤ j := by
  unfold kc
  have := List.countP_le_length (p := fun y => decide (0 ≤ y)) (l := refP lo ln j)
  rw [refP_len] at this
  exact this
theorem us_iff (lo ln : List Tr) (j y : Nat) : us lo ln j y = true ↔ (y : Int) ∈ refP lo ln j := by
  induction j with
  | zero => simp [us, refP]
  | succ j ih =>
    rw [refP_succ, List.mem_append, List.mem_singleton, ← ih]
    simp only [us, setU, Bool.or_eq_true, decide_eq_true_eq]
    unfold el
    cases fst_ lo (us lo ln j) (g_ ln j) with
    | none => simp [oi]
    | some x => simp [oi, Int.ofNat_inj]
theorem el_cases (lo ln : List Tr) (j : Nat) : (fst_ lo (us lo ln j) (g_ ln j) = none ∧ el lo ln j = -1 ∧ us lo ln (j + 1) = us lo ln j) ∨ ∃ x, fst_ lo (us lo ln j) (g_ ln j) = some x ∧ el lo ln j = (x : Int) ∧ us lo ln (j + 1) = setU (us lo ln j) (some x) ∧ x < lo.length ∧ us lo ln j x = false ∧ (g_ lo x).a = (g_ ln j).a ∧ (g_ lo x).b = (g_ ln j).b := by
  cases h : fst_ lo (us lo ln j) (g_ ln j) with
  | none => exact .inl ⟨rfl, by unfold el; rw [h]; rfl, by simp only [us]; rw [h, setU_none]⟩
  | some x =>
    obtain ⟨h1, h2, h3⟩ := fu_some h
    obtain ⟨h4, h5⟩ := sm_iff.1 h3
    exact .inr ⟨x, rfl, by unfold el; rw [h]; rfl, by simp only [us]; rw [h], h1, h2, h4, h5⟩
theorem el_lo (lo ln : List Tr) (j : Nat) : -1 ≤ el lo ln j ∧ el lo ln j < (lo.length : Int) + 1 := by
  rcases el_cases lo ln j with ⟨_, h, _⟩ | ⟨x, _, h, _, hx, _⟩
  · rw [h]; omega
  · rw [h]; omega
/-- What the law's own map of numbers holds: the used ones. -/
def MaskU (f : Lit → Option Value) (u : Nat → Bool) : Prop := ∀ x : Nat, f (ki x) = if u x then some (.bool true) else none
theorem MaskU.zero : MaskU (fun _ => none) (fun _ => false) := fun x => by simp
theorem MaskU.put {f : Lit → Option Value} {u : Nat → Bool} (h : MaskU f u) (x : Nat) : MaskU (upd f (ki x) (some (.bool true))) (setU u (some x)) := fun y => by
  by_cases e : x = y
  · subst e
    rw [upd_same]
    simp [setU]
  · rw [upd_other _ _ (fun h => e (by injection h with _ h; omega)), h y]
    simp [setU, Ne.symm e]
/-- The places that are not used. -/
def freeN (u : Nat → Bool) (i : Nat) : List Nat := (List.range i).filter (fun x => !u x)
theorem freeN_succ (u : Nat → Bool) (i : Nat) : freeN u (i + 1) = freeN u i ++ (if u i then [] else [i]) := by
  unfold freeN
  rw [List.range_succ, List.filter_append]
  congr 1
  by_cases h : u i = true <;> simp [h]
theorem freeN_len (u : Nat → Bool) (i : Nat) : (freeN u i).length ≤ i := by
  unfold freeN
  have := List.length_filter_le (fun x => !u x) (List.range i)
  simpa using this
theorem freeN_lt (u : Nat → Bool) (i : Nat) : ∀ x ∈ freeN u i, x < i := fun x hx => List.mem_range.1 (List.mem_filter.1 hx).1
def freeL (u : Nat → Bool) (i : Nat) : List Int := (freeN u i).map (fun (x : Nat) => (x : Int))
theorem gone_free (lo ln : List Tr) (m : Nat) : goneL m (refP lo ln ln.length) = freeL (us lo ln ln.length) m := by
  unfold goneL freeL freeN
  congr 1
  refine List.filter_congr fun i _ => ?_
  have h1 := us_iff lo ln ln.length i
  by_cases e : us lo ln ln.length i = true
  · have := h1.1 e
    have h2 : ¬ (refP lo ln ln.length).count (i : Int) = 0 := by rw [List.count_eq_zero]; simpa using this
    simp [e, h2]
  · have h2 : (refP lo ln ln.length).count (i : Int) = 0 := by rw [List.count_eq_zero]; exact fun h => e (h1.2 h)
    simp [e, h2]
/-- The trees that are not used. -/
def lf (lo : List Tr) (u : Nat → Bool) : List Tr := (freeN u lo.length).map (g_ lo)
theorem lf_len (lo : List Tr) (u : Nat → Bool) : (lf lo u).length ≤ lo.length := by unfold lf; rw [List.length_map]; exact freeN_len _ _
theorem lf_zero (lo : List Tr) : lf lo (fun _ => false) = lo := by
  unfold lf freeN
  rw [List.filter_eq_self.2 (by simp)]
  refine List.ext_getElem (by simp) fun i h1 h2 => ?_
  rw [List.getElem_map, List.getElem_range]
  exact g_get lo i h2
theorem fst_free (lo : List Tr) (u : Nat → Bool) (t : Tr) : fst_ lo u t = (freeN u lo.length).find? (fun x => sm (g_ lo x) t) := by
  unfold freeN
  rw [List.find?_filter]
  unfold fst_ fu
  congr 1
  funext a
  by_cases h : u a = true <;> simp [h]
theorem nodup_cut {R : List Nat} (h : R.Nodup) (i : Nat) (hi : i < R.length) : R.take i ++ R.drop (i + 1) = R.filter (fun x => decide (x ≠ R[i])) := by
  obtain ⟨x, hx⟩ : ∃ x, R[i] = x := ⟨_, rfl⟩
  have h1 : R = R.take i ++ x :: R.drop (i + 1) := by rw [← hx, ← List.drop_eq_getElem_cons hi, List.take_append_drop]
  have h2 := h
  rw [h1, List.nodup_append] at h2
  obtain ⟨_, h3, h4⟩ := h2
  have h5 := (List.nodup_cons.1 h3).1
  rw [hx]
  conv => rhs; rw [h1]
  rw [List.filter_append, List.filter_cons_of_neg (by simp), List.filter_eq_self.2, List.filter_eq_self.2]
  · intro a ha
    simp only [decide_eq_true_eq]
    exact fun e => h5 (e ▸ ha)
  · intro a ha
    simp only [decide_eq_true_eq]
    exact h4 a ha x (by simp)
theorem free_none (lo : List Tr) (u : Nat → Bool) (t : Tr) (h : ∀ i < (lf lo u).length, sm (g_ (lf lo u) i) t = false) : fst_ lo u t = none := by
  rw [fst_free, List.find?_eq_none]
  intro x hx
  obtain ⟨i, hi, rfl⟩ := List.getElem_of_mem hx
  have h1 := h i (by unfold lf; rw [List.length_map]; exact hi)
  rw [g_get _ _ (by unfold lf; rw [List.length_map]; exact hi)] at h1
  unfold lf at h1
  rw [List.getElem_map] at h1
  simp [h1]
theorem free_some (lo : List Tr) (u : Nat → Bool) (t : Tr) (i : Nat) (hi : i < (lf lo u).length) (h : ∀ j < i, sm (g_ (lf lo u) j) t = false) (hs : sm (g_ (lf lo u) i) t = true) : ∃ x, fst_ lo u t = some x ∧ (lf lo u).take i ++ (lf lo u).drop (i + 1) = lf lo (setU u (some x)) := by
  have hl : (lf lo u).length = (freeN u lo.length).length := by unfold lf; rw [List.length_map]
  have hg : ∀ j (hj : j < (freeN u lo.length).length), g_ (lf lo u) j = g_ lo (freeN u lo.length)[j] := fun j hj => by
    rw [g_get _ _ (by rw [hl]; exact hj)]
    unfold lf
    rw [List.getElem_map]
  have hi' : i < (freeN u lo.length).length := by rw [← hl]; exact hi
  refine ⟨(freeN u lo.length)[i], ?_, ?_⟩
  · rw [fst_free, List.find?_eq_some_iff_getElem]
    refine ⟨by rw [← hg i hi']; exact hs, i, hi', rfl, fun j hj => ?_⟩
    have h1 := h j hj
    rw [hg j (by omega)] at h1
    simp [h1]
  · unfold lf
    rw [← List.map_take, ← List.map_drop, ← List.map_append, nodup_cut (show (freeN u lo.length).Nodup from List.nodup_range.sublist List.filter_sublist) i hi']
    congr 1
    generalize (freeN u lo.length)[i] = x
    unfold freeN
    rw [List.filter_filter]
    refine List.filter_congr fun a _ => ?_
    by_cases e : a = x
    · simp [setU, e]
    · simp [setU, e]
end Go.Proofs.Ytjpknhemnfokaaa.Mt
