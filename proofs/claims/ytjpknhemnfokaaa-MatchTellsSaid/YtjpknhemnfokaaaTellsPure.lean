/- MatchTells: the plain part: the document's matching, step by step. -/
import Derived.Test.YtjpknhemnfokaaaKids
set_option linter.unusedVariables false
set_option linter.unusedSimpArgs false
namespace Go.Proofs.Ytjpknhemnfokaaa.Mt
open Go.RowKit Go.Maps Go.Proofs.YtjpknhemnfokaaaW.PrintWords Go.Proofs.YtjpknhemnfokaaaW.PrintLast Go.Proofs.Ytjpknhemnfokaaa.Sl Go.Proofs.Ytjpknhemnfokaaa.Mv Go.Proofs.Ytjpknhemnfokaaa.PMatchTells

def t0 : Tr := ⟨⟨#[]⟩, ⟨#[]⟩, ⟨#[]⟩⟩
def g_ (l : List Tr) (i : Nat) : Tr := l.getD i t0
theorem g_get (l : List Tr) (i : Nat) (h : i < l.length) : g_ l i = l[i] := by simp [g_, List.getD_eq_getElem?_getD, h]
def sm (s t : Tr) : Bool := decide (s.a = t.a) && decide (s.b = t.b)
theorem sm_iff {s t : Tr} : sm s t = true ↔ s.a = t.a ∧ s.b = t.b := by simp [sm]
/-- The first of the first i that is not used and goes with t. -/
def fu (lo : List Tr) (u : Nat → Bool) (t : Tr) (i : Nat) : Option Nat := (List.range i).find? (fun j => !u j && sm (g_ lo j) t)
theorem fu_succ (lo : List Tr) (u : Nat → Bool) (t : Tr) (i : Nat) : fu lo u t (i + 1) = (fu lo u t i).or (if !u i && sm (g_ lo i) t then some i else none) := by
  unfold fu
  rw [List.range_succ, List.find?_append]
  congr 1
  by_cases h : (!u i && sm (g_ lo i) t) = true <;> simp [List.find?, h]
theorem fu_some {lo : List Tr} {u : Nat → Bool} {t : Tr} {i x : Nat} (h : fu lo u t i = some x) : x < i ∧ u x = false ∧ sm (g_ lo x) t = true := by
  unfold fu at h
  have h1 := List.find?_some h
  have h2 := List.mem_of_find?_eq_some h
  simp at h1
  exact ⟨List.mem_range.1 h2, h1.1, h1.2⟩
abbrev fst_ (lo : List Tr) (u : Nat → Bool) (t : Tr) : Option Nat := fu lo u t lo.length
def setU (u : Nat → Bool) (o : Option Nat) : Nat → Bool := fun y => u y || decide (some y = o)
theorem setU_none (u : Nat → Bool) : setU u none = u := by funext y; simp [setU]
def us (lo ln : List Tr) : Nat → (Nat → Bool)
  | 0 => fun _ => false
  | j + 1 => setU (us lo ln j) (fst_ lo (us lo ln j) (g_ ln j))
def oi (o : Option Nat) : Int := match o with | none => -1 | some x => (x : Int)
def el (lo ln : List Tr) (j : Nat) : Int := oi (fst_ lo (us lo ln j) (g_ ln j))
def refP (lo ln : List Tr) (m : Nat) : List Int := (List.range m).map (el lo ln)
theorem refP_succ (lo ln : List Tr) (m : Nat) : refP lo ln (m + 1) = refP lo ln m ++ [el lo ln m] := by unfold refP; rw [List.range_succ, List.map_append]; rfl
theorem refP_len (lo ln : List Tr) (m : Nat) : (refP lo ln m).length = m := by simp [refP]
def refGo (lo : List Tr) : (Nat → Bool) → List Tr → List Int
  | _, [] => []
  | u, t :: r => oi (fst_ lo u t) :: refGo lo (setU u (fst_ lo u t)) r
theorem refGo_drop (lo ln : List Tr) (j : Nat) (hj : j ≤ ln.length) : refP lo ln j ++ refGo lo (us lo ln j) (ln.drop j) = refGo lo (us lo ln 0) ln := by
  induction j with
  | zero => simp [refP]
  | succ j ih =>
    rw [← ih (by omega), List.drop_eq_getElem_cons (show j < ln.length by omega), refP_succ, List.append_assoc]
    congr 1
    rw [← g_get ln j (by omega)]
    rfl
theorem refGo_all (lo ln : List Tr) : refGo lo (us lo ln 0) ln = refP lo ln ln.length := by
  rw [← refGo_drop lo ln ln.length (Nat.le_refl _), List.drop_length]
  simp [refGo]
theorem places_filter (lo : List Tr) (k : Lit) : ∀ m ≤ lo.length, ∃ q : Nat → Bool, (∀ i < lo.length, q i = true ↔ kk (g_ lo i) = k) ∧ places lo m k = ((List.range m).filter q).map (fun (i : Nat) => (i : Int)) := by
  classical
  intro m hm
  refine ⟨fun i => decide (kk (g_ lo i) = k), fun i _ => by simp, ?_⟩
  induction m with
  | zero => simp [places]
  | succ m ih =>
    rw [places_succ lo m (by omega), List.range_succ, List.filter_append, List.map_append, ← ih (by omega), ← g_get lo m (by omega)]
    by_cases e : k = kk (g_ lo m)
    · rw [← e, upd_same]
      simp [e]
    · rw [upd_other _ _ e]
      simp [Ne.symm e]
theorem small_sz {l : List Tr} (h : Small l) : ∀ t ∈ l, t.a.size ≤ maxLen ∧ t.b.size ≤ maxLen := fun t ht => sz t (h t ht)
theorem small_g {l : List Tr} (h : Small l) (i : Nat) (hi : i < l.length) : (g_ l i).a.size ≤ maxLen ∧ (g_ l i).b.size ≤ maxLen := by
  rw [g_get l i hi]
  exact small_sz h _ (List.getElem_mem hi)
theorem kk_sm {s t : Tr} (hs : s.a.size ≤ maxLen ∧ s.b.size ≤ maxLen) (ht : t.a.size ≤ maxLen ∧ t.b.size ≤ maxLen) : kk s = kk t ↔ sm s t = true := by
  rw [sm_iff]
  constructor
  · intro h
    exact kq_inj hs.1 hs.2 ht.1 ht.2 h
  · rintro ⟨h1, h2⟩
    unfold kk
    rw [h1, h2]
theorem fromGo_ref (lo : List Tr) (hlo : Small lo) : ∀ (l : List Tr) (hl : Small l) (u : Nat → Bool) (p : Lit → List Int), (∀ t : Tr, (t.a.size ≤ maxLen ∧ t.b.size ≤ maxLen) → p (kk t) = ((List.range lo.length).filter (fun i => !u i && sm (g_ lo i) t)).map (fun (i : Nat) => (i : Int))) → fromGo p l = refGo lo u l := by
  intro l
  induction l with
  | nil => intro _ u p _; rfl
  | cons t r ih =>
    intro hl u p hp
    have ht := small_sz hl t (by simp)
    have h1 := hp t ht
    have hf : fst_ lo u t = ((List.range lo.length).filter (fun i => !u i && sm (g_ lo i) t)).head? := by rw [List.head?_filter]; rfl
    simp only [fromGo, refGo]
    cases e : (List.range lo.length).filter (fun i => !u i && sm (g_ lo i) t) with
    | nil =>
      rw [e] at h1 hf
      rw [h1, hf]
      simp only [List.map_nil, List.head?_nil, oi, setU_none]
      congr 1
      exact ih (fun t h => hl t (by simp [h])) u p hp
    | cons x xs =>
      rw [e] at h1 hf
      rw [h1, hf]
      simp only [List.map_cons, List.head?_cons, oi]
      congr 1
      refine ih (fun t h => hl t (by simp [h])) _ _ fun s hs => ?_
      have hx := fu_some (show fu lo u t lo.length = some x from hf)
      have hxx := small_g hlo x hx.1
      by_cases c : kk s = kk t
      · rw [c, upd_same]
        have hst := (kk_sm hs ht).1 c
        have hsame : ∀ i, sm (g_ lo i) s = sm (g_ lo i) t := fun i => by
          obtain ⟨e1, e2⟩ := sm_iff.1 hst
          unfold sm
          rw [e1, e2]
        have hnd : ((List.range lo.length).filter (fun i => !u i && sm (g_ lo i) t)).Nodup := List.nodup_range.sublist List.filter_sublist
        rw [e] at hnd
        have hxn := (List.nodup_cons.1 hnd).1
        have h2 : (List.range lo.length).filter (fun i => !setU u (some x) i && sm (g_ lo i) s) = xs := by
          have h3 : (fun i => !setU u (some x) i && sm (g_ lo i) s) = fun i => (decide (i ≠ x)) && (!u i && sm (g_ lo i) t) := by
            funext i
            rw [hsame i]
            by_cases e1 : i = x
            · simp [setU, e1]
            · simp [setU, e1]
          rw [h3, ← List.filter_filter, e]
          have h4 : xs.filter (fun i => decide (i ≠ x)) = xs := List.filter_eq_self.2 fun a ha => by
            simp only [decide_eq_true_eq]
            exact fun e1 => hxn (e1 ▸ ha)
          rw [List.filter_cons_of_neg (by simp), h4]
        rw [h2]
      · rw [upd_other _ _ c, hp s hs]
        congr 1
        refine List.filter_congr fun i hi => ?_
        by_cases e1 : i = x
        · subst e1
          have : sm (g_ lo i) s = false := by
            rw [Bool.eq_false_iff]
            intro h
            exact c ((kk_sm hs hxx).2 (by obtain ⟨a1, a2⟩ := sm_iff.1 h; exact sm_iff.2 ⟨a1.symm, a2.symm⟩) |>.trans ((kk_sm hxx ht).2 hx.2.2))
          simp [this]
        · simp [setU, e1]
theorem from_ref (lo ln : List Tr) (h1 : Small lo) (h2 : Small ln) : fromL lo ln = refP lo ln ln.length := by
  rw [← refGo_all]
  unfold fromL
  refine fromGo_ref lo h1 ln h2 _ _ fun t ht => ?_
  obtain ⟨q, hq, hp⟩ := places_filter lo (kk t) lo.length (Nat.le_refl _)
  rw [hp]
  congr 1
  refine List.filter_congr fun i hi => ?_
  have hi' := List.mem_range.1 hi
  have h3 := hq i hi'
  rw [kk_sm (small_g h1 i hi') ht] at h3
  have : q i = sm (g_ lo i) t := by
    by_cases e : sm (g_ lo i) t = true
    · rw [e]; exact h3.2 e
    · rw [Bool.eq_false_iff.2 e, Bool.eq_false_iff]
      exact fun h => e (h3.1 h)
  rw [this]
  simp [us]
end Go.Proofs.Ytjpknhemnfokaaa.Mt
