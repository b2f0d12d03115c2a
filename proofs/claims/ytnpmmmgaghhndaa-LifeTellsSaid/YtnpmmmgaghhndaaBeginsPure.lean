/- LifeBegins: the plain law. -/
import Derived.Test.YtnpmmmgaghhndaaPLifeBeginsx1
set_option linter.unusedSimpArgs false
set_option linter.unusedVariables false
namespace Go.Proofs.Ytnpmmmgaghhndaa.Lf
open Go.RowKit Go.Proofs.Ytnpmmmgaghhndaa.PLifeBegins Go.Proofs.YtnpmmmgaghhndaaW.PrintWords Go.Proofs.YtnpmmmgaghhndaaW.PrintLast Go.Proofs.Ytnpmmmgaghhndaa.Given Go.Proofs.Ytnpmmmgaghhndaa.Lf

abbrev Ev := S23
/-- The log so far comes to these states, however it goes on. -/
def RS (l : List Ev) (m : Int → Option Int) (last : Int) : Prop := ∀ t, readGo (l ++ t) (fun _ => none) 0 = readGo t m last
theorem RS.nil : RS [] (fun _ => none) 0 := fun t => rfl
theorem RS.read {l : List Ev} {m : Int → Option Int} {last : Int} (h : RS l m last) : readP l = (m, true) := by
  have := h []
  rw [List.append_nil] at this
  exact this
theorem RS.more {l : List Ev} {m : Int → Option Int} {last : Int} (h : RS l m last) (e : Ev) (hok : (nextP (getS m e.f1) e.f0).2 = true) (h1 : 1 ≤ e.f1) (hm : e.f0 = 1 → last < e.f1) : RS (l ++ [e]) (updI m e.f1 (nextP (getS m e.f1) e.f0).1) (if e.f0 = 1 then e.f1 else last) := by
  intro t
  rw [List.append_assoc, h ([e] ++ t)]
  show readGo (e :: t) m last = _
  rw [readGo, if_neg (by rw [hok]; decide), if_neg (by omega)]
  by_cases c : e.f0 = 1
  · rw [if_pos c, if_neg (by have := hm c; omega), if_pos c]
  · rw [if_neg c, if_neg c]
theorem read_pre : ∀ (a b : List Ev) (m : Int → Option Int) (last : Int), (readGo (a ++ b) m last).2 = true → (readGo a m last).2 = true
  | [], b, m, last, _ => rfl
  | e :: t, b, m, last, h => by
    have ih := fun m' last' => read_pre t b m' last'
    rw [List.cons_append] at h
    unfold readGo at h ⊢
    by_cases c1 : (nextP (getS m e.f1) e.f0).2 = false
    · rw [if_pos c1] at h; cases h
    · rw [if_neg c1] at h ⊢
      by_cases c2 : e.f1 < 1
      · rw [if_pos c2] at h; cases h
      · rw [if_neg c2] at h ⊢
        by_cases c3 : e.f0 = 1
        · rw [if_pos c3] at h ⊢
          by_cases c4 : e.f1 ≤ last
          · rw [if_pos c4] at h; cases h
          · rw [if_neg c4] at h ⊢; exact ih _ _ h
        · rw [if_neg c3] at h ⊢; exact ih _ _ h
theorem RS.take {l : List Ev} {m : Int → Option Int} {last : Int} (h : RS l m last) (c : Nat) : (readP (l.take c)).2 = true := by
  have h1 := h.read
  refine read_pre (l.take c) (l.drop c) _ _ ?_
  rw [List.take_append_drop]
  show (readP l).2 = true
  rw [h1]
/-- The numbers up to top have been mounted, no others. -/
def Tops (m : Int → Option Int) (top : Int) : Prop := 0 ≤ top ∧ ∀ n, (1 ≤ n ∧ n ≤ top ↔ getS m n ≠ 0) ∧ (m n ≠ none → 1 ≤ n ∧ n ≤ top)
theorem Tops.nil : Tops (fun _ => none) 0 := ⟨Int.le_refl _, fun n => ⟨⟨fun h => by omega, fun h => absurd rfl h⟩, fun h => absurd rfl h⟩⟩
theorem next_pos (s k : Int) (h : (nextP s k).2 = true) : (nextP s k).1 ≠ 0 ∧ (s = 0 ↔ k = 1) := by
  unfold nextP at *
  split
  · next c => exact ⟨by decide, by omega⟩
  · next c =>
    rw [if_neg c] at h
    split
    · exact ⟨by decide, by omega⟩
    · next c2 =>
      rw [if_neg c2] at h
      split
      · exact ⟨by decide, by omega⟩
      · next c3 => rw [if_neg c3] at h; cases h
theorem next_same (s k : Int) (h : (nextP s k).2 = false) : (nextP s k).1 = s := by
  unfold nextP at *
  split
  · next c => rw [if_pos c] at h; cases h
  · next c =>
    rw [if_neg c] at h
    split
    · next c2 => rw [if_pos c2] at h; cases h
    · next c2 =>
      rw [if_neg c2] at h
      split
      · next c3 => rw [if_pos c3] at h; cases h
      · rfl
theorem Tops.more {m : Int → Option Int} {top : Int} (h : Tops m top) (n k : Int) (h1 : 1 ≤ n) (h2 : n ≤ top + 1) (hok : (nextP (getS m n) k).2 = true) : Tops (updI m n (nextP (getS m n) k).1) (if top < n then n else top) ∧ (k = 1 ↔ top < n) := by
  obtain ⟨p1, p2⟩ := next_pos _ _ hok
  have hz := (h.2 n).1
  have hk : k = 1 ↔ top < n := by
    rw [← p2]
    constructor
    · intro e
      exact Int.not_le.1 fun hle => hz.1 ⟨h1, hle⟩ e
    · intro hlt
      exact Classical.byContradiction fun hne => by have := hz.2 hne; omega
  refine ⟨⟨by split <;> have := h.1 <;> omega, fun x => ?_⟩, hk⟩
  have hx := h.2 x
  have e1 : getS (updI m n (nextP (getS m n) k).1) x = if x = n then (nextP (getS m n) k).1 else getS m x := by unfold getS updI; split <;> rfl
  rw [e1]
  by_cases e : x = n
  · subst e
    rw [if_pos rfl]
    exact ⟨⟨fun _ => p1, fun _ => ⟨h1, by split <;> omega⟩⟩, fun _ => ⟨h1, by split <;> omega⟩⟩
  · rw [if_neg e]
    have e2 : updI m n (nextP (getS m n) k).1 x = m x := by unfold updI; rw [if_neg e]
    rw [e2]
    refine ⟨⟨fun hh => hx.1.1 ⟨hh.1, ?_⟩, fun hh => ?_⟩, fun hh => ?_⟩
    · by_cases c : top < n
      · rw [if_pos c] at hh; omega
      · rw [if_neg c] at hh; omega
    · have := hx.1.2 hh
      exact ⟨this.1, by split <;> omega⟩
    · have := hx.2 hh
      exact ⟨this.1, by split <;> omega⟩
/-- The shown ones below a number, rising. -/
def wantL (m : Int → Option Int) : Nat → List Int
  | 0 => []
  | n + 1 => wantL m n ++ (if getS m ((n + 1 : Nat) : Int) = 1 then [((n + 1 : Nat) : Int)] else [])
theorem wantL_mem (m : Int → Option Int) : ∀ (n : Nat) (x : Int), x ∈ wantL m n ↔ 1 ≤ x ∧ x ≤ (n : Int) ∧ getS m x = 1
  | 0, x => by simp [wantL]; omega
  | n + 1, x => by
    unfold wantL
    rw [List.mem_append, wantL_mem m n x]
    by_cases c : getS m ((n + 1 : Nat) : Int) = 1
    · rw [if_pos c, List.mem_singleton]
      constructor
      · rintro (h | rfl)
        · exact ⟨h.1, by omega, h.2.2⟩
        · exact ⟨by omega, Int.le_refl _, c⟩
      · intro h
        by_cases e : x = ((n + 1 : Nat) : Int)
        · exact .inr e
        · exact .inl ⟨h.1, by omega, h.2.2⟩
    · rw [if_neg c]
      constructor
      · rintro (h | h)
        · exact ⟨h.1, by omega, h.2.2⟩
        · cases h
      · intro h
        refine .inl ⟨h.1, ?_, h.2.2⟩
        have : x ≠ ((n + 1 : Nat) : Int) := by rintro rfl; exact c h.2.2
        omega
theorem wantL_up (m : Int → Option Int) : ∀ n : Nat, (wantL m n).Pairwise (· < ·)
  | 0 => List.Pairwise.nil
  | n + 1 => by
    unfold wantL
    rw [List.pairwise_append]
    refine ⟨wantL_up m n, by split <;> simp, fun a ha b hb => ?_⟩
    have := (wantL_mem m n a).1 ha
    split at hb
    · rw [List.mem_singleton] at hb; omega
    · cases hb
theorem wantL_len (m : Int → Option Int) : ∀ n : Nat, (wantL m n).length ≤ n
  | 0 => Nat.le_refl _
  | n + 1 => by
    unfold wantL
    rw [List.length_append]
    have := wantL_len m n
    split <;> simp <;> omega
theorem want_alive {l : List Ev} {m : Int → Option Int} {last : Int} (h : RS l m last) (top : Nat) (ht : Tops m (top : Int)) : aliveL l = wantL m top := by
  refine alive_eq ⟨wantL_up m top, fun n => ?_⟩
  rw [h.read, wantL_mem]
  show _ ↔ m n = some 1
  constructor
  · intro hh
    have := hh.2.2
    unfold getS at this
    cases e : m n with
    | none => rw [e] at this; simp at this
    | some v => rw [e] at this; simp at this; rw [this]
  · intro e
    have hr := (ht.2 n).2 (by rw [e]; simp)
    exact ⟨hr.1, hr.2, by unfold getS; rw [e]; rfl⟩
end Go.Proofs.Ytnpmmmgaghhndaa.Lf
