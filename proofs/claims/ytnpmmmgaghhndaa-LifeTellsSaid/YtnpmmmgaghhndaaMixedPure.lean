/- LifeMixed: the plain law. -/
import Derived.Test.YtnpmmmgaghhndaaLifeBegins
set_option linter.unusedSimpArgs false
set_option linter.unusedVariables false
namespace Go.Proofs.Ytnpmmmgaghhndaa.Lf
open Go.RowKit Go.Proofs.Ytnpmmmgaghhndaa.PLifeBegins Go.Proofs.YtnpmmmgaghhndaaW.PrintWords Go.Proofs.YtnpmmmgaghhndaaW.PrintLast Go.Proofs.Ytnpmmmgaghhndaa.Given Go.Proofs.Ytnpmmmgaghhndaa.Lf

/-- A row of kinds, from a state on. -/
def ch : List Int → Int → Option Int
  | [], s => some s
  | k :: t, s => if (nextP s k).2 = true then ch t (nextP s k).1 else none
theorem ch_app : ∀ (a b : List Int) (s : Int), ch (a ++ b) s = (ch a s).bind (ch b)
  | [], b, s => rfl
  | k :: t, b, s => by
    show (if (nextP s k).2 = true then ch (t ++ b) (nextP s k).1 else none) = ((if (nextP s k).2 = true then ch t (nextP s k).1 else none)).bind (ch b)
    by_cases c : (nextP s k).2 = true
    · rw [if_pos c, if_pos c]; exact ch_app t b _
    · rw [if_neg c, if_neg c]; rfl
theorem ch_one (s k q : Int) (h : ch [k] s = some q) : (nextP s k).2 = true ∧ q = (nextP s k).1 := by
  unfold ch at h
  by_cases c : (nextP s k).2 = true
  · rw [if_pos c] at h
    exact ⟨c, (Option.some.inj h).symm⟩
  · rw [if_neg c] at h
    cases h
abbrev kinds (l : List Ev) : List Int := l.map (·.f0)
theorem ch_step {l : List Ev} {s : Int} (h : ch (kinds l) 0 = some s) (i : Nat) (hi : i < l.length) (q : Int) (hq : ch (kinds (l.take i)) 0 = some q) : (nextP q l[i].f0).2 = true ∧ ch (kinds (l.take (i + 1))) 0 = some (nextP q l[i].f0).1 := by
  have e1 : l.take (i + 1) = l.take i ++ [l[i]] := List.take_succ_eq_append_getElem hi
  have e2 : kinds (l.take (i + 1)) = kinds (l.take i) ++ [l[i].f0] := by
    show (l.take (i + 1)).map (·.f0) = (l.take i).map (·.f0) ++ [l[i].f0]
    rw [e1, List.map_append]
    rfl
  have e3 : kinds l = kinds (l.take (i + 1)) ++ kinds (l.drop (i + 1)) := by rw [← List.map_append, List.take_append_drop]
  rw [e3, ch_app] at h
  have e4 : ch (kinds (l.take (i + 1))) 0 = ch [l[i].f0] q := by rw [e2, ch_app, hq]; rfl
  cases e5 : ch (kinds (l.take (i + 1))) 0 with
  | none => rw [e5] at h; cases h
  | some r =>
    rw [e4] at e5
    obtain ⟨h1, h2⟩ := ch_one _ _ _ e5
    exact ⟨h1, by rw [h2]⟩
/-- What the law's own grow makes. -/
structure Gr (num : Int) (out : List Ev) (s : Int) : Prop where
  rs : ∃ m, RS out m num ∧ m num = some s ∧ ∀ n, n ≠ num → m n = none
  ch : ch (kinds out) 0 = some s
  nums : ∀ e ∈ out, e.f1 = num
  first : ∃ t : List Ev, out = (⟨1, num⟩ : Ev) :: t ∧ ∀ e ∈ t, e.f0 ≠ 1
theorem Gr.begin (num : Int) (h1 : 1 ≤ num) : Gr num [⟨1, num⟩] 1 := by
  have h := RS.nil.more (⟨1, num⟩ : Ev) rfl h1 (fun _ => by show (0 : Int) < num; omega)
  refine ⟨⟨_, h, by unfold updI; exact if_pos rfl, fun n hn => by unfold updI; exact if_neg hn⟩, rfl, fun e he => by rw [List.mem_singleton.1 he], ⟨[], rfl, fun e he => by cases he⟩⟩
theorem Gr.more {num : Int} {out : List Ev} {s : Int} (h : Gr num out s) (h1 : 1 ≤ num) (k : Int) (hk : k ≠ 1) (hok : (nextP s k).2 = true) : Gr num (out ++ [⟨k, num⟩]) (nextP s k).1 := by
  obtain ⟨⟨m, r1, r2, r3⟩, c, n, ⟨t, ht, hf⟩⟩ := h
  have hg : getS m num = s := by unfold getS; rw [r2]; rfl
  have hr := r1.more (⟨k, num⟩ : Ev) (by show (nextP (getS m num) k).2 = true; rw [hg]; exact hok) h1 (fun e => absurd e hk)
  rw [if_neg (show ¬ (⟨k, num⟩ : Ev).f0 = 1 from hk)] at hr
  refine ⟨⟨_, hr, ?_, fun x hx => ?_⟩, ?_, fun e he => ?_, ⟨t ++ [⟨k, num⟩], by rw [ht]; rfl, fun e he => ?_⟩⟩
  · show updI m num (nextP (getS m num) k).1 num = _
    unfold updI
    rw [if_pos rfl, hg]
  · show updI m num (nextP (getS m num) k).1 x = none
    unfold updI
    rw [if_neg hx]
    exact r3 x hx
  · show Go.Proofs.Ytnpmmmgaghhndaa.Lf.ch ((out ++ [(⟨k, num⟩ : Ev)]).map (fun e : Ev => e.f0)) 0 = _
    rw [List.map_append, ch_app, c]
    show Go.Proofs.Ytnpmmmgaghhndaa.Lf.ch [k] s = _
    unfold Go.Proofs.Ytnpmmmgaghhndaa.Lf.ch
    rw [if_pos hok]
    rfl
  · rcases List.mem_append.1 he with he | he
    · exact n e he
    · rw [List.mem_singleton.1 he]
  · rcases List.mem_append.1 he with he | he
    · exact hf e he
    · rw [List.mem_singleton.1 he]; exact hk
theorem Gr.get {num : Int} {out : List Ev} {s : Int} (h : Gr num out s) (i : Nat) (hi : i < out.length) : out[i].f1 = num ∧ (out[i].f0 = 1 ↔ i = 0) := by
  refine ⟨h.nums _ (List.getElem_mem hi), ?_⟩
  obtain ⟨t, ht, hf⟩ := h.first
  subst ht
  cases i with
  | zero => exact ⟨fun _ => rfl, fun _ => rfl⟩
  | succ i => exact ⟨fun e => absurd e (hf _ (List.getElem_mem _)), fun e => by omega⟩
/-- Mixed so far. -/
structure Mx (x y all : List Ev) (i j : Nat) : Prop where
  st : ∃ m s s2, RS all m (if j = 0 then 1 else 2) ∧ ch (kinds (x.take i)) 0 = some s ∧ m 1 = some s ∧ ch (kinds (y.take j)) 0 = some s2 ∧ getS m 2 = s2 ∧ (j = 0 → m 2 = none) ∧ (j ≠ 0 → m 2 = some s2) ∧ ∀ n, n ≠ 1 → n ≠ 2 → m n = none
  len : all.length = i + j
  two : all.filter (fun e => e.f1 == 2) = y.take j
  nums : ∀ e ∈ all, 1 ≤ e.f1 ∧ e.f1 ≤ 2
theorem Mx.begin {x y : List Ev} {sx : Int} (hx : Gr 1 x sx) (h : 0 < x.length) : Mx x y [x[0]] 1 0 := by
  obtain ⟨t, ht, _⟩ := hx.first
  subst ht
  have hr := RS.nil.more (⟨1, 1⟩ : Ev) rfl (by decide) (fun _ => by decide)
  refine ⟨⟨_, 1, 0, hr, rfl, rfl, rfl, rfl, fun _ => rfl, fun h => absurd rfl h, fun n h1 _ => ?_⟩, rfl, rfl, fun e he => ?_⟩
  · show updI (fun _ => none) 1 1 n = none
    unfold updI
    exact if_neg h1
  · rw [List.mem_singleton.1 he]
    exact ⟨by show (1 : Int) ≤ 1; decide, by show (1 : Int) ≤ 2; decide⟩
theorem Mx.stepX {x y all : List Ev} {i j : Nat} {sx : Int} (h : Mx x y all i j) (hx : Gr 1 x sx) (hi : i < x.length) (h1 : 1 ≤ i) : Mx x y (all ++ [x[i]]) (i + 1) j := by
  obtain ⟨⟨m, s, s2, r1, r2, r3, r4, r5, r6, r7, r8⟩, l, t, n⟩ := h
  obtain ⟨g1, g2⟩ := hx.get i hi
  have hne : x[i].f0 ≠ 1 := fun e => by have := g2.1 e; omega
  obtain ⟨c1, c2⟩ := ch_step hx.ch i hi s r2
  have hg : getS m x[i].f1 = s := by rw [g1]; unfold getS; rw [r3]; rfl
  have hr := r1.more x[i] (by rw [hg]; exact c1) (by rw [g1]; decide) (fun e => absurd e hne)
  rw [if_neg hne, hg, g1] at hr
  refine ⟨⟨_, _, s2, hr, c2, by unfold updI; exact if_pos rfl, r4, ?_, fun h => ?_, fun h => ?_, fun q h1 h2 => ?_⟩, by rw [List.length_append, l]; show i + j + 1 = i + 1 + j; omega, ?_, fun e he => ?_⟩
  · rw [← r5]; unfold getS updI; rw [if_neg (by decide)]
  · unfold updI; rw [if_neg (by decide)]; exact r6 h
  · unfold updI; rw [if_neg (by decide)]; exact r7 h
  · unfold updI; rw [if_neg h1]; exact r8 q h1 h2
  · rw [List.filter_append, t, List.filter_cons_of_neg (by rw [g1]; decide), List.filter_nil, List.append_nil]
  · rcases List.mem_append.1 he with he | he
    · exact n e he
    · rw [List.mem_singleton.1 he, g1]; exact ⟨by decide, by decide⟩
theorem Mx.stepY {x y all : List Ev} {i j : Nat} {sy : Int} (h : Mx x y all i j) (hy : Gr 2 y sy) (hj : j < y.length) : Mx x y (all ++ [y[j]]) i (j + 1) := by
  obtain ⟨⟨m, s, s2, r1, r2, r3, r4, r5, r6, r7, r8⟩, l, t, n⟩ := h
  obtain ⟨g1, g2⟩ := hy.get j hj
  obtain ⟨c1, c2⟩ := ch_step hy.ch j hj s2 r4
  have hg : getS m y[j].f1 = s2 := by rw [g1]; exact r5
  have hr := r1.more y[j] (by rw [hg]; exact c1) (by rw [g1]; decide) (fun e => by rw [g1, if_pos (g2.1 e)]; decide)
  have hl : (if y[j].f0 = 1 then y[j].f1 else if j = 0 then (1 : Int) else 2) = if j + 1 = 0 then 1 else 2 := by
    rw [if_neg (show ¬ j + 1 = 0 by omega)]
    by_cases e : j = 0
    · rw [if_pos (g2.2 e), g1]
    · rw [if_neg (fun h => e (g2.1 h)), if_neg e]
  rw [hl, hg, g1] at hr
  refine ⟨⟨_, s, _, hr, r2, ?_, c2, ?_, fun h => by omega, fun h => ?_, fun q h1 h2 => ?_⟩, by rw [List.length_append, l]; rfl, ?_, fun e he => ?_⟩
  · unfold updI; rw [if_neg (by decide)]; exact r3
  · unfold getS updI; rw [if_pos rfl]; rfl
  · unfold updI; rw [if_pos rfl]
  · unfold updI; rw [if_neg h2]; exact r8 q h1 h2
  · rw [List.filter_append, t, List.filter_cons_of_pos (by rw [g1]; decide), List.filter_nil]
    exact (List.take_succ_eq_append_getElem hj).symm
  · rcases List.mem_append.1 he with he | he
    · exact n e he
    · rw [List.mem_singleton.1 he, g1]; exact ⟨by decide, by decide⟩
theorem Gr.alive {num : Int} {out : List Ev} {s : Int} (h : Gr num out s) : aliveL out = if s = 1 then [num] else [] := by
  obtain ⟨m, r1, r2, r3⟩ := h.rs
  refine alive_eq ⟨by split <;> simp, fun n => ?_⟩
  rw [r1.read]
  show _ ↔ m n = some 1
  by_cases e : n = num
  · subst e
    rw [r2]
    by_cases c : s = 1
    · simp [c]
    · simp [c]
  · rw [r3 n e]
    by_cases c : s = 1
    · simp [c, e]
    · simp [c]
theorem Mx.done {x y all : List Ev} {sx sy : Int} (h : Mx x y all x.length y.length) (hx : Gr 1 x sx) (hy : Gr 2 y sy) (h0 : 0 < y.length) : (readP all).2 = true ∧ (aliveL all).length = (aliveL x).length + (aliveL y).length ∧ all.filter (fun e => e.f1 == 2) = y ∧ all.length = x.length + y.length := by
  obtain ⟨⟨m, s, s2, r1, r2, r3, r4, r5, r6, r7, r8⟩, l, t, n⟩ := h
  rw [List.take_length] at r2 r4 t
  rw [hx.ch] at r2
  rw [hy.ch] at r4
  have e1 := Option.some.inj r2
  have e2 := Option.some.inj r4
  subst e1 e2
  have m2 := r7 (by omega)
  refine ⟨by rw [r1.read], ?_, t, l⟩
  have ha : aliveL all = (if sx = 1 then [1] else []) ++ (if sy = 1 then [2] else []) := by
    refine alive_eq ⟨?_, fun q => ?_⟩
    · by_cases c1 : sx = 1 <;> by_cases c2 : sy = 1 <;> simp [c1, c2]
    · rw [r1.read]
      show _ ↔ m q = some 1
      by_cases q1 : q = 1
      · subst q1
        rw [r3]
        by_cases c1 : sx = 1 <;> by_cases c2 : sy = 1 <;> simp [c1, c2]
      · by_cases q2 : q = 2
        · subst q2
          rw [m2]
          by_cases c1 : sx = 1 <;> by_cases c2 : sy = 1 <;> simp [c1, c2]
        · rw [r8 q q1 q2]
          by_cases c1 : sx = 1 <;> by_cases c2 : sy = 1 <;> simp [c1, c2, q1, q2]
  rw [ha, hx.alive, hy.alive, List.length_append]
theorem of_from (l : List Ev) (num : Int) (hl : l.length ≤ 1000) : ∀ (d i : Nat), i + d = l.length → ∀ k, d < k → ∀ a : List Int, a.length ≤ i → life_Of.l0 k num a l (l.length : Int) (i : Int) = some (a ++ ((l.drop i).filter (fun e => e.f1 == num)).map (·.f0)) := by
  intro d
  induction d with
  | zero =>
    intro i hi k hk a ha
    obtain ⟨k, rfl⟩ : ∃ m, k = m + 1 := ⟨k - 1, by omega⟩
    simp only [life_Of.l0]
    rw [if_neg (by omega), List.drop_of_length_le (by omega)]
    simp
  | succ d ih =>
    intro i hi k hk a ha
    obtain ⟨k, rfl⟩ : ∃ m, k = m + 1 := ⟨k - 1, by omega⟩
    have hw : wrap64 ((i : Int) + 1) = ((i + 1 : Nat) : Int) := by unfold wrap64; omega
    have h1 : i < l.length := by omega
    have hr : rd_T23 l (i : Int) = l[i] := by simp [rd_T23, List.getD_eq_getElem?_getD, h1]
    simp only [life_Of.l0]
    rw [if_pos (by omega), if_pos (by omega), if_pos (by omega), hr, hw, List.drop_eq_getElem_cons h1]
    by_cases c : l[i].f1 = num
    · rw [if_pos c, if_pos (by omega), ih (i + 1) (by omega) k (by omega) _ (by simp; omega), List.filter_cons_of_pos (by simpa using c)]
      simp
    · rw [if_neg c, ih (i + 1) (by omega) k (by omega) _ (by omega), List.filter_cons_of_neg (by simpa using c)]
theorem of_eq (l : List Ev) (num : Int) (hl : l.length ≤ 1000) : life_Of.f (l.length + 1) l num = some ((l.filter (fun e => e.f1 == num)).map (·.f0)) := by
  unfold life_Of.f
  have := of_from l num hl l.length 0 (by omega) (l.length + 1) (by omega) [] (Nat.le_refl _)
  rw [List.nil_append, List.drop_zero] at this
  exact this
end Go.Proofs.Ytnpmmmgaghhndaa.Lf
