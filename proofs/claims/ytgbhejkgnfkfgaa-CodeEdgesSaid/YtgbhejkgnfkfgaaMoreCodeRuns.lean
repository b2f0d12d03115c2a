/- The law's own words in plain Lean: few, right, Same, sessions. -/
import Derived.Test.YtgbhejkgnfkfgaaRd2CodeRuns
import Derived.Test.YtgbhejkgnfkfgaaPCodeRunsx7
import Derived.Test.YtgbhejkgnfkfgaaPCodeRunsxfew
import Derived.Test.YtgbhejkgnfkfgaaPCodeRunsxright
import Derived.Test.YtgbhejkgnfkfgaaPCodeRunsxbytes
set_option linter.unusedVariables false
set_option linter.unusedSimpArgs false
namespace Go.Proofs.Ytgbhejkgnfkfgaa.Cd
open Go.RowKit Go.Proofs.Ytgbhejkgnfkfgaa.Given Go.Proofs.YtgbhejkgnfkfgaaW.PrintWords Go.Proofs.YtgbhejkgnfkfgaaW.PrintLast Go.Proofs.YtgbhejkgnfkfgaaW.PrintMore Go.Proofs.Ytgbhejkgnfkfgaa.PCodeRuns

theorem Ev.ite {α : Type} {p : Prop} [Decidable p] {f g : Nat → Option α} {r : α} (h1 : p → Ev f r) (h2 : ¬ p → Ev g r) : Ev (fun k => if p then f k else g k) r := by
  by_cases c : p
  · simpa only [if_pos c] using h1 c
  · simpa only [if_neg c] using h2 c
/-- With rounds enough it tells whether P. -/
def EvB (f : Nat → Option Bool) (P : Prop) : Prop := ∃ r, Ev f r ∧ (r = true ↔ P)
theorem EvB.yes {f : Nat → Option Bool} {P : Prop} (h : EvB f P) (p : P) : Ev f true := by
  obtain ⟨r, h1, h2⟩ := h
  obtain rfl := h2.2 p
  exact h1
theorem EvB.no {f : Nat → Option Bool} {P : Prop} (h : EvB f P) (p : ¬ P) : Ev f false := by
  obtain ⟨r, h1, h2⟩ := h
  cases r with
  | true => exact absurd (h2.1 rfl) p
  | false => exact h1
theorem EvB.iff {f : Nat → Option Bool} {P Q : Prop} (h : EvB f P) (e : P ↔ Q) : EvB f Q := by
  obtain ⟨r, h1, h2⟩ := h
  exact ⟨r, h1, h2.trans e⟩
theorem drop_iff {α : Type} (a b : List α) (i : Nat) (h1 : i < a.length) (h2 : i < b.length) : a.drop i = b.drop i ↔ a[i] = b[i] ∧ a.drop (i + 1) = b.drop (i + 1) := by
  rw [List.drop_eq_getElem_cons h1, List.drop_eq_getElem_cons h2, List.cons.injEq]
/-- A loop that compares place by place. -/
theorem same_loop {α : Type} (L : Nat → Int → Option Bool) (a b : List α) (hl : a.length = b.length) (hn : a.length ≤ 1000000000)
    (h0 : ∀ k, L (k + 1) (a.length : Int) = some true)
    (h1 : ∀ k i (h1 : i < a.length) (h2 : i < b.length), (a[i] = b[i] → L (k + 1) (i : Int) = L k ((i + 1 : Nat) : Int)) ∧ (¬ a[i] = b[i] → L (k + 1) (i : Int) = some false)) : EvB (fun k => L k 0) (a = b) := by
  have key : ∀ (d i : Nat), i + d = a.length → EvB (fun k => L k (i : Int)) (a.drop i = b.drop i) := by
    intro d
    induction d with
    | zero =>
      intro i hi
      refine ⟨true, (Ev.const true).succ fun k => ?_, ?_⟩
      · rw [show (i : Int) = (a.length : Int) by omega]; exact h0 k
      · rw [List.drop_of_length_le (by omega), List.drop_of_length_le (by omega)]; simp
    | succ d ih =>
      intro i hi
      have q1 : i < a.length := by omega
      have q2 : i < b.length := by omega
      by_cases e : a[i] = b[i]
      · obtain ⟨r, h3, h4⟩ := ih (i + 1) (by omega)
        refine ⟨r, h3.succ fun k => (h1 k i q1 q2).1 e, ?_⟩
        rw [drop_iff a b i q1 q2, h4]
        exact ⟨fun h => ⟨e, h⟩, fun h => h.2⟩
      · refine ⟨false, (Ev.const false).succ fun k => (h1 k i q1 q2).2 e, ?_⟩
        rw [drop_iff a b i q1 q2]
        exact ⟨fun h => (by cases h), fun h => absurd h.1 e⟩
  have h := key a.length 0 (by omega)
  rwa [List.drop_zero, List.drop_zero] at h
theorem same_byte_ev (a b : List Int) (hn : a.length ≤ 1000000000) : EvB (fun k => porticobook_Same_byte.f k a b) (a = b) := by
  unfold porticobook_Same_byte.f
  by_cases hl : a.length = b.length
  · simp only [if_pos (show (a.length : Int) = (b.length : Int) by omega)]
    refine same_loop (fun k i => porticobook_Same_byte.l0 k a b i) a b hl hn (fun k => ?_) (fun k i h1 h2 => ?_)
    · simp only [porticobook_Same_byte.l0]
      rw [if_neg (by omega)]
    · have hw : wrap64 ((i : Int) + 1) = ((i + 1 : Nat) : Int) := by unfold wrap64; omega
      have r1 : rd a (i : Int) = a[i] := by simp [rd, List.getD_eq_getElem?_getD, h1]
      have r2 : rd b (i : Int) = b[i] := by simp [rd, List.getD_eq_getElem?_getD, h2]
      simp only [porticobook_Same_byte.l0]
      rw [if_pos (by omega), if_pos (by omega), if_pos (by omega), r1, r2, hw]
      exact ⟨fun e => if_pos e, fun e => if_neg e⟩
  · simp only [if_neg (show ¬ (a.length : Int) = (b.length : Int) by omega)]
    exact ⟨false, Ev.const _, fun h => (by cases h), fun h => absurd (congrArg List.length h) hl⟩
theorem same_int_ev (a b : List Int) (hn : a.length ≤ 1000000000) : EvB (fun k => porticobook_Same_int.f k a b) (a = b) := by
  unfold porticobook_Same_int.f
  by_cases hl : a.length = b.length
  · simp only [if_pos (show (a.length : Int) = (b.length : Int) by omega)]
    refine same_loop (fun k i => porticobook_Same_int.l0 k a b i) a b hl hn (fun k => ?_) (fun k i h1 h2 => ?_)
    · simp only [porticobook_Same_int.l0]
      rw [if_neg (by omega)]
    · have hw : wrap64 ((i : Int) + 1) = ((i + 1 : Nat) : Int) := by unfold wrap64; omega
      have r1 : rd a (i : Int) = a[i] := by simp [rd, List.getD_eq_getElem?_getD, h1]
      have r2 : rd b (i : Int) = b[i] := by simp [rd, List.getD_eq_getElem?_getD, h2]
      simp only [porticobook_Same_int.l0]
      rw [if_pos (by omega), if_pos (by omega), if_pos (by omega), r1, r2, hw]
      exact ⟨fun e => if_pos e, fun e => if_neg e⟩
  · simp only [if_neg (show ¬ (a.length : Int) = (b.length : Int) by omega)]
    exact ⟨false, Ev.const _, fun h => (by cases h), fun h => absurd (congrArg List.length h) hl⟩
theorem same_bool_ev (a b : List Bool) (hn : a.length ≤ 1000000000) : EvB (fun k => porticobook_Same_bool.f k a b) (a = b) := by
  unfold porticobook_Same_bool.f
  by_cases hl : a.length = b.length
  · simp only [if_pos (show (a.length : Int) = (b.length : Int) by omega)]
    refine same_loop (fun k i => porticobook_Same_bool.l0 k a b i) a b hl hn (fun k => ?_) (fun k i h1 h2 => ?_)
    · simp only [porticobook_Same_bool.l0]
      rw [if_neg (by omega)]
    · have hw : wrap64 ((i : Int) + 1) = ((i + 1 : Nat) : Int) := by unfold wrap64; omega
      have r1 : rdOf false a (i : Int) = a[i] := by simp [rdOf, List.getD_eq_getElem?_getD, h1]
      have r2 : rdOf false b (i : Int) = b[i] := by simp [rdOf, List.getD_eq_getElem?_getD, h2]
      simp only [porticobook_Same_bool.l0]
      rw [if_pos (by omega), if_pos (by omega), if_pos (by omega), r1, r2, hw]
      exact ⟨fun e => if_neg (by rw [e]; simp), fun e => if_pos (by simpa using e)⟩
  · simp only [if_neg (show ¬ (a.length : Int) = (b.length : Int) by omega)]
    exact ⟨false, Ev.const _, fun h => (by cases h), fun h => absurd (congrArg List.length h) hl⟩
theorem str_beq (x y : ByteArray) : (x.toList == y.toList) = decide (x = y) := by
  rw [Bool.eq_iff_iff, decide_eq_true_iff, beq_iff_eq, ByteArray.toList_eq, ByteArray.toList_eq]
  constructor
  · intro h
    obtain ⟨⟨x⟩⟩ := x
    obtain ⟨⟨y⟩⟩ := y
    have h : x = y := h
    rw [h]
  · intro h
    rw [h]
theorem same_mark_ev (a b : List S24) (hn : a.length ≤ 1000000000) : EvB (fun k => api_Mark.f k a b) (a = b) := by
  unfold api_Mark.f
  by_cases hl : a.length = b.length
  · simp only [if_pos (show (a.length : Int) = (b.length : Int) by omega)]
    refine same_loop (fun k i => api_Mark.l0 k a b i) a b hl hn (fun k => ?_) (fun k i h1 h2 => ?_)
    · simp only [api_Mark.l0]
      rw [if_neg (by omega)]
    · have hw : wrap64 ((i : Int) + 1) = ((i + 1 : Nat) : Int) := by unfold wrap64; omega
      have r1 : rd_T24 a (i : Int) = a[i] := by simp [rd_T24, List.getD_eq_getElem?_getD, h1]
      have r2 : rd_T24 b (i : Int) = b[i] := by simp [rd_T24, List.getD_eq_getElem?_getD, h2]
      simp only [api_Mark.l0]
      rw [if_pos (by omega), if_pos (by omega), if_pos (by omega), r1, r2, hw]
      rw [str_beq]
      refine ⟨fun e => if_neg (by rw [e]; simp), fun e => if_pos ?_⟩
      generalize a[i] = x at e
      generalize b[i] = y at e
      obtain ⟨x0, x1⟩ := x
      obtain ⟨y0, y1⟩ := y
      by_cases e0 : x0 = y0
      · by_cases e1 : x1 = y1
        · exact absurd (by rw [e0, e1]) e
        · simp [e1]
      · simp [e0]
  · simp only [if_neg (show ¬ (a.length : Int) = (b.length : Int) by omega)]
    exact ⟨false, Ev.const _, fun h => (by cases h), fun h => absurd (congrArg List.length h) hl⟩
theorem Ev.bindB {f : Nat → Option Bool} {g : Nat → Bool → Option Bool} {P Q : Prop} (h : EvB f P) (h2 : P → EvB (fun k => g k true) Q) (h3 : ¬ P → EvB (fun k => g k false) Q) : EvB (fun k => (f k).bind (g k)) Q := by
  by_cases p : P
  · obtain ⟨r, h4, h5⟩ := h2 p
    exact ⟨r, Ev.bind (h.yes p) h4, h5⟩
  · obtain ⟨r, h4, h5⟩ := h3 p
    exact ⟨r, Ev.bind (h.no p) h4, h5⟩
theorem sess_loop (a b : Ses) (hl : a.2.2.2.length = b.2.2.2.length) (hM : a.2.2.2.length ≤ 1000000 ∧ ∀ l ∈ a.2.2.2, l.length ≤ 1000000) : ∀ (d i : Nat), i + d = a.2.2.2.length → EvB (fun k => porticolaw24_sessions.l0 k (a.2.2.2.length : Int) (i : Int) a.1 a.2.1 a.2.2.1 a.2.2.2 b.1 b.2.1 b.2.2.1 b.2.2.2) (a.2.2.2.drop i = b.2.2.2.drop i) := by
  intro d
  induction d with
  | zero =>
    intro i hi
    refine ⟨true, (Ev.const true).succ fun k => ?_, ?_⟩
    · simp only [porticolaw24_sessions.l0]
      rw [if_neg (by omega)]
    · rw [List.drop_of_length_le (by omega), List.drop_of_length_le (by omega)]; simp
  | succ d ih =>
    intro i hi
    have q1 : i < a.2.2.2.length := by omega
    have q2 : i < b.2.2.2.length := by omega
    have hw : wrap64 ((i : Int) + 1) = ((i + 1 : Nat) : Int) := by unfold wrap64; omega
    have r1 : rd_L6 a.2.2.2 (i : Int) = a.2.2.2[i] := by simp [rd_L6, List.getD_eq_getElem?_getD, q1]
    have r2 : rd_L6 b.2.2.2 (i : Int) = b.2.2.2[i] := by simp [rd_L6, List.getD_eq_getElem?_getD, q2]
    have h := Ev.bindB (g := fun k t => if t = true then porticolaw24_sessions.l0 k (a.2.2.2.length : Int) ((i + 1 : Nat) : Int) a.1 a.2.1 a.2.2.1 a.2.2.2 b.1 b.2.1 b.2.2.1 b.2.2.2 else some false) (Q := a.2.2.2.drop i = b.2.2.2.drop i) (same_int_ev a.2.2.2[i] b.2.2.2[i] (by have := hM.2 _ (List.getElem_mem q1); omega)) (fun e => by
      simp only [if_true]
      refine (ih (i + 1) (by omega)).iff ?_
      rw [drop_iff _ _ i q1 q2]
      exact ⟨fun h => ⟨e, h⟩, fun h => h.2⟩) (fun e => by
      simp only [Bool.false_eq_true, if_false]
      refine ⟨false, Ev.const _, fun h => (by cases h), fun h => ?_⟩
      rw [drop_iff _ _ i q1 q2] at h
      exact absurd h.1 e)
    obtain ⟨r, h3, h4⟩ := h
    refine ⟨r, h3.succ fun k => ?_, h4⟩
    simp only [porticolaw24_sessions.l0]
    rw [if_pos (by omega), if_pos (by omega), if_pos (by omega), if_pos (by omega), r1, r2, hw]
def Sized (a : Ses) : Prop := a.1.length ≤ 1000000 ∧ a.2.2.1.length ≤ 1000000 ∧ a.2.2.2.length ≤ 1000000 ∧ ∀ l ∈ a.2.2.2, l.length ≤ 1000000
theorem sessions_j0 (a b : Ses) (hs : Sized a) (h0 : a.1 = b.1) (h1 : a.2.1 = b.2.1) (h2 : a.2.2.1 = b.2.2.1) : EvB (fun k => porticolaw24_sessions.j0 k ((a.2.2.2.length : Int) != (b.2.2.2.length : Int)) a.1 a.2.1 a.2.2.1 a.2.2.2 b.1 b.2.1 b.2.2.1 b.2.2.2) (a = b) := by
  by_cases hl : a.2.2.2.length = b.2.2.2.length
  · obtain ⟨r, h3, h4⟩ := sess_loop a b hl hs.2.2 a.2.2.2.length 0 (by omega)
    refine ⟨r, h3.succ fun k => ?_, ?_⟩
    · simp only [porticolaw24_sessions.j0]
      rw [if_neg (by rw [hl]; simp)]
      rfl
    · rw [h4, List.drop_zero, List.drop_zero]
      obtain ⟨a0, a1, a2, a3⟩ := a
      obtain ⟨b0, b1, b2, b3⟩ := b
      simp only at h0 h1 h2
      subst h0 h1 h2
      simp
  · refine ⟨false, (Ev.const false).succ fun k => ?_, fun h => (by cases h), fun h => absurd (by rw [h]) hl⟩
    simp only [porticolaw24_sessions.j0]
    rw [if_pos (by simp; omega)]
theorem sessions_no (a b : Ses) : Ev (fun k => porticolaw24_sessions.j0 k true a.1 a.2.1 a.2.2.1 a.2.2.2 b.1 b.2.1 b.2.2.1 b.2.2.2) false := (Ev.const false).succ fun k => by
  simp only [porticolaw24_sessions.j0, if_true]
theorem sessions_ev (a b : Ses) (hs : Sized a) : EvB (fun k => porticolaw24_sessions.f k a.1 a.2.1 a.2.2.1 a.2.2.2 b.1 b.2.1 b.2.2.1 b.2.2.2) (a = b) := by
  unfold porticolaw24_sessions.f
  refine Ev.bindB (g := fun k t => if t = true then if a.2.1 = b.2.1 then (porticobook_Same_bool.f k a.2.2.1 b.2.2.1).bind fun t => if t = true then porticolaw24_sessions.j0 k ((a.2.2.2.length : Int) != (b.2.2.2.length : Int)) a.1 a.2.1 a.2.2.1 a.2.2.2 b.1 b.2.1 b.2.2.1 b.2.2.2 else porticolaw24_sessions.j0 k true a.1 a.2.1 a.2.2.1 a.2.2.2 b.1 b.2.1 b.2.2.1 b.2.2.2 else porticolaw24_sessions.j0 k true a.1 a.2.1 a.2.2.1 a.2.2.2 b.1 b.2.1 b.2.2.1 b.2.2.2 else porticolaw24_sessions.j0 k true a.1 a.2.1 a.2.2.1 a.2.2.2 b.1 b.2.1 b.2.2.1 b.2.2.2) (same_mark_ev a.1 b.1 (by have := hs.1; omega)) (fun e0 => ?_) (fun e0 => ?_)
  · simp only [if_true]
    by_cases e1 : a.2.1 = b.2.1
    · simp only [if_pos e1]
      refine Ev.bindB (g := fun k t => if t = true then porticolaw24_sessions.j0 k ((a.2.2.2.length : Int) != (b.2.2.2.length : Int)) a.1 a.2.1 a.2.2.1 a.2.2.2 b.1 b.2.1 b.2.2.1 b.2.2.2 else porticolaw24_sessions.j0 k true a.1 a.2.1 a.2.2.1 a.2.2.2 b.1 b.2.1 b.2.2.1 b.2.2.2) (same_bool_ev a.2.2.1 b.2.2.1 (by have := hs.2.1; omega)) (fun e2 => ?_) (fun e2 => ?_)
      · simp only [if_true]
        exact sessions_j0 a b hs e0 e1 e2
      · simp only [Bool.false_eq_true, if_false]
        exact ⟨false, sessions_no a b, fun h => (by cases h), fun h => absurd (by rw [h]) e2⟩
    · simp only [if_neg e1]
      exact ⟨false, sessions_no a b, fun h => (by cases h), fun h => absurd (by rw [h]) e1⟩
  · simp only [Bool.false_eq_true, if_false]
    exact ⟨false, sessions_no a b, fun h => (by cases h), fun h => absurd (by rw [h]) e0⟩
def fewM (m : S24) : S24 := ⟨m.f0.extract 0 (min m.f0.size 60), m.f1⟩
def fewS (s : Ses) : Ses := ((s.1.take 13).map fewM, s.2.1, s.2.2.1.take 9, (s.2.2.2.take 17).map (fun l => l.take 7))
theorem mn_val (a b : Nat) (hb : (b : Int) ≤ 100) : mn (a : Int) (b : Int) = ((min a b : Nat) : Int) := by
  unfold mn
  by_cases c : (a : Int) < (b : Int)
  · first | (rw [if_pos c]; omega) | (simp [c]; omega) | omega
  · first | (rw [if_neg c]; omega) | (simp [c]; omega) | omega
theorem few_l1 (s : Ses) (m : List S24) (at_ : Int) (f : List Bool) : ∀ (d i : Nat) (a : List (List Int)), i + d = min s.2.2.2.length 17 → a.length = i → Ev (fun k => porticolaw24_few.l1 k (i : Int) s.1 s.2.1 s.2.2.1 s.2.2.2 m at_ f a) (m, at_, f, a ++ ((s.2.2.2.take 17).drop i).map (fun l => l.take 7)) := by
  intro d
  induction d with
  | zero =>
    intro i a hi ha
    rw [List.drop_of_length_le (by rw [List.length_take]; omega)]
    simp only [List.map_nil, List.append_nil]
    refine (Ev.const (m, at_, f, a)).succ fun k => ?_
    simp only [porticolaw24_few.l1]
    by_cases c : (i : Int) < (s.2.2.2.length : Int)
    · rw [if_pos c, if_neg (by omega)]
    · rw [if_neg c]
  | succ d ih =>
    intro i a hi ha
    have hw : wrap64 ((i : Int) + 1) = ((i + 1 : Nat) : Int) := by unfold wrap64; omega
    have q1 : i < s.2.2.2.length := by omega
    have r1 : rd_L6 s.2.2.2 (i : Int) = s.2.2.2[i] := by simp [rd_L6, List.getD_eq_getElem?_getD, q1]
    have h := ih (i + 1) (a ++ [s.2.2.2[i].take 7]) (by omega) (by simp [ha])
    have e : (s.2.2.2.take 17).drop i = s.2.2.2[i] :: (s.2.2.2.take 17).drop (i + 1) := by
      rw [List.drop_eq_getElem_cons (by rw [List.length_take]; omega)]
      simp
    rw [e, List.map_cons, List.append_cons]
    refine h.succ fun k => ?_
    have hm : mn (s.2.2.2[i].length : Int) 7 = ((min s.2.2.2[i].length 7 : Nat) : Int) := mn_val _ 7 (by omega)
    simp only [porticolaw24_few.l1]
    rw [if_pos (by omega), if_pos (by omega), Option.bind_some, if_pos (by omega), r1, hm, if_pos (by omega), if_pos (by omega), Int.toNat_natCast, if_pos (by simp only [List.length_take, List.length_nil]; omega), if_pos (by omega), hw, List.nil_append]
    congr 3
    rw [List.take_eq_take_iff]
    omega
theorem few_l0 (s : Ses) (at_ : Int) (f : List Bool) (r) : ∀ (d i : Nat) (a : List S24), i + d = min s.1.length 13 → a.length = i → Ev (fun k => porticolaw24_few.j1 k s.1 s.2.1 s.2.2.1 s.2.2.2 (a ++ ((s.1.take 13).drop i).map fewM) at_ f) r → Ev (fun k => porticolaw24_few.l0 k (i : Int) s.1 s.2.1 s.2.2.1 s.2.2.2 a at_ f) r := by
  intro d
  induction d with
  | zero =>
    intro i a hi ha h
    rw [List.drop_of_length_le (by rw [List.length_take]; omega)] at h
    simp only [List.map_nil, List.append_nil] at h
    refine h.succ fun k => ?_
    simp only [porticolaw24_few.l0]
    by_cases c : (i : Int) < (s.1.length : Int)
    · rw [if_pos c, if_neg (by omega)]
    · rw [if_neg c]
  | succ d ih =>
    intro i a hi ha h
    have hw : wrap64 ((i : Int) + 1) = ((i + 1 : Nat) : Int) := by unfold wrap64; omega
    have q1 : i < s.1.length := by omega
    have r1 : rd_T24 s.1 (i : Int) = s.1[i] := by simp [rd_T24, List.getD_eq_getElem?_getD, q1]
    have e : (s.1.take 13).drop i = s.1[i] :: (s.1.take 13).drop (i + 1) := by
      rw [List.drop_eq_getElem_cons (by rw [List.length_take]; omega)]
      simp
    rw [e, List.map_cons, List.append_cons] at h
    have h2 := ih (i + 1) (a ++ [fewM s.1[i]]) (by omega) (by simp [ha]) h
    refine h2.succ fun k => ?_
    have hm : mn (s.1[i].f0.size : Int) 60 = ((min s.1[i].f0.size 60 : Nat) : Int) := mn_val _ 60 (by omega)
    simp only [porticolaw24_few.l0]
    rw [if_pos (by omega), if_pos (by omega), if_pos (by omega), r1, hm, if_pos (by omega), if_pos (by omega), Int.toNat_natCast, if_pos (by omega), hw]
    rfl
theorem few_ev (s : Ses) : Ev (fun k => porticolaw24_few.f k s.1 s.2.1 s.2.2.1 s.2.2.2) ((fewS s).1, (fewS s).2.1, (fewS s).2.2.1, (fewS s).2.2.2) := by
  have hm : mn (s.2.2.1.length : Int) 9 = ((min s.2.2.1.length 9 : Nat) : Int) := mn_val _ 9 (by omega)
  have h1 := few_l1 s (fewS s).1 s.2.1 (s.2.2.1.take 9) (min s.2.2.2.length 17) 0 [] (by omega) rfl
  rw [List.drop_zero, List.nil_append] at h1
  have h2 := few_l0 s s.2.1 (s.2.2.1.take 9) _ (min s.1.length 13) 0 [] (by omega) rfl (by
    rw [List.drop_zero, List.nil_append]
    exact h1.succ fun k => by simp only [porticolaw24_few.j1]; rfl)
  obtain ⟨K, h2⟩ := h2
  refine ⟨K, fun k hk => ?_⟩
  show porticolaw24_few.f k _ _ _ _ = _
  unfold porticolaw24_few.f
  have e : s.2.2.1.take (min s.2.2.1.length 9) = s.2.2.1.take 9 := by rw [List.take_eq_take_iff]; omega
  rw [Option.bind_some, hm, if_pos (by omega), if_pos (by omega), Int.toNat_natCast, if_pos (by simp only [List.length_take, List.length_nil]; omega), List.nil_append, e]
  exact h2 k hk
theorem few_U64 (s : Ses) (h : U64 s) : U64 (fewS s) := by
  intro m hm
  obtain ⟨x, hx, rfl⟩ := List.mem_map.1 hm
  exact h x (List.mem_of_mem_take hx)
theorem few_sz (s : Ses) : (fewS s).1.length ≤ 13 ∧ (∀ m ∈ (fewS s).1, m.f0.size ≤ 60) ∧ (fewS s).2.2.1.length ≤ 9 ∧ (fewS s).2.2.2.length ≤ 17 ∧ ∀ l ∈ (fewS s).2.2.2, l.length ≤ 7 := by
  refine ⟨by simp [fewS]; omega, fun m hm => ?_, by simp [fewS]; omega, by simp [fewS]; omega, fun l hl => ?_⟩
  · obtain ⟨x, hx, rfl⟩ := List.mem_map.1 hm
    simp [fewM, ByteArray.size_extract]
    omega
  · obtain ⟨x, hx, rfl⟩ := List.mem_map.1 hl
    simp
    omega
/-- What few leaves is no bigger than this. -/
def Few (s : Ses) : Prop := s.1.length ≤ 1000 ∧ (∀ m ∈ s.1, m.f0.size ≤ 1000) ∧ s.2.2.1.length ≤ 1000 ∧ s.2.2.2.length ≤ 1000 ∧ ∀ l ∈ s.2.2.2, l.length ≤ 1000
theorem few_Few (s : Ses) : Few (fewS s) := by
  obtain ⟨h1, h2, h3, h4, h5⟩ := few_sz s
  exact ⟨by omega, fun m hm => by have := h2 m hm; omega, by omega, by omega, fun l hl => by have := h5 l hl; omega⟩
theorem Few.sized {s : Ses} (h : Few s) : Sized s := by
  obtain ⟨h1, h2, h3, h4, h5⟩ := h
  exact ⟨by omega, by omega, by omega, fun l hl => by have := h5 l hl; omega⟩
theorem right_l2 (st : List (List Int)) (y : Nat) (l x6 : List Int) (hl : l.length ≤ 1000) (P : Prop) (h : EvB (fun k => if (x6.length : Int) > 6 then some false else porticolaw24_right.l1 k st (st.length : Int) (wrap64 ((y : Int) + 1))) P) : ∀ (d i : Nat), i + d = l.length → EvB (fun k => porticolaw24_right.l2 k x6 st (st.length : Int) (y : Int) l (l.length : Int) (i : Int)) ((∀ n ∈ l.drop i, numOk n = true) ∧ P) := by
  intro d
  induction d with
  | zero =>
    intro i hi
    rw [List.drop_of_length_le (by omega)]
    obtain ⟨r, h1, h2⟩ := h
    refine ⟨r, h1.succ fun k => ?_, h2.trans (by simp)⟩
    simp only [porticolaw24_right.l2]
    rw [if_neg (show ¬ (i : Int) < (l.length : Int) by omega)]
  | succ d ih =>
    intro i hi
    have hw : wrap64 ((i : Int) + 1) = ((i + 1 : Nat) : Int) := by unfold wrap64; omega
    have q1 : i < l.length := by omega
    have r1 : rd l (i : Int) = l[i] := by simp [rd, List.getD_eq_getElem?_getD, q1]
    rw [List.drop_eq_getElem_cons q1]
    by_cases c1 : l[i] > 1000
    · have hk : numOk l[i] = false := by unfold numOk; rw [decide_eq_false (show ¬ l[i] ≤ 1000 by omega)]; simp
      refine ⟨false, (Ev.const false).succ fun k => ?_, fun h => (by cases h), fun h => by rw [h.1 _ (List.mem_cons_self ..)] at hk; cases hk⟩
      simp only [porticolaw24_right.l2]
      rw [if_pos (show (i : Int) < (l.length : Int) by omega), if_pos (by omega), if_pos (by omega), r1, if_pos c1]
    · by_cases c2 : l[i] < -1000
      · have hk : numOk l[i] = false := by unfold numOk; rw [decide_eq_false (show ¬ -1000 ≤ l[i] by omega)]; simp
        refine ⟨false, (Ev.const false).succ fun k => ?_, fun h => (by cases h), fun h => by rw [h.1 _ (List.mem_cons_self ..)] at hk; cases hk⟩
        simp only [porticolaw24_right.l2]
        rw [if_pos (show (i : Int) < (l.length : Int) by omega), if_pos (by omega), if_pos (by omega), r1, if_neg c1, if_pos c2]
      · have hk : numOk l[i] = true := by unfold numOk; rw [decide_eq_true (show l[i] ≤ 1000 by omega), decide_eq_true (show -1000 ≤ l[i] by omega)]; rfl
        obtain ⟨r, h1, h2⟩ := ih (i + 1) (by omega)
        refine ⟨r, h1.succ fun k => ?_, h2.trans ?_⟩
        · simp only [porticolaw24_right.l2]
          rw [if_pos (show (i : Int) < (l.length : Int) by omega), if_pos (by omega), if_pos (by omega), r1, if_neg c1, if_neg c2, hw]
        · simp only [List.mem_cons, forall_eq_or_imp, hk, true_and]
theorem rowOk_iff (l : List Int) : rowOk l = true ↔ (∀ n ∈ l, numOk n = true) ∧ l.length ≤ 6 := by
  unfold rowOk
  simp only [Bool.and_eq_true, decide_eq_true_eq, Bool.not_eq_true', List.any_eq_false, Bool.not_eq_false, Bool.not_eq_true]
  exact ⟨fun h => ⟨fun n hn => by have := h.2 n hn; simpa using this, h.1⟩, fun h => ⟨h.2, fun n hn => by have := h.1 n hn; simpa using this⟩⟩
theorem right_l1 (st : List (List Int)) (hst : st.length ≤ 1000) (hrow : ∀ l ∈ st, l.length ≤ 1000) : ∀ (d i : Nat), i + d = st.length → EvB (fun k => porticolaw24_right.l1 k st (st.length : Int) (i : Int)) (∀ l ∈ st.drop i, rowOk l = true) := by
  intro d
  induction d with
  | zero =>
    intro i hi
    rw [List.drop_of_length_le (by omega)]
    refine ⟨true, (Ev.const true).succ fun k => ?_, by simp⟩
    simp only [porticolaw24_right.l1]
    rw [if_neg (by omega)]
  | succ d ih =>
    intro i hi
    have hw : wrap64 ((i : Int) + 1) = ((i + 1 : Nat) : Int) := by unfold wrap64; omega
    have q1 : i < st.length := by omega
    have r1 : rd_L6 st (i : Int) = st[i] := by simp [rd_L6, List.getD_eq_getElem?_getD, q1]
    have hl := hrow _ (List.getElem_mem q1)
    have h3 : EvB (fun k => if (st[i].length : Int) > 6 then some false else porticolaw24_right.l1 k st (st.length : Int) (wrap64 ((i : Int) + 1))) (st[i].length ≤ 6 ∧ ∀ l ∈ st.drop (i + 1), rowOk l = true) := by
      by_cases c : (st[i].length : Int) > 6
      · simp only [if_pos c]
        exact ⟨false, Ev.const _, fun h => (by cases h), fun h => by have := h.1; omega⟩
      · simp only [if_neg c, hw]
        exact (ih (i + 1) (by omega)).iff ⟨fun h => ⟨by omega, h⟩, fun h => h.2⟩
    obtain ⟨r, h1, h2⟩ := right_l2 st i st[i] st[i] hl _ h3 st[i].length 0 (by omega)
    rw [List.drop_zero] at h2
    refine ⟨r, h1.succ fun k => ?_, h2.trans ?_⟩
    · simp only [porticolaw24_right.l1]
      rw [if_pos (show (i : Int) < (st.length : Int) by omega), if_pos (by omega), if_pos (by omega), r1]
      rfl
    · rw [List.drop_eq_getElem_cons q1]
      simp only [List.mem_cons, forall_eq_or_imp, rowOk_iff]
      exact ⟨fun h => ⟨⟨h.1, h.2.1⟩, h.2.2⟩, fun h => ⟨h.1.1, h.1.2, h.2⟩⟩
theorem right_l0 (s : Ses) (hs : Few s) (hu : U64 s) : ∀ (d i : Nat), i + d = s.1.length → EvB (fun k => porticolaw24_right.l0 k s.1 (s.1.length : Int) (i : Int) s.1 s.2.1 s.2.2.1 s.2.2.2) ((∀ m ∈ s.1.drop i, markOk m = true) ∧ ∀ l ∈ s.2.2.2, rowOk l = true) := by
  obtain ⟨s1, s2, s3, s4, s5⟩ := hs
  intro d
  induction d with
  | zero =>
    intro i hi
    rw [List.drop_of_length_le (by omega)]
    obtain ⟨r, h1, h2⟩ := right_l1 s.2.2.2 s4 s5 s.2.2.2.length 0 (by omega)
    rw [List.drop_zero] at h2
    refine ⟨r, h1.succ fun k => ?_, h2.trans (by simp)⟩
    simp only [porticolaw24_right.l0]
    rw [if_neg (by omega)]
    rfl
  | succ d ih =>
    intro i hi
    have hw : wrap64 ((i : Int) + 1) = ((i + 1 : Nat) : Int) := by unfold wrap64; omega
    have q1 : i < s.1.length := by omega
    have r1 : rd_T24 s.1 (i : Int) = s.1[i] := by simp [rd_T24, List.getD_eq_getElem?_getD, q1]
    have hm := hu _ (List.getElem_mem q1)
    have hz := s2 _ (List.getElem_mem q1)
    have hsc : scroll_Right.f s.1[i].f1 = some (decide (Fl.cl s.1[i].f1.toNat = s.1[i].f1.toNat)) := by unfold scroll_Right.f; rw [if_pos hm]
    rw [List.drop_eq_getElem_cons q1]
    by_cases c : Fl.cl s.1[i].f1.toNat = s.1[i].f1.toNat
    · have hk : markOk s.1[i] = true := by unfold markOk; rw [decide_eq_true c, decide_eq_true hz]; rfl
      obtain ⟨r, h1, h2⟩ := ih (i + 1) (by omega)
      refine ⟨r, h1.succ fun k => ?_, h2.trans ?_⟩
      · simp only [porticolaw24_right.l0]
        rw [if_pos (by omega), if_pos (by omega), if_pos (by omega), r1, hsc, Option.bind_some, if_pos (decide_eq_true c), hw]
      · simp only [List.mem_cons, forall_eq_or_imp, hk, true_and]
    · have hk : markOk s.1[i] = false := by unfold markOk; rw [decide_eq_false c]; simp
      refine ⟨false, (Ev.const false).succ fun k => ?_, fun h => (by cases h), fun h => by rw [h.1 _ (List.mem_cons_self ..)] at hk; cases hk⟩
      simp only [porticolaw24_right.l0]
      rw [if_pos (by omega), if_pos (by omega), if_pos (by omega), r1, hsc, Option.bind_some, if_neg (by rw [decide_eq_false c]; decide)]
theorem right_no (s : Ses) : Ev (fun k => porticolaw24_right.j0 k true s.1 s.2.1 s.2.2.1 s.2.2.2) false := (Ev.const false).succ fun k => by
  simp only [porticolaw24_right.j0, if_true]
theorem rightS_iff (s : Ses) : rightS s = true ↔ s.1.length ≤ 12 ∧ 0 ≤ s.2.1 ∧ s.2.1 < (s.1.length : Int) ∧ s.2.2.1.length ≤ 8 ∧ s.2.2.2.length ≤ 16 ∧ (∀ m ∈ s.1, markOk m = true) ∧ ∀ l ∈ s.2.2.2, rowOk l = true := by
  unfold rightS rightB
  simp only [Bool.and_eq_true, decide_eq_true_eq, List.all_eq_true, and_assoc]
theorem right_ev (s : Ses) (hs : Few s) (hu : U64 s) : Ev (fun k => porticolaw24_right.f k s.1 s.2.1 s.2.2.1 s.2.2.2) (rightS s) := by
  have hB : EvB (fun k => porticolaw24_right.f k s.1 s.2.1 s.2.2.1 s.2.2.2) (rightS s = true) := by
    unfold porticolaw24_right.f
    have no : ∀ {Q : Prop}, ¬ Q → EvB (fun k => porticolaw24_right.j0 k true s.1 s.2.1 s.2.2.1 s.2.2.2) Q := fun h => ⟨false, right_no s, fun e => (by cases e), fun e => absurd e h⟩
    have hi := rightS_iff s
    by_cases c1 : (s.1.length : Int) < 1
    · simp only [if_pos c1]
      exact no fun e => by have := hi.1 e; omega
    · by_cases c2 : (s.1.length : Int) > 12
      · simp only [if_neg c1, if_pos c2]
        exact no fun e => by have := hi.1 e; omega
      · by_cases c3 : s.2.1 < 0
        · simp only [if_neg c1, if_neg c2, if_pos c3]
          exact no fun e => by have := hi.1 e; omega
        · by_cases c4 : s.2.1 ≥ (s.1.length : Int)
          · simp only [if_neg c1, if_neg c2, if_neg c3, if_pos c4]
            exact no fun e => by have := hi.1 e; omega
          · by_cases c5 : (s.2.2.1.length : Int) > 8
            · simp only [if_neg c1, if_neg c2, if_neg c3, if_neg c4, if_pos c5]
              exact no fun e => by have := hi.1 e; omega
            · simp only [if_neg c1, if_neg c2, if_neg c3, if_neg c4, if_neg c5]
              by_cases c6 : (s.2.2.2.length : Int) > 16
              · rw [decide_eq_true c6]
                exact no fun e => by have := hi.1 e; omega
              · rw [decide_eq_false c6]
                obtain ⟨r, h1, h2⟩ := right_l0 s hs hu s.1.length 0 (by omega)
                rw [List.drop_zero] at h2
                refine ⟨r, h1.succ fun k => ?_, h2.trans ?_⟩
                · simp only [porticolaw24_right.j0]
                  rw [if_neg (by decide)]
                  rfl
                · rw [hi]
                  exact ⟨fun h => ⟨by omega, by omega, by omega, by omega, by omega, h.1, h.2⟩, fun h => ⟨h.2.2.2.2.2.1, h.2.2.2.2.2.2⟩⟩
  by_cases h : rightS s = true
  · rw [h]; exact hB.yes h
  · have := hB.no h
    rwa [show rightS s = false from by simpa using h]
end Go.Proofs.Ytgbhejkgnfkfgaa.Cd
