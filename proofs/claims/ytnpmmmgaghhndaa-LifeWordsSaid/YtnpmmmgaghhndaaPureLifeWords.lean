/- LifeWords: the plain law. -/
import Derived.Test.YtnpmmmgaghhndaaPLifeWordsx2
set_option linter.unusedSimpArgs false
set_option linter.unusedVariables false
namespace Go.Proofs.Ytnpmmmgaghhndaa.Pure
open Go.RowKit Go.Proofs.Ytnpmmmgaghhndaa.PLifeWords Go.Proofs.YtnpmmmgaghhndaaW.PrintWords Go.Proofs.YtnpmmmgaghhndaaW.PrintLast Go.Proofs.Ytnpmmmgaghhndaa.Given Go.Proofs.Ytnpmmmgaghhndaa.Lf

abbrev Ev := S23
abbrev lr : List Ev := [⟨1, 1⟩, ⟨3, 1⟩, ⟨1, 2⟩, ⟨2, 1⟩]
theorem right1 : life_Right.f lr = some true := by
  unfold life_Right.f
  rw [if_pos (by decide)]
  kernel_rfl
theorem right2 : life_Right.f [⟨2, 1⟩] = some false := by
  unfold life_Right.f
  rw [if_pos (by decide)]
  kernel_rfl
theorem alive1 : life_Alive.f lr = some [1, 2] := by
  unfold life_Alive.f
  rw [if_pos (by decide)]
  congr 1
  refine alive_eq ⟨by decide, fun n => ?_⟩
  show n ∈ [1, 2] ↔ updI (updI (updI (updI (fun _ => none) 1 1) 1 2) 2 1) 1 1 n = some 1
  unfold updI
  by_cases h1 : n = 1
  · simp [h1]
  · by_cases h2 : n = 2
    · simp [h2]
    · simp [h1, h2]
theorem runs : porticolaw19_LifeRuns.f 60 = some true := by
  unfold porticolaw19_LifeRuns.f
  simp only [Option.bind_some]
  rw [right1, alive1, right2]
  simp only [Option.bind_some, if_true]
  kernel_rfl
/-- A number that no event names is as it was. -/
theorem read_dom : ∀ (l : List Ev) (m : Int → Option Int) (last n : Int), (∀ e ∈ l, e.f1 ≠ n) → (readGo l m last).1 n = m n
  | [], m, last, n, _ => rfl
  | e :: t, m, last, n, h => by
    have he := h e (by simp)
    have ht := fun m' last' => read_dom t m' last' n (fun x hx => h x (by simp [hx]))
    have hu : ∀ v, updI m e.f1 v n = m n := fun v => by unfold updI; rw [if_neg (Ne.symm he)]
    unfold readGo
    (repeat' split) <;> first | rfl | exact hu _ | exact (ht _ _).trans (hu _)
def PR : Nat → List Ev
  | 0 => [⟨1, 3⟩]
  | n + 1 => PR n ++ [⟨3, 3⟩, ⟨2, 3⟩]
def WD (p : Nat) (h g : Bool) : List Ev := (PR p ++ if h = true then [⟨3, 3⟩] else []) ++ if g = true then [⟨4, 3⟩] else []
def okAll (p : Nat) (h g : Bool) : Bool :=
  (readP (WD p h g)).2 && ((readP (WD p h g)).1 3 == some 1) == (!h && !g) && (life_Of.f 60 (WD p h g) 3).map List.length == some (WD p h g).length && (WD p h g).all (fun e => e.f1 == 3) &&
  [1, 2, 3, 4].all (fun k => (readP (WD p h g ++ [⟨k, 3⟩])).2 == (!g && ((h && (k == 2 || k == 4)) || (!h && (k == 3 || k == 4)))) && !(readP (⟨k, 3⟩ :: WD p h g)).2) && decide ((WD p h g).length ≤ 30)
theorem all_ok : (List.range 10).all (fun p => okAll p true true && okAll p true false && okAll p false true && okAll p false false) = true := by kernel_rfl
theorem ok_at (p : Nat) (hp : p < 10) (h g : Bool) : okAll p h g = true := by
  have := List.all_eq_true.1 all_ok p (List.mem_range.2 hp)
  simp only [Bool.and_eq_true] at this
  cases h <;> cases g
  · exact this.2
  · exact this.1.2
  · exact this.1.1.2
  · exact this.1.1.1
theorem within (a lo hi : Int) (h : lo ≤ hi) (h0 : -1000000 ≤ lo) (h1 : hi ≤ 100000000) : ∃ r : Int, porticobook_Within.f a lo hi = some r ∧ lo ≤ r ∧ r ≤ hi := by
  have e1 : wrap64 (hi - lo) = hi - lo := by unfold wrap64; omega
  have e2 : wrap64 (hi - lo + 1) = hi - lo + 1 := by unfold wrap64; omega
  unfold porticobook_Within.f
  rw [e1, e2, if_neg (by omega)]
  obtain ⟨m, hm⟩ : ∃ m, Int.tmod a (hi - lo + 1) = m := ⟨_, rfl⟩
  have l1 : m < hi - lo + 1 := by rw [← hm]; exact Int.tmod_lt_of_pos a (by omega)
  have l2 : -(hi - lo + 1) < m := by
    rw [← hm]
    have := Int.tmod_lt_of_pos (-a) (show 0 < hi - lo + 1 by omega)
    rw [Int.neg_tmod] at this
    omega
  rw [hm]
  by_cases c : m < 0
  · rw [if_pos c]
    refine ⟨_, rfl, ?_, ?_⟩ <;> unfold wrap64 <;> omega
  · rw [if_neg c]
    refine ⟨_, rfl, ?_, ?_⟩ <;> unfold wrap64 <;> omega
theorem PR_len (n : Nat) : (PR n).length = 1 + 2 * n := by
  induction n with
  | zero => rfl
  | succ n ih => simp [PR, ih]; omega
theorem right_of (l : List Ev) (hl : l.length ≤ 1000) (h3 : ∀ e ∈ l, e.f1 = 3) : life_Right.f l = some (readP l).2 ∧ life_Alive.f l = some (aliveL l) := by
  have c : l.length ≤ 1000 ∧ ∀ e ∈ l, (Lit.int .i64 e.f1).wf = true := ⟨hl, fun e he => by rw [h3 e he]; rfl⟩
  unfold life_Right.f life_Alive.f
  rw [if_pos c, if_pos c]
  exact ⟨rfl, rfl⟩
theorem alive_of (l : List Ev) (h3 : ∀ e ∈ l, e.f1 = 3) (b : Bool) (hb : ((readP l).1 3 == some 1) = b) : aliveL l = if b = true then [3] else [] := by
  refine alive_eq ⟨by cases b <;> simp, fun n => ?_⟩
  by_cases e : n = 3
  · subst e
    cases b with
    | true => simp; simpa using hb
    | false => simp; simpa using hb
  · have : (readP l).1 n = none := read_dom l _ 0 n (fun x hx hh => e (by rw [← hh, h3 x hx]))
    rw [this]
    cases b <;> simp [e]
theorem loop (a0 : Int) (h g : Bool) (a3 : Int) (p : Nat) (hp : p < 10) (hw : porticobook_Within.f a0 0 9 = some (p : Int)) : ∀ (d i : Nat), i + d = p → porticolaw19_LifeWords.l0 (63 + d + 1) a0 h g a3 (PR i) (i : Int) = porticolaw19_LifeWords.j1 63 h g a3 (PR p ++ if h = true then [⟨3, 3⟩] else []) := by
  intro d
  induction d with
  | zero =>
    intro i hi
    obtain rfl : i = p := by omega
    have hl := PR_len i
    rw [show 63 + 0 + 1 = 63 + 1 from rfl]
    unfold porticolaw19_LifeWords.l0
    rw [hw, Option.bind_some, if_neg (by omega)]
    cases h with
    | true => rw [if_pos rfl, if_pos (by omega), if_pos rfl]
    | false => rw [if_neg (by decide), if_neg (by decide), List.append_nil]
  | succ d ih =>
    intro i hi
    have hl := PR_len i
    have hww : wrap64 ((i : Int) + 1) = ((i + 1 : Nat) : Int) := by unfold wrap64; omega
    rw [show 63 + (d + 1) + 1 = (63 + d + 1) + 1 from rfl]
    unfold porticolaw19_LifeWords.l0
    rw [hw, Option.bind_some, if_pos (by omega), Option.bind_some, if_pos (by simp; omega), hww]
    exact ih (i + 1) (by omega)
theorem LifeWords : porticolaw19_LifeWords.Pure := by
  intro a0 h g a3 _ _
  obtain ⟨r, hr, hr0, hr1⟩ := within a0 0 9 (by omega) (by omega) (by omega)
  obtain ⟨p, rfl⟩ : ∃ p : Nat, r = (p : Int) := ⟨r.toNat, by omega⟩
  obtain ⟨k, hk, hk0, hk1⟩ := within a3 1 4 (by omega) (by omega) (by omega)
  refine ⟨63 + p + 1, ?_⟩
  unfold porticolaw19_LifeWords.f
  have hl := loop a0 h g a3 p (by omega) hr p 0 (by omega)
  rw [show ((0 : Nat) : Int) = 0 from rfl] at hl
  rw [show ([⟨1, 3⟩] : List Ev) = PR 0 from rfl, hl]
  have ok := ok_at p (by omega) h g
  unfold okAll at ok
  simp only [Bool.and_eq_true, List.all_eq_true, beq_iff_eq, decide_eq_true_eq] at ok
  obtain ⟨⟨⟨⟨⟨o1, o2⟩, o3⟩, o4⟩, o5⟩, o6⟩ := ok
  obtain ⟨X, hX⟩ : ∃ X, WD p h g = X := ⟨_, rfl⟩
  rw [hX] at o1 o2 o3 o4 o5 o6
  have o5k := o5 k (by have : k = 1 ∨ k = 2 ∨ k = 3 ∨ k = 4 := by omega
                       rcases this with rfl | rfl | rfl | rfl <;> simp)
  obtain ⟨rr, hrr, hrl⟩ := Option.map_eq_some_iff.1 o3
  have hXe : (PR p ++ if h = true then [⟨3, 3⟩] else []) ++ (if g = true then [⟨4, 3⟩] else []) = X := hX
  have r1 := right_of X (by omega) o4
  have r2 := right_of (X ++ [⟨k, 3⟩]) (by simp; omega) (fun e he => by rcases List.mem_append.1 he with he | he; exact o4 e he; rw [List.mem_singleton.1 he])
  have r3 := right_of (⟨k, 3⟩ :: X) (by simp; omega) (fun e he => by rcases List.mem_cons.1 he with he | he; rw [he]; exact o4 e he)
  have al := alive_of X o4 _ rfl
  rw [o1] at r1
  have o5a := o5k.1
  have o5b : (readP (⟨k, 3⟩ :: X)).2 = false := by simpa using o5k.2
  rw [o5a] at r2
  rw [o5b] at r3
  have fin : ∀ (n : Int) (b : Bool), n = (aliveL X).length → b = (!g && ((h && (k == 2 || k == 4)) || (!h && (k == 3 || k == 4)))) → ∀ q, q = 61 → porticolaw19_LifeWords.j3 q X n k (X ++ [⟨k, 3⟩]) b = some true := by
    intro n b hn hb q1 hq1
    obtain ⟨q, rfl⟩ : ∃ q, q1 = q + 1 := ⟨60, hq1⟩
    have hq : q = 60 := by omega
    have hrr : life_Of.f q X 3 = some rr := by rw [hq]; exact hrr
    have runs : porticolaw19_LifeRuns.f q = some true := by rw [hq]; exact runs
    clear hq hq1
    simp only [porticolaw19_LifeWords.j3]
    rw [Option.bind_some, if_pos (by simp; omega), r1.1, Option.bind_some, if_pos rfl, r1.2, Option.bind_some, if_pos hn.symm, r2.1, Option.bind_some, if_pos (by rw [hb]; simp), show ([⟨k, 3⟩] : List Ev) ++ X = ⟨k, 3⟩ :: X from rfl, r3.1, Option.bind_some, if_neg (by decide), hrr, Option.bind_some, if_pos (by rw [hrl]), runs]
    rfl
  rw [al] at fin
  have fin2 : ∀ n : Int, n = ((if ((readP X).1 3 == some 1) = true then [3] else [] : List Int).length : Int) → ∀ q, q = 62 → porticolaw19_LifeWords.j2 q h g a3 X n = some true := by
    intro n hn q1 hq1
    obtain ⟨q, rfl⟩ : ∃ q, q1 = q + 1 := ⟨61, hq1⟩
    have hq : q = 61 := by omega
    have fin := fun b hb => fin n b hn hb q hq
    clear hq hq1
    simp only [porticolaw19_LifeWords.j2]
    rw [hk, Option.bind_some, Option.bind_some, if_pos (by simp; omega), Option.bind_some, List.nil_append, if_pos (by omega), Option.bind_some]
    cases g with
    | true => rw [if_pos rfl]; exact fin _ (by simp)
    | false =>
      rw [if_neg (by decide)]
      cases h with
      | true =>
        rw [if_pos rfl]
        by_cases k2 : k = 2
        · rw [if_pos k2]; exact fin _ (by simp [k2])
        · rw [if_neg k2]
          by_cases k4 : k = 4
          · rw [if_pos k4]; exact fin _ (by simp [k4])
          · rw [if_neg k4]; exact fin _ (by simp [k2, k4])
      | false =>
        rw [if_neg (by decide)]
        by_cases k3 : k = 3
        · rw [if_pos k3]; exact fin _ (by simp [k3])
        · rw [if_neg k3]; exact fin _ (by simp [k3])
  rw [o2] at fin2
  obtain ⟨q1, hq1⟩ : ∃ q : Nat, q = 63 := ⟨_, rfl⟩
  rw [← hq1]
  obtain ⟨q, rfl⟩ : ∃ q, q1 = q + 1 := ⟨62, hq1⟩
  have hq : q = 62 := by omega
  have fin2 := fun n hn => fin2 n hn q hq
  clear hq hq1
  simp only [porticolaw19_LifeWords.j1]
  cases g with
  | true =>
    rw [if_pos rfl] at hXe ⊢
    have hXl : (PR p ++ if h = true then ([⟨3, 3⟩] : List Ev) else []).length ≤ 30 := by
      have := congrArg List.length hXe
      rw [List.length_append] at this
      omega
    rw [if_pos (by omega), hXe]
    exact fin2 0 (by simp)
  | false =>
    rw [if_neg (show ¬ false = true by decide)]
    rw [if_neg (show ¬ false = true by decide), List.append_nil] at hXe
    rw [hXe]
    cases h with
    | true => rw [if_pos rfl]; exact fin2 0 (by simp)
    | false => rw [if_neg (by decide)]; exact fin2 1 (by simp)
end Go.Proofs.Ytnpmmmgaghhndaa.Pure
