/- The order of patterns is a total order (taken from the pure text of RankOrder), over PRankTells words. Written by set_rank.sh. -/
import Derived.Test.YtfllecoenjljpaaPRankTellsx1
set_option linter.unusedVariables false
set_option linter.unusedSimpArgs false
namespace Go.Proofs.Ytfllecoenjljpaa.OrdRankTells
open Go.RowKit Go.Proofs.Ytfllecoenjljpaa.Given Go.Proofs.Ytfllecoenjljpaa.PRankTells Go.Proofs.YtfllecoenjljpaaW.PrintWords

theorem wf64 {n : Int} (h : (Lit.int .i64 n).wf = true) : -9223372036854775808 ≤ n ∧ n ≤ 9223372036854775807 := by
  simp [Lit.wf, IntKind.min, IntKind.max, IntKind.signed, IntKind.bits] at h
  omega
theorem w64 {n : Int} (h : -9223372036854775808 ≤ n) (h' : n ≤ 9223372036854775807) : wrap64 n = n := by
  unfold wrap64
  omega

theorem mn_le (a b : Int) : mn a b ≤ a ∧ mn a b ≤ b ∧ (0 ≤ a → 0 ≤ b → 0 ≤ mn a b) ∧ (mn a b = a ∨ mn a b = b) := by unfold mn; split <;> omega

/-! orders -/
structure Good {α : Type} (c : α → α → Int) : Prop where
  anti : ∀ a b, c b a = - c a b
  tri : ∀ a b, c a b = -1 ∨ c a b = 0 ∨ c a b = 1
  tr : ∀ a b d, c a b ≤ 0 → c b d ≤ 0 → c a d ≤ 0
theorem Good.self {α : Type} {c : α → α → Int} (h : Good c) (a : α) : c a a = 0 := by
  have := h.anti a a
  omega
theorem Good.tr0 {α : Type} {c : α → α → Int} (h : Good c) {a b d : α} (h1 : c a b = 0) (h2 : c b d = 0) : c a d = 0 := by
  have e1 := h.tr a b d (by omega) (by omega)
  have e2 := h.tr d b a (by have := h.anti b d; omega) (by have := h.anti a b; omega)
  have := h.anti a d
  omega
theorem Good.trl {α : Type} {c : α → α → Int} (h : Good c) {a b d : α} (h1 : c a b < 0) (h2 : c b d ≤ 0) : c a d < 0 := by
  have e1 := h.tr a b d (by omega) h2
  by_cases e : c a d = 0
  · have e2 := h.tr b d a h2 (by have := h.anti a d; omega)
    have := h.anti a b
    omega
  · omega
theorem Good.trr {α : Type} {c : α → α → Int} (h : Good c) {a b d : α} (h1 : c a b ≤ 0) (h2 : c b d < 0) : c a d < 0 := by
  have e1 := h.tr a b d h1 (by omega)
  by_cases e : c a d = 0
  · have e2 := h.tr d a b (by have := h.anti a d; omega) h1
    have := h.anti b d
    omega
  · omega
theorem Good.on {α β : Type} {c : α → α → Int} (h : Good c) (f : β → α) : Good (fun a b => c (f a) (f b)) :=
  ⟨fun a b => h.anti _ _, fun a b => h.tri _ _, fun a b d => h.tr _ _ _⟩
def thenC {α : Type} (c e : α → α → Int) (a b : α) : Int := if c a b = 0 then e a b else c a b
theorem Good.then {α : Type} {c e : α → α → Int} (h : Good c) (g : Good e) : Good (thenC c e) := by
  refine ⟨fun a b => ?_, fun a b => ?_, fun a b d => ?_⟩
  · unfold thenC
    have := h.anti a b
    have := g.anti a b
    by_cases x : c a b = 0
    · rw [if_pos x, if_pos (by omega)]
      omega
    · rw [if_neg x, if_neg (by omega)]
      omega
  · unfold thenC
    split
    · exact g.tri a b
    · exact h.tri a b
  · unfold thenC
    by_cases x : c a b = 0
    · by_cases y : c b d = 0
      · rw [if_pos x, if_pos y, if_pos (h.tr0 x y)]
        exact g.tr a b d
      · rw [if_pos x, if_neg y]
        intro _ h2
        have := h.trr (a := a) (b := b) (d := d) (by omega) (by omega)
        rw [if_neg (by omega)]
        omega
    · rw [if_neg x]
      intro h1 h2
      have h3 : c b d ≤ 0 := by
        by_cases y : c b d = 0
        · omega
        · rw [if_neg y] at h2
          exact h2
      have := h.trl (a := a) (b := b) (d := d) (by omega) h3
      rw [if_neg (by omega)]
      omega
/-- Lists, place by place; where one ends: s. -/
def lex {α : Type} (c : α → α → Int) (s : Int) : List α → List α → Int
  | [], [] => 0
  | [], _ :: _ => s
  | _ :: _, [] => -s
  | a :: x, b :: y => if c a b = 0 then lex c s x y else c a b
theorem Good.lex {α : Type} {c : α → α → Int} (h : Good c) (s : Int) (hs : s = 1 ∨ s = -1) : Good (lex c s) := by
  refine ⟨fun a b => ?_, fun a b => ?_, fun a b d => ?_⟩
  · induction a generalizing b with
    | nil => cases b <;> simp [OrdRankTells.lex]
    | cons a x ih =>
      cases b with
      | nil => simp [OrdRankTells.lex]
      | cons b y =>
        have := h.anti a b
        simp only [OrdRankTells.lex]
        by_cases e : c a b = 0
        · rw [if_pos e, if_pos (by omega)]
          exact ih y
        · rw [if_neg e, if_neg (by omega)]
          exact this
  · induction a generalizing b with
    | nil => cases b <;> simp [OrdRankTells.lex] <;> omega
    | cons a x ih =>
      cases b with
      | nil => simp [OrdRankTells.lex]; omega
      | cons b y =>
        simp only [OrdRankTells.lex]
        split
        · exact ih y
        · exact h.tri a b
  · induction a generalizing b d with
    | nil =>
      cases b with
      | nil => exact fun _ h2 => h2
      | cons b y =>
        intro h1 h2
        cases d with
        | nil => simp [OrdRankTells.lex]
        | cons d z => exact h1
    | cons a x ih =>
      cases b with
      | nil =>
        intro h1 h2
        cases d with
        | nil => exact h1
        | cons d z =>
          simp only [OrdRankTells.lex] at h1 h2
          omega
      | cons b y =>
        cases d with
        | nil =>
          intro h1 h2
          exact h2
        | cons d z =>
          simp only [OrdRankTells.lex]
          by_cases e : c a b = 0
          · by_cases f : c b d = 0
            · rw [if_pos e, if_pos f, if_pos (h.tr0 e f)]
              exact ih y z
            · rw [if_pos e, if_neg f]
              intro _ h2
              have := h.trr (a := a) (b := b) (d := d) (by omega) (by omega)
              rw [if_neg (by omega)]
              omega
          · rw [if_neg e]
            intro h1 h2
            have h3 : c b d ≤ 0 := by
              by_cases f : c b d = 0
              · omega
              · rw [if_neg f] at h2
                exact h2
            have := h.trl (a := a) (b := b) (d := d) (by omega) h3
            rw [if_neg (by omega)]
            omega
theorem lex_zero {α : Type} (c : α → α → Int) (s : Int) (hs : s ≠ 0) : ∀ x y : List α, lex c s x y = 0 ↔ x.length = y.length ∧ ∀ i (h : i < x.length) (h' : i < y.length), c x[i] y[i] = 0
  | [], [] => by simp [lex]
  | [], _ :: _ => by simp [lex, hs]
  | _ :: _, [] => by simp [lex, hs]
  | a :: x, b :: y => by
    have ih := lex_zero c s hs x y
    rw [lex]
    by_cases e : c a b = 0
    · rw [if_pos e, ih]
      constructor
      · rintro ⟨h1, h2⟩
        refine ⟨by simp [h1], ?_⟩
        intro i h h'
        cases i with
        | zero => exact e
        | succ i => exact h2 i (by simpa using h) (by simpa using h')
      · rintro ⟨h1, h2⟩
        exact ⟨by simpa using h1, fun i h h' => h2 (i + 1) (by simpa using h) (by simpa using h')⟩
    · rw [if_neg e]
      constructor
      · intro h; exact absurd h e
      · rintro ⟨h1, h2⟩
        exact absurd (h2 0 (by simp) (by simp)) e
theorem lex_set {α : Type} {c : α → α → Int} (h : Good c) (s : Int) (e : α) : ∀ (x : List α) (i : Nat) (hi : i < x.length), c e x[i] = -1 → lex c s (x.set i e) x = -1
  | [], i, hi, _ => by simp at hi
  | a :: x, 0, hi, hc => by
    have hc' : c e a = -1 := hc
    rw [List.set_cons_zero, lex, if_neg (by omega)]
    exact hc'
  | a :: x, i + 1, hi, hc => by
    rw [List.set_cons_succ, lex, if_pos (h.self a)]
    exact lex_set h s e x i (by simpa using hi) (by simpa using hc)

/-! numbers, bytes -/
def cmpI (a b : Int) : Int := if a < b then -1 else if a > b then 1 else 0
theorem cmp_int (a b : Int) : cmp_Compare_int.f a b = some (cmpI a b) := by
  simp only [cmp_Compare_int.f, cmp_isNaN_int.f, cmpI, bne_self_eq_false, Option.bind_some, Bool.false_eq_true, if_false]
  repeat' split
  all_goals rfl
theorem good_int : Good cmpI := by
  refine ⟨fun a b => ?_, fun a b => ?_, fun a b d => ?_⟩ <;> unfold cmpI <;> (repeat' split) <;> omega
def cmpU (a b : UInt8) : Int := cmpI a.toNat b.toNat
theorem good_u : Good cmpU := good_int.on (fun a : UInt8 => (a.toNat : Int))
theorem cmpU_zero (a b : UInt8) : cmpU a b = 0 ↔ a = b := by
  unfold cmpU cmpI
  constructor
  · intro h
    apply UInt8.toNat_inj.1
    repeat' split at h
    all_goals omega
  · rintro rfl
    repeat' split
    all_goals omega
theorem cmpI_zero (a b : Int) : cmpI a b = 0 ↔ a = b := by
  unfold cmpI
  constructor
  · intro h
    repeat' split at h
    all_goals omega
  · rintro rfl
    repeat' split
    all_goals omega
theorem cmpS_lex : ∀ x y : List UInt8, cmpS x y = lex cmpU (-1) x y
  | [], [] => rfl
  | [], _ :: _ => rfl
  | _ :: _, [] => by simp [cmpS, Op.bytesLess, lex]
  | a :: x, b :: y => by
    have ih := cmpS_lex x y
    rw [lex]
    by_cases e : cmpU a b = 0
    · rw [if_pos e, ← ih]
      have hab := (cmpU_zero a b).1 e
      subst hab
      have : ¬ a < a := by simp
      unfold cmpS
      simp [Op.bytesLess]
    · rw [if_neg e]
      have hab : ¬ a = b := fun h => e ((cmpU_zero a b).2 h)
      unfold cmpS
      by_cases hl : a < b
      · have h2 : a.toNat < b.toNat := UInt8.lt_iff_toNat_lt.1 hl
        have h3 : cmpU a b = -1 := by unfold cmpU cmpI; rw [if_pos (by omega)]
        rw [h3]
        simp [Op.bytesLess, hl]
      · have h2 : ¬ a.toNat < b.toNat := fun h => hl (UInt8.lt_iff_toNat_lt.2 h)
        have h4 : ¬ a.toNat = b.toNat := fun h => hab (UInt8.toNat_inj.1 h)
        have h3 : cmpU a b = 1 := by unfold cmpU cmpI; rw [if_neg (by omega), if_pos (by omega)]
        rw [h3]
        simp [Op.bytesLess, hl, hab]
theorem good_s : Good cmpS := by
  have : cmpS = lex cmpU (-1) := by funext x y; exact cmpS_lex x y
  rw [this]
  exact good_u.lex (-1) (Or.inr rfl)
theorem cmpS_zero (x y : List UInt8) : cmpS x y = 0 ↔ x = y := by
  rw [cmpS_lex, lex_zero _ _ (by omega)]
  constructor
  · rintro ⟨h1, h2⟩
    refine List.ext_getElem h1 fun i h h' => (cmpU_zero _ _).1 (h2 i h h')
  · rintro rfl
    exact ⟨rfl, fun i h h' => good_u.self _⟩

/-! patterns -/
abbrev Sg := S23
def cK (a b : Sg) : Int := cmpI a.f0 b.f0
def cT (a b : Sg) : Int := cmpS a.f1.toList b.f1.toList
theorem good_K : Good cK := good_int.on (fun a : Sg => a.f0)
theorem good_T : Good cT := good_s.on (fun a : Sg => a.f1.toList)
def cmpP : List Sg → List Sg → Int := thenC (lex cK 1) (lex cT 1)
theorem good_P : Good cmpP := (good_K.lex 1 (Or.inl rfl)).then (good_T.lex 1 (Or.inl rfl))
theorem rd_drop (l : List Sg) (i : Nat) (hi : i < l.length) : l.drop i = rd_T23 l i :: l.drop (i + 1) := by
  rw [List.drop_eq_getElem_cons hi]
  unfold rd_T23
  simp [List.getD_eq_getElem?_getD, hi]
theorem rd_get (l : List Sg) (i : Nat) (hi : i < l.length) : rd_T23 l i = l[i] := by
  unfold rd_T23
  simp [List.getD_eq_getElem?_getD, hi]
theorem wn (i : Nat) (h : i < 100) : wrap64 ((i : Int) + 1) = ((i + 1 : Nat) : Int) := by rw [w64 (by omega) (by omega)]; simp
theorem cmp_l1 (x y : List Sg) (hl : x.length = y.length) (hx : x.length ≤ 20) : ∀ (n i k : Nat), i + n = x.length → n < k → rank_Compare.l1 k x y (x.length : Int) (i : Int) = some (lex cT 1 (x.drop i) (y.drop i)) := by
  intro n
  induction n with
  | zero =>
    intro i k hi hk
    obtain ⟨k, rfl⟩ : ∃ m, k = m + 1 := ⟨k - 1, by omega⟩
    rw [rank_Compare.l1, if_neg (by omega), List.drop_eq_nil_of_le (by omega), List.drop_eq_nil_of_le (by omega), lex]
  | succ n ih =>
    intro i k hi hk
    obtain ⟨k, rfl⟩ : ∃ m, k = m + 1 := ⟨k - 1, by omega⟩
    rw [rank_Compare.l1, if_pos (by omega), if_pos (by omega), if_pos (by omega), if_pos (by omega), rd_drop x i (by omega), rd_drop y i (by omega), lex, cmp_Compare_string.f]
    simp only [Option.bind_some]
    rw [wn i (by omega), ih (i + 1) k (by omega) (by omega)]
    show (if cT _ _ = 0 then _ else some (cT _ _)) = _
    split <;> rfl
theorem cmp_l0 (x y : List Sg) (hx : x.length ≤ 20) (hy : y.length ≤ 20) (m : Nat) (hm : (m : Int) = mn (x.length : Int) (y.length : Int)) : ∀ (n i k : Nat), i + n = m → n + 30 < k → rank_Compare.l0 k x y (m : Int) (m : Int) (i : Int) = some (if lex cK 1 (x.drop i) (y.drop i) = 0 then lex cT 1 x y else lex cK 1 (x.drop i) (y.drop i)) := by
  have hmn := mn_le (x.length : Int) (y.length : Int)
  intro n
  induction n with
  | zero =>
    intro i k hi hk
    obtain ⟨k, rfl⟩ : ∃ m, k = m + 1 := ⟨k - 1, by omega⟩
    rw [rank_Compare.l0, if_neg (by omega), cmp_int]
    simp only [Option.bind_some]
    rcases (show x.length < y.length ∨ y.length < x.length ∨ x.length = y.length by omega) with h | h | h
    · have e1 : x.drop i = [] := List.drop_eq_nil_of_le (by omega)
      have e2 : y.drop i ≠ [] := fun h' => by have := List.drop_eq_nil_iff.1 h'; omega
      have hc : cmpI (y.length : Int) (x.length : Int) = 1 := by unfold cmpI; rw [if_neg (by omega), if_pos (by omega)]
      rw [e1, hc]
      cases h2 : y.drop i with
      | nil => exact absurd h2 e2
      | cons b z => simp [lex]
    · have e1 : y.drop i = [] := List.drop_eq_nil_of_le (by omega)
      have e2 : x.drop i ≠ [] := fun h' => by have := List.drop_eq_nil_iff.1 h'; omega
      have hc : cmpI (y.length : Int) (x.length : Int) = -1 := by unfold cmpI; rw [if_pos (by omega)]
      rw [e1, hc]
      cases h2 : x.drop i with
      | nil => exact absurd h2 e2
      | cons b z => simp [lex]
    · have e1 : x.drop i = [] := List.drop_eq_nil_of_le (by omega)
      have e2 : y.drop i = [] := List.drop_eq_nil_of_le (by omega)
      have hc : cmpI (y.length : Int) (x.length : Int) = 0 := (cmpI_zero _ _).2 (by omega)
      have h1 := cmp_l1 x y h hx x.length 0 k (by omega) (by omega)
      rw [e1, e2, hc, lex, if_pos rfl, if_pos rfl, show (m : Int) = (x.length : Int) by omega]
      simpa using h1
  | succ n ih =>
    intro i k hi hk
    obtain ⟨k, rfl⟩ : ∃ m, k = m + 1 := ⟨k - 1, by omega⟩
    rw [rank_Compare.l0, if_pos (by omega), if_pos (by omega), if_pos (by omega), if_pos (by omega), rd_drop x i (by omega), rd_drop y i (by omega), lex, cmp_int]
    simp only [Option.bind_some]
    rw [wn i (by omega), ih (i + 1) k (by omega) (by omega)]
    show (if cK _ _ = 0 then _ else some (cK _ _)) = _
    by_cases e : cK (rd_T23 x i) (rd_T23 y i) = 0
    · rw [if_pos e, if_pos e]
    · rw [if_neg e, if_neg e, if_neg e]
theorem cmp_eq (k : Nat) (hk : 60 ≤ k) (x y : List Sg) (hx : x.length ≤ 20) (hy : y.length ≤ 20) : rank_Compare.f k x y = some (cmpP x y) := by
  have hmn := mn_le (x.length : Int) (y.length : Int)
  obtain ⟨m, hm⟩ : ∃ m : Nat, (m : Int) = mn (x.length : Int) (y.length : Int) := ⟨(mn (x.length : Int) (y.length : Int)).toNat, by omega⟩
  have := cmp_l0 x y hx hy m hm m 0 k (by omega) (by omega)
  unfold rank_Compare.f cmpP thenC
  rw [← hm]
  simpa using this
end Go.Proofs.Ytfllecoenjljpaa.OrdRankTells
