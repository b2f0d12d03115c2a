/- LifeTells: the plain law. -/
import Derived.Test.YtnpmmmgaghhndaaMixedPure
import Derived.Test.YtnpmmmgaghhndaaPLifeBeginsxword
set_option linter.unusedSimpArgs false
set_option linter.unusedVariables false
namespace Go.Proofs.Ytnpmmmgaghhndaa.Lf
open Go.RowKit Go.Proofs.Ytnpmmmgaghhndaa.PLifeBegins Go.Proofs.YtnpmmmgaghhndaaW.PrintWords Go.Proofs.YtnpmmmgaghhndaaW.PrintLast Go.Proofs.Ytnpmmmgaghhndaa.Given Go.Proofs.Ytnpmmmgaghhndaa.Lf

theorem next_gone (k : Int) : (nextP 3 k).2 = false := by
  unfold nextP
  rw [if_neg (by omega), if_neg (by omega), if_neg (by omega)]
theorem ch_gone (l : List Int) : (ch l 3).isSome = decide (l = []) := by
  cases l with
  | nil => rfl
  | cons k t => simp [ch, next_gone]
theorem next_shown (k : Int) : nextP 1 k = if k = 3 then (2, true) else if k = 4 then (3, true) else (1, false) := by
  unfold nextP
  rw [if_neg (by omega)]
  by_cases c : k = 3
  · rw [if_pos ⟨rfl, c⟩, if_pos c]
  · rw [if_neg (by omega), if_neg c]
    by_cases d : k = 4
    · rw [if_pos ⟨d, .inl rfl⟩, if_pos d]
    · rw [if_neg (by omega), if_neg d]
theorem next_kept (k : Int) : nextP 2 k = if k = 2 then (1, true) else if k = 4 then (3, true) else (2, false) := by
  unfold nextP
  by_cases c : k = 2
  · rw [if_pos (.inr ⟨rfl, c⟩), if_pos c]
  · rw [if_neg (by omega), if_neg (by omega), if_neg c]
    by_cases d : k = 4
    · rw [if_pos ⟨d, .inr rfl⟩, if_pos d]
    · rw [if_neg (by omega), if_neg d]
theorem word_l0 (l : List Int) (hl : l.length ≤ 1000) : ∀ (d i : Nat), i + d = l.length → ∀ k, d + 3 < k → porticolaw19_word.l0 k l (i : Int) = some (ch (l.drop i) 1).isSome := by
  intro d
  induction d using Nat.strongRecOn with
  | ind d ih =>
    intro i hi k hk
    obtain ⟨k, rfl⟩ : ∃ m, k = m + 3 := ⟨k - 3, by omega⟩
    have w1 : wrap64 ((i : Int) + 1) = ((i + 1 : Nat) : Int) := by unfold wrap64; omega
    have w2 : wrap64 ((i : Int) + 2) = ((i + 2 : Nat) : Int) := by unfold wrap64; omega
    have w3 : wrap64 (((i + 1 : Nat) : Int) + 1) = ((i + 2 : Nat) : Int) := by unfold wrap64; omega
    have rdl : ∀ j (h : j < l.length), rd l (j : Int) = l[j] := fun j h => by simp [rd, List.getD_eq_getElem?_getD, h]
    have j2f : ∀ q, porticolaw19_word.j2 (q + 1) l (i : Int) false = some (if h : i < l.length then (if l[i] = 4 then decide (i + 1 = l.length) else false) else true) := by
      intro q
      simp only [porticolaw19_word.j2]
      rw [if_neg (by decide)]
      by_cases h : i < l.length
      · rw [if_pos (by omega), if_pos (by omega), rdl i h, dif_pos h, w1]
        by_cases c : l[i] = 4
        · rw [if_pos c, if_pos c]
          congr 1
          rw [Bool.eq_iff_iff, decide_eq_true_iff, beq_iff_eq]
          omega
        · rw [if_neg c, if_neg c]
          congr 1
          rw [beq_eq_false_iff_ne]
          omega
      · rw [if_neg (by omega), dif_neg h]
        congr 1
        rw [beq_iff_eq]
        omega
    have j2t : ∀ q, i < l.length → porticolaw19_word.j2 (q + 1) l (i : Int) true = some (if h : i + 1 < l.length then (if l[i + 1] = 4 then decide (i + 2 = l.length) else false) else true) := by
      intro q h0
      simp only [porticolaw19_word.j2]
      rw [if_pos trivial, w1]
      by_cases h : i + 1 < l.length
      · rw [if_pos (by omega), if_pos (by omega), rdl (i + 1) h, dif_pos h, w3]
        by_cases c : l[i + 1] = 4
        · rw [if_pos c, if_pos c]
          congr 1
          rw [Bool.eq_iff_iff, decide_eq_true_iff, beq_iff_eq]
          omega
        · rw [if_neg c, if_neg c]
          congr 1
          rw [beq_eq_false_iff_ne]
          omega
      · rw [if_neg (by omega), dif_neg h]
        congr 1
        rw [beq_iff_eq]
        omega
    have j1 : ∀ q, porticolaw19_word.j1 (q + 2) l (i : Int) = some (if h : i < l.length then (if l[i] = 3 then (if h : i + 1 < l.length then (if l[i + 1] = 4 then decide (i + 2 = l.length) else false) else true) else (if l[i] = 4 then decide (i + 1 = l.length) else false)) else true) := by
      intro q
      show porticolaw19_word.j1 ((q + 1) + 1) l (i : Int) = _
      simp only [porticolaw19_word.j1]
      by_cases h : i < l.length
      · rw [if_pos (by omega), if_pos (by omega), rdl i h, dif_pos h]
        by_cases c : l[i] = 3
        · rw [show (l[i] == 3) = true from by rw [c]; rfl, j2t q h, if_pos c]
        · rw [show (l[i] == 3) = false from by simpa using c, j2f q, dif_pos h, if_neg c]
      · rw [if_neg (by omega), j2f q, dif_neg h, dif_neg h]
    obtain ⟨K, hK⟩ : ∃ K, k + 2 = K := ⟨_, rfl⟩
    have j1K := j1 k
    rw [hK] at j1K
    have ih2 : ∀ i2, i2 + (d - 2) = l.length → 2 ≤ d → porticolaw19_word.l0 K l (i2 : Int) = some (ch (l.drop i2) 1).isSome := fun i2 h h2 => ih (d - 2) (by omega) i2 h K (by omega)
    show porticolaw19_word.l0 ((k + 2) + 1) l (i : Int) = _
    rw [hK]
    clear hK hk ih j1
    simp only [porticolaw19_word.l0]
    rw [w1, w2]
    by_cases h : i < l.length
    · rw [List.drop_eq_getElem_cons h]
      by_cases h1 : i + 1 < l.length
      · rw [if_pos (by omega), if_pos (by omega), if_pos (by omega), rdl i h, List.drop_eq_getElem_cons h1]
        by_cases c : l[i] = 3
        · rw [if_pos c, if_pos (by omega), rdl (i + 1) h1]
          by_cases c2 : l[i + 1] = 2
          · rw [if_pos c2, ih2 (i + 2) (by omega) (by omega), c, c2]
            rfl
          · rw [if_neg c2, j1K, dif_pos h, if_pos c, dif_pos h1, c]
            congr 1
            show _ = (ch (l[i + 1] :: l.drop (i + 1 + 1)) 2).isSome
            unfold ch
            rw [next_kept, if_neg c2]
            by_cases c4 : l[i + 1] = 4
            · rw [if_pos c4, if_pos c4]
              show _ = (ch (l.drop (i + 1 + 1)) 3).isSome
              rw [ch_gone, decide_eq_decide, List.drop_eq_nil_iff]
              omega
            · rw [if_neg c4, if_neg c4]; rfl
        · rw [if_neg c, j1K, dif_pos h, if_neg c]
          congr 1
          unfold ch
          rw [next_shown, if_neg c]
          by_cases c4 : l[i] = 4
          · rw [if_pos c4, if_pos c4]
            show _ = (ch (l[i + 1] :: _) 3).isSome
            rw [ch_gone]
            simp
            omega
          · rw [if_neg c4, if_neg c4]; rfl
      · have hd : l.drop (i + 1) = [] := List.drop_eq_nil_iff.2 (by omega)
        rw [if_neg (by omega), hd, j1K, dif_pos h]
        congr 1
        unfold ch
        rw [next_shown]
        by_cases c : l[i] = 3
        · rw [if_pos c, dif_neg h1, if_pos c]; rfl
        · rw [if_neg c, if_neg c]
          by_cases c4 : l[i] = 4
          · rw [if_pos c4, if_pos c4]
            show _ = (ch [] 3).isSome
            rw [decide_eq_true (by omega)]
            rfl
          · rw [if_neg c4, if_neg c4]; rfl
    · have hd : l.drop i = [] := List.drop_eq_nil_iff.2 (by omega)
      rw [if_neg (by omega), hd, j1K, dif_neg h]
      rfl
theorem word_eq (l : List Int) (hl : l.length ≤ 1000) : porticolaw19_word.f (l.length + 10) l = some (ch l 0).isSome := by
  unfold porticolaw19_word.f
  cases l with
  | nil => rfl
  | cons k t =>
    rw [if_neg (by first | (simp; done) | (simp; omega)), if_pos (by first | (simp; done) | (simp; omega))]
    have hr : rd (k :: t) 0 = k := by simp [rd]
    rw [hr]
    have h0 : (nextP 0 k) = if k = 1 then (1, true) else (0, false) := by
      unfold nextP
      by_cases c : k = 1
      · rw [if_pos (.inl ⟨rfl, c⟩), if_pos c]
      · rw [if_neg (by omega), if_neg (by omega), if_neg (by omega), if_neg c]
    by_cases c : k = 1
    · rw [if_pos c]
      have := word_l0 (k :: t) hl t.length 1 (by first | (simp; done) | (simp; omega)) ((k :: t).length + 10) (by first | (simp; done) | (simp; omega))
      rw [show ((1 : Nat) : Int) = 1 from rfl] at this
      rw [this]
      congr 2
      show ch t 1 = ch (k :: t) 0
      unfold ch
      rw [h0, if_pos c]
      cases t <;> rfl
    · rw [if_neg c]
      congr 1
      unfold ch
      rw [h0, if_neg c]
      rfl
/-- A number's kinds, in order. -/
def rowk (l : List Ev) (n : Int) : List Int := (l.filter (fun e => e.f1 == n)).map (·.f0)
theorem rowk_cons (e : Ev) (t : List Ev) (n : Int) : rowk (e :: t) n = if e.f1 = n then e.f0 :: rowk t n else rowk t n := by
  unfold rowk
  by_cases c : e.f1 = n
  · rw [List.filter_cons_of_pos (by simpa using c), if_pos c]; rfl
  · rw [List.filter_cons_of_neg (by simpa using c), if_neg c]
theorem rowk_snoc (l : List Ev) (e : Ev) (n : Int) : rowk (l ++ [e]) n = rowk l n ++ (if e.f1 = n then [e.f0] else []) := by
  unfold rowk
  rw [List.filter_append, List.map_append]
  congr 1
  by_cases c : e.f1 = n
  · rw [List.filter_cons_of_pos (by simpa using c), if_pos c]; rfl
  · rw [List.filter_cons_of_neg (by simpa using c), if_neg c]; rfl
/-- Mounts' numbers rise. -/
def rising : List Ev → Int → Bool
  | [], _ => true
  | e :: t, last => if e.f0 = 1 then decide (last < e.f1) && rising t e.f1 else rising t last
theorem getS_upd (m : Int → Option Int) (n v x : Int) : getS (updI m n v) x = if x = n then v else getS m x := by
  unfold getS updI
  split <;> rfl
theorem ch_cons (k s : Int) (t : List Int) : ch (k :: t) s = if (nextP s k).2 = true then ch t (nextP s k).1 else none := rfl
theorem ch_upd (m : Int → Option Int) (e : Ev) (t : List Ev) (hok : (nextP (getS m e.f1) e.f0).2 = true) (n : Int) : ch (rowk (e :: t) n) (getS m n) = ch (rowk t n) (getS (updI m e.f1 (nextP (getS m e.f1) e.f0).1) n) := by
  rw [rowk_cons, getS_upd]
  by_cases c : e.f1 = n
  · subst c
    rw [if_pos rfl, if_pos rfl, ch_cons, if_pos hok]
  · rw [if_neg c, if_neg (Ne.symm c)]
theorem read_iff : ∀ (l : List Ev) (m : Int → Option Int) (last : Int), (readGo l m last).2 = true ↔ (∀ e ∈ l, 1 ≤ e.f1) ∧ rising l last = true ∧ ∀ n, (ch (rowk l n) (getS m n)).isSome = true
  | [], m, last => ⟨fun _ => ⟨fun e he => by (cases he), rfl, fun n => rfl⟩, fun _ => rfl⟩
  | e :: t, m, last => by
    have ih := fun m' last' => read_iff t m' last'
    unfold readGo
    by_cases c1 : (nextP (getS m e.f1) e.f0).2 = false
    · rw [if_pos c1]
      refine ⟨fun h => (by cases h), fun h => ?_⟩
      have := h.2.2 e.f1
      rw [rowk_cons, if_pos rfl, ch_cons, c1] at this
      cases this
    · rw [if_neg c1]
      have hok : (nextP (getS m e.f1) e.f0).2 = true := by simpa using c1
      have hch := ch_upd m e t hok
      by_cases c2 : e.f1 < 1
      · rw [if_pos c2]
        refine ⟨fun h => (by cases h), fun h => ?_⟩
        have := h.1 e (by simp)
        omega
      · rw [if_neg c2]
        have hall : (∀ x ∈ e :: t, 1 ≤ x.f1) ↔ ∀ x ∈ t, 1 ≤ x.f1 := ⟨fun h x hx => h x (by simp [hx]), fun h x hx => by
          rcases List.mem_cons.1 hx with rfl | hx
          · omega
          · exact h x hx⟩
        rw [hall]
        have hcs : (∀ n, (ch (rowk (e :: t) n) (getS m n)).isSome = true) ↔ ∀ n, (ch (rowk t n) (getS (updI m e.f1 (nextP (getS m e.f1) e.f0).1) n)).isSome = true :=
          ⟨fun h n => by rw [← hch n]; exact h n, fun h n => by rw [hch n]; exact h n⟩
        rw [hcs]
        unfold rising
        by_cases c3 : e.f0 = 1
        · rw [if_pos c3, if_pos c3]
          by_cases c4 : e.f1 ≤ last
          · rw [if_pos c4, decide_eq_false (by omega)]
            exact ⟨fun h => (by cases h), fun h => by have := h.2.1; simp at this⟩
          · rw [if_neg c4, decide_eq_true (by omega), Bool.true_and]
            exact ih _ _
        · rw [if_neg c3, if_neg c3]
          exact ih _ _
theorem read_end : ∀ (l : List Ev) (m : Int → Option Int) (last : Int), (readGo l m last).2 = true → ∀ n, ch (rowk l n) (getS m n) = some (getS (readGo l m last).1 n)
  | [], m, last, _, n => rfl
  | e :: t, m, last, h, n => by
    have ih := fun m' last' h' => read_end t m' last' h' n
    unfold readGo at h ⊢
    by_cases c1 : (nextP (getS m e.f1) e.f0).2 = false
    · rw [if_pos c1] at h; cases h
    · rw [if_neg c1] at h ⊢
      have hok : (nextP (getS m e.f1) e.f0).2 = true := by simpa using c1
      rw [ch_upd m e t hok]
      by_cases c2 : e.f1 < 1
      · rw [if_pos c2] at h; cases h
      · rw [if_neg c2] at h ⊢
        by_cases c3 : e.f0 = 1
        · rw [if_pos c3] at h ⊢
          by_cases c4 : e.f1 ≤ last
          · rw [if_pos c4] at h; cases h
          · rw [if_neg c4] at h ⊢; exact ih _ _ h
        · rw [if_neg c3] at h ⊢; exact ih _ _ h
theorem next_one (s k : Int) (h : (nextP s k).2 = true) : (nextP s k).1 = 1 ↔ k = 1 ∨ k = 2 := by
  unfold nextP at *
  split
  · next c => exact ⟨fun _ => by omega, fun _ => rfl⟩
  · next c =>
    rw [if_neg c] at h
    split
    · next c2 => exact ⟨fun h => by simp at h, fun h => by omega⟩
    · next c2 =>
      rw [if_neg c2] at h
      split
      · next c3 => exact ⟨fun h => by simp at h, fun h => by omega⟩
      · next c3 => rw [if_neg c3] at h; cases h
theorem ch_last (r : List Int) (k s q : Int) (h : ch (r ++ [k]) s = some q) : q = 1 ↔ k = 1 ∨ k = 2 := by
  rw [ch_app] at h
  cases e : ch r s with
  | none => rw [e] at h; cases h
  | some u =>
    rw [e] at h
    obtain ⟨h1, h2⟩ := ch_one u k q h
    rw [h2]
    exact next_one u k h1
/-- The last mount's number. -/
def lastM : List Ev → Int → Int
  | [], last => last
  | e :: t, last => if e.f0 = 1 then lastM t e.f1 else lastM t last
theorem lastM_snoc : ∀ (l : List Ev) (e : Ev) (last : Int), lastM (l ++ [e]) last = if e.f0 = 1 then e.f1 else lastM l last
  | [], e, last => by
    show (if e.f0 = 1 then lastM [] e.f1 else lastM [] last) = _
    rfl
  | x :: t, e, last => by
    show (if x.f0 = 1 then lastM (t ++ [e]) x.f1 else lastM (t ++ [e]) last) = if e.f0 = 1 then e.f1 else (if x.f0 = 1 then lastM t x.f1 else lastM t last)
    rw [lastM_snoc t e x.f1, lastM_snoc t e last]
    by_cases c : x.f0 = 1
    · rw [if_pos c, if_pos c]
    · rw [if_neg c, if_neg c]
theorem rising_snoc : ∀ (l : List Ev) (e : Ev) (last : Int), rising (l ++ [e]) last = (rising l last && (if e.f0 = 1 then decide (lastM l last < e.f1) else true))
  | [], e, last => by
    show (if e.f0 = 1 then decide (last < e.f1) && rising [] e.f1 else rising [] last) = (true && (if e.f0 = 1 then decide (last < e.f1) else true))
    by_cases c : e.f0 = 1
    · rw [if_pos c, if_pos c]; simp [rising]
    · rw [if_neg c, if_neg c]; rfl
  | x :: t, e, last => by
    show (if x.f0 = 1 then decide (last < x.f1) && rising (t ++ [e]) x.f1 else rising (t ++ [e]) last) = ((if x.f0 = 1 then decide (last < x.f1) && rising t x.f1 else rising t last) && (if e.f0 = 1 then decide ((if x.f0 = 1 then lastM t x.f1 else lastM t last) < e.f1) else true))
    rw [rising_snoc t e x.f1, rising_snoc t e last]
    by_cases c : x.f0 = 1
    · rw [if_pos c, if_pos c, if_pos c, Bool.and_assoc]
    · rw [if_neg c, if_neg c, if_neg c]
end Go.Proofs.Ytnpmmmgaghhndaa.Lf
