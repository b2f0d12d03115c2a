/- Plain facts on cutting and splitting texts at a byte, and on codes: none of '/', '?', '&', '=' is in a code. -/
import Derived.Test.YtcaaggfobdfgpaaDoorCutSplit
import Derived.Test.YtcaaggfobdfgpaaDoorPctLaw
set_option linter.unusedVariables false
set_option linter.unusedSimpArgs false
namespace Go.Proofs.YtcaaggfobdfgpaaDoor.UP
open Go.RowKit Go.Proofs.YtcaaggfobdfgpaaDoor.Pct Go.Proofs.YtcaaggfobdfgpaaDoor.Given

theorem ix_not {l : List UInt8} {c : UInt8} (h : c ∉ l) : Lib.index l [c] = -1 := by
  rw [Lib.index_one]
  induction l with
  | nil => rfl
  | cons x l ih =>
    have h1 : ¬ x = c := fun e => h (by rw [e]; exact List.mem_cons_self)
    have h2 := ih (fun e => h (List.mem_cons_of_mem _ e))
    unfold Lib.indexByte
    simp [h1, h2]
theorem ix_at (a b : List UInt8) (c : UInt8) (h : c ∉ a) : Lib.index (a ++ c :: b) [c] = (a.length : Int) := by
  rw [Lib.index_one]
  induction a with
  | nil => simp [Lib.indexByte]
  | cons x a ih =>
    have h1 : ¬ x = c := fun e => h (by rw [e]; exact List.mem_cons_self)
    have h2 := ih (fun e => h (List.mem_cons_of_mem _ e))
    rw [List.cons_append]
    unfold Lib.indexByte
    have h3 : ¬ ((a.length : Int) = -1) := by omega
    simp [h1, h2, h3]
theorem cut_not {l : List UInt8} {c : UInt8} (h : c ∉ l) : Lib.cut l [c] = (l, [], false) := by
  unfold Lib.cut
  rw [ix_not h, if_neg (by decide)]
theorem cut_at (a b : List UInt8) (c : UInt8) (h : c ∉ a) : Lib.cut (a ++ c :: b) [c] = (a, b, true) := by
  unfold Lib.cut
  rw [ix_at a b c h, if_pos (by omega)]
  simp
theorem first_at (l : List UInt8) (c : UInt8) (h : c ∈ l) : ∃ a b, l = a ++ c :: b ∧ c ∉ a := by
  induction l with
  | nil => cases h
  | cons x l ih =>
    by_cases e : x = c
    · exact ⟨[], l, by rw [e]; rfl, by simp⟩
    · obtain ⟨a, b, h1, h2⟩ := ih (by rcases List.mem_cons.1 h with h | h; exact absurd h.symm e; exact h)
      exact ⟨x :: a, b, by rw [h1]; rfl, fun h3 => by rcases List.mem_cons.1 h3 with h3 | h3; exact e h3.symm; exact h2 h3⟩
/-- The parts of a text between a byte. -/
def splitC (c : UInt8) : List UInt8 → List (List UInt8)
  | [] => [[]]
  | x :: l => if x = c then [] :: splitC c l else match splitC c l with
    | [] => [[x]]
    | h :: t => (x :: h) :: t
theorem splitC_ne (c : UInt8) (l : List UInt8) : splitC c l ≠ [] := by
  cases l with
  | nil => simp [splitC]
  | cons x l =>
    unfold splitC
    split
    · simp
    · split <;> simp
theorem splitC_not {c : UInt8} {l : List UInt8} (h : c ∉ l) : splitC c l = [l] := by
  induction l with
  | nil => rfl
  | cons x l ih =>
    have h1 : ¬ x = c := fun e => h (by rw [e]; exact List.mem_cons_self)
    unfold splitC
    rw [if_neg h1, ih (fun e => h (List.mem_cons_of_mem _ e))]
theorem splitC_at {c : UInt8} (a b : List UInt8) (h : c ∉ a) : splitC c (a ++ c :: b) = a :: splitC c b := by
  induction a with
  | nil =>
    rw [List.nil_append]
    show (if c = c then [] :: splitC c b else _) = _
    rw [if_pos rfl]
  | cons x a ih =>
    have h1 : ¬ x = c := fun e => h (by rw [e]; exact List.mem_cons_self)
    rw [List.cons_append]
    show (if x = c then _ else match splitC c (a ++ c :: b) with | [] => [[x]] | h :: t => (x :: h) :: t) = _
    rw [if_neg h1, ih (fun e => h (List.mem_cons_of_mem _ e))]
theorem splitK_eq (c : UInt8) : ∀ (n : Nat) (l : List UInt8), l.length ≤ n → Lib.splitK [c] 0 (Lib.count l [c]) l = splitC c l ∧ (splitC c l).length = Lib.count l [c] + 1 := by
  intro n
  induction n with
  | zero =>
    intro l h
    obtain rfl : l = [] := List.eq_nil_of_length_eq_zero (by omega)
    rw [Lib.count_miss (ix_not (by simp))]
    exact ⟨rfl, rfl⟩
  | succ n ih =>
    intro l h
    by_cases hc : c ∈ l
    · obtain ⟨a, b, rfl, ha⟩ := first_at l c hc
      have hi := ix_at a b c ha
      have hd : (a ++ c :: b).drop (a.length + 1) = b := by
        rw [show a ++ c :: b = (a ++ [c]) ++ b by simp, show a.length + 1 = (a ++ [c]).length by simp, List.drop_left]
      obtain ⟨h1, h2⟩ := ih b (by simp at h; omega)
      rw [Lib.count_hit (by simp) hi, show ([c] : List UInt8).length = 1 from rfl, hd, splitC_at a b ha]
      refine ⟨?_, by simp [h2]; omega⟩
      rw [show 1 + Lib.count b [c] = Lib.count b [c] + 1 by omega, Lib.splitK, if_neg (by rw [hi]; simp), hi]
      simp only [Int.toNat_natCast, Nat.add_zero, List.length_singleton, hd, h1]
      rw [List.take_left]
    · rw [Lib.count_miss (ix_not hc), splitC_not hc]
      exact ⟨rfl, rfl⟩
def ba (l : List UInt8) : ByteArray := ⟨l.toArray⟩
theorem ba_data (l : List UInt8) : (ba l).data.toList = l := rfl
theorem ba_of (s : ByteArray) : ba s.data.toList = s := rfl
theorem ba_inj {l m : List UInt8} (h : ba l = ba m) : l = m := congrArg (fun s : ByteArray => s.data.toList) h
theorem split_eq (s : ByteArray) (c : UInt8) (hs : s.size < 4294967281) : strings_Split.f s ⟨#[c]⟩ = some ((splitC c s.data.toList).map ba) := by
  unfold strings_Split.f
  rw [if_pos ⟨rfl, hs⟩]
  congr 1
  have h1 := Lib.splitB_data ⟨#[c]⟩ 0 (Lib.countB s ⟨#[c]⟩) s
  rw [show (⟨#[c]⟩ : ByteArray).data.toList = [c] from rfl, show Lib.countB s ⟨#[c]⟩ = Lib.count s.data.toList [c] from rfl, (splitK_eq c _ _ (Nat.le_refl _)).1] at h1
  rw [← h1, List.map_map]
  conv => lhs; rw [← List.map_id (Lib.splitB _ _ _ _)]
  rfl
theorem cut_eq (s : ByteArray) (c : UInt8) (hs : s.size < 4294967281) : strings_Cut.f s ⟨#[c]⟩ = some (ba (Lib.cut s.data.toList [c]).1, ba (Lib.cut s.data.toList [c]).2.1, (Lib.cut s.data.toList [c]).2.2) := by
  unfold strings_Cut.f
  rw [if_pos ⟨rfl, hs⟩]
  rfl
theorem hex_no : ∀ n : Fin 16, hexD n.1 ≠ 47 ∧ hexD n.1 ≠ 63 ∧ hexD n.1 ≠ 38 ∧ hexD n.1 ≠ 61 := by decide +kernel
/-- A byte that parts a URL. -/
def Sep (c : UInt8) : Prop := c = 47 ∨ c = 63 ∨ c = 38 ∨ c = 61
theorem sep_plain {c : UInt8} (h : Sep c) : plainP c.toNat = false := by
  rcases h with rfl | rfl | rfl | rfl <;> decide +kernel
theorem enc_no {c : UInt8} (h : Sep c) (l : List UInt8) : c ∉ encL l := by
  intro hm
  unfold encL at hm
  obtain ⟨x, _, hx⟩ := List.mem_flatMap.1 hm
  unfold encB at hx
  have hb := x.toNat_lt
  split at hx
  · rename_i hp
    have e : c = x := by simpa using hx
    rw [← e, sep_plain h] at hp
    cases hp
  · have h1 := hex_no ⟨x.toNat / 16, by omega⟩
    have h2 := hex_no ⟨x.toNat % 16, by omega⟩
    simp only at h1 h2
    simp only [List.mem_cons, List.mem_nil_iff, or_false] at hx
    rcases h with rfl | rfl | rfl | rfl <;> rcases hx with hx | hx | hx
    · cases hx
    · exact h1.1 hx.symm
    · exact h2.1 hx.symm
    · cases hx
    · exact h1.2.1 hx.symm
    · exact h2.2.1 hx.symm
    · cases hx
    · exact h1.2.2.1 hx.symm
    · exact h2.2.2.1 hx.symm
    · cases hx
    · exact h1.2.2.2 hx.symm
    · exact h2.2.2.2 hx.symm
theorem enc_nil {l : List UInt8} (h : encL l = []) : l = [] := by
  have := dec_enc l
  rw [h] at this
  simp [decL] at this
  exact this
theorem dec_eq (s : ByteArray) (hs : s.size ≤ 1099511627776) : pct_Decode.f s = some (decS (decL s.data.toList), (decL s.data.toList).isSome) := by
  unfold pct_Decode.f
  rw [if_pos hs]
theorem decL_le : ∀ (n : Nat) (l m : List UInt8), l.length ≤ n → decL l = some m → m.length ≤ l.length := by
  intro n
  induction n with
  | zero =>
    intro l m hn h
    obtain rfl : l = [] := List.eq_nil_of_length_eq_zero (by omega)
    simp [decL] at h
    subst h
    simp
  | succ n ih =>
    intro l m hn h
    cases l with
    | nil => simp [decL] at h; subst h; simp
    | cons c r =>
      rw [decL] at h
      cases e : stepD c r with
      | none => rw [e] at h; cases h
      | some q =>
        obtain ⟨b, k⟩ := q
        rw [e] at h
        simp only at h
        cases e2 : decL (r.drop k) with
        | none => rw [e2] at h; cases h
        | some m2 =>
          rw [e2] at h
          cases h
          have := ih (r.drop k) m2 (by rw [List.length_drop]; simp at hn; omega) e2
          rw [List.length_drop] at this
          simp
          omega
end Go.Proofs.YtcaaggfobdfgpaaDoor.UP
