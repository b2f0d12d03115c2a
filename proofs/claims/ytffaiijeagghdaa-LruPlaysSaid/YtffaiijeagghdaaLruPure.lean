/- Package lru: what puts come to, in plain Lean. -/
import Derived.Test.YtffaiijeagghdaaLruRuns
import Derived.Lib.SlicesS
set_option linter.unusedVariables false
set_option linter.unusedSimpArgs false
namespace Go.Proofs.Ytffaiijeagghdaa.Lr

instance : LawfulBEq ByteArray where
  eq_of_beq := fun h => by rw [beq_toListBytes] at h; exact (Lib.bytes_beq_iff _ _).1 h
  rfl := by intro a; rw [beq_toListBytes]; exact (Lib.bytes_beq_iff _ _).2 rfl
theorem beqT {a b : ByteArray} : (a == b) = true ↔ a = b := beq_iff_eq
/-- Of a row, the last put first: the first of each name. -/
def nub : List H → List H
  | [] => []
  | x :: xs => x :: (nub xs).filter (fun y => y.1 != x.1)
theorem nub_mem {l : List H} {x : H} (h : x ∈ nub l) : x ∈ l := by
  induction l with
  | nil => simp [nub] at h
  | cons a l ih =>
    simp only [nub, List.mem_cons, List.mem_filter] at h
    rcases h with rfl | ⟨h, _⟩
    · simp
    · exact List.mem_cons_of_mem _ (ih h)
/-- No name twice. -/
def Dist (l : List H) : Prop := l.Pairwise (fun a b => a.1 ≠ b.1)
theorem nub_dist (l : List H) : Dist (nub l) := by
  induction l with
  | nil => exact List.Pairwise.nil
  | cons a l ih =>
    refine List.Pairwise.cons (fun b hb => ?_) (List.Pairwise.filter _ ih)
    have := (List.mem_filter.1 hb).2
    intro e
    rw [e] at this
    simp at this
theorem nub_has {l : List H} {x : H} (h : x ∈ l) : ∃ y ∈ nub l, y.1 = x.1 := by
  induction l with
  | nil => simp at h
  | cons a l ih =>
    by_cases e : x.1 = a.1
    · exact ⟨a, by simp [nub], e.symm⟩
    · rcases List.mem_cons.1 h with rfl | h
      · exact absurd rfl e
      · obtain ⟨y, hy, e2⟩ := ih h
        refine ⟨y, ?_, e2⟩
        simp only [nub, List.mem_cons, List.mem_filter]
        refine .inr ⟨hy, ?_⟩
        rw [e2]
        simp [e]
theorem nub_snoc (l : List H) (x : H) : nub (l ++ [x]) = if ∃ y ∈ l, y.1 = x.1 then nub l else nub l ++ [x] := by
  induction l with
  | nil => simp [nub]
  | cons a l ih =>
    rw [List.cons_append]
    simp only [nub]
    rw [ih]
    by_cases h : ∃ y ∈ l, y.1 = x.1
    · rw [if_pos h, if_pos (by obtain ⟨y, hy, e⟩ := h; exact ⟨y, List.mem_cons_of_mem _ hy, e⟩)]
    · rw [if_neg h]
      by_cases e : a.1 = x.1
      · rw [if_pos ⟨a, List.mem_cons_self, e⟩, List.filter_append]
        simp [e]
      · rw [if_neg (by
          rintro ⟨y, hy, e2⟩
          rcases List.mem_cons.1 hy with rfl | hy
          · exact e e2
          · exact h ⟨y, hy, e2⟩), List.filter_append]
        have : (x.1 != a.1) = true := by simp; exact fun e2 => e e2.symm
        simp [this]
theorem nub_prefix (l m : List H) : nub l <+: nub (l ++ m) := by
  induction m generalizing l with
  | nil => simp
  | cons a m ih =>
    have h1 := ih (l ++ [a])
    rw [List.append_assoc] at h1
    refine List.IsPrefix.trans ?_ h1
    rw [nub_snoc]
    split
    · exact List.prefix_refl _
    · exact List.prefix_append _ _
/-- What is taken is struck. -/
theorem took_filter {l : List H} (hd : Dist l) (s : ByteArray) : took l s = l.filter (fun y => y.1 != s) := by
  rcases idx_cases l s with hn | ⟨i, hi, hn, he⟩
  · rw [took_none hn]
    symm
    rw [List.filter_eq_self]
    intro a ha
    have h1 := has_none hn
    unfold has at h1
    rw [Option.map_eq_none_iff, List.find?_eq_none] at h1
    have := h1 a ha
    simp only [bne, Bool.not_eq_true'] at *
    simpa using this
  · rw [took_some hn]
    have e : l = l.take i ++ l[i] :: l.drop (i + 1) := by rw [List.getElem_cons_drop, List.take_append_drop]
    have hs : l[i].1 = s := beqT.1 he
    have hd' := hd
    rw [e] at hd'
    unfold Dist at hd'
    rw [List.pairwise_append] at hd'
    obtain ⟨_, h2, h3⟩ := hd'
    conv => rhs; rw [e]
    rw [List.filter_append, List.filter_cons]
    have hno : (l[i].1 != s) = false := by simp [hs]
    rw [hno]
    simp only [Bool.false_eq_true, if_false]
    congr 1
    · symm
      rw [List.filter_eq_self]
      intro a ha
      have := h3 a ha l[i] List.mem_cons_self
      rw [hs] at this
      simpa using this
    · symm
      rw [List.filter_eq_self]
      intro a ha
      have := (List.pairwise_cons.1 h2).1 a ha
      rw [hs] at this
      simpa using fun e => this e.symm
theorem take_filter {l : List H} (hd : Dist l) (s : ByteArray) (r : Nat) : ((l.take (r + 1)).filter (fun y => y.1 != s)).take r = (l.filter (fun y => y.1 != s)).take r := by
  induction l generalizing r with
  | nil => simp
  | cons a l ih =>
    have hd2 := List.pairwise_cons.1 hd
    rw [List.take_succ_cons, List.filter_cons, List.filter_cons]
    by_cases h : a.1 = s
    · have h0 : (a.1 != s) = false := by simp [h]
      rw [h0]
      have hself : ∀ m : List H, (∀ x ∈ m, x ∈ l) → m.filter (fun y => y.1 != s) = m := fun m hm => by
        rw [List.filter_eq_self]
        intro x hx
        have := hd2.1 x (hm x hx)
        rw [h] at this
        simpa using fun e => this e.symm
      simp only [Bool.false_eq_true, if_false]
      rw [hself _ (fun x hx => List.mem_of_mem_take hx), hself _ (fun x hx => hx), List.take_take, Nat.min_self]
    · have h0 : (a.1 != s) = true := by simp [h]
      rw [h0]
      simp only [if_true]
      cases r with
      | zero => simp
      | succ r => rw [List.take_succ_cons, List.take_succ_cons, ih hd2.2 r]
theorem drop_reverse (l : List H) (r : Nat) : (l.drop (l.length - r)).reverse = l.reverse.take r := by
  rw [List.reverse_drop]
  by_cases h : r ≤ l.length
  · congr 1
    omega
  · rw [List.take_of_length_le (by simp; omega), List.take_of_length_le (by simp; omega)]
/-- A put onto what the last puts left. -/
theorem put_nub (r : Nat) (L R : List H) (h : L.reverse = (nub R).take r) (s : ByteArray) (n : Int) : (putL (r : Int) L s n).reverse = (nub ((s, n) :: R)).take r := by
  have hd : Dist L := by
    have h1 : Dist L.reverse := by rw [h]; exact List.Pairwise.sublist (List.take_sublist _ _) (nub_dist R)
    unfold Dist at *
    rw [List.pairwise_reverse] at h1
    exact h1.imp (fun h e => h e.symm)
  unfold putL over
  rw [Int.toNat_natCast, drop_reverse]
  unfold put0
  rw [took_filter hd, List.reverse_append, ← List.filter_reverse, h]
  simp only [List.reverse_cons, List.reverse_nil, List.nil_append, List.singleton_append, nub]
  cases r with
  | zero => simp
  | succ r => rw [List.take_succ_cons, List.take_succ_cons, take_filter (nub_dist R)]
theorem put_len (r : Nat) (L : List H) (s : ByteArray) (n : Int) : (putL (r : Int) L s n).length ≤ r := by
  unfold putL over
  rw [List.length_drop, Int.toNat_natCast]
  omega
/-- What is asked of what the last puts left. -/
theorem has_nub {r : Nat} {L R : List H} (h : L.reverse = (nub R).take r) {s : ByteArray} {n : Int} (hm : (s, n) ∈ (nub R).take r) : has L s = some n := by
  have hd : Dist L := by
    have h1 : Dist L.reverse := by rw [h]; exact List.Pairwise.sublist (List.take_sublist _ _) (nub_dist R)
    unfold Dist at *
    rw [List.pairwise_reverse] at h1
    exact h1.imp (fun h e => h e.symm)
  have hL : (s, n) ∈ L := by rw [← List.mem_reverse, h]; exact hm
  unfold has
  obtain ⟨a, b, e⟩ := List.append_of_mem hL
  have : L.find? (fun h => h.1 == s) = some (s, n) := by
    rw [List.find?_eq_some_iff_append]
    refine ⟨by simp, a, b, e, fun x hx => ?_⟩
    rw [e] at hd
    have := (List.pairwise_append.1 hd).2.2 x hx (s, n) List.mem_cons_self
    simpa using this
  rw [this]
  rfl
end Go.Proofs.Ytffaiijeagghdaa.Lr
