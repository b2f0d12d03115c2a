/- URLParts: url.Right in plain words; url.Print's contract by hand. Condition: none (a URL that isn't right has the text ""). -/
import Derived.Test.YtcaaggfobdfgpaaDoorPURLPartsx2
import Derived.Test.YtcaaggfobdfgpaaDoorBuilder
import Derived.Test.YtcaaggfobdfgpaaDoorPctEncode
import Derived.Deep.LoopGhost
import Derived.Deep.RegionHeld
import Derived.Lib.Hide
set_option linter.unusedVariables false
set_option linter.unusedSimpArgs false
namespace Go.Proofs.YtcaaggfobdfgpaaDoor.UURLParts
open Go.RowKit Go.Proofs.YtcaaggfobdfgpaaDoor.PURLParts Go.Proofs.YtcaaggfobdfgpaaDoorW.PrintWords Go.Proofs.YtcaaggfobdfgpaaDoorW.PrintLast Go.Proofs.YtcaaggfobdfgpaaDoorW.PrintMore Go.Proofs.YtcaaggfobdfgpaaDoor.Pct

abbrev Pr := S32
def textB (s : ByteArray) (m : Nat) : Bool := decide (m ≤ s.size) && decide (s.size ≤ 64)
def rightB (p : List ByteArray) (q : List Pr) : Bool := decide (p.length ≤ 8) && decide (q.length ≤ 8) && p.all (textB · 1) && q.all (fun x => textB x.f0 1 && textB x.f1 0)
theorem text_eq (s : ByteArray) (m : Nat) : url_text.f s m = some (textB s m) := by
  unfold url_text.f textB
  by_cases h : m ≤ s.size
  · rw [if_pos (by omega), decide_eq_true h, Bool.true_and]
    congr 1
    exact decide_eq_decide.2 (by omega)
  · rw [if_neg (by omega), decide_eq_false h, Bool.false_and]
theorem wrapS (i : Nat) (h : i ≤ 1000000) : wrap64 ((i : Int) + 1) = ((i + 1 : Nat) : Int) := by unfold wrap64; omega
theorem rdOf_at {α : Type} (d : α) (l : List α) (i : Nat) (h : i < l.length) : rdOf d l (i : Int) = l[i] := by
  unfold rdOf
  rw [List.getD_eq_getElem?_getD]
  simp [List.getElem?_eq_getElem h]
theorem rdP_at (l : List Pr) (i : Nat) (h : i < l.length) : rd_T32 l (i : Int) = l[i] := by
  unfold rd_T32
  rw [List.getD_eq_getElem?_getD]
  simp [List.getElem?_eq_getElem h]
theorem right_l1 (q : List Pr) (hq : q.length ≤ 1000000) : ∀ (n i k : Nat), q.length - i ≤ n → i ≤ q.length → n < k → url_Right.l1 k q (q.length : Int) (i : Int) = some ((q.drop i).all (fun x => textB x.f0 1 && textB x.f1 0)) := by
  intro n
  induction n with
  | zero =>
    intro i k h1 h2 h3
    obtain ⟨k, rfl⟩ : ∃ m, k = m + 1 := ⟨k - 1, by omega⟩
    unfold url_Right.l1
    rw [if_neg (by omega), List.drop_of_length_le (by omega)]
    rfl
  | succ n ih =>
    intro i k h1 h2 h3
    obtain ⟨k, rfl⟩ : ∃ m, k = m + 1 := ⟨k - 1, by omega⟩
    unfold url_Right.l1
    by_cases hi : i < q.length
    · rw [if_pos (by omega), if_pos (by omega), if_pos (by omega), rdP_at q i hi, List.drop_eq_getElem_cons hi, show (1 : Int) = ((1 : Nat) : Int) from rfl, text_eq]
      simp only [Option.bind_some, List.all_cons]
      by_cases h5 : textB q[i].f0 1 = true
      · rw [if_pos h5, show (0 : Int) = ((0 : Nat) : Int) from rfl, text_eq]
        simp only [Option.bind_some]
        by_cases h6 : textB q[i].f1 0 = true
        · rw [if_pos h6, show wrap64 ((i : Int) + ((1 : Nat) : Int)) = ((i + 1 : Nat) : Int) from wrapS i (by omega), ih (i + 1) k (by omega) (by omega) (by omega), h5, h6]
          rfl
        · rw [if_neg h6, h5]
          simp [h6]
      · rw [if_neg h5]
        simp [h5]
    · rw [if_neg (by omega), List.drop_of_length_le (by omega)]
      rfl
theorem right_l0 (p : List ByteArray) (q : List Pr) (hp : p.length ≤ 1000000) (hq : q.length ≤ 1000000) : ∀ (n i k : Nat), p.length - i ≤ n → i ≤ p.length → n + q.length + 1 < k → url_Right.l0 k p (p.length : Int) (i : Int) p q = some ((p.drop i).all (textB · 1) && q.all (fun x => textB x.f0 1 && textB x.f1 0)) := by
  intro n
  induction n with
  | zero =>
    intro i k h1 h2 h3
    obtain ⟨k, rfl⟩ : ∃ m, k = m + 1 := ⟨k - 1, by omega⟩
    unfold url_Right.l0
    rw [if_neg (by omega), List.drop_of_length_le (by omega), show (0 : Int) = ((0 : Nat) : Int) from rfl, right_l1 q hq q.length 0 k (by omega) (by omega) (by omega)]
    rfl
  | succ n ih =>
    intro i k h1 h2 h3
    obtain ⟨k, rfl⟩ : ∃ m, k = m + 1 := ⟨k - 1, by omega⟩
    unfold url_Right.l0
    by_cases hi : i < p.length
    · rw [if_pos (by omega), if_pos (by omega), if_pos (by omega), rdOf_at _ p i hi, List.drop_eq_getElem_cons hi, show (1 : Int) = ((1 : Nat) : Int) from rfl, text_eq]
      simp only [Option.bind_some, List.all_cons]
      by_cases h5 : textB p[i] 1 = true
      · rw [if_pos h5, show wrap64 ((i : Int) + ((1 : Nat) : Int)) = ((i + 1 : Nat) : Int) from wrapS i (by omega), ih (i + 1) k (by omega) (by omega) (by omega), h5]
        rfl
      · rw [if_neg h5]
        simp [h5]
    · rw [if_neg (by omega), List.drop_of_length_le (by omega), show (0 : Int) = ((0 : Nat) : Int) from rfl, right_l1 q hq q.length 0 k (by omega) (by omega) (by omega)]
      rfl
theorem right_eq (p : List ByteArray) (q : List Pr) (k : Nat) (hk : 40 ≤ k) : url_Right.f k p q = some (rightB p q) := by
  obtain ⟨k, rfl⟩ : ∃ m, k = m + 1 := ⟨k - 1, by omega⟩
  unfold url_Right.f rightB
  by_cases h1 : p.length ≤ 8
  · rw [if_neg (by omega)]
    simp only [url_Right.j0]
    by_cases h2 : q.length ≤ 8
    · rw [if_neg (by simp; omega), show (0 : Int) = ((0 : Nat) : Int) from rfl, right_l0 p q (by omega) (by omega) p.length 0 k (by omega) (by omega) (by omega)]
      simp [h1, h2]
    · rw [if_pos (by simp; omega)]
      simp [h2]
  · rw [if_pos (by omega)]
    simp only [url_Right.j0]
    rw [if_pos trivial]
    simp [h1]

def segL (x : ByteArray) : List UInt8 := 47 :: encL x.data.toList
def pathL (p : List ByteArray) : List UInt8 := p.flatMap segL
def pairL (x : Pr) : List UInt8 := encL x.f0.data.toList ++ 61 :: encL x.f1.data.toList
def moreL (q : List Pr) : List UInt8 := q.flatMap (fun x => 38 :: pairL x)
def queryL : List Pr → List UInt8
  | [] => []
  | x :: r => 63 :: pairL x ++ moreL r
def headL (p : List ByteArray) : List UInt8 := if p.length = 0 then [47] else pathL p
def printL (p : List ByteArray) (q : List Pr) : List UInt8 := headL p ++ queryL q
theorem pathL_snoc (p : List ByteArray) (x : ByteArray) : pathL (p ++ [x]) = pathL p ++ segL x := by simp [pathL]
theorem queryL_snoc (q : List Pr) (x : Pr) : queryL (q ++ [x]) = queryL q ++ (if q.length = 0 then (63 : UInt8) else 38) :: pairL x := by
  cases q with
  | nil => simp [queryL, moreL]
  | cons y r => simp [queryL, moreL]
theorem take_succ {α : Type} (l : List α) (i : Nat) (h : i < l.length) : l.take (i + 1) = l.take i ++ [l[i]] := List.take_succ_eq_append_getElem h
theorem pathL_le : ∀ (p : List ByteArray), (∀ x ∈ p, x.size ≤ 64) → (pathL p).length ≤ 193 * p.length
  | [], _ => by simp [pathL]
  | x :: p, h => by
    have h1 := pathL_le p (fun y hy => h y (List.mem_cons_of_mem _ hy))
    have h2 := h x List.mem_cons_self
    have h3 := encL_le x.data.toList
    have h4 : x.data.toList.length = x.size := by simp
    simp only [pathL, segL, List.flatMap_cons, List.length_append, List.length_cons] at *
    omega
theorem moreL_le : ∀ (q : List Pr), (∀ x ∈ q, x.f0.size ≤ 64 ∧ x.f1.size ≤ 64) → (moreL q).length ≤ 386 * q.length
  | [], _ => by simp [moreL]
  | x :: p, h => by
    have h1 := moreL_le p (fun y hy => h y (List.mem_cons_of_mem _ hy))
    have h2 := h x List.mem_cons_self
    have h3 := encL_le x.f0.data.toList
    have h5 := encL_le x.f1.data.toList
    have h4 : x.f0.data.toList.length = x.f0.size := by simp
    have h6 : x.f1.data.toList.length = x.f1.size := by simp
    simp only [moreL, pairL, List.flatMap_cons, List.length_append, List.length_cons] at *
    omega
theorem queryL_le (q : List Pr) (h : ∀ x ∈ q, x.f0.size ≤ 64 ∧ x.f1.size ≤ 64) : (queryL q).length ≤ 386 * q.length := by
  cases q with
  | nil => simp [queryL]
  | cons x r =>
    have := moreL_le (x :: r) h
    simp only [queryL, moreL, List.flatMap_cons, List.length_append, List.length_cons] at *
    omega
theorem right_bd {p : List ByteArray} {q : List Pr} (h : rightB p q = true) : p.length ≤ 8 ∧ q.length ≤ 8 ∧ (∀ x ∈ p, 1 ≤ x.size ∧ x.size ≤ 64) ∧ (∀ x ∈ q, 1 ≤ x.f0.size ∧ x.f0.size ≤ 64 ∧ x.f1.size ≤ 64) := by
  unfold rightB textB at h
  simp only [Bool.and_eq_true, decide_eq_true_eq, List.all_eq_true] at h
  exact ⟨h.1.1.1, h.1.1.2, fun x hx => h.1.2 x hx, fun x hx => ⟨(h.2 x hx).1.1, (h.2 x hx).1.2, (h.2 x hx).2.2⟩⟩
theorem str_at {w : World} {A : Option Addr} {p : List ByteArray} (h : Kd.C Kd.string w A p.length p) (i : Nat) (hi : i < p.length) : ∃ ad, A = some ad ∧ w.cell? (ad.add i) = some (.string p[i]) := by
  obtain ⟨ad, h1, h2⟩ := Kd.at_string h (i : Int) (by omega) (by omega)
  rw [rdOf_at _ _ _ hi] at h2
  exact ⟨ad, h1, h2⟩
theorem pair_at {w : World} {A : Option Addr} {q : List Pr} (h : Kd.C k32 w A q.length q) (i : Nat) (hi : i < q.length) : ∃ ad, A = some ad ∧ w.cell? (ad.add (i * 2)) = some (.string q[i].f0) ∧ w.cell? ⟨(ad.add (i * 2)).block, (ad.add (i * 2)).off + 1, none⟩ = some (.string q[i].f1) := by
  obtain ⟨ad, h1, h2, h3⟩ := at_T32 h (i : Int) (by omega) (by omega)
  rw [rdP_at _ _ hi] at h2 h3
  exact ⟨ad, h1, h2, h3⟩
theorem cell_below {w w' : World} {a : Addr} {u : Value} (hB : Below w.heap.size w w') (h : w.cell? a = some u) : w'.cell? a = some u := (World.cell?_of_block (hB.block _ (World.block_lt_of_cell? _ _ h))).trans h
end Go.Proofs.YtcaaggfobdfgpaaDoor.UURLParts
