/- PctBack: the plain law: a code in small digits is decoded alike. -/
import Derived.Test.YtpgpebpjehnooaaPctLaw
import Derived.Test.YtpgpebpjehnooaaWWords
import Derived.Lib.SlicesS
set_option linter.unusedVariables false
set_option linter.unusedSimpArgs false
namespace Go.Proofs.Ytpgpebpjehnooaa.Pct
open Go.RowKit Go.Proofs.YtpgpebpjehnooaaW.PrintWords

def low (c : UInt8) : UInt8 := if 65 ≤ c.toNat ∧ c.toNat ≤ 70 then c + 32 else c
def smL (p2 p1 : UInt8) : List UInt8 → List UInt8
  | [] => []
  | c :: r => (if p1 = 37 ∨ p2 = 37 then low c else c) :: smL p1 c r
theorem smL_length (l : List UInt8) : ∀ p2 p1, (smL p2 p1 l).length = l.length := by
  induction l with
  | nil => intro _ _; rfl
  | cons c l ih => intro p2 p1; simp [smL, ih]
def pv1 (p1 : UInt8) (l : List UInt8) (i : Nat) : UInt8 := if i = 0 then p1 else l.getD (i - 1) 0
def pv2 (p2 p1 : UInt8) (l : List UInt8) (i : Nat) : UInt8 := if i = 0 then p2 else if i = 1 then p1 else l.getD (i - 2) 0
theorem smL_get (l : List UInt8) : ∀ p2 p1 i (h : i < l.length), (smL p2 p1 l)[i]? = some (if pv1 p1 l i = 37 ∨ pv2 p2 p1 l i = 37 then low l[i] else l[i]) := by
  induction l with
  | nil => intro _ _ i h; simp at h
  | cons c l ih =>
    intro p2 p1 i h
    rcases i with _ | i
    · simp [smL, pv1, pv2]
    · have hl : i < l.length := by simpa using h
      have := ih p1 c i hl
      simp only [smL, List.getElem?_cons_succ, this, List.getElem_cons_succ]
      rcases i with _ | _ | i <;> simp [pv1, pv2]
theorem hexD_ne : ∀ n : Fin 16, hexD n.1 ≠ 37 := by decide +kernel
theorem low_digit : ∀ n : Fin 16, digitP ((low (hexD n.1)).toNat : Int) = (n.1 : Int) := by decide +kernel
theorem stepD_small (c : UInt8) (r : List UInt8) : stepD 37 (low (hexD (c.toNat / 16)) :: low (hexD (c.toNat % 16)) :: r) = some (c, 2) := by
  have hc := c.toNat_lt
  have h1 := low_digit ⟨c.toNat / 16, by omega⟩
  have h2 := low_digit ⟨c.toNat % 16, by omega⟩
  simp only at h1 h2
  unfold stepD
  rw [if_pos rfl]
  simp only
  rw [h1, h2, if_neg (by omega)]
  congr 2
  apply UInt8.toNat_inj.1
  rw [show ((((c.toNat / 16 : Nat) : Int) * 16 + ((c.toNat % 16 : Nat) : Int)).toNat) = c.toNat from by omega]
  simp
theorem dec_small (l : List UInt8) : ∀ p2 p1, p1 ≠ 37 → p2 ≠ 37 → decL (smL p2 p1 (encL l)) = some l := by
  induction l with
  | nil => intro _ _ _ _; simp [encL, smL, decL]
  | cons c l ih =>
    intro p2 p1 h1 h2
    have hc := c.toNat_lt
    rw [show encL (c :: l) = encB c ++ encL l from by simp [encL]]
    unfold encB
    by_cases h : plainP c.toNat = true
    · have hne : c ≠ 37 := by
        rintro rfl
        rw [show ((37 : UInt8).toNat : Int) = 37 from rfl, plain_not_pct] at h
        cases h
      rw [if_pos h, List.cons_append, List.nil_append, smL, if_neg (by simp [h1, h2]), decL, stepD_plain _ _ h]
      simp only [List.drop_zero]
      rw [ih p1 c hne h1]
      rfl
    · rw [if_neg h]
      have n1 := hexD_ne ⟨c.toNat / 16, by omega⟩
      have n2 := hexD_ne ⟨c.toNat % 16, by omega⟩
      simp only at n1 n2
      simp only [List.cons_append, List.nil_append, smL]
      rw [if_neg (by simp [h1, h2]), if_pos (by simp), if_pos (by simp), decL, stepD_small]
      simp only [List.drop_succ_cons, List.drop_zero]
      rw [ih _ _ n2 n1]
      rfl
theorem enc_inj {l m : List UInt8} (h : encL l = encL m) : l = m := by
  have h1 := dec_enc l
  rw [h, dec_enc m] at h1
  exact (Option.some.inj h1).symm
theorem decL_le : ∀ (n : Nat) (l m : List UInt8), l.length ≤ n → decL l = some m → m.length ≤ l.length := by
  intro n
  induction n with
  | zero =>
    intro l m hn h
    obtain rfl : l = [] := List.eq_nil_of_length_eq_zero (by omega)
    simp [decL] at h
    subst h
    simp
  | succ n ih =>
    intro l m hn h
    cases l with
    | nil => simp [decL] at h; subst h; simp
    | cons c r =>
      rw [decL] at h
      cases e : stepD c r with
      | none => rw [e] at h; cases h
      | some q =>
        obtain ⟨b, k⟩ := q
        rw [e] at h
        simp only at h
        cases e2 : decL (r.drop k) with
        | none => rw [e2] at h; cases h
        | some m2 =>
          rw [e2] at h
          cases h
          have := ih (r.drop k) m2 (by rw [List.length_drop]; simp at hn; omega) e2
          rw [List.length_drop] at this
          simp
          omega
def un (l : List UInt8) : List Int := l.map fun b => (b.toNat : Int)
theorem str_un (l : List UInt8) : strOfNums (un l) = ⟨l.toArray⟩ := by
  unfold strOfNums un
  congr 1
  rw [List.map_map]
  congr 1
  conv => rhs; rw [← List.map_id l]
  apply List.map_congr_left
  intro a _
  simp
/-- A row of bytes that a conversion made. -/
def BRow (w : World) (K : Nat) (l : List UInt8) : Prop := ∃ cur fr, w.heap[K]? = some (.cells cur 5 fr) ∧ l.length ≤ fr.1 ∧ ∀ j (h : j < l.length), cur[j]? = some (.int .u8 (l[j].toNat : Int))
theorem BRow.cell {w : World} {K : Nat} {l : List UInt8} (h : BRow w K l) (j : Nat) (hj : j < l.length) : w.cell? ⟨K, j, none⟩ = some (.int .u8 (l[j].toNat : Int)) := by
  obtain ⟨cur, fr, h1, h2, h3⟩ := h
  simp only [World.cell?, h1]
  exact h3 j hj
theorem BRow.frozen {w : World} {K : Nat} {l : List UInt8} (h : BRow w K l) (j : Nat) (hj : j < l.length) : w.frozen? ⟨K, j, none⟩ = false := by
  obtain ⟨cur, fr, h1, h2, h3⟩ := h
  simp only [World.frozen?, h1]
  simp
  omega
theorem BRow.set {w : World} {K : Nat} {l : List UInt8} (h : BRow w K l) (i : Nat) (x : UInt8) : BRow (w.setCell ⟨K, i, none⟩ (.int .u8 (x.toNat : Int))) K (l.set i x) := by
  obtain ⟨cur, fr, h1, h2, h3⟩ := h
  refine ⟨cur.setIfInBounds i (.int .u8 (x.toNat : Int)), fr, by simp [World.setCell, Array.getElem?_modify, h1], by rw [List.length_set]; exact h2, fun j hj => ?_⟩
  rw [List.length_set] at hj
  rw [Array.getElem?_setIfInBounds, List.getElem_set]
  by_cases e : i = j
  · subst e
    have := Array.getElem?_eq_some_iff.1 (h3 i hj)
    simp [this.1]
  · simp [e, h3 j hj]
theorem BRow.below {w w' : World} {K : Nat} {l : List UInt8} (h : BRow w K l) (hB : Below w.heap.size w w') : BRow w' K l := by
  obtain ⟨cur, fr, h1, h2, h3⟩ := h
  exact ⟨cur, fr, (hB.block K (Array.getElem?_eq_some_iff.1 h1).1).trans h1, h2, h3⟩
theorem BRow.lt {w : World} {K : Nat} {l : List UInt8} (h : BRow w K l) : K < w.heap.size := by
  obtain ⟨cur, fr, h1, _⟩ := h
  exact (Array.getElem?_eq_some_iff.1 h1).1
theorem BRow.made (w : World) (s : ByteArray) : BRow (Lib.bytesWorld w 5 s) w.heap.size s.data.toList := by
  refine ⟨_, _, Lib.bytesWorld_at_new w 5 s, ?_, fun j hj => ?_⟩
  · simp [Lib.bytesCells]
  · have h1 := Lib.bytesWorld_cell w 5 s j (by simpa using hj)
    have h2 : (Lib.bytesCells w 5 s)[j]? = some (.int .u8 ((s.data.toList.getD j 0).toNat : Int)) := by
      simp only [World.cell?, Lib.bytesWorld_at_new] at h1
      exact h1
    rw [h2]
    have hj' : j < s.data.toList.length := hj
    rw [List.getD_eq_getElem?_getD, List.getElem?_eq_getElem hj']
    rfl
theorem BRow.C {w : World} {K : Nat} {l : List UInt8} (h : BRow w K l) (hl : l.length ≤ 100000) : Kd.C (Kd.int .u8) w (some ⟨K, 0, none⟩) l.length (un l) := by
  refine ⟨by simp [un], by omega, fun h0 => ⟨_, rfl, fun j p hj => ?_⟩⟩
  obtain ⟨hb, he⟩ := List.getElem?_eq_some_iff.1 hj
  have hb' : j < l.length := by simpa [un] using hb
  refine ⟨[.int .u8 p], rfl, rfl, fun i u hu => ?_⟩
  have hi : i = 0 := by
    rcases i with _ | i
    · rfl
    · simp at hu
  subst hi
  cases hu
  have := h.cell j hb'
  show w.cell? ((⟨K, 0, none⟩ : Addr).add (j * 1 + 0)) = _
  rw [show (⟨K, 0, none⟩ : Addr).add (j * 1 + 0) = ⟨K, j, none⟩ from by unfold Addr.add; split <;> simp_all, this, ← he]
  simp [un]
end Go.Proofs.Ytpgpebpjehnooaa.Pct
