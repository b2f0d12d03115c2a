/- Plain facts on codes: what is encoded decodes to itself; a way to reckon a code's text by a number of rounds. -/
import Derived.Test.YtcaaggfobdfgpaaDoorGiven
namespace Go.Proofs.YtcaaggfobdfgpaaDoor.Pct
open Go.RowKit

def decF : Nat → List UInt8 → Option (List UInt8)
  | 0, _ => none
  | _ + 1, [] => some []
  | k + 1, c :: r => match stepD c r with
    | none => none
    | some (b, n) => (decF k (r.drop n)).map (b :: ·)
theorem decL_decF : ∀ (k : Nat) (l : List UInt8), l.length < k → decL l = decF k l
  | 0, _, h => absurd h (Nat.not_lt_zero _)
  | k + 1, [], _ => by rw [decL, decF]
  | k + 1, c :: r, h => by
    rw [decL, decF]
    cases stepD c r with
    | none => rfl
    | some p =>
      obtain ⟨b, n⟩ := p
      simp only
      rw [decL_decF k (r.drop n) (by simp only [List.length_drop, List.length_cons] at *; omega)]

theorem plain_not_pct : plainP 37 = false := by decide +kernel
theorem hexD_digit : ∀ n : Fin 16, digitP ((hexD n.1).toNat : Int) = (n.1 : Int) := by decide +kernel
theorem stepD_plain (c : UInt8) (r : List UInt8) (h : plainP c.toNat = true) : stepD c r = some (c, 0) := by
  unfold stepD
  rw [if_neg, if_pos h]
  rintro rfl
  rw [show ((37 : UInt8).toNat : Int) = 37 from rfl, plain_not_pct] at h
  cases h
theorem stepD_code (c : UInt8) (r : List UInt8) : stepD 37 (hexD (c.toNat / 16) :: hexD (c.toNat % 16) :: r) = some (c, 2) := by
  have hc := c.toNat_lt
  have h1 := hexD_digit ⟨c.toNat / 16, by omega⟩
  have h2 := hexD_digit ⟨c.toNat % 16, by omega⟩
  simp only at h1 h2
  unfold stepD
  rw [if_pos rfl]
  simp only
  rw [h1, h2, if_neg (by omega)]
  congr 2
  apply UInt8.toNat_inj.1
  rw [show ((((c.toNat / 16 : Nat) : Int) * 16 + ((c.toNat % 16 : Nat) : Int)).toNat) = c.toNat from by omega]
  simp
theorem dec_encB (c : UInt8) (r : List UInt8) : decL (encB c ++ r) = (decL r).map (c :: ·) := by
  unfold encB
  by_cases h : plainP c.toNat = true
  · rw [if_pos h, List.cons_append, decL, stepD_plain _ _ h]
    simp
  · rw [if_neg h, List.cons_append, decL, List.cons_append, List.cons_append, stepD_code]
    simp
theorem dec_enc : ∀ l : List UInt8, decL (encL l) = some l
  | [] => by simp [encL, decL]
  | c :: l => by
    rw [show encL (c :: l) = encB c ++ encL l from by simp [encL], dec_encB, dec_enc l]
    rfl
theorem encL_app (l m : List UInt8) : encL (l ++ m) = encL l ++ encL m := by simp [encL]
end Go.Proofs.YtcaaggfobdfgpaaDoor.Pct
