/- pct.Encode at this program: the code of a text. Condition: the text is no longer than 2^40 bytes. -/
import Derived.Test.YtcaaggfobdfgpaaDoorPctPlain
import Derived.Test.YtcaaggfobdfgpaaDoorBuilder
import Derived.Deep.LoopGhost
import Derived.Lib.Hide
set_option linter.unusedVariables false
set_option linter.unusedSimpArgs false
namespace Go.Proofs.YtcaaggfobdfgpaaDoor.Pct
open Go.RowKit

def hexD (n : Nat) : UInt8 := [48, 49, 50, 51, 52, 53, 54, 55, 56, 57, 65, 66, 67, 68, 69, 70].getD n 0
def encB (c : UInt8) : List UInt8 := if plainP c.toNat = true then [c] else [37, hexD (c.toNat / 16), hexD (c.toNat % 16)]
def encL (l : List UInt8) : List UInt8 := l.flatMap encB
theorem encB_le (c : UInt8) : (encB c).length ≤ 3 := by unfold encB; split <;> simp
theorem encL_le : ∀ l, (encL l).length ≤ 3 * l.length
  | [] => by simp [encL]
  | c :: l => by
    have h1 := encB_le c
    have h2 := encL_le l
    simp only [encL, List.flatMap_cons, List.length_append, List.length_cons] at *
    omega
theorem encL_snoc (l : List UInt8) (c : UInt8) : encL (l ++ [c]) = encL l ++ encB c := by simp [encL]

theorem hex_at (n : Nat) (h : n < 16) : (⟨#[48, 49, 50, 51, 52, 53, 54, 55, 56, 57, 65, 66, 67, 68, 69, 70]⟩ : ByteArray)[n]'h = hexD n := by
  have : ∀ m : Fin 16, (⟨#[48, 49, 50, 51, 52, 53, 54, 55, 56, 57, 65, 66, 67, 68, 69, 70]⟩ : ByteArray)[m.1]'m.2 = hexD m.1 := by decide +kernel
  exact this ⟨n, h⟩
theorem cells3 (l : List UInt8) (a b : UInt8) : Lib.byteCells (l ++ [37, a, b]) = ((Lib.byteCells l ++ [.int .u8 37]) ++ [.int .u8 a.toNat]) ++ [.int .u8 b.toNat] := by simp [Lib.byteCells]

set_option maxHeartbeats 2000000 in
set_option maxRecDepth 100000 in
theorem Encode_any (s : ByteArray) (w : World) (hs : s.size ≤ 1099511627776) :
    Calls Tryd.prog 27 #[.string s] w fun e w' => e = .returned (.string ⟨(encL s.data.toList).toArray⟩) ∧ Below w.heap.size w w' := by
  go_enter Tryd.func27, Tryd.ntmps27
  go_wp2
  go_loopw [8] (fun i wr => ∃ k : Nat, k ≤ s.size ∧ i = .int .i64 k ∧ Lib.IsBuilder 59 5 w.heap.size w.heap.size (Lib.byteCells (encL (s.data.toList.take k))) wr ∧ Below w.heap.size w wr) (fun i _ => s.size - (intOf i).toNat)
  case atStart => exact ⟨0, Nat.zero_le _, rfl, Lib.fresh_isBuilder _ _ w, (Below.refl _ _).alloc (Nat.le_refl _) _⟩
  case round =>
    obtain ⟨k, hk, rfl, hB, hb⟩ := hrel
    have hle := encL_le (s.data.toList.take k)
    have hl : (s.data.toList.take k).length ≤ k := List.length_take_le _ _
    have hsz := hb.size
    by_cases hlt : k < s.size
    · have hc := s[k].toNat_lt
      have hts : s.data.toList.take (k + 1) = s.data.toList.take k ++ [s[k]] := by
        rw [List.take_succ_eq_append_getElem (by simpa using hlt)]; rfl
      have HS : Hid (encL (s.data.toList.take (k + 1)) = encL (s.data.toList.take k) ++ encB s[k]) := by rw [hts]; exact encL_snoc _ _
      clear hts
      by_cases hp : plainP s[k].toNat = true
      · have HE : Hid (encB s[k] = [s[k]]) := by unfold encB; rw [if_pos hp]; rfl
        go_wp2_with fail
        refine (Plain_any _ _ (by omega) (by omega)).mono ?_
        rintro e w' ⟨rfl, rfl⟩
        go_wp2_with fail
        refine (Bld.WriteByte w.heap.size w.heap.size _ _ _ hB (by simp only [Lib.byteCells, List.length_map]; omega) hsz).mono ?_
        rintro e w1 ⟨rfl, hB1, hb1⟩
        clear hB
        go_wp2
        go_roundw
        case rel => exact ⟨k + 1, by omega, by go_num, by rw [HS.out, HE.out]; exact .inr (by simpa [Lib.byteCells] using hB1), hb.trans hb1⟩
        case measure => simp [intOf]; omega
      · have hp' : plainP s[k].toNat = false := by simpa using hp
        have HE : Hid (encB s[k] = [37, hexD (s[k].toNat / 16), hexD (s[k].toNat % 16)]) := by unfold encB; rw [if_neg hp]; rfl
        clear hp
        go_wp2_with fail
        refine (Plain_any _ _ (by omega) (by omega)).mono ?_
        rintro e w' ⟨rfl, rfl⟩
        go_wp2_with fail
        refine (Bld.WriteByte w.heap.size w.heap.size _ _ _ hB (by simp only [Lib.byteCells, List.length_map]; omega) hsz).mono ?_
        rintro e w1 ⟨rfl, hB1, hb1⟩
        clear hB
        go_wp2_with fail
        have hsz1 := (hb.trans hb1).size
        refine (Bld.WriteByte w.heap.size w.heap.size _ _ _ (.inr hB1) (by simp only [Lib.byteCells, List.length_map, List.length_append, List.length_cons, List.length_nil]; omega) hsz1).mono ?_
        rintro e w2 ⟨rfl, hB2, hb2⟩
        clear hB1
        go_wp2_with fail
        have hsz2 := ((hb.trans hb1).trans hb2).size
        refine (Bld.WriteByte w.heap.size w.heap.size _ _ _ (.inr hB2) (by simp only [Lib.byteCells, List.length_map, List.length_append, List.length_cons, List.length_nil]; omega) hsz2).mono ?_
        rintro e w3 ⟨rfl, hB3, hb3⟩
        clear hB2
        go_wp2
        go_roundw
        case rel =>
          refine ⟨k + 1, by omega, by go_num, ?_, ((hb.trans hb1).trans hb2).trans hb3⟩
          rw [HS.out, HE.out, cells3]
          rw [hex_at _ (by omega), hex_at _ (by omega)] at hB3
          exact .inr hB3
        case measure => simp [intOf]; omega
    · go_wp2_with fail
      refine (Tryd.Builder_String_any w.heap.size w.heap.size _ _ hB hsz).mono ?_
      rintro e w1 ⟨rfl, hb1⟩
      go_wp2
      go_ret
      exact ⟨by rw [List.take_of_length_le (by simp; omega)]; rfl, hb.trans hb1⟩
end Go.Proofs.YtcaaggfobdfgpaaDoor.Pct
