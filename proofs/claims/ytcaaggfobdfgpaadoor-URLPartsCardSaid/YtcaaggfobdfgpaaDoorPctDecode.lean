/- pct.digit and pct.Decode at this program: what a code stands for. Condition: the code is no longer than 2^40 bytes. -/
import Derived.Test.YtcaaggfobdfgpaaDoorPctPlain
import Derived.Test.YtcaaggfobdfgpaaDoorBuilder
import Derived.Deep.LoopGhost
import Derived.Lib.Hide
import Derived.Lib.Strings
import Derived.Lib.IndexBytes
import Derived.Deep.QuietTactic
import Derived.BigQuiet
set_option linter.unusedVariables false
set_option linter.unusedSimpArgs false
namespace Go.Proofs.YtcaaggfobdfgpaaDoor.Pct
open Go.RowKit

def digitP (c : Int) : Int := if 48 ≤ c ∧ c ≤ 57 then c - 48 else if 97 ≤ c ∧ c ≤ 102 then c - 87 else if 65 ≤ c ∧ c ≤ 70 then c - 55 else -1
theorem digitP_bd (c : Int) : -1 ≤ digitP c ∧ digitP c ≤ 15 := by
  unfold digitP
  repeat' split
  all_goals omega
theorem ret_int {k : IntKind} {a b : Int} (h : a = b) : Ending.returned (.int k a) = .returned (.int k b) := by rw [h]
set_option maxHeartbeats 2000000 in
theorem digit_any (c : Int) (w : World) (h0 : 0 ≤ c) (h1 : c ≤ 255) :
    Calls Tryd.prog 47 #[.int .u8 c] w fun e w' => e = .returned (.int .i64 (digitP c)) ∧ w' = w := by
  rcases (show (97 ≤ c ∧ c ≤ 102) ∨ (65 ≤ c ∧ c ≤ 70) ∨ (48 ≤ c ∧ c ≤ 57) ∨ c < 48 ∨ (58 ≤ c ∧ c < 65) ∨ (71 ≤ c ∧ c < 97) ∨ 103 ≤ c from by omega) with ⟨a, b⟩ | ⟨a, b⟩ | ⟨a, b⟩ | a | ⟨a, b⟩ | ⟨a, b⟩ | a
  all_goals
    go_enter Tryd.func47, Tryd.ntmps47
    go_wp2
    go_ret
    exact ⟨ret_int (by unfold digitP; repeat' split
                       all_goals omega), rfl⟩

def stepD (c : UInt8) (r : List UInt8) : Option (UInt8 × Nat) :=
  if c = 37 then (match r with
    | a :: b :: _ => if digitP a.toNat < 0 ∨ digitP b.toNat < 0 then none else some ((digitP a.toNat * 16 + digitP b.toNat).toNat.toUInt8, 2)
    | _ => none)
  else if plainP c.toNat = true then some (c, 0) else none
def decL : List UInt8 → Option (List UInt8)
  | [] => some []
  | c :: r => match stepD c r with
    | none => none
    | some (b, n) => (decL (r.drop n)).map (b :: ·)
  termination_by l => l.length
  decreasing_by simp only [List.length_drop, List.length_cons]; omega
def decS (o : Option (List UInt8)) : ByteArray := ⟨(o.getD []).toArray⟩

theorem or_val (h l : Int) (h0 : 0 ≤ h) (h1 : h ≤ 15) (l0 : 0 ≤ l) (l1 : l ≤ 15) : bits BinOp.or IntKind.i64 (h * 16) l % 256 = (((h * 16 + l).toNat.toUInt8).toNat : Int) := by
  have : ∀ a b : Fin 16, bits BinOp.or IntKind.i64 ((a.1 : Int) * 16) (b.1 : Int) % 256 = ((((a.1 : Int) * 16 + (b.1 : Int)).toNat.toUInt8).toNat : Int) := by decide +kernel
  have := this ⟨h.toNat, by omega⟩ ⟨l.toNat, by omega⟩
  simp only [Int.toNat_of_nonneg h0, Int.toNat_of_nonneg l0] at this
  exact this
theorem isEmpty_eq (r : ByteArray) : r.toList.isEmpty = decide (r.size = 0) := by
  have h : r.data.toList.length = r.size := by simp
  rw [Lib.toList_data]
  cases hl : r.data.toList with
  | nil =>
    have h0 : r.size = 0 := by rw [← h, hl]; rfl
    simp [h0]
  | cons a l =>
    have h0 : r.size ≠ 0 := by rw [← h, hl]; simp
    simp [h0]
set_option maxHeartbeats 2000000 in
set_option maxRecDepth 100000 in
theorem Decode_any (s : ByteArray) (w : World) (hs : s.size ≤ 1099511627776) :
    Calls Tryd.prog 40 #[.string s] w fun e w' => e = .returned (.tuple #[.string (decS (decL s.data.toList)), .bool (decL s.data.toList).isSome]) ∧ Below w.heap.size w w' := by
  obtain ⟨L, hL⟩ : ∃ L, decL s.data.toList = L := ⟨_, rfl⟩
  rw [hL]
  have HL := Lib.hid hL
  clear hL
  go_enter Tryd.func40, Tryd.ntmps40
  go_wp2
  go_loopw [0] (fun t wr => ∃ (r : ByteArray) (acc : List UInt8), t = .string r ∧ Hid (L = (decL r.data.toList).map (acc ++ ·)) ∧ acc.length + r.size ≤ s.size ∧ Lib.IsBuilder 59 5 w.heap.size w.heap.size (Lib.byteCells acc) wr ∧ Below w.heap.size w wr) (fun t _ => match t with | .string r => r.size | _ => 0)
  case atStart => exact ⟨s, [], rfl, by rw [HL.out]; simp [Hid], by simp, Lib.fresh_isBuilder _ _ w, (Below.refl _ _).alloc (Nat.le_refl _) _⟩
  case round =>
    obtain ⟨r, acc, rfl, HD, hle, hB, hb⟩ := hrel
    have hsz := hb.size
    by_cases h0 : r.size = 0
    · have he : (!r.toList.isEmpty) = false := by simp [isEmpty_eq, h0]
      have hfin : Hid (L = some acc) := by
        have hr : r.data.toList = [] := List.eq_nil_of_length_eq_zero (by simpa using h0)
        show _ = _
        rw [HD.out, hr, decL]
        simp
      go_wp2_with fail
      refine (Tryd.Builder_String_any w.heap.size w.heap.size _ _ hB hsz).mono ?_
      rintro e w1 ⟨rfl, hb1⟩
      go_wp2
      go_ret2
      refine ⟨?_, hb.trans hb1⟩
      rw [hfin.out]
      rfl
    · have he : (!r.toList.isEmpty) = true := by simp [isEmpty_eq, h0]
      have hpos : 0 < r.size := by omega
      obtain ⟨c, rest, hcr⟩ : ∃ c rest, r.data.toList = c :: rest := by
        cases hl : r.data.toList with
        | nil => exact absurd (by simpa using congrArg List.length hl) h0
        | cons c rest => exact ⟨c, rest, rfl⟩
      have hrl : rest.length + 1 = r.size := by have := congrArg List.length hcr; simp at this; omega
      have hc0 : r[0] = c := by
        have : r.data.toList[0]? = some c := by rw [hcr]; rfl
        have h2 : r.data.toList[0]? = some r[0] := by rw [List.getElem?_eq_getElem (by simpa using hpos)]; rfl
        exact Option.some.inj (h2.symm.trans this)
      have hcb := r[0].toNat_lt
      have HC := Lib.hid hcr
      have HC0 := Lib.hid hc0
      clear hcr hc0
      by_cases h37 : (r[0].toNat : Int) = 37
      · have hb37 : ((r[0].toNat : Int) == 37) = true := by simp [h37]
        have H37 : Hid (c = 37) := by
          show _ = _
          rw [← HC0.out]
          exact UInt8.toNat_inj.1 (by have : (37 : UInt8).toNat = 37 := rfl; omega)
        clear h37
        by_cases h3 : r.size < 3
        · have hfin : Hid (L = none) := by
            show _ = _
            rw [HD.out, HC.out, decL]
            have hs : stepD c rest = none := by
              unfold stepD
              rw [if_pos H37.out]
              match rest, hrl with
              | [], _ => rfl
              | [_], _ => rfl
              | _ :: _ :: _, hrl => simp at hrl; omega
            rw [hs]
            rfl
          go_wp2_with fail
          go_ret2
          refine ⟨?_, hb⟩
          rw [hfin.out]
          rfl
        · have i1 : (1 : Int) < (r.size : Int) := by omega
          have i2 : (2 : Int) < (r.size : Int) := by omega
          have i3 : (3 : Int) ≤ (r.size : Int) := by omega
          have b1 := (r[1]'(by omega)).toNat_lt
          have b2 := (r[2]'(by omega)).toNat_lt
          go_wp2_with fail
          go_quiet ((go_at_call 47; exact Calls.quiet_of_same (digit_any _ _ (by omega) (by omega))))
          rename_i nq
          obtain ⟨B1, B2⟩ := digitP_bd ((r[1]'(by omega)).toNat : Int)
          obtain ⟨B3, B4⟩ := digitP_bd ((r[2]'(by omega)).toNat : Int)
          obtain ⟨a, b, rest', hab⟩ : ∃ a b rest', rest = a :: b :: rest' := by
            match rest, hrl with
            | [], hrl => simp at hrl; omega
            | [_], hrl => simp at hrl; omega
            | a :: b :: rest', _ => exact ⟨a, b, rest', rfl⟩
          have hra : Hid (r[1]'(by omega) = a) := by
            have h1 : r.data.toList[1]? = some a := by rw [HC.out, hab]; rfl
            have h2 : r.data.toList[1]? = some (r[1]'(by omega)) := by rw [List.getElem?_eq_getElem (by simp; omega)]; rfl
            exact Option.some.inj (h2.symm.trans h1)
          have hrb : Hid (r[2]'(by omega) = b) := by
            have h1 : r.data.toList[2]? = some b := by rw [HC.out, hab]; rfl
            have h2 : r.data.toList[2]? = some (r[2]'(by omega)) := by rw [List.getElem?_eq_getElem (by simp; omega)]; rfl
            exact Option.some.inj (h2.symm.trans h1)
          have HAB := Lib.hid hab
          have hbq : Below w.heap.size w (wr.drewN nq) := ⟨hb.os, hb.tape, hb.output, hb.size, hb.block⟩
          by_cases hd : digitP ((r[1]'(by omega)).toNat : Int) < 0 ∨ digitP ((r[2]'(by omega)).toNat : Int) < 0
          · have hfin : Hid (L = none) := by
              show _ = _
              rw [HD.out, HC.out, decL]
              have hs : stepD c rest = none := by
                unfold stepD
                rw [if_pos H37.out, HAB.out]
                simp only
                rw [if_pos (by rw [← hra.out, ← hrb.out]; exact hd)]
              rw [hs]
              rfl
            clear hab
            rcases hd with hd | hd
            · go_wp2_with fail
              go_ret2
              refine ⟨?_, hbq⟩
              rw [hfin.out]
              rfl
            · by_cases hd1 : digitP ((r[1]'(by omega)).toNat : Int) < 0
              · go_wp2_with fail
                go_ret2
                refine ⟨?_, hbq⟩
                rw [hfin.out]
                rfl
              · go_wp2_with fail
                go_ret2
                refine ⟨?_, hbq⟩
                rw [hfin.out]
                rfl
          · have hd' : ¬ (digitP (a.toNat : Int) < 0 ∨ digitP (b.toNat : Int) < 0) := by rw [← hra.out, ← hrb.out]; exact hd
            have hst : Hid (stepD c rest = some ((digitP (a.toNat : Int) * 16 + digitP (b.toNat : Int)).toNat.toUInt8, 2)) := by
              show _ = _
              unfold stepD
              rw [if_pos H37.out, HAB.out]
              simp only
              rw [if_neg hd']
            have g1 : 0 ≤ digitP ((r[1]'(by omega)).toNat : Int) := by omega
            have g2 : 0 ≤ digitP ((r[2]'(by omega)).toNat : Int) := by omega
            have hval : Hid (bits BinOp.or IntKind.i64 (digitP ((r[1]'(by omega)).toNat : Int) * 16) (digitP ((r[2]'(by omega)).toNat : Int)) % 256 = (((digitP (a.toNat : Int) * 16 + digitP (b.toNat : Int)).toNat.toUInt8).toNat : Int)) := by
              show _ = _
              rw [or_val _ _ g1 B2 g2 B4, hra.out, hrb.out]
            clear hab hd hd'
            go_wp2_with fail
            refine (Bld.WriteByte w.heap.size w.heap.size _ _ _ (show Lib.IsBuilder 59 5 w.heap.size w.heap.size (Lib.byteCells acc) (wr.drewN nq) from hB) (by simp only [Lib.byteCells, List.length_map]; omega) hbq.size).mono ?_
            rintro e w1 ⟨rfl, hB1, hb1⟩
            clear hB
            go_wp2
            go_roundw
            case rel =>
              refine ⟨r.extract 3 r.size, acc ++ [(digitP (a.toNat : Int) * 16 + digitP (b.toNat : Int)).toNat.toUInt8], rfl, ?_, ?_, .inr ?_, hbq.trans hb1⟩
              · show _ = _
                rw [HD.out, Lib.extract_to_end, HC.out, decL, hst.out]
                simp [Function.comp_def]
              · rw [List.length_append, ByteArray.size_extract]; simp; omega
              · rw [hval.out] at hB1; simpa [Lib.byteCells] using hB1
            case measure => simp [ByteArray.size_extract]; omega
      · have hb37 : ((r[0].toNat : Int) == 37) = false := by simp [h37]
        have hne37 : Hid (¬ c = 37) := fun e => h37 (by rw [HC0.out, e]; rfl)
        clear h37
        by_cases hp : plainP r[0].toNat = true
        · have hst : Hid (stepD c rest = some (c, 0)) := by
            show _ = _
            unfold stepD
            rw [if_neg hne37.out, if_pos (by rw [← HC0.out]; exact hp)]
          go_wp2_with fail
          refine (Plain_any _ _ (by omega) (by omega)).mono ?_
          rintro e w' ⟨rfl, rfl⟩
          go_wp2_with fail
          refine (Bld.WriteByte w.heap.size w.heap.size _ _ _ hB (by simp only [Lib.byteCells, List.length_map]; omega) hsz).mono ?_
          rintro e w1 ⟨rfl, hB1, hb1⟩
          clear hB
          go_wp2
          go_roundw
          case rel =>
            refine ⟨r.extract 1 r.size, acc ++ [c], rfl, ?_, ?_, .inr ?_, hb.trans hb1⟩
            · show _ = _
              rw [HD.out, Lib.extract_to_end, HC.out, decL, hst.out]
              simp [Function.comp_def]
            · rw [List.length_append, ByteArray.size_extract]; simp; omega
            · rw [HC0.out] at hB1; simpa [Lib.byteCells] using hB1
          case measure => simp [ByteArray.size_extract]; omega
        · have hp' : plainP r[0].toNat = false := by simpa using hp
          have hfin : Hid (L = none) := by
            show _ = _
            rw [HD.out, HC.out, decL]
            have hs : stepD c rest = none := by
              unfold stepD
              rw [if_neg hne37.out, if_neg (by rw [← HC0.out]; exact hp)]
            rw [hs]
            rfl
          clear hp
          go_wp2_with fail
          refine (Plain_any _ _ (by omega) (by omega)).mono ?_
          rintro e w' ⟨rfl, rfl⟩
          go_wp2
          go_ret2
          refine ⟨?_, hb⟩
          rw [hfin.out]
          rfl
end Go.Proofs.YtcaaggfobdfgpaaDoor.Pct
