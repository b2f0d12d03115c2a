/- Package match: its maps' keys (kind: two texts). -/
import Derived.Test.YtjpknhemnfokaaaMapV
import Derived.Test.YtjpknhemnfokaaaWWords
set_option linter.unusedVariables false
namespace Go.Proofs.Ytjpknhemnfokaaa.Mt
open Go.Maps Go.RowKit Go.Proofs.Ytjpknhemnfokaaa.Mv

theorem kcells : Try.prog.cellsOf 39 = 2 := by kernel_rfl
theorem krow : (39 : TypeId) < Try.prog.types.size := of_decide_eq_true (by kernel_rfl)
theorem klaid : laidOutB Try.prog = true := by kernel_rfl
theorem kwide : (match Try.prog.underlying 39 with | some (.array _ _) | some (.struct _) => true | _ => false) = true := by kernel_rfl
theorem klaw : Keyed Try.prog 39 := Keyed.of_law (deep_law_laid klaid (m := 2) (by omega) krow (by kernel_rfl) kwide)
theorem kkey : Try.prog.keyType 39 = true := by kernel_rfl
/-- How a kind reads as a key. -/
def kq (a b : ByteArray) : Lit := .string (keyBytes [.string a.data.toList, .string b.data.toList])
theorem keyLits_str (d : Nat) (a : ByteArray) (h : a.size ≤ maxLen) : Try.prog.keyLits (d + 1) 9 [.string a] = some [.string a.data.toList] := by
  unfold Program.keyLits
  rw [Try.underlying9]
  simp [h]
theorem kq_key (a b : ByteArray) (ha : a.size ≤ maxLen) (hb : b.size ≤ maxLen) : keyOf Try.prog 39 (.agg #[.string a, .string b]) = some (kq a b) := by
  have hf : (Value.agg #[.string a, .string b]).formed Try.prog 39 = true := by simp [Value.formed, Try.underlying39, kcells]
  have hl : Try.prog.keyLits (Try.prog.types.size + 1) 39 [.string a, .string b] = some [.string a.data.toList, .string b.data.toList] := by
    obtain ⟨m, hm⟩ : ∃ m, Try.prog.types.size = m + 1 := ⟨Try.prog.types.size - 1, (Nat.succ_pred_eq_of_pos (Nat.lt_of_le_of_lt (Nat.zero_le _) krow)).symm⟩
    rw [hm]
    unfold Program.keyLits
    rw [Try.underlying39]
    have h9 : Try.prog.cellsOf 9 = 1 := by kernel_rfl
    simp [kcells, h9, keyLits_str, ha, hb]
  unfold keyOf
  simp only [Try.underlying39, kkey, hf, Bool.and_self, if_true]
  show (Try.prog.keyLits _ _ [.string a, .string b]).map _ = _
  rw [hl]
  rfl
theorem kq_inj {a b c d : ByteArray} (ha : a.size ≤ maxLen) (hb : b.size ≤ maxLen) (hc : c.size ≤ maxLen) (hd : d.size ≤ maxLen) (h : kq a b = kq c d) : a = c ∧ b = d := by
  have h1 := kq_key a b ha hb
  rw [h] at h1
  have h2 := klaw.inj h1 (kq_key c d hc hd)
  injection h2 with h2
  simp at h2
  exact h2
theorem kzero (w : World) : (zeroValue 26).run Try.prog w = .ok (.slice none 0 0) w := by kernel_rfl
end Go.Proofs.Ytjpknhemnfokaaa.Mt
