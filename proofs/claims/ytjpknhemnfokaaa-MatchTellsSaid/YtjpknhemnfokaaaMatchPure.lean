/- MatchRuns: what From, Gone answer there. -/
import Derived.Test.YtjpknhemnfokaaaGone
set_option linter.unusedVariables false
set_option linter.unusedSimpArgs false
namespace Go.Proofs.Ytjpknhemnfokaaa.Mt
open Go.RowKit Go.Maps Go.Proofs.Ytjpknhemnfokaaa.Mv

abbrev bs (l : List UInt8) : ByteArray := ⟨l.toArray⟩
theorem kk_ne {s t : Tr} (hs : s.a.size ≤ maxLen ∧ s.b.size ≤ maxLen) (ht : t.a.size ≤ maxLen ∧ t.b.size ≤ maxLen) (h : s.a ≠ t.a ∨ s.b ≠ t.b) : kk s ≠ kk t := fun e => by
  have := kq_inj hs.1 hs.2 ht.1 ht.2 e
  rcases h with h | h
  · exact h this.1
  · exact h this.2
def r1 : Tr := ⟨bs [108, 105], bs [49], bs []⟩
def r2 : Tr := ⟨bs [108, 105], bs [50], bs []⟩
def r3 : Tr := ⟨bs [108, 105], bs [51], bs []⟩
def rx : Tr := ⟨bs [120], bs [], bs []⟩
theorem sz (t : Tr) (h : t.a.size ≤ 2 ∧ t.b.size ≤ 2) : t.a.size ≤ maxLen ∧ t.b.size ≤ maxLen := by unfold maxLen; omega
theorem runs_from : fromL [r1, r2, r3] [r3, rx, r1] = [2, -1, 0] := by
  have h12 : kk r1 ≠ kk r2 := kk_ne (sz _ (by decide)) (sz _ (by decide)) (by decide)
  have h13 : kk r1 ≠ kk r3 := kk_ne (sz _ (by decide)) (sz _ (by decide)) (by decide)
  have h23 : kk r2 ≠ kk r3 := kk_ne (sz _ (by decide)) (sz _ (by decide)) (by decide)
  have hx1 : kk rx ≠ kk r1 := kk_ne (sz _ (by decide)) (sz _ (by decide)) (by decide)
  have hx2 : kk rx ≠ kk r2 := kk_ne (sz _ (by decide)) (sz _ (by decide)) (by decide)
  have hx3 : kk rx ≠ kk r3 := kk_ne (sz _ (by decide)) (sz _ (by decide)) (by decide)
  simp [fromL, fromGo, places, upd, h12, h13, h23, hx1, hx2, hx3, h12.symm, h13.symm, h23.symm, hx1.symm, hx2.symm, hx3.symm]
theorem runs_gone : goneL 3 [2, -1, 0] = [1] := by decide
end Go.Proofs.Ytjpknhemnfokaaa.Mt
