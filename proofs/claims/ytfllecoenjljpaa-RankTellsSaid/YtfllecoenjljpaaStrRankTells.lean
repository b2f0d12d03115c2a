/- Strings compared by >. Over PRankTells's words. -/
import Derived.Test.YtfllecoenjljpaaOrdRankTells
namespace Go.Proofs.Ytfllecoenjljpaa.OrdRankTells
open Go.RowKit Go.Proofs.Ytfllecoenjljpaa.Given Go.Proofs.Ytfllecoenjljpaa.PRankTells Go.Proofs.YtfllecoenjljpaaW.PrintWords
theorem str_gt1 {x y : List UInt8} (h : Op.bytesLess y x = true) : (x == y) = false := by
  have G := good_s.anti x y
  have h2 : cmpS y x = -1 := by unfold cmpS; rw [if_pos h]
  have : x ≠ y := fun e => by
    have h3 := (cmpS_zero x y).2 e
    omega
  simpa using this
theorem str_gt2 {x y : List UInt8} (h1 : Op.bytesLess x y = false) (h2 : Op.bytesLess y x = false) : (x == y) = true := by
  have G := good_s.anti x y
  have k1 : ¬ Op.bytesLess x y = true := by rw [h1]; exact Bool.false_ne_true
  have k2 : ¬ Op.bytesLess y x = true := by rw [h2]; exact Bool.false_ne_true
  unfold cmpS at G
  rw [if_neg k1, if_neg k2] at G
  by_cases e : x = y
  · simpa using e
  · have e2 : ¬ y = x := fun h => e h.symm
    rw [if_neg e, if_neg e2] at G
    omega
end Go.Proofs.Ytfllecoenjljpaa.OrdRankTells
