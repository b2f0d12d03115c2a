/- RankTells in the form in which rows are written (wip/tools/rowgen.py): by hand (XRankTells). -/
import Derived.Test.YtfllecoenjljpaaRankTells
set_option linter.unusedVariables false
namespace Go.Proofs.Ytfllecoenjljpaa.PRankTells
open Go.RowKit Go.Proofs.YtfllecoenjljpaaW.PrintWords
def porticolaw6_RankTells.f (k : Nat) (l0 : List S31) (l1 : List (List S23)) : Option (Bool) := if ∀ x ∈ l0, x.f1.length * 8 ≤ 140737488351232 then some true else none
theorem porticolaw6_RankTells.calls (k : Nat) (A0 : Option Addr) (c0 : Nat) (l0 : List S31) (A1 : Option Addr) (c1 : Nat) (l1 : List (List S23)) (r : Bool) (w : World) (hr0 : Kd.C k31 w A0 l0.length l0) (hc0 : l0.length ≤ c0) (hr1 : Kd.C (Kd.slice 23 k23) w A1 l1.length l1) (hc1 : l1.length ≤ c1) (h : porticolaw6_RankTells.f k l0 l1 = some r) :
    Calls Try.prog 5 #[.slice A0 l0.length c0, .slice A1 l1.length c1] w fun e w' => e = .returned (.bool r) ∧ Below w.heap.size w w' := by
  unfold porticolaw6_RankTells.f at h
  by_cases hu : ∀ x ∈ l0, x.f1.length * 8 ≤ 140737488351232
  · rw [if_pos hu] at h
    obtain rfl := Option.some.inj h
    exact Go.Proofs.Ytfllecoenjljpaa.TotRankTells.RankTells_any A0 c0 l0 A1 c1 l1 w hr0 hc0 hr1 hc1 hu
  · rw [if_neg hu] at h
    cases h
end Go.Proofs.Ytfllecoenjljpaa.PRankTells
