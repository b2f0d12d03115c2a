/- LifeTells in the form in which rows are written (wip/tools/rowgen.py): by hand (XLifeTells). -/
import Derived.Test.YtnpmmmgaghhndaaLifeTells
set_option linter.unusedVariables false
namespace Go.Proofs.Ytnpmmmgaghhndaa.PLifeTells
open Go.RowKit Go.Proofs.YtnpmmmgaghhndaaW.PrintWords Go.Proofs.Ytnpmmmgaghhndaa.PLifeBegins
def porticolaw19_LifeTells.f (k : Nat) (l0 : List S23) (l1 : List Int) : Option (Bool) := if ∀ e ∈ l0, (Lit.int .i64 e.f1).wf = true then some true else none
theorem porticolaw19_LifeTells.calls (k : Nat) (A0 : Option Addr) (c0 : Nat) (l0 : List S23) (A1 : Option Addr) (c1 : Nat) (l1 : List Int) (r : Bool) (w : World) (hr0 : Kd.C k23 w A0 l0.length l0) (hc0 : l0.length ≤ c0) (hr1 : Kd.C (Kd.int .i64) w A1 l1.length l1) (hc1 : l1.length ≤ c1) (h : porticolaw19_LifeTells.f k l0 l1 = some r) :
    Calls Try.prog 4 #[.slice A0 l0.length c0, .slice A1 l1.length c1] w fun e w' => e = .returned (.bool r) ∧ Below w.heap.size w w' := by
  unfold porticolaw19_LifeTells.f at h
  by_cases hu : ∀ e ∈ l0, (Lit.int .i64 e.f1).wf = true
  · rw [if_pos hu] at h
    obtain rfl := Option.some.inj h
    exact Go.Proofs.Ytnpmmmgaghhndaa.Lf.LifeTells_any A0 c0 l0 A1 c1 l1 w hr0 hc0 hu hr1 hc1
  · rw [if_neg hu] at h
    cases h
end Go.Proofs.Ytnpmmmgaghhndaa.PLifeTells
