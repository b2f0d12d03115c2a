/- ScrollCleans in the form in which rows are written (wip/tools/rowgen.py): by hand (XScrollCleans). -/
import Derived.Test.YtemanoiaaaaopaaScrollCleans
set_option linter.unusedVariables false
namespace Go.Proofs.Ytemanoiaaaaopaa.PScrollCleans
open Go.RowKit Go.Proofs.YtemanoiaaaaopaaW.PrintWords Go.Proofs.Ytemanoiaaaaopaa.Fl
def porticolaw1_ScrollCleans.f (k : Nat) (a0 : Int) (a1 : Int) : Option (Bool) := if 0 ≤ a0 ∧ a0 < 18446744073709551616 ∧ 0 ≤ a1 ∧ a1 < 18446744073709551616 then some true else none
theorem porticolaw1_ScrollCleans.calls (k : Nat) (a0 : Int) (a1 : Int) (r : Bool) (w : World) (h : porticolaw1_ScrollCleans.f k a0 a1 = some r) :
    Calls Try.prog 5 #[.int .u64 a0, .int .u64 a1] w fun e w' => e = .returned (.bool r) ∧ Below w.heap.size w w' := by
  unfold porticolaw1_ScrollCleans.f at h
  split at h
  · rename_i hb
    obtain rfl := Option.some.inj h
    obtain ⟨x, rfl⟩ := Int.eq_ofNat_of_zero_le hb.1
    obtain ⟨y, rfl⟩ := Int.eq_ofNat_of_zero_le hb.2.2.1
    refine (ScrollCleans_any x y (by omega) (by omega) w).mono ?_
    rintro e w' ⟨rfl, n, rfl⟩
    exact ⟨rfl, pw_below_drewN (Below.refl _ _) n⟩
  · cases h
end Go.Proofs.Ytemanoiaaaaopaa.PScrollCleans
