/- ScrollAdds in the form in which rows are written (wip/tools/rowgen.py): by hand (XScrollAdds). -/
import Derived.Test.YtemanoiaaaaopaaScrollAdds
set_option linter.unusedVariables false
namespace Go.Proofs.Ytemanoiaaaaopaa.PScrollAdds
open Go.RowKit Go.Proofs.YtemanoiaaaaopaaW.PrintWords Go.Proofs.Ytemanoiaaaaopaa.Fl
def porticolaw1_ScrollAdds.f (k : Nat) (a0 : Int) (a1 : Int) (a2 : Int) (a3 : Int) : Option (Bool) := if 0 ≤ a0 ∧ a0 < 18446744073709551616 ∧ 0 ≤ a1 ∧ a1 < 18446744073709551616 then some true else none
theorem porticolaw1_ScrollAdds.calls (k : Nat) (a0 : Int) (a1 : Int) (a2 : Int) (a3 : Int) (r : Bool) (w : World) (h : porticolaw1_ScrollAdds.f k a0 a1 a2 a3 = some r) :
    Calls Try.prog 4 #[.int .u64 a0, .int .u64 a1, .int .i64 a2, .int .i64 a3] w fun e w' => e = .returned (.bool r) ∧ Below w.heap.size w w' := by
  unfold porticolaw1_ScrollAdds.f at h
  split at h
  · rename_i hb
    obtain rfl := Option.some.inj h
    obtain ⟨x, rfl⟩ := Int.eq_ofNat_of_zero_le hb.1
    obtain ⟨y, rfl⟩ := Int.eq_ofNat_of_zero_le hb.2.2.1
    exact ScrollAdds_any x y a2 a3 (by omega) (by omega) w
  · cases h
end Go.Proofs.Ytemanoiaaaaopaa.PScrollAdds
