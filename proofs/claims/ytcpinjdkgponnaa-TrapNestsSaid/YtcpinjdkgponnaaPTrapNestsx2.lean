/- TrapNests in the form in which rows are written (wip/tools/rowgen.py): by hand (XTrapNests). -/
import Derived.Test.YtcpinjdkgponnaaTrapNests
set_option linter.unusedVariables false
namespace Go.Proofs.Ytcpinjdkgponnaa.PTrapNests
open Go.RowKit Go.Proofs.YtcpinjdkgponnaaW.PrintWords Go.Proofs.Ytcpinjdkgponnaa.Trap
def porticolaw2_TrapNests.f (k : Nat) (l0 : List Bool) (a1 : Int) : Option (Bool) := some true
theorem porticolaw2_TrapNests.calls (k : Nat) (A0 : Option Addr) (c0 : Nat) (l0 : List Bool) (a1 : Int) (r : Bool) (w : World) (hr0 : Kd.C Kd.bool w A0 l0.length l0) (hc0 : l0.length ≤ c0) (h : porticolaw2_TrapNests.f k l0 a1 = some r) :
    Calls Try.prog 6 #[.slice A0 l0.length c0, .int .i64 a1] w fun e w' => e = .returned (.bool r) ∧ Below w.heap.size w w' := by
  obtain rfl := Option.some.inj h
  refine TrapNests_any A0 c0 l0 a1 w (fun i hi => ?_)
  obtain ⟨ad, cs, e, _, hK, hc⟩ := Kd.C_get hr0 false (i : Int) (by omega) (by omega)
  have hK' : cs = [.bool (l0.getD (i : Int).toNat false)] := hK
  subst hK'
  have := hc 0 _ rfl
  refine ⟨ad, e, ?_⟩
  have hg : l0.getD (i : Int).toNat false = l0[i] := by simp [List.getD_eq_getElem?_getD, hi]
  rw [hg] at this
  have hs : (i : Int).toNat * Kd.bool.sz + 0 = i := by show (i : Int).toNat * 1 + 0 = i; omega
  rw [hs] at this
  exact this
end Go.Proofs.Ytcpinjdkgponnaa.PTrapNests
