/- ScrollCleans: the plain law (nothing is left of it but the numbers' bounds: the walk tells all). -/
import Derived.Test.YtemanoiaaaaopaaStmScrollCleans
namespace Go.Proofs.Ytemanoiaaaaopaa.PureScrollCleans
open Go.RowKit Go.Proofs.Ytemanoiaaaaopaa.PScrollCleans
theorem u64 {n : Int} (h : (Lit.int .u64 n).wf = true) : 0 ≤ n ∧ n < 18446744073709551616 := by
  simp [Lit.wf, IntKind.min, IntKind.max, IntKind.signed, IntKind.bits] at h
  omega
theorem pure : StmScrollCleans.Pure := fun _ _ h0 h1 => ⟨0, if_pos ⟨(u64 h0).1, (u64 h0).2, (u64 h1).1, (u64 h1).2⟩⟩
end Go.Proofs.Ytemanoiaaaaopaa.PureScrollCleans
