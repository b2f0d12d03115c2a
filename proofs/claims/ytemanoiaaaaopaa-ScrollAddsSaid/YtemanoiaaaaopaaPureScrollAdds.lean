/- ScrollAdds: the plain law (nothing is left of it but the numbers' bounds: the walk tells all). -/
import Derived.Test.YtemanoiaaaaopaaStmScrollAdds
namespace Go.Proofs.Ytemanoiaaaaopaa.PureScrollAdds
open Go.RowKit Go.Proofs.Ytemanoiaaaaopaa.PScrollAdds
theorem u64 {n : Int} (h : (Lit.int .u64 n).wf = true) : 0 ≤ n ∧ n < 18446744073709551616 := by
  simp [Lit.wf, IntKind.min, IntKind.max, IntKind.signed, IntKind.bits] at h
  omega
theorem pure : StmScrollAdds.Pure := fun _ _ _ _ h0 h1 _ _ => ⟨0, if_pos ⟨(u64 h0).1, (u64 h0).2, (u64 h1).1, (u64 h1).2⟩⟩
end Go.Proofs.Ytemanoiaaaaopaa.PureScrollAdds
