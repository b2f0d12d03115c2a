/- PastFull: the plain law (nothing is left of it: the walk tells all). -/
import Derived.Test.YtobeebcpkkdkhaaStmPastFull
namespace Go.Proofs.Ytobeebcpkkdkhaa.PurePastFull
open Go.RowKit Go.Proofs.Ytobeebcpkkdkhaa.PPastFull
theorem u64 {n : Int} (h : (Lit.int .u64 n).wf = true) : 0 ≤ n ∧ n < 18446744073709551616 := by
  simp [Lit.wf, IntKind.min, IntKind.max, IntKind.signed, IntKind.bits] at h
  omega
theorem pure : StmPastFull.Pure := fun _ _ _ _ _ h => ⟨0, if_pos (u64 h)⟩
end Go.Proofs.Ytobeebcpkkdkhaa.PurePastFull
