/- PastPlays: the plain law (nothing is left of it: the walk tells all). -/
import Derived.Test.YtobeebcpkkdkhaaStmPastPlays
namespace Go.Proofs.Ytobeebcpkkdkhaa.PurePastPlays
open Go.RowKit Go.Proofs.Ytobeebcpkkdkhaa.PPastPlays
theorem u64 {n : Int} (h : (Lit.int .u64 n).wf = true) : 0 ≤ n ∧ n < 18446744073709551616 := by
  simp [Lit.wf, IntKind.min, IntKind.max, IntKind.signed, IntKind.bits] at h
  omega
theorem pure : StmPastPlays.Pure := fun _ _ _ h => ⟨0, if_pos (List.all_eq_true.2 (fun a ha => decide_eq_true (u64 (h.2 a ha).2.2.1)))⟩
end Go.Proofs.Ytobeebcpkkdkhaa.PurePastPlays
