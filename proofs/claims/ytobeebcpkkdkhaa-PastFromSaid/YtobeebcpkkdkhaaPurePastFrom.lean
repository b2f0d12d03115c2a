/- PastFrom: the plain law (nothing is left of it: the walk tells all). -/
import Derived.Test.YtobeebcpkkdkhaaStmPastFrom
namespace Go.Proofs.Ytobeebcpkkdkhaa.PurePastFrom
open Go.RowKit Go.Proofs.Ytobeebcpkkdkhaa.PPastFrom
theorem u64 {n : Int} (h : (Lit.int .u64 n).wf = true) : 0 ≤ n ∧ n < 18446744073709551616 := by
  simp [Lit.wf, IntKind.min, IntKind.max, IntKind.signed, IntKind.bits] at h
  omega
theorem pure : StmPastFrom.Pure := fun _ _ h _ => ⟨0, if_pos (List.all_eq_true.2 (fun a ha => decide_eq_true (u64 (h.2 a ha).2)))⟩
end Go.Proofs.Ytobeebcpkkdkhaa.PurePastFrom
