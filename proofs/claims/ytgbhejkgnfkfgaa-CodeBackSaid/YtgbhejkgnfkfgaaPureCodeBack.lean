/- CodeBack: the plain law (nothing is left of it but that a mark's scroll is a uint64). -/
import Derived.Test.YtgbhejkgnfkfgaaStmCodeBack
namespace Go.Proofs.Ytgbhejkgnfkfgaa.PureCodeBack
open Go.RowKit Go.Proofs.Ytgbhejkgnfkfgaa.PCodeBack Go.Proofs.Ytgbhejkgnfkfgaa.PCodeRuns
theorem u64_of (n : Int) (h : (Lit.int .u64 n).wf = true) : 0 ≤ n ∧ n < 18446744073709551616 := by
  have h1 : IntKind.u64.min ≤ n ∧ n ≤ IntKind.u64.max := by simpa [Lit.wf] using h
  have e1 : IntKind.u64.min = 0 := by kernel_rfl
  have e2 : IntKind.u64.max = 18446744073709551615 := by kernel_rfl
  rw [e1, e2] at h1
  omega
theorem pure : StmCodeBack.Pure := by
  unfold StmCodeBack.Pure
  intro l0_0 a0_1 l0_2 l0_3 l1_0 a1_1 l1_2 l1_3 a2 h0 h1 h2 h3 h4 h5 h6 h7 h8
  refine ⟨0, ?_⟩
  unfold porticolaw24_CodeBack.f
  rw [if_pos]
  refine ⟨fun m hm => ?_, fun m hm => ?_⟩
  · have h0 := h0
    exact u64_of _ (h0.2 m hm).2
  · exact u64_of _ (h4.2 m hm).2
end Go.Proofs.Ytgbhejkgnfkfgaa.PureCodeBack
