/- CodeOnly: the plain law (nothing is left of it but that a mark's scroll is a uint64, x a byte). -/
import Derived.Test.YtgbhejkgnfkfgaaStmCodeOnly
namespace Go.Proofs.Ytgbhejkgnfkfgaa.PureCodeOnly
open Go.RowKit Go.Proofs.Ytgbhejkgnfkfgaa.PCodeOnly Go.Proofs.Ytgbhejkgnfkfgaa.PCodeRuns
theorem u64_of (n : Int) (h : (Lit.int .u64 n).wf = true) : 0 ≤ n ∧ n < 18446744073709551616 := by
  have h1 : IntKind.u64.min ≤ n ∧ n ≤ IntKind.u64.max := by simpa [Lit.wf] using h
  have e1 : IntKind.u64.min = 0 := by kernel_rfl
  have e2 : IntKind.u64.max = 18446744073709551615 := by kernel_rfl
  rw [e1, e2] at h1
  omega
theorem u8_of (n : Int) (h : (Lit.int .u8 n).wf = true) : 0 ≤ n ∧ n < 256 := by
  have h1 : IntKind.u8.min ≤ n ∧ n ≤ IntKind.u8.max := by simpa [Lit.wf] using h
  have e1 : IntKind.u8.min = 0 := by kernel_rfl
  have e2 : IntKind.u8.max = 255 := by kernel_rfl
  rw [e1, e2] at h1
  omega
theorem pure : StmCodeOnly.Pure := by
  unfold StmCodeOnly.Pure
  intro l0_0 a0_1 l0_2 l0_3 l1 a2 a3 a4 h0 h1 h2 h3 h4 h5 h6 h7
  refine ⟨0, ?_⟩
  unfold porticolaw24_CodeOnly.f
  rw [if_pos]
  exact ⟨fun m hm => u64_of _ (h0.2 m hm).2, u8_of _ h6⟩
end Go.Proofs.Ytgbhejkgnfkfgaa.PureCodeOnly
