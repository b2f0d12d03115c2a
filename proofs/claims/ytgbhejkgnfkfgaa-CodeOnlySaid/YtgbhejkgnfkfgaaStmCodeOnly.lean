/- The pure statement of CodeOnly, over the printed functions. -/
import Derived.Test.YtgbhejkgnfkfgaaPCodeOnlyx9
namespace Go.Proofs.Ytgbhejkgnfkfgaa.StmCodeOnly
open Go.RowKit Go.Proofs.Ytgbhejkgnfkfgaa.PCodeOnly Go.Proofs.YtgbhejkgnfkfgaaW.PrintWords Go.Proofs.Ytgbhejkgnfkfgaa.PCodeRuns
def Pure : Prop := ∀ (a0_0 : List (S24)) (a0_1 : Int) (a0_2 : List (Bool)) (a0_3 : List (List (Int))) (a1 : List (Int)) (a2 : Int) (a3 : Int) (a4 : Int), (a0_0.length * 24 ≤ 140737488351232 ∧ ∀ x ∈ a0_0, x.f0.size ≤ 140737488351232 ∧ (Lit.int .u64 x.f1).wf = true) → ((Lit.int .i64 a0_1).wf = true) → (a0_2.length * 1 ≤ 140737488351232) → (a0_3.length * 24 ≤ 140737488351232 ∧ ∀ x ∈ a0_3, x.length * 8 ≤ 140737488351232 ∧ ∀ x' ∈ x, (Lit.int .i64 x').wf = true) → (a1.length * 1 ≤ 140737488351232 ∧ ∀ x ∈ a1, (Lit.int .u8 x).wf = true) → ((Lit.int .i64 a2).wf = true) → ((Lit.int .u8 a3).wf = true) → ((Lit.int .i64 a4).wf = true) → ∃ k, porticolaw24_CodeOnly.f k a0_0 a0_1 a0_2 a0_3 a1 a2 a3 a4 = some true
end Go.Proofs.Ytgbhejkgnfkfgaa.StmCodeOnly
