/- The pure statement of RankOrder, over the printed functions. -/
import Derived.Test.YtfllecoenjljpaaPRankOrderx7
namespace Go.Proofs.Ytfllecoenjljpaa.StmRankOrder
open Go.RowKit Go.Proofs.Ytfllecoenjljpaa.PRankOrder Go.Proofs.YtfllecoenjljpaaW.PrintWords
def Pure : Prop := ∀ (a0_0 : List (Int)) (a0_1 : List (Int)) (a0_2 : Int) (a1_0 : List (Int)) (a1_1 : List (Int)) (a1_2 : Int) (a2_0 : List (Int)) (a2_1 : List (Int)) (a2_2 : Int) (a3 : Int), (a0_0.length * 8 ≤ 140737488351232 ∧ ∀ x ∈ a0_0, (Lit.int .i64 x).wf = true) → (a0_1.length * 8 ≤ 140737488351232 ∧ ∀ x ∈ a0_1, (Lit.int .i64 x).wf = true) → ((Lit.int .i64 a0_2).wf = true) → (a1_0.length * 8 ≤ 140737488351232 ∧ ∀ x ∈ a1_0, (Lit.int .i64 x).wf = true) → (a1_1.length * 8 ≤ 140737488351232 ∧ ∀ x ∈ a1_1, (Lit.int .i64 x).wf = true) → ((Lit.int .i64 a1_2).wf = true) → (a2_0.length * 8 ≤ 140737488351232 ∧ ∀ x ∈ a2_0, (Lit.int .i64 x).wf = true) → (a2_1.length * 8 ≤ 140737488351232 ∧ ∀ x ∈ a2_1, (Lit.int .i64 x).wf = true) → ((Lit.int .i64 a2_2).wf = true) → ((Lit.int .i64 a3).wf = true) → ∃ k, porticolaw6_RankOrder.f k a0_0 a0_1 a0_2 a1_0 a1_1 a1_2 a2_0 a2_1 a2_2 a3 = some true
end Go.Proofs.Ytfllecoenjljpaa.StmRankOrder
