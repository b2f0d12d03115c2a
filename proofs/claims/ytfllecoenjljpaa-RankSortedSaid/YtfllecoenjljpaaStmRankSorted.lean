/- The pure statement of RankSorted, over the printed functions. -/
import Derived.Test.YtfllecoenjljpaaPRankSortedx6
namespace Go.Proofs.Ytfllecoenjljpaa.StmRankSorted
open Go.RowKit Go.Proofs.Ytfllecoenjljpaa.PRankSorted Go.Proofs.YtfllecoenjljpaaW.PrintWords
def Pure : Prop := ∀ (a0 : List (S31)) (a1 : Int) (a2_0 : List (Int)) (a2_1 : List (Int)) (a2_2 : Int), (a0.length * 56 ≤ 140737488351232 ∧ ∀ x ∈ a0, (x.f0.length * 8 ≤ 140737488351232 ∧ ∀ x' ∈ x.f0, (Lit.int .i64 x').wf = true) ∧ (x.f1.length * 8 ≤ 140737488351232 ∧ ∀ x' ∈ x.f1, (Lit.int .i64 x').wf = true) ∧ (Lit.int .i64 x.f2).wf = true) → ((Lit.int .i64 a1).wf = true) → (a2_0.length * 8 ≤ 140737488351232 ∧ ∀ x ∈ a2_0, (Lit.int .i64 x).wf = true) → (a2_1.length * 8 ≤ 140737488351232 ∧ ∀ x ∈ a2_1, (Lit.int .i64 x).wf = true) → ((Lit.int .i64 a2_2).wf = true) → ∃ k, porticolaw6_RankSorted.f k a0 a1 a2_0 a2_1 a2_2 = some true
end Go.Proofs.Ytfllecoenjljpaa.StmRankSorted
