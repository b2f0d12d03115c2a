/- The pure statement of RankTells, over the printed functions. -/
import Derived.Test.YtfllecoenjljpaaPRankTellsx9
namespace Go.Proofs.Ytfllecoenjljpaa.StmRankTells
open Go.RowKit Go.Proofs.Ytfllecoenjljpaa.PRankTells Go.Proofs.YtfllecoenjljpaaW.PrintWords
def Pure : Prop := ∀ (a0 : List (S31)) (a1 : List (List (S23))), (a0.length * 56 ≤ 140737488351232 ∧ ∀ x ∈ a0, (x.f0.length * 8 ≤ 140737488351232 ∧ ∀ x' ∈ x.f0, (Lit.int .i64 x').wf = true) ∧ (x.f1.length * 8 ≤ 140737488351232 ∧ ∀ x' ∈ x.f1, (Lit.int .i64 x').wf = true) ∧ (Lit.int .i64 x.f2).wf = true) → (a1.length * 24 ≤ 140737488351232 ∧ ∀ x ∈ a1, x.length * 24 ≤ 140737488351232 ∧ ∀ x' ∈ x, (Lit.int .i64 x'.f0).wf = true ∧ x'.f1.size ≤ 140737488351232) → ∃ k, porticolaw6_RankTells.f k a0 a1 = some true
end Go.Proofs.Ytfllecoenjljpaa.StmRankTells
