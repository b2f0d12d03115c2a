/- The pure statement of ScrollSteps, over the printed functions. -/
import Derived.Test.YtemanoiaaaaopaaPScrollStepsx2
namespace Go.Proofs.Ytemanoiaaaaopaa.StmScrollSteps
open Go.RowKit Go.Proofs.Ytemanoiaaaaopaa.PScrollSteps Go.Proofs.YtemanoiaaaaopaaW.PrintWords
def Pure : Prop := ∀ (a0 : Int) (a1 : List (Int)), ((Lit.int .i64 a0).wf = true) → (a1.length * 8 ≤ 140737488351232 ∧ ∀ x ∈ a1, (Lit.int .i64 x).wf = true) → ∃ k, porticolaw1_ScrollSteps.f k a0 a1 = some true
end Go.Proofs.Ytemanoiaaaaopaa.StmScrollSteps
