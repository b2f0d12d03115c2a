/- The pure statement of LifeTells, over the printed functions. -/
import Derived.Test.YtnpmmmgaghhndaaPLifeTellsx9
namespace Go.Proofs.Ytnpmmmgaghhndaa.StmLifeTells
open Go.RowKit Go.Proofs.Ytnpmmmgaghhndaa.PLifeTells Go.Proofs.YtnpmmmgaghhndaaW.PrintWords Go.Proofs.Ytnpmmmgaghhndaa.PLifeBegins
def Pure : Prop := ∀ (a0 : List (S23)) (a1 : List (Int)), (a0.length * 16 ≤ 140737488351232 ∧ ∀ x ∈ a0, (Lit.int .i64 x.f0).wf = true ∧ (Lit.int .i64 x.f1).wf = true) → (a1.length * 8 ≤ 140737488351232 ∧ ∀ x ∈ a1, (Lit.int .i64 x).wf = true) → ∃ k, porticolaw19_LifeTells.f k a0 a1 = some true
end Go.Proofs.Ytnpmmmgaghhndaa.StmLifeTells
