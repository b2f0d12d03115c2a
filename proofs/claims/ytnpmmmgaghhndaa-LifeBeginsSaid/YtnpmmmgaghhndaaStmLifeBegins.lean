/- The pure statement of LifeBegins, over the printed functions. -/
import Derived.Test.YtnpmmmgaghhndaaPLifeBeginsx9
namespace Go.Proofs.Ytnpmmmgaghhndaa.StmLifeBegins
open Go.RowKit Go.Proofs.Ytnpmmmgaghhndaa.PLifeBegins Go.Proofs.YtnpmmmgaghhndaaW.PrintWords
def Pure : Prop := ∀ (a0 : List (Int)) (a1 : Int), (a0.length * 8 ≤ 140737488351232 ∧ ∀ x ∈ a0, (Lit.int .i64 x).wf = true) → ((Lit.int .i64 a1).wf = true) → ∃ k, porticolaw19_LifeBegins.f k a0 a1 = some true
end Go.Proofs.Ytnpmmmgaghhndaa.StmLifeBegins
