/- The pure statement of LifeMixed, over the printed functions. -/
import Derived.Test.YtnpmmmgaghhndaaPLifeMixedx9
namespace Go.Proofs.Ytnpmmmgaghhndaa.StmLifeMixed
open Go.RowKit Go.Proofs.Ytnpmmmgaghhndaa.PLifeMixed Go.Proofs.YtnpmmmgaghhndaaW.PrintWords
def Pure : Prop := ∀ (a0 : List (Int)) (a1 : List (Int)) (a2 : List (Bool)), (a0.length * 8 ≤ 140737488351232 ∧ ∀ x ∈ a0, (Lit.int .i64 x).wf = true) → (a1.length * 8 ≤ 140737488351232 ∧ ∀ x ∈ a1, (Lit.int .i64 x).wf = true) → (a2.length * 1 ≤ 140737488351232) → ∃ k, porticolaw19_LifeMixed.f k a0 a1 a2 = some true
end Go.Proofs.Ytnpmmmgaghhndaa.StmLifeMixed
