/- The pure statement of LruPlays, over the printed functions. -/
import Derived.Test.YtffaiijeagghdaaPLruPlaysx9
namespace Go.Proofs.Ytffaiijeagghdaa.StmLruPlays
open Go.RowKit Go.Proofs.Ytffaiijeagghdaa.PLruPlays Go.Proofs.YtffaiijeagghdaaW.PrintWords
def Pure : Prop := ∀ (a0 : Int) (a1 : List (S40)), ((Lit.int .i64 a0).wf = true) → (a1.length * 24 ≤ 140737488351232 ∧ ∀ x ∈ a1, (Lit.int .i64 x.f0).wf = true ∧ (Lit.int .i64 x.f1).wf = true ∧ (Lit.int .i64 x.f2).wf = true) → ∃ k, porticolaw18_LruPlays.f k a0 a1 = some true
end Go.Proofs.Ytffaiijeagghdaa.StmLruPlays
