/- The pure statement of MatchTells, over the printed functions. -/
import Derived.Test.YtjpknhemnfokaaaPMatchTellsx9
namespace Go.Proofs.Ytjpknhemnfokaaa.StmMatchTells
open Go.RowKit Go.Proofs.Ytjpknhemnfokaaa.PMatchTells Go.Proofs.YtjpknhemnfokaaaW.PrintWords
def Pure : Prop := ∀ (a0 : List (Int)) (a1 : List (Int)), (a0.length * 8 ≤ 140737488351232 ∧ ∀ x ∈ a0, (Lit.int .i64 x).wf = true) → (a1.length * 8 ≤ 140737488351232 ∧ ∀ x ∈ a1, (Lit.int .i64 x).wf = true) → ∃ k, porticolaw14_MatchTells.f k a0 a1 = some true
end Go.Proofs.Ytjpknhemnfokaaa.StmMatchTells
