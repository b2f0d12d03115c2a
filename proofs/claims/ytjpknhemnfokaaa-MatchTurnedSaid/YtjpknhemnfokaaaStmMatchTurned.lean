/- The pure statement of MatchTurned, over the printed functions. -/
import Derived.Test.YtjpknhemnfokaaaPMatchTurnedx9
namespace Go.Proofs.Ytjpknhemnfokaaa.StmMatchTurned
open Go.RowKit Go.Proofs.Ytjpknhemnfokaaa.PMatchTurned Go.Proofs.YtjpknhemnfokaaaW.PrintWords
def Pure : Prop := ∀ (a0 : Int) (a1 : Int) (a2 : List (Int)), ((Lit.int .i64 a0).wf = true) → ((Lit.int .i64 a1).wf = true) → (a2.length * 8 ≤ 140737488351232 ∧ ∀ x ∈ a2, (Lit.int .i64 x).wf = true) → ∃ k, porticolaw14_MatchTurned.f k a0 a1 a2 = some true
end Go.Proofs.Ytjpknhemnfokaaa.StmMatchTurned
