/- The pure statement of LruRoom, over the printed functions. -/
import Derived.Test.YtffaiijeagghdaaPLruRoomx9
namespace Go.Proofs.Ytffaiijeagghdaa.StmLruRoom
open Go.RowKit Go.Proofs.Ytffaiijeagghdaa.PLruRoom Go.Proofs.YtffaiijeagghdaaW.PrintWords
def Pure : Prop := ∀ (a0 : Int) (a1 : List (Int)), ((Lit.int .i64 a0).wf = true) → (a1.length * 8 ≤ 140737488351232 ∧ ∀ x ∈ a1, (Lit.int .i64 x).wf = true) → ∃ k, porticolaw18_LruRoom.f k a0 a1 = some true
end Go.Proofs.Ytffaiijeagghdaa.StmLruRoom
