/- LruPlays: the plain law (nothing is left of it: the walk tells all). -/
import Derived.Test.YtffaiijeagghdaaStmLruPlays
namespace Go.Proofs.Ytffaiijeagghdaa.PureLruPlays
open Go.RowKit Go.Proofs.Ytffaiijeagghdaa.PLruPlays
theorem pure : StmLruPlays.Pure := fun _ _ _ h => ⟨0, if_pos (List.all_eq_true.2 (fun a ha => (h.2 a ha).2.2))⟩
end Go.Proofs.Ytffaiijeagghdaa.PureLruPlays
