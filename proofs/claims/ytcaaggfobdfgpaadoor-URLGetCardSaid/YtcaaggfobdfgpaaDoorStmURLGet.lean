/- The pure statement of URLGet, over the printed functions. -/
import Derived.Test.YtcaaggfobdfgpaaDoorPURLGetx9
namespace Go.Proofs.YtcaaggfobdfgpaaDoor.StmURLGet
open Go.RowKit Go.Proofs.YtcaaggfobdfgpaaDoor.PURLGet Go.Proofs.YtcaaggfobdfgpaaDoorW.PrintWords
def Pure : Prop := ∀ (a0_0 : List (Int)) (a0_1 : List (Int)) (a0_2 : List (Int)) (a1 : ByteArray) (a2 : Int), (a0_0.length * 8 ≤ 140737488351232 ∧ ∀ x ∈ a0_0, (Lit.int .i64 x).wf = true) → (a0_1.length * 8 ≤ 140737488351232 ∧ ∀ x ∈ a0_1, (Lit.int .i64 x).wf = true) → (a0_2.length * 8 ≤ 140737488351232 ∧ ∀ x ∈ a0_2, (Lit.int .i64 x).wf = true) → (a1.size ≤ 140737488351232) → ((Lit.int .i64 a2).wf = true) → ∃ k, porticolaw4_URLGet.f k a0_0 a0_1 a0_2 a1 a2 = some true
end Go.Proofs.YtcaaggfobdfgpaaDoor.StmURLGet
