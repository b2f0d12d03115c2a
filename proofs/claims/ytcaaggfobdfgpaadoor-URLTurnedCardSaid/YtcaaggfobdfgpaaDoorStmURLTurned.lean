/- The pure statement of URLTurned, over the printed functions. -/
import Derived.Test.YtcaaggfobdfgpaaDoorPURLTurnedx6
namespace Go.Proofs.YtcaaggfobdfgpaaDoor.StmURLTurned
open Go.RowKit Go.Proofs.YtcaaggfobdfgpaaDoor.PURLTurned Go.Proofs.YtcaaggfobdfgpaaDoorW.PrintWords
def Pure : Prop := ∀ (a0_0 : List (Int)) (a0_1 : List (Int)) (a0_2 : List (Int)) (a1 : Int) (a2 : Int) (a3 : Int), (a0_0.length * 8 ≤ 140737488351232 ∧ ∀ x ∈ a0_0, (Lit.int .i64 x).wf = true) → (a0_1.length * 8 ≤ 140737488351232 ∧ ∀ x ∈ a0_1, (Lit.int .i64 x).wf = true) → (a0_2.length * 8 ≤ 140737488351232 ∧ ∀ x ∈ a0_2, (Lit.int .i64 x).wf = true) → ((Lit.int .i64 a1).wf = true) → ((Lit.int .u8 a2).wf = true) → ((Lit.int .i64 a3).wf = true) → ∃ k, porticolaw4_URLTurned.f k a0_0 a0_1 a0_2 a1 a2 a3 = some true
end Go.Proofs.YtcaaggfobdfgpaaDoor.StmURLTurned
