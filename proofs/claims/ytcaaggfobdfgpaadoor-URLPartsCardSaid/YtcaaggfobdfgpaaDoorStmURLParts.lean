/- The pure statement of URLParts, over the printed functions. -/
import Derived.Test.YtcaaggfobdfgpaaDoorPURLPartsx9
namespace Go.Proofs.YtcaaggfobdfgpaaDoor.StmURLParts
open Go.RowKit Go.Proofs.YtcaaggfobdfgpaaDoor.PURLParts Go.Proofs.YtcaaggfobdfgpaaDoorW.PrintWords
def Pure : Prop := ∀ (a0_0 : List (Int)) (a0_1 : List (Int)) (a0_2 : List (Int)) (a1_0 : List (Int)) (a1_1 : List (Int)) (a1_2 : List (Int)) (a2 : Int), (a0_0.length * 8 ≤ 140737488351232 ∧ ∀ x ∈ a0_0, (Lit.int .i64 x).wf = true) → (a0_1.length * 8 ≤ 140737488351232 ∧ ∀ x ∈ a0_1, (Lit.int .i64 x).wf = true) → (a0_2.length * 8 ≤ 140737488351232 ∧ ∀ x ∈ a0_2, (Lit.int .i64 x).wf = true) → (a1_0.length * 8 ≤ 140737488351232 ∧ ∀ x ∈ a1_0, (Lit.int .i64 x).wf = true) → (a1_1.length * 8 ≤ 140737488351232 ∧ ∀ x ∈ a1_1, (Lit.int .i64 x).wf = true) → (a1_2.length * 8 ≤ 140737488351232 ∧ ∀ x ∈ a1_2, (Lit.int .i64 x).wf = true) → ((Lit.int .i64 a2).wf = true) → ∃ k, porticolaw4_URLParts.f k a0_0 a0_1 a0_2 a1_0 a1_1 a1_2 a2 = some true
end Go.Proofs.YtcaaggfobdfgpaaDoor.StmURLParts
