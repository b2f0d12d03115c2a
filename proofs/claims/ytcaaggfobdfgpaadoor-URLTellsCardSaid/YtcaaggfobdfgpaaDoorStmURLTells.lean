/- The pure statement of URLTells, over the printed functions. -/
import Derived.Test.YtcaaggfobdfgpaaDoorPURLTellsx12
namespace Go.Proofs.YtcaaggfobdfgpaaDoor.StmURLTells
open Go.RowKit Go.Proofs.YtcaaggfobdfgpaaDoor.PURLTells Go.Proofs.YtcaaggfobdfgpaaDoorW.PrintWords
def Pure : Prop := ∀ (a0_0 : List (ByteArray)) (a0_1 : List (S32)) (a1_0 : List (ByteArray)) (a1_1 : List (S32)) (a2 : ByteArray) (a3 : ByteArray), (a0_0.length * 16 ≤ 140737488351232 ∧ ∀ x ∈ a0_0, x.size ≤ 140737488351232) → (a0_1.length * 32 ≤ 140737488351232 ∧ ∀ x ∈ a0_1, x.f0.size ≤ 140737488351232 ∧ x.f1.size ≤ 140737488351232) → (a1_0.length * 16 ≤ 140737488351232 ∧ ∀ x ∈ a1_0, x.size ≤ 140737488351232) → (a1_1.length * 32 ≤ 140737488351232 ∧ ∀ x ∈ a1_1, x.f0.size ≤ 140737488351232 ∧ x.f1.size ≤ 140737488351232) → (a2.size ≤ 140737488351232) → (a3.size ≤ 140737488351232) → ∃ k, porticolaw4_URLTells.f k a0_0 a0_1 a1_0 a1_1 a2 a3 = some true
end Go.Proofs.YtcaaggfobdfgpaaDoor.StmURLTells
