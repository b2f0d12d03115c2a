/- The pure statement of RuleMore, over the printed functions. -/
import Derived.Test.YtkcpnbllgpkejaaPRuleMorex2
namespace Go.Proofs.Ytkcpnbllgpkejaa.StmRuleMore
open Go.RowKit Go.Proofs.Ytkcpnbllgpkejaa.PRuleMore Go.Proofs.YtkcpnbllgpkejaaW.PrintWords
def Pure : Prop := ∀ (a0 : List (S23)) (a1 : List (Bool)) (a2 : Int) (a3 : Int), (a0.length * 32 ≤ 140737488351232 ∧ ∀ x ∈ a0, (Lit.int .i64 x.f0).wf = true ∧ (Lit.int .i64 x.f1).wf = true ∧ x.f2.size ≤ 140737488351232) → (a1.length * 1 ≤ 140737488351232) → ((Lit.int .i64 a2).wf = true) → ((Lit.int .i64 a3).wf = true) → ∃ k, porticolaw9_RuleMore.f k a0 a1 a2 a3 = some true
end Go.Proofs.Ytkcpnbllgpkejaa.StmRuleMore
