/- The pure statement of RuleTells, over the printed functions. -/
import Derived.Test.YtkcpnbllgpkejaaPRuleTellsx3
namespace Go.Proofs.Ytkcpnbllgpkejaa.StmRuleTells
open Go.RowKit Go.Proofs.Ytkcpnbllgpkejaa.PRuleTells Go.Proofs.YtkcpnbllgpkejaaW.PrintWords
def Pure : Prop := ∀ (a0 : List (S23)) (a1 : List (Bool)), (a0.length * 32 ≤ 140737488351232 ∧ ∀ x ∈ a0, (Lit.int .i64 x.f0).wf = true ∧ (Lit.int .i64 x.f1).wf = true ∧ x.f2.size ≤ 140737488351232) → (a1.length * 1 ≤ 140737488351232) → ∃ k, porticolaw9_RuleTells.f k a0 a1 = some true
end Go.Proofs.Ytkcpnbllgpkejaa.StmRuleTells
