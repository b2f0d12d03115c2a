/- The pure statement of RuleFlags, over the printed functions. -/
import Derived.Test.YtkcpnbllgpkejaaPRuleFlagsx2
namespace Go.Proofs.Ytkcpnbllgpkejaa.StmRuleFlags
open Go.RowKit Go.Proofs.Ytkcpnbllgpkejaa.PRuleFlags Go.Proofs.YtkcpnbllgpkejaaW.PrintWords
def Pure : Prop := ∀ (a0_0 : Int) (a0_1 : Int) (a0_2 : ByteArray) (a1 : List (Bool)) (a2 : Int), ((Lit.int .i64 a0_0).wf = true) → ((Lit.int .i64 a0_1).wf = true) → (a0_2.size ≤ 140737488351232) → (a1.length * 1 ≤ 140737488351232) → ((Lit.int .i64 a2).wf = true) → ∃ k, porticolaw9_RuleFlags.f k a0_0 a0_1 a0_2 a1 a2 = some true
end Go.Proofs.Ytkcpnbllgpkejaa.StmRuleFlags
