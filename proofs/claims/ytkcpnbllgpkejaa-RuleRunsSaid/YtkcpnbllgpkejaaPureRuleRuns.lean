/- RuleRuns: the closed sentence of chapter 9 holds: the printed function answers true. No conditions. -/
import Derived.Test.YtkcpnbllgpkejaaPRuleRunsx1
namespace Go.Proofs.Ytkcpnbllgpkejaa.Pure
open Go.RowKit Go.Proofs.Ytkcpnbllgpkejaa.PRuleRuns Go.Proofs.YtkcpnbllgpkejaaW.PrintWords Go.Proofs.YtkcpnbllgpkejaaW.PrintLast

theorem RuleRuns : porticolaw9_RuleRuns.Pure := ⟨3, by decide +kernel⟩

end Go.Proofs.Ytkcpnbllgpkejaa.Pure
