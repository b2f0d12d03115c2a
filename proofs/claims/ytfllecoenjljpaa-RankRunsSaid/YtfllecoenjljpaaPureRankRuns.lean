/- RankRuns, the plain law. -/
import Derived.Test.YtfllecoenjljpaaPRankRunsx2
namespace Go.Proofs.Ytfllecoenjljpaa.Pure
open Go.RowKit Go.Proofs.Ytfllecoenjljpaa.Given Go.Proofs.Ytfllecoenjljpaa.PRankRuns Go.Proofs.YtfllecoenjljpaaW.PrintWords Go.Proofs.YtfllecoenjljpaaW.PrintLast
theorem RankRuns : porticolaw6_RankRuns.Pure := ⟨12, by decide +kernel⟩
end Go.Proofs.Ytfllecoenjljpaa.Pure
