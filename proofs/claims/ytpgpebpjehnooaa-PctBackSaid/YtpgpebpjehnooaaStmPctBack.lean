/- The pure statement of PctBack, over the printed functions. -/
import Derived.Test.YtpgpebpjehnooaaPPctBackx9
namespace Go.Proofs.Ytpgpebpjehnooaa.StmPctBack
open Go.RowKit Go.Proofs.Ytpgpebpjehnooaa.PPctBack Go.Proofs.YtpgpebpjehnooaaW.PrintWords
def Pure : Prop := ∀ (a0 : ByteArray) (a1 : ByteArray) (a2 : ByteArray), (a0.size ≤ 140737488351232) → (a1.size ≤ 140737488351232) → (a2.size ≤ 140737488351232) → ∃ k, porticolaw3_PctBack.f k a0 a1 a2 = some true
end Go.Proofs.Ytpgpebpjehnooaa.StmPctBack
