/- PctRuns, the plain law: chapter 3's runs. No conditions. -/
import Derived.Test.YtpgpebpjehnooaaPPctRunsx1
import Derived.Test.YtpgpebpjehnooaaPctLaw
namespace Go.Proofs.Ytpgpebpjehnooaa.Pure
open Go.RowKit Go.Proofs.Ytpgpebpjehnooaa.Given Go.Proofs.Ytpgpebpjehnooaa.Pct Go.Proofs.Ytpgpebpjehnooaa.PPctRuns Go.Proofs.YtpgpebpjehnooaaW.PrintWords Go.Proofs.YtpgpebpjehnooaaW.PrintLast

theorem dec_of (s : ByteArray) (hs : s.size ≤ 100) (d : Option (List UInt8)) (h : decF (s.size + 1) s.data.toList = d) : pct_Decode.f s = some (decS d, d.isSome) := by
  unfold pct_Decode.f
  rw [if_pos (by omega), decL_decF (s.size + 1) _ (by simp), h]
theorem PctRuns : porticolaw3_PctRuns.Pure := by
  unfold porticolaw3_PctRuns.Pure porticolaw3_PctRuns.f
  rw [dec_of ⟨#[37, 50, 102]⟩ (by decide) (some [47]) (by decide +kernel), dec_of ⟨#[37, 52]⟩ (by decide) none (by decide +kernel), dec_of ⟨#[97, 32, 98]⟩ (by decide) none (by decide +kernel), dec_of ⟨#[37, 52, 49]⟩ (by decide) (some [65]) (by decide +kernel)]
  have he : pct_Encode.f ⟨#[97, 32, 98, 47]⟩ = some ⟨#[97, 37, 50, 48, 98, 37, 50, 70]⟩ := by decide +kernel
  rw [he]
  decide +kernel

end Go.Proofs.Ytpgpebpjehnooaa.Pure
