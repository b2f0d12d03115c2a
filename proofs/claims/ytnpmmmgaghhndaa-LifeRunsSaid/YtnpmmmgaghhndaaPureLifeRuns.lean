/- LifeRuns: the plain law. -/
import Derived.Test.YtnpmmmgaghhndaaPLifeRunsx1
set_option linter.unusedSimpArgs false
namespace Go.Proofs.Ytnpmmmgaghhndaa.Pure
open Go.RowKit Go.Proofs.Ytnpmmmgaghhndaa.PLifeRuns Go.Proofs.YtnpmmmgaghhndaaW.PrintWords Go.Proofs.YtnpmmmgaghhndaaW.PrintLast Go.Proofs.Ytnpmmmgaghhndaa.Given Go.Proofs.Ytnpmmmgaghhndaa.Lf

abbrev lr : List S23 := [⟨1, 1⟩, ⟨3, 1⟩, ⟨1, 2⟩, ⟨2, 1⟩]
theorem right1 : life_Right.f lr = some true := by
  unfold life_Right.f
  rw [if_pos (by decide)]
  kernel_rfl
theorem right2 : life_Right.f [⟨2, 1⟩] = some false := by
  unfold life_Right.f
  rw [if_pos (by decide)]
  kernel_rfl
theorem alive1 : life_Alive.f lr = some [1, 2] := by
  unfold life_Alive.f
  rw [if_pos (by decide)]
  congr 1
  refine alive_eq ⟨by decide, fun n => ?_⟩
  show n ∈ [1, 2] ↔ updI (updI (updI (updI (fun _ => none) 1 1) 1 2) 2 1) 1 1 n = some 1
  unfold updI
  by_cases h1 : n = 1
  · simp [h1]
  · by_cases h2 : n = 2
    · simp [h2]
    · simp [h1, h2]
theorem LifeRuns : porticolaw19_LifeRuns.Pure := by
  refine ⟨30, ?_⟩
  unfold porticolaw19_LifeRuns.f
  simp only [Option.bind_some]
  rw [right1, alive1, right2]
  simp only [Option.bind_some, if_true]
  kernel_rfl
end Go.Proofs.Ytnpmmmgaghhndaa.Pure
