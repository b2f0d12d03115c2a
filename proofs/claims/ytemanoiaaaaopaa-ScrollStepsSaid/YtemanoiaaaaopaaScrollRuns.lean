/- ScrollRuns: the walk. -/
import Derived.Test.YtemanoiaaaaopaaScroll
set_option linter.unusedVariables false
set_option linter.unusedSimpArgs false
namespace Go.Proofs.Ytemanoiaaaaopaa.Fl
open Go.RowKit
set_option maxHeartbeats 4000000 in
theorem ScrollRuns_any (w : World) : Calls Try.prog 3 #[] w fun en w' => en = .returned (.bool true) ∧ ∃ n, w' = w.drewN n := by
  have b0 := bitsRun 4697254411347427328
  have b1 := bitsRun 13830554455654793216
  have b2 := bitsRun 9221120237041090561
  have b3 := bitsRun 9218868437227405312
  have b4 := bitsRun 4617315517961601024
  have b5 := bitsRun 13844628204490326016
  have b6 := bitsRun 4613937818241073152
  have b7 := bitsRun 4622945017495814144
  have b8 := bitsRun 4598175219545276416
  have b9 := bitsRun 4607182418800017408
  have b10 := bitsRun 4611686018427387904
  go_enter Try.func3, Try.ntmps3
  go_wp2_with fail
  refine (Clean_lit0 _).mono ?_
  rintro e w' ⟨rfl, rfl⟩
  go_wp2_with fail
  refine (NaN_any _).mono ?_
  rintro e w' ⟨rfl, rfl⟩
  go_wp2_with fail
  refine (Clean_lit1 _).mono ?_
  rintro e w' ⟨rfl, rfl⟩
  go_wp2_with fail
  refine (Clean_lit2 _).mono ?_
  rintro e w' ⟨rfl, rfl⟩
  go_wp2_with fail
  refine (Inf_any _).mono ?_
  rintro e w' ⟨rfl, rfl⟩
  go_wp2_with fail
  refine (Clean_lit3 _).mono ?_
  rintro e w' ⟨rfl, rfl⟩
  go_wp2_with fail
  refine (Add_low _).mono ?_
  rintro e w' ⟨rfl, rfl⟩
  go_wp2_with fail
  refine (NaN_any _).mono ?_
  rintro e w' ⟨rfl, rfl⟩
  go_wp2_with fail
  refine (Add_nan5 _).mono ?_
  rintro e w' ⟨rfl, rfl⟩
  go_wp2_with fail
  refine (Part_some _).mono ?_
  rintro e w' ⟨rfl, rfl⟩
  go_wp2_with fail
  refine (Part_none _).mono ?_
  rintro e w' ⟨rfl, rfl⟩
  go_wp2_with fail
  refine (Compare_12 _).mono ?_
  rintro e w' ⟨rfl, n, rfl⟩
  go_wp2_with fail
  go_ret
  exact ⟨rfl, n, rfl⟩
end Go.Proofs.Ytemanoiaaaaopaa.Fl
