/- PctBack: the printed function answers true (PurePctBack), so the law's row holds: for every input that can be read. No conditions. -/
import Derived.Test.YtpgpebpjehnooaaRows
import Derived.Test.YtpgpebpjehnooaaPPctBackx9
import Derived.Test.YtpgpebpjehnooaaOpens
import Derived.Test.YtpgpebpjehnooaaPurePctBack
import Derived.WalkKit
import Derived.ProofKit
import Derived.OpenShut
import Derived.ShutString
import Derived.ChangeOld
import Derived.Below
import Derived.SizedLaws
namespace Go.Proofs.Ytpgpebpjehnooaa.RowPctBack
open Go.ChangeShapes Go.WideShapes Go.ChangeAt Go.RowKit Go.Proofs.Ytpgpebpjehnooaa.Opens Go.Proofs.YtpgpebpjehnooaaW.PrintWords Go.Proofs.Ytpgpebpjehnooaa.PPctBack
open Go.ChangeMaps (open_string shut_string)
set_option linter.unusedVariables false
set_option linter.unusedSimpArgs false
theorem own : ownKnob Try.prog.godebug = none := by kernel_rfl
theorem laidOut : laidOutB Try.prog = true := by kernel_rfl
theorem op0 {H : Type} {enc : TypeId × Value → H} {w : World} : Opn Try.prog enc w 9 Kd.string (fun s => s.size ≤ 140737488351232) := (op_string Try.underlying9)
theorem op1 {H : Type} {enc : TypeId × Value → H} {w : World} : Opn Try.prog enc w 9 Kd.string (fun s => s.size ≤ 140737488351232) := (op_string Try.underlying9)
theorem op2 {H : Type} {enc : TypeId × Value → H} {w : World} : Opn Try.prog enc w 9 Kd.string (fun s => s.size ≤ 140737488351232) := (op_string Try.underlying9)
set_option maxHeartbeats 1000000 in
set_option maxRecDepth 100000 in
theorem lifted (os : Os) (started : os.Started) (H : Type) (enc : TypeId × Value → H) :
    ReturnsInHanded {} Try.checked os 5 .any (Rows.pctBackSpec.pre6 enc Try.prog Try.f5 Rows.pctBackRow.domain false) (Rows.pctBackSpec.post enc Try.prog Try.f5 false true false false) := by
  refine returnsInHanded_of_change_sized (C := Try.checked) own started (by kernel_rfl) Try.func5
    (ChangeSpec.witness6 (enc := enc) (C := Try.checked) false ⟨#[], #[.string ⟨#[]⟩, .string ⟨#[]⟩, .string ⟨#[]⟩], []⟩ 8 (by kernel_rfl) (by kernel_rfl) (by kernel_rfl) (by kernel_rfl)) ?_
  intro W base args ds gs before hval0 hW hcnd hsz0 _
  have hsz : (DataW.weightsEach Try.prog (Try.f5.params.toList ++ Rows.pctBackSpec.plain.varTypes Try.prog) (ds ++ gs)).all (· ≤ reachBytes) = true := hsz0
  have hval : ∀ (j : Nat) t v, Try.f5.params[j]? = some t → args[j]? = some v → Value.okWide Try.prog W .any base t v := hval0
  have hW' := hW
  obtain ⟨p, q, hA0, hV, rfl, hfz, hnd⟩ := hW
  have hA : DataW.TrodAll enc Try.prog W 0 (fun _ => true) true Try.f5.params.toList args.toList ds p := hA0
  rw [Try.params5] at hA hval hsz
  obtain ⟨v0, vs0, d0, ds0, p0, q0, hargs, rfl, rfl, h0, r0⟩ := trodAll_cons hA
  obtain ⟨v1, vs1, d1, ds1, p1, q1, rfl, rfl, rfl, h1, r1⟩ := trodAll_cons r0
  obtain ⟨v2, vs2, d2, ds2, p2, q2, rfl, rfl, rfl, h2, r2⟩ := trodAll_cons r1
  obtain ⟨rfl, rfl, rfl⟩ := trodAll_nil r2
  obtain rfl : args = #[v0, v1, v2] := by cases args; simp_all
  obtain ⟨rfl, rfl⟩ := trodVars_none hV
  have kk0 := h0
  have lt0 : ∀ x ∈ p0, x.block < W.heap.size := by obtain ⟨m, hm⟩ := kk0; exact DataW.trod_lt m _ _ _ hm
  obtain ⟨x0, K0, g0⟩ := arg_open op0 h0 hsz (j := 0) rfl rfl
  obtain ⟨y0, rfl⟩ := okWide_string Try.underlying9 (hval 0 9 v0 rfl rfl)
  have e0 : [Value.string y0] = [Value.string x0] := K0
  obtain rfl : x0 = y0 := by have h_ := e0; simp at h_; exact h_.symm
  have kk1 := h1
  have lt1 : ∀ x ∈ p1, x.block < W.heap.size := by obtain ⟨m, hm⟩ := kk1; exact DataW.trod_lt m _ _ _ hm
  obtain ⟨x1, K1, g1⟩ := arg_open op1 h1 hsz (j := 1) rfl rfl
  obtain ⟨y1, rfl⟩ := okWide_string Try.underlying9 (hval 1 9 v1 rfl rfl)
  have e1 : [Value.string y1] = [Value.string x1] := K1
  obtain rfl : x1 = y1 := by have h_ := e1; simp at h_; exact h_.symm
  have kk2 := h2
  have lt2 : ∀ x ∈ p2, x.block < W.heap.size := by obtain ⟨m, hm⟩ := kk2; exact DataW.trod_lt m _ _ _ hm
  obtain ⟨x2, K2, g2⟩ := arg_open op2 h2 hsz (j := 2) rfl rfl
  obtain ⟨y2, rfl⟩ := okWide_string Try.underlying9 (hval 2 9 v2 rfl rfl)
  have e2 : [Value.string y2] = [Value.string x2] := K2
  obtain rfl : x2 = y2 := by have h_ := e2; simp at h_; exact h_.symm
  clear hA0 hval0 hsz0 hsz
  obtain ⟨k, hp⟩ := PurePctBack.pure (x0) (x1) (x2) g0 g1 g2
  refine (porticolaw3_PctBack.calls k (x0) (x1) (x2) true W hp).mono fun e W' hh => ?_
  obtain ⟨rfl, bel0⟩ := hh
  have bel : Below W.heap.size W W' := bel0
  exact ⟨_, rfl, _, _, _, [], _, [], hW', trodAll_mk1 (shut_bool Try.underlying4 _), (trodAll_cons_mk (Below.trod laidOut (by kernel_rfl) (of_decide_eq_true (by kernel_rfl)) kk0 bel lt0) (trodAll_cons_mk (Below.trod laidOut (by kernel_rfl) (of_decide_eq_true (by kernel_rfl)) kk1 bel lt1) (trodAll_cons_mk (Below.trod laidOut (by kernel_rfl) (of_decide_eq_true (by kernel_rfl)) kk2 bel lt2) trodAll_mk0))), rfl, bel.frame _, fun h => by cases h⟩
theorem over : Rows.pctBackRow.holds Try.pinned (OpenSpec.ofChange Rows.pctBackSpec) :=
  OpenClaim.holds_of_wide 5 Try.f5 rfl rfl rfl rfl rfl rfl rfl ⟨rfl, rfl, rfl, rfl, rfl⟩ rfl rfl rfl rfl rfl (by kernel_rfl) Try.func5 (by kernel_rfl)
    (of_decide_eq_true (by kernel_rfl)) (by unfold Func.isWrapper; first | (rw [if_pos (by decide +kernel)]; kernel_rfl) | (rw [if_neg (by decide +kernel)]; exact ⟨rfl, rfl⟩))
    (fun os started H enc _ => lifted os started H enc)
end Go.Proofs.Ytpgpebpjehnooaa.RowPctBack
namespace Go.Proofs.Ytpgpebpjehnooaa
theorem pctBack_holds : Rows.PctBackSaid := RowPctBack.over
#print axioms pctBack_holds
end Go.Proofs.Ytpgpebpjehnooaa
