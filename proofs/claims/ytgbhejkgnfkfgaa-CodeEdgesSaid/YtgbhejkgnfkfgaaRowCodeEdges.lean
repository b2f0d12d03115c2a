/- CodeEdges: the printed function answers true (PureCodeEdges), so the law's row holds: for every input that can be read. No conditions. -/
import Derived.Test.YtgbhejkgnfkfgaaRows
import Derived.Test.YtgbhejkgnfkfgaaPCodeEdgesx9
import Derived.Test.YtgbhejkgnfkfgaaOpens
import Derived.Test.YtgbhejkgnfkfgaaPureCodeEdges
import Derived.WalkKit
import Derived.ProofKit
import Derived.OpenShut
import Derived.ShutString
import Derived.ChangeOld
import Derived.Below
import Derived.SizedLaws
namespace Go.Proofs.Ytgbhejkgnfkfgaa.RowCodeEdges
open Go.ChangeShapes Go.WideShapes Go.ChangeAt Go.RowKit Go.Proofs.Ytgbhejkgnfkfgaa.Opens Go.Proofs.YtgbhejkgnfkfgaaW.PrintWords Go.Proofs.Ytgbhejkgnfkfgaa.PCodeEdges
open Go.ChangeMaps (open_string shut_string)
set_option linter.unusedVariables false
set_option linter.unusedSimpArgs false
theorem own : ownKnob Try.prog.godebug = none := by kernel_rfl
theorem laidOut : laidOutB Try.prog = true := by kernel_rfl
theorem op0 {H : Type} {enc : TypeId × Value → H} {w : World} : Opn Try.prog enc w 3 (Kd.int .i64) (fun n => (Lit.int .i64 n).wf = true) := (op_int Try.underlying3)
theorem op1 {H : Type} {enc : TypeId × Value → H} {w : World} : Opn Try.prog enc w 3 (Kd.int .i64) (fun n => (Lit.int .i64 n).wf = true) := (op_int Try.underlying3)
set_option maxHeartbeats 1000000 in
set_option maxRecDepth 100000 in
theorem lifted (os : Os) (started : os.Started) (H : Type) (enc : TypeId × Value → H) :
    ReturnsInHanded {} Try.checked os 6 .any (Rows.codeEdgesSpec.pre6 enc Try.prog Try.f6 Rows.codeEdgesRow.domain false) (Rows.codeEdgesSpec.post enc Try.prog Try.f6 false true false false) := by
  refine returnsInHanded_of_change_sized (C := Try.checked) own started (by kernel_rfl) Try.func6
    (ChangeSpec.witness6 (enc := enc) (C := Try.checked) false ⟨#[], #[.int .i64 0, .int .i64 0], []⟩ 8 (by kernel_rfl) (by kernel_rfl) (by kernel_rfl) (by kernel_rfl)) ?_
  intro W base args ds gs before hval0 hW hcnd hsz0 _
  have hsz : (DataW.weightsEach Try.prog (Try.f6.params.toList ++ Rows.codeEdgesSpec.plain.varTypes Try.prog) (ds ++ gs)).all (· ≤ reachBytes) = true := hsz0
  have hval : ∀ (j : Nat) t v, Try.f6.params[j]? = some t → args[j]? = some v → Value.okWide Try.prog W .any base t v := hval0
  have hW' := hW
  obtain ⟨p, q, hA0, hV, rfl, hfz, hnd⟩ := hW
  have hA : DataW.TrodAll enc Try.prog W 0 (fun _ => true) true Try.f6.params.toList args.toList ds p := hA0
  rw [Try.params6] at hA hval hsz
  obtain ⟨v0, vs0, d0, ds0, p0, q0, hargs, rfl, rfl, h0, r0⟩ := trodAll_cons hA
  obtain ⟨v1, vs1, d1, ds1, p1, q1, rfl, rfl, rfl, h1, r1⟩ := trodAll_cons r0
  obtain ⟨rfl, rfl, rfl⟩ := trodAll_nil r1
  obtain rfl : args = #[v0, v1] := by cases args; simp_all
  obtain ⟨rfl, rfl⟩ := trodVars_none hV
  have kk0 := h0
  have lt0 : ∀ x ∈ p0, x.block < W.heap.size := by obtain ⟨m, hm⟩ := kk0; exact DataW.trod_lt m _ _ _ hm
  obtain ⟨x0, K0, g0⟩ := arg_open op0 h0 hsz (j := 0) rfl rfl
  obtain ⟨y0, rfl⟩ := okWide_int Try.underlying3 (hval 0 3 v0 rfl rfl)
  have e0 : [Value.int .i64 y0] = [Value.int .i64 x0] := K0
  obtain rfl : x0 = y0 := by have h_ := e0; simp at h_; exact h_.symm
  have kk1 := h1
  have lt1 : ∀ x ∈ p1, x.block < W.heap.size := by obtain ⟨m, hm⟩ := kk1; exact DataW.trod_lt m _ _ _ hm
  obtain ⟨x1, K1, g1⟩ := arg_open op1 h1 hsz (j := 1) rfl rfl
  obtain ⟨y1, rfl⟩ := okWide_int Try.underlying3 (hval 1 3 v1 rfl rfl)
  have e1 : [Value.int .i64 y1] = [Value.int .i64 x1] := K1
  obtain rfl : x1 = y1 := by have h_ := e1; simp at h_; exact h_.symm
  clear hA0 hval0 hsz0 hsz
  obtain ⟨k, hp⟩ := PureCodeEdges.pure (x0) (x1) g0 g1
  refine (porticolaw24_CodeEdges.calls k (x0) (x1) true W hp).mono fun e W' hh => ?_
  obtain ⟨rfl, bel0⟩ := hh
  have bel : Below W.heap.size W W' := bel0
  exact ⟨_, rfl, _, _, _, [], _, [], hW', trodAll_mk1 (shut_bool Try.underlying4 _), (trodAll_cons_mk (Below.trod laidOut (by kernel_rfl) (of_decide_eq_true (by kernel_rfl)) kk0 bel lt0) (trodAll_cons_mk (Below.trod laidOut (by kernel_rfl) (of_decide_eq_true (by kernel_rfl)) kk1 bel lt1) trodAll_mk0)), rfl, bel.frame _, fun h => by cases h⟩
theorem over : Rows.codeEdgesRow.holds Try.pinned (OpenSpec.ofChange Rows.codeEdgesSpec) :=
  OpenClaim.holds_of_wide 6 Try.f6 rfl rfl rfl rfl rfl rfl rfl ⟨rfl, rfl, rfl, rfl, rfl⟩ rfl rfl rfl rfl rfl (by kernel_rfl) Try.func6 (by kernel_rfl)
    (of_decide_eq_true (by kernel_rfl)) (by unfold Func.isWrapper; first | (rw [if_pos (by decide +kernel)]; kernel_rfl) | (rw [if_neg (by decide +kernel)]; exact ⟨rfl, rfl⟩))
    (fun os started H enc _ => lifted os started H enc)
end Go.Proofs.Ytgbhejkgnfkfgaa.RowCodeEdges
namespace Go.Proofs.Ytgbhejkgnfkfgaa
theorem codeEdges_holds : Rows.CodeEdgesSaid := RowCodeEdges.over
#print axioms codeEdges_holds
end Go.Proofs.Ytgbhejkgnfkfgaa
