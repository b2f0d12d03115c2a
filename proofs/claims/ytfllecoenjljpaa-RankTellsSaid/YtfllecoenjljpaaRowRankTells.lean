/- RankTells: the printed function answers true (PureRankTells), so the law's row holds: for every input that can be read. No conditions. -/
import Derived.Test.YtfllecoenjljpaaRows
import Derived.Test.YtfllecoenjljpaaPRankTellsx9
import Derived.Test.YtfllecoenjljpaaOpens
import Derived.Test.YtfllecoenjljpaaPureRankTells
import Derived.WalkKit
import Derived.ProofKit
import Derived.OpenShut
import Derived.ShutString
import Derived.ChangeOld
import Derived.Below
import Derived.SizedLaws
namespace Go.Proofs.Ytfllecoenjljpaa.RowRankTells
open Go.ChangeShapes Go.WideShapes Go.ChangeAt Go.RowKit Go.Proofs.Ytfllecoenjljpaa.Opens Go.Proofs.YtfllecoenjljpaaW.PrintWords Go.Proofs.Ytfllecoenjljpaa.PRankTells
open Go.ChangeMaps (open_string shut_string)
set_option linter.unusedVariables false
set_option linter.unusedSimpArgs false
theorem own : ownKnob Try.prog.godebug = none := by kernel_rfl
theorem laidOut : laidOutB Try.prog = true := by kernel_rfl
theorem op0 {H : Type} {enc : TypeId × Value → H} {w : World} : Opn Try.prog enc w 36 (Kd.slice 31 k31) (fun xs => xs.length * 56 ≤ 140737488351232 ∧ ∀ x ∈ xs, (fun b => (fun v => (fun xs => xs.length * 8 ≤ 140737488351232 ∧ ∀ x ∈ xs, (fun n => (Lit.int .i64 n).wf = true) x) v.1 ∧ (fun v => (fun xs => xs.length * 8 ≤ 140737488351232 ∧ ∀ x ∈ xs, (fun n => (Lit.int .i64 n).wf = true) x) v.1 ∧ (fun n => (Lit.int .i64 n).wf = true) v.2) v.2) ((fun x : S31 => (x.f0, x.f1, x.f2)) b)) x) := (op_slice (B := 56) Try.underlying36 (by kernel_rfl) (by kernel_rfl) (op_iso (fun x : S31 => (x.f0, x.f1, x.f2)) (fun a => ⟨a.1, a.2.1, a.2.2⟩) (fun _ => rfl) (op_struct Try.underlying31 (opl_cons (op_slice (B := 8) Try.underlying29 (by kernel_rfl) (by kernel_rfl) (op_int Try.underlying3)) rfl (by kernel_rfl) (opl_cons (op_slice (B := 8) Try.underlying29 (by kernel_rfl) (by kernel_rfl) (op_int Try.underlying3)) rfl (by kernel_rfl) (opl_one (op_int Try.underlying3) rfl (by kernel_rfl)))) (by kernel_rfl))))
theorem op1 {H : Type} {enc : TypeId × Value → H} {w : World} : Opn Try.prog enc w 37 (Kd.slice 26 (Kd.slice 23 k23)) (fun xs => xs.length * 24 ≤ 140737488351232 ∧ ∀ x ∈ xs, (fun xs => xs.length * 24 ≤ 140737488351232 ∧ ∀ x ∈ xs, (fun b => (fun v => (fun n => (Lit.int .i64 n).wf = true) v.1 ∧ (fun s => s.size ≤ 140737488351232) v.2) ((fun x : S23 => (x.f0, x.f1)) b)) x) x) := (op_slice (B := 24) Try.underlying37 (by kernel_rfl) (by kernel_rfl) (op_slice (B := 24) Try.underlying26 (by kernel_rfl) (by kernel_rfl) (op_iso (fun x : S23 => (x.f0, x.f1)) (fun a => ⟨a.1, a.2⟩) (fun _ => rfl) (op_struct Try.underlying23 (opl_cons (op_int Try.underlying3) rfl (by kernel_rfl) (opl_one (op_string Try.underlying9) rfl (by kernel_rfl))) (by kernel_rfl)))))
set_option maxHeartbeats 1000000 in
set_option maxRecDepth 100000 in
theorem lifted (os : Os) (started : os.Started) (H : Type) (enc : TypeId × Value → H) :
    ReturnsInHanded {} Try.checked os 5 .any (Rows.rankTellsSpec.pre6 enc Try.prog Try.f5 Rows.rankTellsRow.domain false) (Rows.rankTellsSpec.post enc Try.prog Try.f5 false true false false) := by
  refine returnsInHanded_of_change_sized (C := Try.checked) own started (by kernel_rfl) Try.func5
    (ChangeSpec.witness6 (enc := enc) (C := Try.checked) false ⟨#[], #[.slice none 0 0, .slice none 0 0], []⟩ 8 (by kernel_rfl) (by kernel_rfl) (by kernel_rfl) (by kernel_rfl)) ?_
  intro W base args ds gs before hval0 hW hcnd hsz0 _
  have hsz : (DataW.weightsEach Try.prog (Try.f5.params.toList ++ Rows.rankTellsSpec.plain.varTypes Try.prog) (ds ++ gs)).all (· ≤ reachBytes) = true := hsz0
  have hval : ∀ (j : Nat) t v, Try.f5.params[j]? = some t → args[j]? = some v → Value.okWide Try.prog W .any base t v := hval0
  have hW' := hW
  obtain ⟨p, q, hA0, hV, rfl, hfz, hnd⟩ := hW
  have hA : DataW.TrodAll enc Try.prog W 0 (fun _ => true) true Try.f5.params.toList args.toList ds p := hA0
  rw [Try.params5] at hA hval hsz
  obtain ⟨v0, vs0, d0, ds0, p0, q0, hargs, rfl, rfl, h0, r0⟩ := trodAll_cons hA
  obtain ⟨v1, vs1, d1, ds1, p1, q1, rfl, rfl, rfl, h1, r1⟩ := trodAll_cons r0
  obtain ⟨rfl, rfl, rfl⟩ := trodAll_nil r1
  obtain rfl : args = #[v0, v1] := by cases args; simp_all
  obtain ⟨rfl, rfl⟩ := trodVars_none hV
  have kk0 := h0
  have lt0 : ∀ x ∈ p0, x.block < W.heap.size := by obtain ⟨m, hm⟩ := kk0; exact DataW.trod_lt m _ _ _ hm
  obtain ⟨x0, K0, g0⟩ := arg_open op0 h0 hsz (j := 0) rfl rfl
  obtain ⟨aa0, len0, cap0, rfl⟩ := okWide_slice Try.underlying36 (hval 0 36 v0 rfl rfl)
  obtain ⟨A0, c0, e0, hc0, hr0⟩ := K0
  simp [Value.cells] at e0
  obtain ⟨rfl, rfl, rfl⟩ := e0
  have kk1 := h1
  have lt1 : ∀ x ∈ p1, x.block < W.heap.size := by obtain ⟨m, hm⟩ := kk1; exact DataW.trod_lt m _ _ _ hm
  obtain ⟨x1, K1, g1⟩ := arg_open op1 h1 hsz (j := 1) rfl rfl
  obtain ⟨aa1, len1, cap1, rfl⟩ := okWide_slice Try.underlying37 (hval 1 37 v1 rfl rfl)
  obtain ⟨A1, c1, e1, hc1, hr1⟩ := K1
  simp [Value.cells] at e1
  obtain ⟨rfl, rfl, rfl⟩ := e1
  clear hA0 hval0 hsz0 hsz
  obtain ⟨k, hp⟩ := PureRankTells.pure (x0) (x1) (⟨g0.1, fun x hx => ⟨⟨(g0.2 x hx).1.1, fun x' hx' => ((g0.2 x hx).1.2 x' hx')⟩, ⟨(g0.2 x hx).2.1.1, fun x' hx' => ((g0.2 x hx).2.1.2 x' hx')⟩, (g0.2 x hx).2.2⟩⟩) (⟨g1.1, fun x hx => ⟨(g1.2 x hx).1, fun x' hx' => ⟨((g1.2 x hx).2 x' hx').1, ((g1.2 x hx).2 x' hx').2⟩⟩⟩)
  refine (porticolaw6_RankTells.calls k _ _ (x0) _ _ (x1) true W hr0 hc0 hr1 hc1 hp).mono fun e W' hh => ?_
  obtain ⟨rfl, bel0⟩ := hh
  have bel : Below W.heap.size W W' := bel0
  exact ⟨_, rfl, _, _, _, [], _, [], hW', trodAll_mk1 (shut_bool Try.underlying4 _), (trodAll_cons_mk (Below.trod laidOut (by kernel_rfl) (of_decide_eq_true (by kernel_rfl)) kk0 bel lt0) (trodAll_cons_mk (Below.trod laidOut (by kernel_rfl) (of_decide_eq_true (by kernel_rfl)) kk1 bel lt1) trodAll_mk0)), rfl, bel.frame _, fun h => by cases h⟩
theorem over : Rows.rankTellsRow.holds Try.pinned (OpenSpec.ofChange Rows.rankTellsSpec) :=
  OpenClaim.holds_of_wide 5 Try.f5 rfl rfl rfl rfl rfl rfl rfl ⟨rfl, rfl, rfl, rfl, rfl⟩ rfl rfl rfl rfl rfl (by kernel_rfl) Try.func5 (by kernel_rfl)
    (of_decide_eq_true (by kernel_rfl)) (by unfold Func.isWrapper; first | (rw [if_pos (by decide +kernel)]; kernel_rfl) | (rw [if_neg (by decide +kernel)]; exact ⟨rfl, rfl⟩))
    (fun os started H enc _ => lifted os started H enc)
end Go.Proofs.Ytfllecoenjljpaa.RowRankTells
namespace Go.Proofs.Ytfllecoenjljpaa
theorem rankTells_holds : Rows.RankTellsSaid := RowRankTells.over
#print axioms rankTells_holds
end Go.Proofs.Ytfllecoenjljpaa
