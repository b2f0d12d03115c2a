/- RankSorted: the printed function answers true (PureRankSorted), so the law's row holds: for every input that can be read. No conditions. -/
import Derived.Test.YtfllecoenjljpaaRows
import Derived.Test.YtfllecoenjljpaaPRankSortedx6
import Derived.Test.YtfllecoenjljpaaOpens
import Derived.Test.YtfllecoenjljpaaPureRankSorted
import Derived.WalkKit
import Derived.ProofKit
import Derived.OpenShut
import Derived.ShutString
import Derived.ChangeOld
import Derived.Below
import Derived.SizedLaws
namespace Go.Proofs.Ytfllecoenjljpaa.RowRankSorted
open Go.ChangeShapes Go.WideShapes Go.ChangeAt Go.RowKit Go.Proofs.Ytfllecoenjljpaa.Opens Go.Proofs.YtfllecoenjljpaaW.PrintWords Go.Proofs.Ytfllecoenjljpaa.PRankSorted
open Go.ChangeMaps (open_string shut_string)
set_option linter.unusedVariables false
set_option linter.unusedSimpArgs false
theorem own : ownKnob Try.prog.godebug = none := by kernel_rfl
theorem laidOut : laidOutB Try.prog = true := by kernel_rfl
theorem op0 {H : Type} {enc : TypeId × Value → H} {w : World} : Opn Try.prog enc w 36 (Kd.slice 31 k31) (fun xs => xs.length * 56 ≤ 140737488351232 ∧ ∀ x ∈ xs, (fun b => (fun v => (fun xs => xs.length * 8 ≤ 140737488351232 ∧ ∀ x ∈ xs, (fun n => (Lit.int .i64 n).wf = true) x) v.1 ∧ (fun v => (fun xs => xs.length * 8 ≤ 140737488351232 ∧ ∀ x ∈ xs, (fun n => (Lit.int .i64 n).wf = true) x) v.1 ∧ (fun n => (Lit.int .i64 n).wf = true) v.2) v.2) ((fun x : S31 => (x.f0, x.f1, x.f2)) b)) x) := (op_slice (B := 56) Try.underlying36 (by kernel_rfl) (by kernel_rfl) (op_iso (fun x : S31 => (x.f0, x.f1, x.f2)) (fun a => ⟨a.1, a.2.1, a.2.2⟩) (fun _ => rfl) (op_struct Try.underlying31 (opl_cons (op_slice (B := 8) Try.underlying29 (by kernel_rfl) (by kernel_rfl) (op_int Try.underlying3)) rfl (by kernel_rfl) (opl_cons (op_slice (B := 8) Try.underlying29 (by kernel_rfl) (by kernel_rfl) (op_int Try.underlying3)) rfl (by kernel_rfl) (opl_one (op_int Try.underlying3) rfl (by kernel_rfl)))) (by kernel_rfl))))
theorem op1 {H : Type} {enc : TypeId × Value → H} {w : World} : Opn Try.prog enc w 3 (Kd.int .i64) (fun n => (Lit.int .i64 n).wf = true) := (op_int Try.underlying3)
theorem op2 {H : Type} {enc : TypeId × Value → H} {w : World} : Opn Try.prog enc w 31 (Kd.pair (Kd.slice 3 (Kd.int .i64)) (Kd.pair (Kd.slice 3 (Kd.int .i64)) (Kd.int .i64))) (fun v => (fun xs => xs.length * 8 ≤ 140737488351232 ∧ ∀ x ∈ xs, (fun n => (Lit.int .i64 n).wf = true) x) v.1 ∧ (fun v => (fun xs => xs.length * 8 ≤ 140737488351232 ∧ ∀ x ∈ xs, (fun n => (Lit.int .i64 n).wf = true) x) v.1 ∧ (fun n => (Lit.int .i64 n).wf = true) v.2) v.2) := (op_struct Try.underlying31 (opl_cons (op_slice (B := 8) Try.underlying29 (by kernel_rfl) (by kernel_rfl) (op_int Try.underlying3)) rfl (by kernel_rfl) (opl_cons (op_slice (B := 8) Try.underlying29 (by kernel_rfl) (by kernel_rfl) (op_int Try.underlying3)) rfl (by kernel_rfl) (opl_one (op_int Try.underlying3) rfl (by kernel_rfl)))) (by kernel_rfl))
set_option maxHeartbeats 1000000 in
set_option maxRecDepth 100000 in
theorem lifted (os : Os) (started : os.Started) (H : Type) (enc : TypeId × Value → H) :
    ReturnsInHanded {} Try.checked os 6 .any (Rows.rankSortedSpec.pre6 enc Try.prog Try.f6 Rows.rankSortedRow.domain false) (Rows.rankSortedSpec.post enc Try.prog Try.f6 false true false false) := by
  refine returnsInHanded_of_change_sized (C := Try.checked) own started (by kernel_rfl) Try.func6
    (ChangeSpec.witness6 (enc := enc) (C := Try.checked) false ⟨#[], #[.slice none 0 0, .int .i64 0, .agg #[.slice none 0 0, .slice none 0 0, .int .i64 0]], []⟩ 8 (by kernel_rfl) (by kernel_rfl) (by kernel_rfl) (by kernel_rfl)) ?_
  intro W base args ds gs before hval0 hW hcnd hsz0 _
  have hsz : (DataW.weightsEach Try.prog (Try.f6.params.toList ++ Rows.rankSortedSpec.plain.varTypes Try.prog) (ds ++ gs)).all (· ≤ reachBytes) = true := hsz0
  have hval : ∀ (j : Nat) t v, Try.f6.params[j]? = some t → args[j]? = some v → Value.okWide Try.prog W .any base t v := hval0
  have hW' := hW
  obtain ⟨p, q, hA0, hV, rfl, hfz, hnd⟩ := hW
  have hA : DataW.TrodAll enc Try.prog W 0 (fun _ => true) true Try.f6.params.toList args.toList ds p := hA0
  rw [Try.params6] at hA hval hsz
  obtain ⟨v0, vs0, d0, ds0, p0, q0, hargs, rfl, rfl, h0, r0⟩ := trodAll_cons hA
  obtain ⟨v1, vs1, d1, ds1, p1, q1, rfl, rfl, rfl, h1, r1⟩ := trodAll_cons r0
  obtain ⟨v2, vs2, d2, ds2, p2, q2, rfl, rfl, rfl, h2, r2⟩ := trodAll_cons r1
  obtain ⟨rfl, rfl, rfl⟩ := trodAll_nil r2
  obtain rfl : args = #[v0, v1, v2] := by cases args; simp_all
  obtain ⟨rfl, rfl⟩ := trodVars_none hV
  have kk0 := h0
  have lt0 : ∀ x ∈ p0, x.block < W.heap.size := by obtain ⟨m, hm⟩ := kk0; exact DataW.trod_lt m _ _ _ hm
  obtain ⟨x0, K0, g0⟩ := arg_open op0 h0 hsz (j := 0) rfl rfl
  obtain ⟨aa0, len0, cap0, rfl⟩ := okWide_slice Try.underlying36 (hval 0 36 v0 rfl rfl)
  obtain ⟨A0, c0, e0, hc0, hr0⟩ := K0
  simp [Value.cells] at e0
  obtain ⟨rfl, rfl, rfl⟩ := e0
  have kk1 := h1
  have lt1 : ∀ x ∈ p1, x.block < W.heap.size := by obtain ⟨m, hm⟩ := kk1; exact DataW.trod_lt m _ _ _ hm
  obtain ⟨x1, K1, g1⟩ := arg_open op1 h1 hsz (j := 1) rfl rfl
  obtain ⟨y1, rfl⟩ := okWide_int Try.underlying3 (hval 1 3 v1 rfl rfl)
  have e1 : [Value.int .i64 y1] = [Value.int .i64 x1] := K1
  obtain rfl : x1 = y1 := by have h_ := e1; simp at h_; exact h_.symm
  have kk2 := h2
  have lt2 : ∀ x ∈ p2, x.block < W.heap.size := by obtain ⟨m, hm⟩ := kk2; exact DataW.trod_lt m _ _ _ hm
  obtain ⟨x2, K2, g2⟩ := arg_open op2 h2 hsz (j := 2) rfl rfl
  obtain ⟨cs2, rfl, hs2⟩ := okWide_struct Try.underlying31 (hval 2 31 v2 rfl rfl)
  have K2' : ∃ l, cs2.toList = l ∧ Kd.K (Kd.pair (Kd.slice 3 (Kd.int .i64)) (Kd.pair (Kd.slice 3 (Kd.int .i64)) (Kd.int .i64))) W x2 l := ⟨_, rfl, K2⟩
  obtain ⟨l2, e2, KK2⟩ := K2'
  obtain ⟨_, _, rfl, ⟨A2_0, c2_0, rfl, hc2_0, hr2_0⟩, ⟨_, _, rfl, ⟨A2_1, c2_1, rfl, hc2_1, hr2_1⟩, rfl⟩⟩ := KK2
  obtain rfl : cs2 = #[.slice A2_0 x2.1.length c2_0, .slice A2_1 x2.2.1.length c2_1, .int .i64 x2.2.2] := by apply Array.ext'; simpa using e2
  clear hA0 hval0 hsz0 hsz
  obtain ⟨k, hp⟩ := PureRankSorted.pure (x0) (x1) (x2.1) (x2.2.1) (x2.2.2) (⟨g0.1, fun x hx => ⟨⟨(g0.2 x hx).1.1, fun x' hx' => ((g0.2 x hx).1.2 x' hx')⟩, ⟨(g0.2 x hx).2.1.1, fun x' hx' => ((g0.2 x hx).2.1.2 x' hx')⟩, (g0.2 x hx).2.2⟩⟩) g1 (⟨g2.1.1, fun x hx => (g2.1.2 x hx)⟩) (⟨g2.2.1.1, fun x hx => (g2.2.1.2 x hx)⟩) g2.2.2
  refine (porticolaw6_RankSorted.calls k _ _ (x0) (x1) _ _ (x2.1) _ _ (x2.2.1) (x2.2.2) true W hr0 hc0 hr2_0 hc2_0 hr2_1 hc2_1 hp).mono fun e W' hh => ?_
  obtain ⟨rfl, bel0⟩ := hh
  have bel : Below W.heap.size W W' := bel0
  exact ⟨_, rfl, _, _, _, [], _, [], hW', trodAll_mk1 (shut_bool Try.underlying4 _), (trodAll_cons_mk (Below.trod laidOut (by kernel_rfl) (of_decide_eq_true (by kernel_rfl)) kk0 bel lt0) (trodAll_cons_mk (Below.trod laidOut (by kernel_rfl) (of_decide_eq_true (by kernel_rfl)) kk1 bel lt1) (trodAll_cons_mk (Below.trod laidOut (by kernel_rfl) (of_decide_eq_true (by kernel_rfl)) kk2 bel lt2) trodAll_mk0))), rfl, bel.frame _, fun h => by cases h⟩
theorem over : Rows.rankSortedRow.holds Try.pinned (OpenSpec.ofChange Rows.rankSortedSpec) :=
  OpenClaim.holds_of_wide 6 Try.f6 rfl rfl rfl rfl rfl rfl rfl ⟨rfl, rfl, rfl, rfl, rfl⟩ rfl rfl rfl rfl rfl (by kernel_rfl) Try.func6 (by kernel_rfl)
    (of_decide_eq_true (by kernel_rfl)) (by unfold Func.isWrapper; first | (rw [if_pos (by decide +kernel)]; kernel_rfl) | (rw [if_neg (by decide +kernel)]; exact ⟨rfl, rfl⟩))
    (fun os started H enc _ => lifted os started H enc)
end Go.Proofs.Ytfllecoenjljpaa.RowRankSorted
namespace Go.Proofs.Ytfllecoenjljpaa
theorem rankSorted_holds : Rows.RankSortedSaid := RowRankSorted.over
#print axioms rankSorted_holds
end Go.Proofs.Ytfllecoenjljpaa
