/- CodeBack: the printed function answers true (PureCodeBack), so the law's row holds: for every input that can be read. No conditions. -/
import Derived.Test.YtgbhejkgnfkfgaaRows
import Derived.Test.YtgbhejkgnfkfgaaPCodeBackx9
import Derived.Test.YtgbhejkgnfkfgaaOpens
import Derived.Test.YtgbhejkgnfkfgaaPureCodeBack
import Derived.WalkKit
import Derived.ProofKit
import Derived.OpenShut
import Derived.ShutString
import Derived.ChangeOld
import Derived.Below
import Derived.SizedLaws
namespace Go.Proofs.Ytgbhejkgnfkfgaa.RowCodeBack
open Go.ChangeShapes Go.WideShapes Go.ChangeAt Go.RowKit Go.Proofs.Ytgbhejkgnfkfgaa.Opens Go.Proofs.YtgbhejkgnfkfgaaW.PrintWords Go.Proofs.Ytgbhejkgnfkfgaa.PCodeBack Go.Proofs.Ytgbhejkgnfkfgaa.PCodeRuns
open Go.ChangeMaps (open_string shut_string)
set_option linter.unusedVariables false
set_option linter.unusedSimpArgs false
theorem own : ownKnob Try.prog.godebug = none := by kernel_rfl
theorem laidOut : laidOutB Try.prog = true := by kernel_rfl
theorem op0 {H : Type} {enc : TypeId × Value → H} {w : World} : Opn Try.prog enc w 29 (Kd.pair (Kd.slice 24 k24) (Kd.pair (Kd.int .i64) (Kd.pair (Kd.slice 4 Kd.bool) (Kd.slice 45 (Kd.slice 3 (Kd.int .i64)))))) (fun v => (fun xs => xs.length * 24 ≤ 140737488351232 ∧ ∀ x ∈ xs, (fun b => (fun v => (fun s => s.size ≤ 140737488351232) v.1 ∧ (fun n => (Lit.int .u64 n).wf = true) v.2) ((fun x : S24 => (x.f0, x.f1)) b)) x) v.1 ∧ (fun v => (fun n => (Lit.int .i64 n).wf = true) v.1 ∧ (fun v => (fun xs => xs.length * 1 ≤ 140737488351232 ∧ ∀ x ∈ xs, (fun _ => True) x) v.1 ∧ (fun xs => xs.length * 24 ≤ 140737488351232 ∧ ∀ x ∈ xs, (fun xs => xs.length * 8 ≤ 140737488351232 ∧ ∀ x ∈ xs, (fun n => (Lit.int .i64 n).wf = true) x) x) v.2) v.2) v.2) := (op_struct Try.underlying29 (opl_cons (op_slice (B := 24) Try.underlying25 (by kernel_rfl) (by kernel_rfl) (op_iso (fun x : S24 => (x.f0, x.f1)) (fun a => ⟨a.1, a.2⟩) (fun _ => rfl) (op_struct Try.underlying24 (opl_cons (op_string Try.underlying9) rfl (by kernel_rfl) (opl_one (op_int Try.underlying22) rfl (by kernel_rfl))) (by kernel_rfl)))) rfl (by kernel_rfl) (opl_cons (op_int Try.underlying3) rfl (by kernel_rfl) (opl_cons (op_slice (B := 1) Try.underlying26 (by kernel_rfl) (by kernel_rfl) (op_bool Try.underlying4)) rfl (by kernel_rfl) (opl_one (op_slice (B := 24) Try.underlying27 (by kernel_rfl) (by kernel_rfl) (op_slice (B := 8) Try.underlying45 (by kernel_rfl) (by kernel_rfl) (op_int Try.underlying3))) rfl (by kernel_rfl))))) (by kernel_rfl))
theorem op1 {H : Type} {enc : TypeId × Value → H} {w : World} : Opn Try.prog enc w 29 (Kd.pair (Kd.slice 24 k24) (Kd.pair (Kd.int .i64) (Kd.pair (Kd.slice 4 Kd.bool) (Kd.slice 45 (Kd.slice 3 (Kd.int .i64)))))) (fun v => (fun xs => xs.length * 24 ≤ 140737488351232 ∧ ∀ x ∈ xs, (fun b => (fun v => (fun s => s.size ≤ 140737488351232) v.1 ∧ (fun n => (Lit.int .u64 n).wf = true) v.2) ((fun x : S24 => (x.f0, x.f1)) b)) x) v.1 ∧ (fun v => (fun n => (Lit.int .i64 n).wf = true) v.1 ∧ (fun v => (fun xs => xs.length * 1 ≤ 140737488351232 ∧ ∀ x ∈ xs, (fun _ => True) x) v.1 ∧ (fun xs => xs.length * 24 ≤ 140737488351232 ∧ ∀ x ∈ xs, (fun xs => xs.length * 8 ≤ 140737488351232 ∧ ∀ x ∈ xs, (fun n => (Lit.int .i64 n).wf = true) x) x) v.2) v.2) v.2) := (op_struct Try.underlying29 (opl_cons (op_slice (B := 24) Try.underlying25 (by kernel_rfl) (by kernel_rfl) (op_iso (fun x : S24 => (x.f0, x.f1)) (fun a => ⟨a.1, a.2⟩) (fun _ => rfl) (op_struct Try.underlying24 (opl_cons (op_string Try.underlying9) rfl (by kernel_rfl) (opl_one (op_int Try.underlying22) rfl (by kernel_rfl))) (by kernel_rfl)))) rfl (by kernel_rfl) (opl_cons (op_int Try.underlying3) rfl (by kernel_rfl) (opl_cons (op_slice (B := 1) Try.underlying26 (by kernel_rfl) (by kernel_rfl) (op_bool Try.underlying4)) rfl (by kernel_rfl) (opl_one (op_slice (B := 24) Try.underlying27 (by kernel_rfl) (by kernel_rfl) (op_slice (B := 8) Try.underlying45 (by kernel_rfl) (by kernel_rfl) (op_int Try.underlying3))) rfl (by kernel_rfl))))) (by kernel_rfl))
theorem op2 {H : Type} {enc : TypeId × Value → H} {w : World} : Opn Try.prog enc w 3 (Kd.int .i64) (fun n => (Lit.int .i64 n).wf = true) := (op_int Try.underlying3)
set_option maxHeartbeats 1000000 in
set_option maxRecDepth 100000 in
theorem lifted (os : Os) (started : os.Started) (H : Type) (enc : TypeId × Value → H) :
    ReturnsInHanded {} Try.checked os 4 .any (Rows.codeBackSpec.pre6 enc Try.prog Try.f4 Rows.codeBackRow.domain false) (Rows.codeBackSpec.post enc Try.prog Try.f4 false true false false) := by
  refine returnsInHanded_of_change_sized (C := Try.checked) own started (by kernel_rfl) Try.func4
    (ChangeSpec.witness6 (enc := enc) (C := Try.checked) false ⟨#[], #[.agg #[.slice none 0 0, .int .i64 0, .slice none 0 0, .slice none 0 0], .agg #[.slice none 0 0, .int .i64 0, .slice none 0 0, .slice none 0 0], .int .i64 0], []⟩ 8 (by kernel_rfl) (by kernel_rfl) (by kernel_rfl) (by kernel_rfl)) ?_
  intro W base args ds gs before hval0 hW hcnd hsz0 _
  have hsz : (DataW.weightsEach Try.prog (Try.f4.params.toList ++ Rows.codeBackSpec.plain.varTypes Try.prog) (ds ++ gs)).all (· ≤ reachBytes) = true := hsz0
  have hval : ∀ (j : Nat) t v, Try.f4.params[j]? = some t → args[j]? = some v → Value.okWide Try.prog W .any base t v := hval0
  have hW' := hW
  obtain ⟨p, q, hA0, hV, rfl, hfz, hnd⟩ := hW
  have hA : DataW.TrodAll enc Try.prog W 0 (fun _ => true) true Try.f4.params.toList args.toList ds p := hA0
  rw [Try.params4] at hA hval hsz
  obtain ⟨v0, vs0, d0, ds0, p0, q0, hargs, rfl, rfl, h0, r0⟩ := trodAll_cons hA
  obtain ⟨v1, vs1, d1, ds1, p1, q1, rfl, rfl, rfl, h1, r1⟩ := trodAll_cons r0
  obtain ⟨v2, vs2, d2, ds2, p2, q2, rfl, rfl, rfl, h2, r2⟩ := trodAll_cons r1
  obtain ⟨rfl, rfl, rfl⟩ := trodAll_nil r2
  obtain rfl : args = #[v0, v1, v2] := by cases args; simp_all
  obtain ⟨rfl, rfl⟩ := trodVars_none hV
  have kk0 := h0
  have lt0 : ∀ x ∈ p0, x.block < W.heap.size := by obtain ⟨m, hm⟩ := kk0; exact DataW.trod_lt m _ _ _ hm
  obtain ⟨x0, K0, g0⟩ := arg_open op0 h0 hsz (j := 0) rfl rfl
  obtain ⟨cs0, rfl, hs0⟩ := okWide_struct Try.underlying29 (hval 0 29 v0 rfl rfl)
  have K0' : ∃ l, cs0.toList = l ∧ Kd.K (Kd.pair (Kd.slice 24 k24) (Kd.pair (Kd.int .i64) (Kd.pair (Kd.slice 4 Kd.bool) (Kd.slice 45 (Kd.slice 3 (Kd.int .i64)))))) W x0 l := ⟨_, rfl, K0⟩
  obtain ⟨l0, e0, KK0⟩ := K0'
  obtain ⟨_, _, rfl, ⟨A0_0, c0_0, rfl, hc0_0, hr0_0⟩, ⟨_, _, rfl, rfl, ⟨_, _, rfl, ⟨A0_2, c0_2, rfl, hc0_2, hr0_2⟩, ⟨A0_3, c0_3, rfl, hc0_3, hr0_3⟩⟩⟩⟩ := KK0
  obtain rfl : cs0 = #[.slice A0_0 x0.1.length c0_0, .int .i64 x0.2.1, .slice A0_2 x0.2.2.1.length c0_2, .slice A0_3 x0.2.2.2.length c0_3] := by apply Array.ext'; simpa using e0
  have kk1 := h1
  have lt1 : ∀ x ∈ p1, x.block < W.heap.size := by obtain ⟨m, hm⟩ := kk1; exact DataW.trod_lt m _ _ _ hm
  obtain ⟨x1, K1, g1⟩ := arg_open op1 h1 hsz (j := 1) rfl rfl
  obtain ⟨cs1, rfl, hs1⟩ := okWide_struct Try.underlying29 (hval 1 29 v1 rfl rfl)
  have K1' : ∃ l, cs1.toList = l ∧ Kd.K (Kd.pair (Kd.slice 24 k24) (Kd.pair (Kd.int .i64) (Kd.pair (Kd.slice 4 Kd.bool) (Kd.slice 45 (Kd.slice 3 (Kd.int .i64)))))) W x1 l := ⟨_, rfl, K1⟩
  obtain ⟨l1, e1, KK1⟩ := K1'
  obtain ⟨_, _, rfl, ⟨A1_0, c1_0, rfl, hc1_0, hr1_0⟩, ⟨_, _, rfl, rfl, ⟨_, _, rfl, ⟨A1_2, c1_2, rfl, hc1_2, hr1_2⟩, ⟨A1_3, c1_3, rfl, hc1_3, hr1_3⟩⟩⟩⟩ := KK1
  obtain rfl : cs1 = #[.slice A1_0 x1.1.length c1_0, .int .i64 x1.2.1, .slice A1_2 x1.2.2.1.length c1_2, .slice A1_3 x1.2.2.2.length c1_3] := by apply Array.ext'; simpa using e1
  have kk2 := h2
  have lt2 : ∀ x ∈ p2, x.block < W.heap.size := by obtain ⟨m, hm⟩ := kk2; exact DataW.trod_lt m _ _ _ hm
  obtain ⟨x2, K2, g2⟩ := arg_open op2 h2 hsz (j := 2) rfl rfl
  obtain ⟨y2, rfl⟩ := okWide_int Try.underlying3 (hval 2 3 v2 rfl rfl)
  have e2 : [Value.int .i64 y2] = [Value.int .i64 x2] := K2
  obtain rfl : x2 = y2 := by have h_ := e2; simp at h_; exact h_.symm
  clear hA0 hval0 hsz0 hsz
  obtain ⟨k, hp⟩ := PureCodeBack.pure (x0.1) (x0.2.1) (x0.2.2.1) (x0.2.2.2) (x1.1) (x1.2.1) (x1.2.2.1) (x1.2.2.2) (x2) (⟨g0.1.1, fun x hx => ⟨(g0.1.2 x hx).1, (g0.1.2 x hx).2⟩⟩) g0.2.1 g0.2.2.1.1 (⟨g0.2.2.2.1, fun x hx => ⟨(g0.2.2.2.2 x hx).1, fun x' hx' => ((g0.2.2.2.2 x hx).2 x' hx')⟩⟩) (⟨g1.1.1, fun x hx => ⟨(g1.1.2 x hx).1, (g1.1.2 x hx).2⟩⟩) g1.2.1 g1.2.2.1.1 (⟨g1.2.2.2.1, fun x hx => ⟨(g1.2.2.2.2 x hx).1, fun x' hx' => ((g1.2.2.2.2 x hx).2 x' hx')⟩⟩) g2
  refine (porticolaw24_CodeBack.calls k _ _ (x0.1) (x0.2.1) _ _ (x0.2.2.1) _ _ (x0.2.2.2) _ _ (x1.1) (x1.2.1) _ _ (x1.2.2.1) _ _ (x1.2.2.2) (x2) true W hr0_0 hc0_0 hr0_2 hc0_2 hr0_3 hc0_3 hr1_0 hc1_0 hr1_2 hc1_2 hr1_3 hc1_3 hp).mono fun e W' hh => ?_
  obtain ⟨rfl, bel0⟩ := hh
  have bel : Below W.heap.size W W' := bel0
  exact ⟨_, rfl, _, _, _, [], _, [], hW', trodAll_mk1 (shut_bool Try.underlying4 _), (trodAll_cons_mk (Below.trod laidOut (by kernel_rfl) (of_decide_eq_true (by kernel_rfl)) kk0 bel lt0) (trodAll_cons_mk (Below.trod laidOut (by kernel_rfl) (of_decide_eq_true (by kernel_rfl)) kk1 bel lt1) (trodAll_cons_mk (Below.trod laidOut (by kernel_rfl) (of_decide_eq_true (by kernel_rfl)) kk2 bel lt2) trodAll_mk0))), rfl, bel.frame _, fun h => by cases h⟩
theorem over : Rows.codeBackRow.holds Try.pinned (OpenSpec.ofChange Rows.codeBackSpec) :=
  OpenClaim.holds_of_wide 4 Try.f4 rfl rfl rfl rfl rfl rfl rfl ⟨rfl, rfl, rfl, rfl, rfl⟩ rfl rfl rfl rfl rfl (by kernel_rfl) Try.func4 (by kernel_rfl)
    (of_decide_eq_true (by kernel_rfl)) (by unfold Func.isWrapper; first | (rw [if_pos (by decide +kernel)]; kernel_rfl) | (rw [if_neg (by decide +kernel)]; exact ⟨rfl, rfl⟩))
    (fun os started H enc _ => lifted os started H enc)
end Go.Proofs.Ytgbhejkgnfkfgaa.RowCodeBack
namespace Go.Proofs.Ytgbhejkgnfkfgaa
theorem codeBack_holds : Rows.CodeBackSaid := RowCodeBack.over
#print axioms codeBack_holds
end Go.Proofs.Ytgbhejkgnfkfgaa
