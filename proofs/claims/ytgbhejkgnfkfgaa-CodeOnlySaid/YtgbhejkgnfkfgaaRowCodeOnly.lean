/- CodeOnly: the printed function answers true (PureCodeOnly), so the law's row holds: for every input that can be read. No conditions. -/
import Derived.Test.YtgbhejkgnfkfgaaRows
import Derived.Test.YtgbhejkgnfkfgaaPCodeOnlyx9
import Derived.Test.YtgbhejkgnfkfgaaOpens
import Derived.Test.YtgbhejkgnfkfgaaPureCodeOnly
import Derived.WalkKit
import Derived.ProofKit
import Derived.OpenShut
import Derived.ShutString
import Derived.ChangeOld
import Derived.Below
import Derived.SizedLaws
namespace Go.Proofs.Ytgbhejkgnfkfgaa.RowCodeOnly
open Go.ChangeShapes Go.WideShapes Go.ChangeAt Go.RowKit Go.Proofs.Ytgbhejkgnfkfgaa.Opens Go.Proofs.YtgbhejkgnfkfgaaW.PrintWords Go.Proofs.Ytgbhejkgnfkfgaa.PCodeOnly Go.Proofs.Ytgbhejkgnfkfgaa.PCodeRuns
open Go.ChangeMaps (open_string shut_string)
set_option linter.unusedVariables false
set_option linter.unusedSimpArgs false
theorem own : ownKnob Try.prog.godebug = none := by kernel_rfl
theorem laidOut : laidOutB Try.prog = true := by kernel_rfl
theorem op0 {H : Type} {enc : TypeId × Value → H} {w : World} : Opn Try.prog enc w 29 (Kd.pair (Kd.slice 24 k24) (Kd.pair (Kd.int .i64) (Kd.pair (Kd.slice 4 Kd.bool) (Kd.slice 45 (Kd.slice 3 (Kd.int .i64)))))) (fun v => (fun xs => xs.length * 24 ≤ 140737488351232 ∧ ∀ x ∈ xs, (fun b => (fun v => (fun s => s.size ≤ 140737488351232) v.1 ∧ (fun n => (Lit.int .u64 n).wf = true) v.2) ((fun x : S24 => (x.f0, x.f1)) b)) x) v.1 ∧ (fun v => (fun n => (Lit.int .i64 n).wf = true) v.1 ∧ (fun v => (fun xs => xs.length * 1 ≤ 140737488351232 ∧ ∀ x ∈ xs, (fun _ => True) x) v.1 ∧ (fun xs => xs.length * 24 ≤ 140737488351232 ∧ ∀ x ∈ xs, (fun xs => xs.length * 8 ≤ 140737488351232 ∧ ∀ x ∈ xs, (fun n => (Lit.int .i64 n).wf = true) x) x) v.2) v.2) v.2) := (op_struct Try.underlying29 (opl_cons (op_slice (B := 24) Try.underlying25 (by kernel_rfl) (by kernel_rfl) (op_iso (fun x : S24 => (x.f0, x.f1)) (fun a => ⟨a.1, a.2⟩) (fun _ => rfl) (op_struct Try.underlying24 (opl_cons (op_string Try.underlying9) rfl (by kernel_rfl) (opl_one (op_int Try.underlying22) rfl (by kernel_rfl))) (by kernel_rfl)))) rfl (by kernel_rfl) (opl_cons (op_int Try.underlying3) rfl (by kernel_rfl) (opl_cons (op_slice (B := 1) Try.underlying26 (by kernel_rfl) (by kernel_rfl) (op_bool Try.underlying4)) rfl (by kernel_rfl) (opl_one (op_slice (B := 24) Try.underlying27 (by kernel_rfl) (by kernel_rfl) (op_slice (B := 8) Try.underlying45 (by kernel_rfl) (by kernel_rfl) (op_int Try.underlying3))) rfl (by kernel_rfl))))) (by kernel_rfl))
theorem op1 {H : Type} {enc : TypeId × Value → H} {w : World} : Opn Try.prog enc w 30 (Kd.slice 5 (Kd.int .u8)) (fun xs => xs.length * 1 ≤ 140737488351232 ∧ ∀ x ∈ xs, (fun n => (Lit.int .u8 n).wf = true) x) := (op_slice (B := 1) Try.underlying30 (by kernel_rfl) (by kernel_rfl) (op_int Try.underlying5))
theorem op2 {H : Type} {enc : TypeId × Value → H} {w : World} : Opn Try.prog enc w 3 (Kd.int .i64) (fun n => (Lit.int .i64 n).wf = true) := (op_int Try.underlying3)
theorem op3 {H : Type} {enc : TypeId × Value → H} {w : World} : Opn Try.prog enc w 5 (Kd.int .u8) (fun n => (Lit.int .u8 n).wf = true) := (op_int Try.underlying5)
theorem op4 {H : Type} {enc : TypeId × Value → H} {w : World} : Opn Try.prog enc w 3 (Kd.int .i64) (fun n => (Lit.int .i64 n).wf = true) := (op_int Try.underlying3)
set_option maxHeartbeats 1000000 in
set_option maxRecDepth 100000 in
theorem lifted (os : Os) (started : os.Started) (H : Type) (enc : TypeId × Value → H) :
    ReturnsInHanded {} Try.checked os 5 .any (Rows.codeOnlySpec.pre6 enc Try.prog Try.f5 Rows.codeOnlyRow.domain false) (Rows.codeOnlySpec.post enc Try.prog Try.f5 false true false false) := by
  refine returnsInHanded_of_change_sized (C := Try.checked) own started (by kernel_rfl) Try.func5
    (ChangeSpec.witness6 (enc := enc) (C := Try.checked) false ⟨#[], #[.agg #[.slice none 0 0, .int .i64 0, .slice none 0 0, .slice none 0 0], .slice none 0 0, .int .i64 0, .int .u8 0, .int .i64 0], []⟩ 8 (by kernel_rfl) (by kernel_rfl) (by kernel_rfl) (by kernel_rfl)) ?_
  intro W base args ds gs before hval0 hW hcnd hsz0 _
  have hsz : (DataW.weightsEach Try.prog (Try.f5.params.toList ++ Rows.codeOnlySpec.plain.varTypes Try.prog) (ds ++ gs)).all (· ≤ reachBytes) = true := hsz0
  have hval : ∀ (j : Nat) t v, Try.f5.params[j]? = some t → args[j]? = some v → Value.okWide Try.prog W .any base t v := hval0
  have hW' := hW
  obtain ⟨p, q, hA0, hV, rfl, hfz, hnd⟩ := hW
  have hA : DataW.TrodAll enc Try.prog W 0 (fun _ => true) true Try.f5.params.toList args.toList ds p := hA0
  rw [Try.params5] at hA hval hsz
  obtain ⟨v0, vs0, d0, ds0, p0, q0, hargs, rfl, rfl, h0, r0⟩ := trodAll_cons hA
  obtain ⟨v1, vs1, d1, ds1, p1, q1, rfl, rfl, rfl, h1, r1⟩ := trodAll_cons r0
  obtain ⟨v2, vs2, d2, ds2, p2, q2, rfl, rfl, rfl, h2, r2⟩ := trodAll_cons r1
  obtain ⟨v3, vs3, d3, ds3, p3, q3, rfl, rfl, rfl, h3, r3⟩ := trodAll_cons r2
  obtain ⟨v4, vs4, d4, ds4, p4, q4, rfl, rfl, rfl, h4, r4⟩ := trodAll_cons r3
  obtain ⟨rfl, rfl, rfl⟩ := trodAll_nil r4
  obtain rfl : args = #[v0, v1, v2, v3, v4] := by cases args; simp_all
  obtain ⟨rfl, rfl⟩ := trodVars_none hV
  have kk0 := h0
  have lt0 : ∀ x ∈ p0, x.block < W.heap.size := by obtain ⟨m, hm⟩ := kk0; exact DataW.trod_lt m _ _ _ hm
  obtain ⟨x0, K0, g0⟩ := arg_open op0 h0 hsz (j := 0) rfl rfl
  obtain ⟨cs0, rfl, hs0⟩ := okWide_struct Try.underlying29 (hval 0 29 v0 rfl rfl)
  have K0' : ∃ l, cs0.toList = l ∧ Kd.K (Kd.pair (Kd.slice 24 k24) (Kd.pair (Kd.int .i64) (Kd.pair (Kd.slice 4 Kd.bool) (Kd.slice 45 (Kd.slice 3 (Kd.int .i64)))))) W x0 l := ⟨_, rfl, K0⟩
  obtain ⟨l0, e0, KK0⟩ := K0'
  obtain ⟨_, _, rfl, ⟨A0_0, c0_0, rfl, hc0_0, hr0_0⟩, ⟨_, _, rfl, rfl, ⟨_, _, rfl, ⟨A0_2, c0_2, rfl, hc0_2, hr0_2⟩, ⟨A0_3, c0_3, rfl, hc0_3, hr0_3⟩⟩⟩⟩ := KK0
  obtain rfl : cs0 = #[.slice A0_0 x0.1.length c0_0, .int .i64 x0.2.1, .slice A0_2 x0.2.2.1.length c0_2, .slice A0_3 x0.2.2.2.length c0_3] := by apply Array.ext'; simpa using e0
  have kk1 := h1
  have lt1 : ∀ x ∈ p1, x.block < W.heap.size := by obtain ⟨m, hm⟩ := kk1; exact DataW.trod_lt m _ _ _ hm
  obtain ⟨x1, K1, g1⟩ := arg_open op1 h1 hsz (j := 1) rfl rfl
  obtain ⟨aa1, len1, cap1, rfl⟩ := okWide_slice Try.underlying30 (hval 1 30 v1 rfl rfl)
  obtain ⟨A1, c1, e1, hc1, hr1⟩ := K1
  simp [Value.cells] at e1
  obtain ⟨rfl, rfl, rfl⟩ := e1
  have kk2 := h2
  have lt2 : ∀ x ∈ p2, x.block < W.heap.size := by obtain ⟨m, hm⟩ := kk2; exact DataW.trod_lt m _ _ _ hm
  obtain ⟨x2, K2, g2⟩ := arg_open op2 h2 hsz (j := 2) rfl rfl
  obtain ⟨y2, rfl⟩ := okWide_int Try.underlying3 (hval 2 3 v2 rfl rfl)
  have e2 : [Value.int .i64 y2] = [Value.int .i64 x2] := K2
  obtain rfl : x2 = y2 := by have h_ := e2; simp at h_; exact h_.symm
  have kk3 := h3
  have lt3 : ∀ x ∈ p3, x.block < W.heap.size := by obtain ⟨m, hm⟩ := kk3; exact DataW.trod_lt m _ _ _ hm
  obtain ⟨x3, K3, g3⟩ := arg_open op3 h3 hsz (j := 3) rfl rfl
  obtain ⟨y3, rfl⟩ := okWide_int Try.underlying5 (hval 3 5 v3 rfl rfl)
  have e3 : [Value.int .u8 y3] = [Value.int .u8 x3] := K3
  obtain rfl : x3 = y3 := by have h_ := e3; simp at h_; exact h_.symm
  have kk4 := h4
  have lt4 : ∀ x ∈ p4, x.block < W.heap.size := by obtain ⟨m, hm⟩ := kk4; exact DataW.trod_lt m _ _ _ hm
  obtain ⟨x4, K4, g4⟩ := arg_open op4 h4 hsz (j := 4) rfl rfl
  obtain ⟨y4, rfl⟩ := okWide_int Try.underlying3 (hval 4 3 v4 rfl rfl)
  have e4 : [Value.int .i64 y4] = [Value.int .i64 x4] := K4
  obtain rfl : x4 = y4 := by have h_ := e4; simp at h_; exact h_.symm
  clear hA0 hval0 hsz0 hsz
  obtain ⟨k, hp⟩ := PureCodeOnly.pure (x0.1) (x0.2.1) (x0.2.2.1) (x0.2.2.2) (x1) (x2) (x3) (x4) (⟨g0.1.1, fun x hx => ⟨(g0.1.2 x hx).1, (g0.1.2 x hx).2⟩⟩) g0.2.1 g0.2.2.1.1 (⟨g0.2.2.2.1, fun x hx => ⟨(g0.2.2.2.2 x hx).1, fun x' hx' => ((g0.2.2.2.2 x hx).2 x' hx')⟩⟩) (⟨g1.1, fun x hx => (g1.2 x hx)⟩) g2 g3 g4
  refine (porticolaw24_CodeOnly.calls k _ _ (x0.1) (x0.2.1) _ _ (x0.2.2.1) _ _ (x0.2.2.2) _ _ (x1) (x2) (x3) (x4) true W hr0_0 hc0_0 hr0_2 hc0_2 hr0_3 hc0_3 hr1 hc1 hp).mono fun e W' hh => ?_
  obtain ⟨rfl, bel0⟩ := hh
  have bel : Below W.heap.size W W' := bel0
  exact ⟨_, rfl, _, _, _, [], _, [], hW', trodAll_mk1 (shut_bool Try.underlying4 _), (trodAll_cons_mk (Below.trod laidOut (by kernel_rfl) (of_decide_eq_true (by kernel_rfl)) kk0 bel lt0) (trodAll_cons_mk (Below.trod laidOut (by kernel_rfl) (of_decide_eq_true (by kernel_rfl)) kk1 bel lt1) (trodAll_cons_mk (Below.trod laidOut (by kernel_rfl) (of_decide_eq_true (by kernel_rfl)) kk2 bel lt2) (trodAll_cons_mk (Below.trod laidOut (by kernel_rfl) (of_decide_eq_true (by kernel_rfl)) kk3 bel lt3) (trodAll_cons_mk (Below.trod laidOut (by kernel_rfl) (of_decide_eq_true (by kernel_rfl)) kk4 bel lt4) trodAll_mk0))))), rfl, bel.frame _, fun h => by cases h⟩
theorem over : Rows.codeOnlyRow.holds Try.pinned (OpenSpec.ofChange Rows.codeOnlySpec) :=
  OpenClaim.holds_of_wide 5 Try.f5 rfl rfl rfl rfl rfl rfl rfl ⟨rfl, rfl, rfl, rfl, rfl⟩ rfl rfl rfl rfl rfl (by kernel_rfl) Try.func5 (by kernel_rfl)
    (of_decide_eq_true (by kernel_rfl)) (by unfold Func.isWrapper; first | (rw [if_pos (by decide +kernel)]; kernel_rfl) | (rw [if_neg (by decide +kernel)]; exact ⟨rfl, rfl⟩))
    (fun os started H enc _ => lifted os started H enc)
end Go.Proofs.Ytgbhejkgnfkfgaa.RowCodeOnly
namespace Go.Proofs.Ytgbhejkgnfkfgaa
theorem codeOnly_holds : Rows.CodeOnlySaid := RowCodeOnly.over
#print axioms codeOnly_holds
end Go.Proofs.Ytgbhejkgnfkfgaa
