/- URLParts: the printed function answers true (PureURLParts), so the law's row holds: for every input that can be read. No conditions. -/
import Derived.Test.YtcaaggfobdfgpaaDoorRows
import Derived.Test.YtcaaggfobdfgpaaDoorPURLPartsx9
import Derived.Test.YtcaaggfobdfgpaaDoorOpens
import Derived.Test.YtcaaggfobdfgpaaDoorPureURLParts
import Derived.WalkKit
import Derived.ProofKit
import Derived.OpenShut
import Derived.ShutString
import Derived.ChangeOld
import Derived.Below
import Derived.SizedLaws
import Derived.Test.YtcaaggfobdfgpaaDoorCards
import Derived.Test.YtcaaggfobdfgpaaDoorTie
import Derived.Deep.DeepHandedRow
import Derived.Lib.LaidTab
namespace Go.Proofs.YtcaaggfobdfgpaaDoor.RowURLParts
open Go.ChangeShapes Go.WideShapes Go.ChangeAt Go.RowKit Go.Proofs.YtcaaggfobdfgpaaDoor.Opens Go.Proofs.YtcaaggfobdfgpaaDoorW.PrintWords Go.Proofs.YtcaaggfobdfgpaaDoor.PURLParts
open Go.ChangeMaps (open_string shut_string)
set_option linter.unusedVariables false
set_option linter.unusedSimpArgs false
theorem own : ownKnob Tryd.prog.godebug = none := by kernel_rfl
theorem laidOut : laidOutB Tryd.prog = true := by kernel_rfl
theorem op0 {H : Type} {enc : TypeId × Value → H} {w : World} : Opn Tryd.prog enc w 41 (Kd.pair (Kd.slice 3 (Kd.int .i64)) (Kd.pair (Kd.slice 3 (Kd.int .i64)) (Kd.slice 3 (Kd.int .i64)))) (fun v => (fun xs => xs.length * 8 ≤ 140737488351232 ∧ ∀ x ∈ xs, (fun n => (Lit.int .i64 n).wf = true) x) v.1 ∧ (fun v => (fun xs => xs.length * 8 ≤ 140737488351232 ∧ ∀ x ∈ xs, (fun n => (Lit.int .i64 n).wf = true) x) v.1 ∧ (fun xs => xs.length * 8 ≤ 140737488351232 ∧ ∀ x ∈ xs, (fun n => (Lit.int .i64 n).wf = true) x) v.2) v.2) := (op_struct Tryd.underlying41 (opl_cons (op_slice (B := 8) Tryd.underlying39 (by kernel_rfl) (by kernel_rfl) (op_int Tryd.underlying3)) rfl (by kernel_rfl) (opl_cons (op_slice (B := 8) Tryd.underlying39 (by kernel_rfl) (by kernel_rfl) (op_int Tryd.underlying3)) rfl (by kernel_rfl) (opl_one (op_slice (B := 8) Tryd.underlying39 (by kernel_rfl) (by kernel_rfl) (op_int Tryd.underlying3)) rfl (by kernel_rfl)))) (by kernel_rfl))
theorem op1 {H : Type} {enc : TypeId × Value → H} {w : World} : Opn Tryd.prog enc w 41 (Kd.pair (Kd.slice 3 (Kd.int .i64)) (Kd.pair (Kd.slice 3 (Kd.int .i64)) (Kd.slice 3 (Kd.int .i64)))) (fun v => (fun xs => xs.length * 8 ≤ 140737488351232 ∧ ∀ x ∈ xs, (fun n => (Lit.int .i64 n).wf = true) x) v.1 ∧ (fun v => (fun xs => xs.length * 8 ≤ 140737488351232 ∧ ∀ x ∈ xs, (fun n => (Lit.int .i64 n).wf = true) x) v.1 ∧ (fun xs => xs.length * 8 ≤ 140737488351232 ∧ ∀ x ∈ xs, (fun n => (Lit.int .i64 n).wf = true) x) v.2) v.2) := (op_struct Tryd.underlying41 (opl_cons (op_slice (B := 8) Tryd.underlying39 (by kernel_rfl) (by kernel_rfl) (op_int Tryd.underlying3)) rfl (by kernel_rfl) (opl_cons (op_slice (B := 8) Tryd.underlying39 (by kernel_rfl) (by kernel_rfl) (op_int Tryd.underlying3)) rfl (by kernel_rfl) (opl_one (op_slice (B := 8) Tryd.underlying39 (by kernel_rfl) (by kernel_rfl) (op_int Tryd.underlying3)) rfl (by kernel_rfl)))) (by kernel_rfl))
theorem op2 {H : Type} {enc : TypeId × Value → H} {w : World} : Opn Tryd.prog enc w 3 (Kd.int .i64) (fun n => (Lit.int .i64 n).wf = true) := (op_int Tryd.underlying3)
def laidLit : DataW Unit → Value
  | .lit (.int k n) => .int k n
  | .lit (.bool b) => .bool b
  | _ => .bool false
def laidRow : DataW Unit → List Value
  | .agg ps => ps.map laidLit
  | d => [laidLit d]
def laidCells : DataW Unit → Array Value
  | .agg ps => (ps.flatMap laidRow).toArray
  | d => #[laidLit d]
theorem laidAt0 : Tryd.prog.globalNamed "unicode/utf8.acceptRanges" = some 2 := by kernel_rfl
theorem laidAt1 : Tryd.prog.globalNamed "unicode/utf8.first" = some 1 := by kernel_rfl
/-- A world for the witness: the settled one, the tables holding what their initialisers lay. -/
noncomputable def laidWorld (os : Os) : World :=
  { World.holding Tryd.prog os ⟨#[], #[], []⟩ with heap := (((World.holding Tryd.prog os ⟨#[], #[], []⟩).heap.modify 2 fun
      | .cells _ t frozen => .cells (laidCells Rows.laid_unicode_utf8_acceptRanges) t frozen
      | o => o).modify 1 fun
      | .cells _ t frozen => .cells (laidCells Rows.laid_unicode_utf8_first) t frozen
      | o => o) }
set_option maxRecDepth 100000 in
theorem laid_met (os : Os) : laidMet Tryd.prog Rows.uRLPartsRow.laid ((laidWorld os).forCall (fun _ _ => 0) ⟨#[], #[.agg #[.slice none 0 0, .slice none 0 0, .slice none 0 0], .agg #[.slice none 0 0, .slice none 0 0, .slice none 0 0], .int .i64 0], []⟩).memory :=
  laidMet_of_run' 8 (by kernel_rfl) (by kernel_rfl)
set_option maxHeartbeats 1000000 in
set_option maxRecDepth 100000 in
theorem lifted (os : Os) (started : os.Started) (H : Type) (enc : TypeId × Value → H) (F : Stop.Interp) :
    ReturnsInHanded {} Tryd.checked os 6 .any ((OpenSpec.ofChange Rows.uRLPartsSpec).preRow enc Tryd.prog Tryd.f6 Rows.uRLPartsRow.domain false Rows.uRLPartsRow.laid) (((OpenSpec.ofChange Rows.uRLPartsSpec).at F).post enc Tryd.prog Tryd.f6 false true false false) := by
  refine returnsInHanded_of_row (C := Tryd.checked) (s := OpenSpec.ofChange Rows.uRLPartsSpec) own started (by kernel_rfl) Tryd.func6
    (witness_row_at (enc := enc) (C := Tryd.checked) false (laidWorld os) #[.agg #[.slice none 0 0, .slice none 0 0, .slice none 0 0], .agg #[.slice none 0 0, .slice none 0 0, .slice none 0 0], .int .i64 0] rfl (by kernel_rfl) (by kernel_rfl) (by kernel_rfl)
      (OpenSpec.preRow_of_B rfl 8 (by kernel_rfl) (by kernel_rfl) (laid_met os))) ?_
  intro W base args ds gs before hval0 hW _ _ hsz0 hL _ _
  have hsz : (DataW.weightsEach Tryd.prog (Tryd.f6.params.toList ++ Rows.uRLPartsSpec.plain.varTypes Tryd.prog) (ds ++ gs)).all (· ≤ reachBytes) = true := hsz0
  have hval : ∀ (j : Nat) t v, Tryd.f6.params[j]? = some t → args[j]? = some v → Value.okWide Tryd.prog W .any base t v := hval0
  have hW' := hW
  obtain ⟨p, q, hA0, hV, rfl, hfz, hnd⟩ := hW
  have hA : DataW.TrodAll enc Tryd.prog W 0 (fun _ => true) true Tryd.f6.params.toList args.toList ds p := hA0
  rw [Tryd.params6] at hA hval hsz
  obtain ⟨v0, vs0, d0, ds0, p0, q0, hargs, rfl, rfl, h0, r0⟩ := trodAll_cons hA
  obtain ⟨v1, vs1, d1, ds1, p1, q1, rfl, rfl, rfl, h1, r1⟩ := trodAll_cons r0
  obtain ⟨v2, vs2, d2, ds2, p2, q2, rfl, rfl, rfl, h2, r2⟩ := trodAll_cons r1
  obtain ⟨rfl, rfl, rfl⟩ := trodAll_nil r2
  obtain rfl : args = #[v0, v1, v2] := by cases args; simp_all
  obtain ⟨rfl, rfl⟩ := trodVars_none hV
  have kk0 := h0
  have lt0 : ∀ x ∈ p0, x.block < W.heap.size := by obtain ⟨m, hm⟩ := kk0; exact DataW.trod_lt m _ _ _ hm
  obtain ⟨x0, K0, g0⟩ := arg_open op0 h0 hsz (j := 0) rfl rfl
  obtain ⟨cs0, rfl, hs0⟩ := okWide_struct Tryd.underlying41 (hval 0 41 v0 rfl rfl)
  have K0' : ∃ l, cs0.toList = l ∧ Kd.K (Kd.pair (Kd.slice 3 (Kd.int .i64)) (Kd.pair (Kd.slice 3 (Kd.int .i64)) (Kd.slice 3 (Kd.int .i64)))) W x0 l := ⟨_, rfl, K0⟩
  obtain ⟨l0, e0, KK0⟩ := K0'
  obtain ⟨_, _, rfl, ⟨A0_0, c0_0, rfl, hc0_0, hr0_0⟩, ⟨_, _, rfl, ⟨A0_1, c0_1, rfl, hc0_1, hr0_1⟩, ⟨A0_2, c0_2, rfl, hc0_2, hr0_2⟩⟩⟩ := KK0
  obtain rfl : cs0 = #[.slice A0_0 x0.1.length c0_0, .slice A0_1 x0.2.1.length c0_1, .slice A0_2 x0.2.2.length c0_2] := by apply Array.ext'; simpa using e0
  have kk1 := h1
  have lt1 : ∀ x ∈ p1, x.block < W.heap.size := by obtain ⟨m, hm⟩ := kk1; exact DataW.trod_lt m _ _ _ hm
  obtain ⟨x1, K1, g1⟩ := arg_open op1 h1 hsz (j := 1) rfl rfl
  obtain ⟨cs1, rfl, hs1⟩ := okWide_struct Tryd.underlying41 (hval 1 41 v1 rfl rfl)
  have K1' : ∃ l, cs1.toList = l ∧ Kd.K (Kd.pair (Kd.slice 3 (Kd.int .i64)) (Kd.pair (Kd.slice 3 (Kd.int .i64)) (Kd.slice 3 (Kd.int .i64)))) W x1 l := ⟨_, rfl, K1⟩
  obtain ⟨l1, e1, KK1⟩ := K1'
  obtain ⟨_, _, rfl, ⟨A1_0, c1_0, rfl, hc1_0, hr1_0⟩, ⟨_, _, rfl, ⟨A1_1, c1_1, rfl, hc1_1, hr1_1⟩, ⟨A1_2, c1_2, rfl, hc1_2, hr1_2⟩⟩⟩ := KK1
  obtain rfl : cs1 = #[.slice A1_0 x1.1.length c1_0, .slice A1_1 x1.2.1.length c1_1, .slice A1_2 x1.2.2.length c1_2] := by apply Array.ext'; simpa using e1
  have kk2 := h2
  have lt2 : ∀ x ∈ p2, x.block < W.heap.size := by obtain ⟨m, hm⟩ := kk2; exact DataW.trod_lt m _ _ _ hm
  obtain ⟨x2, K2, g2⟩ := arg_open op2 h2 hsz (j := 2) rfl rfl
  obtain ⟨y2, rfl⟩ := okWide_int Tryd.underlying3 (hval 2 3 v2 rfl rfl)
  have e2 : [Value.int .i64 y2] = [Value.int .i64 x2] := K2
  obtain rfl : x2 = y2 := by have h_ := e2; simp at h_; exact h_.symm
  clear hA0 hval0 hsz0 hsz
  obtain ⟨k, hp⟩ := PureURLParts.pure (x0.1) (x0.2.1) (x0.2.2) (x1.1) (x1.2.1) (x1.2.2) (x2) (⟨g0.1.1, fun x hx => (g0.1.2 x hx)⟩) (⟨g0.2.1.1, fun x hx => (g0.2.1.2 x hx)⟩) (⟨g0.2.2.1, fun x hx => (g0.2.2.2 x hx)⟩) (⟨g1.1.1, fun x hx => (g1.1.2 x hx)⟩) (⟨g1.2.1.1, fun x hx => (g1.2.1.2 x hx)⟩) (⟨g1.2.2.1, fun x hx => (g1.2.2.2 x hx)⟩) g2
  refine (porticolaw4_URLParts.calls k _ _ (x0.1) _ _ (x0.2.1) _ _ (x0.2.2) _ _ (x1.1) _ _ (x1.2.1) _ _ (x1.2.2) (x2) true W hr0_0 hc0_0 hr0_1 hc0_1 hr0_2 hc0_2 hr1_0 hc1_0 hr1_1 hc1_1 hr1_2 hc1_2 hp).mono fun e W' hh => ?_
  obtain ⟨rfl, bel0⟩ := hh
  have bel : Below W.heap.size W W' := bel0
  exact ⟨_, rfl, _, _, _, [], _, [], hW', trodAll_mk1 (shut_bool Tryd.underlying4 _), (trodAll_cons_mk (Below.trod laidOut (by kernel_rfl) (of_decide_eq_true (by kernel_rfl)) kk0 bel lt0) (trodAll_cons_mk (Below.trod laidOut (by kernel_rfl) (of_decide_eq_true (by kernel_rfl)) kk1 bel lt1) (trodAll_cons_mk (Below.trod laidOut (by kernel_rfl) (of_decide_eq_true (by kernel_rfl)) kk2 bel lt2) trodAll_mk0))), rfl, bel.frame _, fun h => by cases h⟩
theorem said : Rows.URLPartsSaid :=
  OpenClaim.holds_of_cond 6 Tryd.f6 rfl rfl rfl rfl rfl rfl rfl ⟨rfl, rfl, rfl, rfl, rfl⟩ rfl rfl rfl rfl rfl (by kernel_rfl) Tryd.func6 (by kernel_rfl)
    (of_decide_eq_true (by kernel_rfl)) (by unfold Func.isWrapper; first | (rw [if_pos (by decide +kernel)]; kernel_rfl) | (rw [if_neg (by decide +kernel)]; exact ⟨rfl, rfl⟩))
    (fun os started H enc _ F => by rw [OpenClaim.pre_eq_preRow]; exact lifted os started H enc F)
theorem plain (f : FuncId) (fn : Func) (hf : Tryd.pinned.checked.prog.funcNamed "portico/porticolaw4.URLParts" = some f) (hfn : Tryd.pinned.checked.prog.funcs[f]? = some fn) :
    false = Tryd.pinned.checked.prog.looks [] ∧ ∀ (j : Nat) t, fn.params[j]? = some t → Tryd.pinned.checked.prog.wantsStandIn t = false := by
  obtain rfl : f = 6 := Option.some.inj ((show Tryd.prog.funcNamed "portico/porticolaw4.URLParts" = some 6 by kernel_rfl).symm.trans hf) |>.symm
  obtain rfl : fn = Tryd.f6 := (Option.some.inj (Tryd.func6.symm.trans hfn)).symm
  refine ⟨by kernel_rfl, fun j t ht => ?_⟩
  rw [Tryd.params6] at ht
  have hm : t ∈ ([41, 41, 3] : List TypeId) := by
    have := Array.mem_of_getElem? ht
    simpa using this
  have hall : ([41, 41, 3] : List TypeId).all (fun t => !Tryd.prog.wantsStandIn t) = true := by kernel_rfl
  have h1 := List.all_eq_true.1 hall t hm
  have h2 : Tryd.prog.wantsStandIn t = false := by simpa using h1
  exact h2
theorem card : Rows.URLPartsCardSaid :=
  Claim7.holds_tied_plain_at .later [] _ _ _ _ said (fun _ h => by cases h) (by kernel_rfl) (fun _ h => by cases h) uRLParts_row_tie rfl ⟨rfl, rfl⟩ (by kernel_rfl) rfl plain (by kernel_rfl)
end Go.Proofs.YtcaaggfobdfgpaaDoor.RowURLParts
namespace Go.Proofs.YtcaaggfobdfgpaaDoor
theorem uRLParts_holds : Rows.URLPartsCardSaid := RowURLParts.card
#print axioms uRLParts_holds
end Go.Proofs.YtcaaggfobdfgpaaDoor
