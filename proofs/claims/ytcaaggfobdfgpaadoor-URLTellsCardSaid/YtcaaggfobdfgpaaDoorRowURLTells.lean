/- URLTells: the printed function answers true (PureURLTells), so the law's row holds: for every input that can be read. No conditions. -/
import Derived.Test.YtcaaggfobdfgpaaDoorRows
import Derived.Test.YtcaaggfobdfgpaaDoorPURLTellsx12
import Derived.Test.YtcaaggfobdfgpaaDoorOpens
import Derived.Test.YtcaaggfobdfgpaaDoorPureURLTells
import Derived.WalkKit
import Derived.ProofKit
import Derived.OpenShut
import Derived.ShutString
import Derived.ChangeOld
import Derived.Below
import Derived.SizedLaws
import Derived.Test.YtcaaggfobdfgpaaDoorCards
import Derived.Test.YtcaaggfobdfgpaaDoorTie
import Derived.Deep.DeepHandedRow
import Derived.Lib.LaidTab
namespace Go.Proofs.YtcaaggfobdfgpaaDoor.RowURLTells
open Go.ChangeShapes Go.WideShapes Go.ChangeAt Go.RowKit Go.Proofs.YtcaaggfobdfgpaaDoor.Opens Go.Proofs.YtcaaggfobdfgpaaDoorW.PrintWords Go.Proofs.YtcaaggfobdfgpaaDoor.PURLTells
open Go.ChangeMaps (open_string shut_string)
set_option linter.unusedVariables false
set_option linter.unusedSimpArgs false
theorem own : ownKnob Tryd.prog.godebug = none := by kernel_rfl
theorem laidOut : laidOutB Tryd.prog = true := by kernel_rfl
theorem op0 {H : Type} {enc : TypeId × Value → H} {w : World} : Opn Tryd.prog enc w 25 (Kd.pair (Kd.slice 9 Kd.string) (Kd.slice 32 k32)) (fun v => (fun xs => xs.length * 16 ≤ 140737488351232 ∧ ∀ x ∈ xs, (fun s => s.size ≤ 140737488351232) x) v.1 ∧ (fun xs => xs.length * 32 ≤ 140737488351232 ∧ ∀ x ∈ xs, (fun b => (fun v => (fun s => s.size ≤ 140737488351232) v.1 ∧ (fun s => s.size ≤ 140737488351232) v.2) ((fun x : S32 => (x.f0, x.f1)) b)) x) v.2) := (op_struct Tryd.underlying25 (opl_cons (op_slice (B := 16) Tryd.underlying22 (by kernel_rfl) (by kernel_rfl) (op_string Tryd.underlying9)) rfl (by kernel_rfl) (opl_one (op_slice (B := 32) Tryd.underlying23 (by kernel_rfl) (by kernel_rfl) (op_iso (fun x : S32 => (x.f0, x.f1)) (fun a => ⟨a.1, a.2⟩) (fun _ => rfl) (op_struct Tryd.underlying32 (opl_cons (op_string Tryd.underlying9) rfl (by kernel_rfl) (opl_one (op_string Tryd.underlying9) rfl (by kernel_rfl))) (by kernel_rfl)))) rfl (by kernel_rfl))) (by kernel_rfl))
theorem op1 {H : Type} {enc : TypeId × Value → H} {w : World} : Opn Tryd.prog enc w 25 (Kd.pair (Kd.slice 9 Kd.string) (Kd.slice 32 k32)) (fun v => (fun xs => xs.length * 16 ≤ 140737488351232 ∧ ∀ x ∈ xs, (fun s => s.size ≤ 140737488351232) x) v.1 ∧ (fun xs => xs.length * 32 ≤ 140737488351232 ∧ ∀ x ∈ xs, (fun b => (fun v => (fun s => s.size ≤ 140737488351232) v.1 ∧ (fun s => s.size ≤ 140737488351232) v.2) ((fun x : S32 => (x.f0, x.f1)) b)) x) v.2) := (op_struct Tryd.underlying25 (opl_cons (op_slice (B := 16) Tryd.underlying22 (by kernel_rfl) (by kernel_rfl) (op_string Tryd.underlying9)) rfl (by kernel_rfl) (opl_one (op_slice (B := 32) Tryd.underlying23 (by kernel_rfl) (by kernel_rfl) (op_iso (fun x : S32 => (x.f0, x.f1)) (fun a => ⟨a.1, a.2⟩) (fun _ => rfl) (op_struct Tryd.underlying32 (opl_cons (op_string Tryd.underlying9) rfl (by kernel_rfl) (opl_one (op_string Tryd.underlying9) rfl (by kernel_rfl))) (by kernel_rfl)))) rfl (by kernel_rfl))) (by kernel_rfl))
theorem op2 {H : Type} {enc : TypeId × Value → H} {w : World} : Opn Tryd.prog enc w 9 Kd.string (fun s => s.size ≤ 140737488351232) := (op_string Tryd.underlying9)
theorem op3 {H : Type} {enc : TypeId × Value → H} {w : World} : Opn Tryd.prog enc w 9 Kd.string (fun s => s.size ≤ 140737488351232) := (op_string Tryd.underlying9)
def laidLit : DataW Unit → Value
  | .lit (.int k n) => .int k n
  | .lit (.bool b) => .bool b
  | _ => .bool false
def laidRow : DataW Unit → List Value
  | .agg ps => ps.map laidLit
  | d => [laidLit d]
def laidCells : DataW Unit → Array Value
  | .agg ps => (ps.flatMap laidRow).toArray
  | d => #[laidLit d]
theorem laidAt0 : Tryd.prog.globalNamed "unicode/utf8.acceptRanges" = some 2 := by kernel_rfl
theorem laidAt1 : Tryd.prog.globalNamed "unicode/utf8.first" = some 1 := by kernel_rfl
/-- A world for the witness: the settled one, the tables holding what their initialisers lay. -/
noncomputable def laidWorld (os : Os) : World :=
  { World.holding Tryd.prog os ⟨#[], #[], []⟩ with heap := (((World.holding Tryd.prog os ⟨#[], #[], []⟩).heap.modify 2 fun
      | .cells _ t frozen => .cells (laidCells Rows.laid_unicode_utf8_acceptRanges) t frozen
      | o => o).modify 1 fun
      | .cells _ t frozen => .cells (laidCells Rows.laid_unicode_utf8_first) t frozen
      | o => o) }
set_option maxRecDepth 100000 in
theorem laid_met (os : Os) : laidMet Tryd.prog Rows.uRLTellsRow.laid ((laidWorld os).forCall (fun _ _ => 0) ⟨#[], #[.agg #[.slice none 0 0, .slice none 0 0], .agg #[.slice none 0 0, .slice none 0 0], .string ⟨#[]⟩, .string ⟨#[]⟩], []⟩).memory :=
  laidMet_of_run' 8 (by kernel_rfl) (by kernel_rfl)
set_option maxHeartbeats 1000000 in
set_option maxRecDepth 100000 in
theorem lifted (os : Os) (started : os.Started) (H : Type) (enc : TypeId × Value → H) (F : Stop.Interp) :
    ReturnsInHanded {} Tryd.checked os 8 .any ((OpenSpec.ofChange Rows.uRLTellsSpec).preRow enc Tryd.prog Tryd.f8 Rows.uRLTellsRow.domain false Rows.uRLTellsRow.laid) (((OpenSpec.ofChange Rows.uRLTellsSpec).at F).post enc Tryd.prog Tryd.f8 false true false false) := by
  refine returnsInHanded_of_row (C := Tryd.checked) (s := OpenSpec.ofChange Rows.uRLTellsSpec) own started (by kernel_rfl) Tryd.func8
    (witness_row_at (enc := enc) (C := Tryd.checked) false (laidWorld os) #[.agg #[.slice none 0 0, .slice none 0 0], .agg #[.slice none 0 0, .slice none 0 0], .string ⟨#[]⟩, .string ⟨#[]⟩] rfl (by kernel_rfl) (by kernel_rfl) (by kernel_rfl)
      (OpenSpec.preRow_of_B rfl 8 (by kernel_rfl) (by kernel_rfl) (laid_met os))) ?_
  intro W base args ds gs before hval0 hW _ _ hsz0 hL _ _
  have hsz : (DataW.weightsEach Tryd.prog (Tryd.f8.params.toList ++ Rows.uRLTellsSpec.plain.varTypes Tryd.prog) (ds ++ gs)).all (· ≤ reachBytes) = true := hsz0
  have hval : ∀ (j : Nat) t v, Tryd.f8.params[j]? = some t → args[j]? = some v → Value.okWide Tryd.prog W .any base t v := hval0
  have hW' := hW
  obtain ⟨p, q, hA0, hV, rfl, hfz, hnd⟩ := hW
  have hA : DataW.TrodAll enc Tryd.prog W 0 (fun _ => true) true Tryd.f8.params.toList args.toList ds p := hA0
  rw [Tryd.params8] at hA hval hsz
  obtain ⟨v0, vs0, d0, ds0, p0, q0, hargs, rfl, rfl, h0, r0⟩ := trodAll_cons hA
  obtain ⟨v1, vs1, d1, ds1, p1, q1, rfl, rfl, rfl, h1, r1⟩ := trodAll_cons r0
  obtain ⟨v2, vs2, d2, ds2, p2, q2, rfl, rfl, rfl, h2, r2⟩ := trodAll_cons r1
  obtain ⟨v3, vs3, d3, ds3, p3, q3, rfl, rfl, rfl, h3, r3⟩ := trodAll_cons r2
  obtain ⟨rfl, rfl, rfl⟩ := trodAll_nil r3
  obtain rfl : args = #[v0, v1, v2, v3] := by cases args; simp_all
  obtain ⟨rfl, rfl⟩ := trodVars_none hV
  have kk0 := h0
  have lt0 : ∀ x ∈ p0, x.block < W.heap.size := by obtain ⟨m, hm⟩ := kk0; exact DataW.trod_lt m _ _ _ hm
  obtain ⟨x0, K0, g0⟩ := arg_open op0 h0 hsz (j := 0) rfl rfl
  obtain ⟨cs0, rfl, hs0⟩ := okWide_struct Tryd.underlying25 (hval 0 25 v0 rfl rfl)
  have K0' : ∃ l, cs0.toList = l ∧ Kd.K (Kd.pair (Kd.slice 9 Kd.string) (Kd.slice 32 k32)) W x0 l := ⟨_, rfl, K0⟩
  obtain ⟨l0, e0, KK0⟩ := K0'
  obtain ⟨_, _, rfl, ⟨A0_0, c0_0, rfl, hc0_0, hr0_0⟩, ⟨A0_1, c0_1, rfl, hc0_1, hr0_1⟩⟩ := KK0
  obtain rfl : cs0 = #[.slice A0_0 x0.1.length c0_0, .slice A0_1 x0.2.length c0_1] := by apply Array.ext'; simpa using e0
  have kk1 := h1
  have lt1 : ∀ x ∈ p1, x.block < W.heap.size := by obtain ⟨m, hm⟩ := kk1; exact DataW.trod_lt m _ _ _ hm
  obtain ⟨x1, K1, g1⟩ := arg_open op1 h1 hsz (j := 1) rfl rfl
  obtain ⟨cs1, rfl, hs1⟩ := okWide_struct Tryd.underlying25 (hval 1 25 v1 rfl rfl)
  have K1' : ∃ l, cs1.toList = l ∧ Kd.K (Kd.pair (Kd.slice 9 Kd.string) (Kd.slice 32 k32)) W x1 l := ⟨_, rfl, K1⟩
  obtain ⟨l1, e1, KK1⟩ := K1'
  obtain ⟨_, _, rfl, ⟨A1_0, c1_0, rfl, hc1_0, hr1_0⟩, ⟨A1_1, c1_1, rfl, hc1_1, hr1_1⟩⟩ := KK1
  obtain rfl : cs1 = #[.slice A1_0 x1.1.length c1_0, .slice A1_1 x1.2.length c1_1] := by apply Array.ext'; simpa using e1
  have kk2 := h2
  have lt2 : ∀ x ∈ p2, x.block < W.heap.size := by obtain ⟨m, hm⟩ := kk2; exact DataW.trod_lt m _ _ _ hm
  obtain ⟨x2, K2, g2⟩ := arg_open op2 h2 hsz (j := 2) rfl rfl
  obtain ⟨y2, rfl⟩ := okWide_string Tryd.underlying9 (hval 2 9 v2 rfl rfl)
  have e2 : [Value.string y2] = [Value.string x2] := K2
  obtain rfl : x2 = y2 := by have h_ := e2; simp at h_; exact h_.symm
  have kk3 := h3
  have lt3 : ∀ x ∈ p3, x.block < W.heap.size := by obtain ⟨m, hm⟩ := kk3; exact DataW.trod_lt m _ _ _ hm
  obtain ⟨x3, K3, g3⟩ := arg_open op3 h3 hsz (j := 3) rfl rfl
  obtain ⟨y3, rfl⟩ := okWide_string Tryd.underlying9 (hval 3 9 v3 rfl rfl)
  have e3 : [Value.string y3] = [Value.string x3] := K3
  obtain rfl : x3 = y3 := by have h_ := e3; simp at h_; exact h_.symm
  clear hA0 hval0 hsz0 hsz
  obtain ⟨k, hp⟩ := PureURLTells.pure (x0.1) (x0.2) (x1.1) (x1.2) (x2) (x3) (⟨g0.1.1, fun x hx => (g0.1.2 x hx)⟩) (⟨g0.2.1, fun x hx => ⟨(g0.2.2 x hx).1, (g0.2.2 x hx).2⟩⟩) (⟨g1.1.1, fun x hx => (g1.1.2 x hx)⟩) (⟨g1.2.1, fun x hx => ⟨(g1.2.2 x hx).1, (g1.2.2 x hx).2⟩⟩) g2 g3
  refine (porticolaw4_URLTells.calls k _ _ (x0.1) _ _ (x0.2) _ _ (x1.1) _ _ (x1.2) (x2) (x3) true W hr0_0 hc0_0 hr0_1 hc0_1 hr1_0 hc1_0 hr1_1 hc1_1 hp).mono fun e W' hh => ?_
  obtain ⟨rfl, bel0⟩ := hh
  have bel : Below W.heap.size W W' := bel0
  exact ⟨_, rfl, _, _, _, [], _, [], hW', trodAll_mk1 (shut_bool Tryd.underlying4 _), (trodAll_cons_mk (Below.trod laidOut (by kernel_rfl) (of_decide_eq_true (by kernel_rfl)) kk0 bel lt0) (trodAll_cons_mk (Below.trod laidOut (by kernel_rfl) (of_decide_eq_true (by kernel_rfl)) kk1 bel lt1) (trodAll_cons_mk (Below.trod laidOut (by kernel_rfl) (of_decide_eq_true (by kernel_rfl)) kk2 bel lt2) (trodAll_cons_mk (Below.trod laidOut (by kernel_rfl) (of_decide_eq_true (by kernel_rfl)) kk3 bel lt3) trodAll_mk0)))), rfl, bel.frame _, fun h => by cases h⟩
theorem said : Rows.URLTellsSaid :=
  OpenClaim.holds_of_cond 8 Tryd.f8 rfl rfl rfl rfl rfl rfl rfl ⟨rfl, rfl, rfl, rfl, rfl⟩ rfl rfl rfl rfl rfl (by kernel_rfl) Tryd.func8 (by kernel_rfl)
    (of_decide_eq_true (by kernel_rfl)) (by unfold Func.isWrapper; first | (rw [if_pos (by decide +kernel)]; kernel_rfl) | (rw [if_neg (by decide +kernel)]; exact ⟨rfl, rfl⟩))
    (fun os started H enc _ F => by rw [OpenClaim.pre_eq_preRow]; exact lifted os started H enc F)
theorem plain (f : FuncId) (fn : Func) (hf : Tryd.pinned.checked.prog.funcNamed "portico/porticolaw4.URLTells" = some f) (hfn : Tryd.pinned.checked.prog.funcs[f]? = some fn) :
    false = Tryd.pinned.checked.prog.looks [] ∧ ∀ (j : Nat) t, fn.params[j]? = some t → Tryd.pinned.checked.prog.wantsStandIn t = false := by
  obtain rfl : f = 8 := Option.some.inj ((show Tryd.prog.funcNamed "portico/porticolaw4.URLTells" = some 8 by kernel_rfl).symm.trans hf) |>.symm
  obtain rfl : fn = Tryd.f8 := (Option.some.inj (Tryd.func8.symm.trans hfn)).symm
  refine ⟨by kernel_rfl, fun j t ht => ?_⟩
  rw [Tryd.params8] at ht
  have hm : t ∈ ([25, 25, 9, 9] : List TypeId) := by
    have := Array.mem_of_getElem? ht
    simpa using this
  have hall : ([25, 25, 9, 9] : List TypeId).all (fun t => !Tryd.prog.wantsStandIn t) = true := by kernel_rfl
  have h1 := List.all_eq_true.1 hall t hm
  have h2 : Tryd.prog.wantsStandIn t = false := by simpa using h1
  exact h2
theorem card : Rows.URLTellsCardSaid :=
  Claim7.holds_tied_plain_at .later [] _ _ _ _ said (fun _ h => by cases h) (by kernel_rfl) (fun _ h => by cases h) uRLTells_row_tie rfl ⟨rfl, rfl⟩ (by kernel_rfl) rfl plain (by kernel_rfl)
end Go.Proofs.YtcaaggfobdfgpaaDoor.RowURLTells
namespace Go.Proofs.YtcaaggfobdfgpaaDoor
theorem uRLTells_holds : Rows.URLTellsCardSaid := RowURLTells.card
#print axioms uRLTells_holds
end Go.Proofs.YtcaaggfobdfgpaaDoor
