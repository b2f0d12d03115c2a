-- Printed by a program of this session's own (wip/tools: a turned copy of the kit's print).
import Derived.Test.YtcaaggfobdfgpaaDoorPURLTellsx0
import Derived.Test.YtcaaggfobdfgpaaDoorPURLTellsx6
namespace Go.Proofs.YtcaaggfobdfgpaaDoor.PURLTells
open Go.Proofs.YtcaaggfobdfgpaaDoor.Given
open Go.RowKit Go.Proofs.YtcaaggfobdfgpaaDoorW.PrintWords Go.Proofs.YtcaaggfobdfgpaaDoorW.PrintLast Go.Proofs.YtcaaggfobdfgpaaDoorW.PrintMore
attribute [local go_sem] max2_int min2_int max_two min_two max_three min_three max_four min_four   -- for this text's walks alone
set_option linter.unusedVariables false
set_option linter.unusedSimpArgs false

/-! ### porticoref3_Decode: function 34 -/
mutual
def porticoref3_Decode.l0 : Nat → ByteArray → List Int → Int → Option (ByteArray × Bool)
 | 0, _, _, _ => none
 | k + 1, x0, x4, x5 => if x5 < (x0.size : Int) then (if 0 ≤ x5 then ((porticoref3_plain.f (bt x0 x5)).bind fun t224 => (if t224 = true then (if x4.length < 140737488355328 then (porticoref3_Decode.l0 k x0 (x4 ++ [bt x0 x5]) (wrap64 (x5 + 1))) else (none)) else (if (bt x0 x5) = 37 then (if (wrap64 (x5 + 2)) < (x0.size : Int) then (if 0 ≤ (wrap64 (x5 + 1)) then (if (wrap64 (x5 + 1)) < (x0.size : Int) then ((porticoref3_hex.f k (bt x0 (wrap64 (x5 + 1)))).bind fun t228 => (if t228 ≥ 0 then (if 0 ≤ (wrap64 (x5 + 2)) then ((porticoref3_hex.f k (bt x0 (wrap64 (x5 + 2)))).bind fun t229 => (porticoref3_Decode.j1 k x0 x4 x5 (decide (t229 ≥ 0)))) else (none)) else (porticoref3_Decode.j1 k x0 x4 x5 false))) else (none)) else (none)) else (porticoref3_Decode.j1 k x0 x4 x5 false)) else (porticoref3_Decode.j1 k x0 x4 x5 false)))) else (none)) else (some (strOfNums x4, true))
def porticoref3_Decode.j1 : Nat → ByteArray → List Int → Int → Bool → Option (ByteArray × Bool)
 | 0, _, _, _, _ => none
 | k + 1, x0, x4, x5, x23 => if x23 = true then (if 0 ≤ (wrap64 (x5 + 1)) then (if (wrap64 (x5 + 1)) < (x0.size : Int) then ((porticoref3_hex.f k (bt x0 (wrap64 (x5 + 1)))).bind fun t230 => (if 0 ≤ (wrap64 (x5 + 2)) then (if (wrap64 (x5 + 2)) < (x0.size : Int) then ((porticoref3_hex.f k (bt x0 (wrap64 (x5 + 2)))).bind fun t231 => (if x4.length < 140737488355328 then (porticoref3_Decode.l0 k x0 (x4 ++ [(Go.bits .or .i64 (wrap64 (t230 * 16)) t231) % 256]) (wrap64 ((wrap64 (x5 + 2)) + 1))) else (none))) else (none)) else (none))) else (none)) else (none)) else (some ((⟨#[]⟩ : ByteArray), false))
end
def porticoref3_Decode.f (k : Nat) (a0 : ByteArray) : Option (ByteArray × Bool) := porticoref3_Decode.l0 k a0 ([] : List Int) 0
theorem porticoref3_Decode.mono_l : ∀ k, (∀ y0 y1 y2, LeO (porticoref3_Decode.l0 k y0 y1 y2) (porticoref3_Decode.l0 (k + 1) y0 y1 y2)) ∧ (∀ y0 y1 y2 y3, LeO (porticoref3_Decode.j1 k y0 y1 y2 y3) (porticoref3_Decode.j1 (k + 1) y0 y1 y2 y3))
 | 0 => ⟨fun _ _ _ r h => by simp [porticoref3_Decode.l0] at h, fun _ _ _ _ r h => by simp [porticoref3_Decode.j1] at h⟩
 | k + 1 => by
  obtain ⟨ih0, ih1⟩ := porticoref3_Decode.mono_l k
  refine ⟨?_, ?_⟩
  ·
   intro y0 y1 y2
   unfold porticoref3_Decode.l0
   repeat' first
   | (with_reducible exact ih0 _ _ _)
   | (with_reducible exact ih1 _ _ _ _)
   | (with_reducible exact porticoref3_hex.mono _ _)
   | (with_reducible exact LeO.refl _)
   | (with_reducible exact LeO.none _)
   | (with_reducible refine LeO.ite ?_ ?_)
   | (with_reducible refine LeO.bind ?_ (fun _ => ?_))
   | exact ih0 _ _ _
   | exact ih1 _ _ _ _
   | exact porticoref3_hex.mono _ _
   | exact LeO.none _
   | refine LeO.ite ?_ ?_
   | refine LeO.bind ?_ (fun _ => ?_)
  ·
   intro y0 y1 y2 y3
   unfold porticoref3_Decode.j1
   repeat' first
   | (with_reducible exact ih0 _ _ _)
   | (with_reducible exact ih1 _ _ _ _)
   | (with_reducible exact porticoref3_hex.mono _ _)
   | (with_reducible exact LeO.refl _)
   | (with_reducible exact LeO.none _)
   | (with_reducible refine LeO.ite ?_ ?_)
   | (with_reducible refine LeO.bind ?_ (fun _ => ?_))
   | exact ih0 _ _ _
   | exact ih1 _ _ _ _
   | exact porticoref3_hex.mono _ _
   | exact LeO.none _
   | refine LeO.ite ?_ ?_
   | refine LeO.bind ?_ (fun _ => ?_)
theorem porticoref3_Decode.mono : ∀ a0 k, LeO (porticoref3_Decode.f k a0) (porticoref3_Decode.f (k + 1) a0) := by
 intro a0 k
 obtain ⟨ih0, ih1⟩ := porticoref3_Decode.mono_l k
 unfold porticoref3_Decode.f
 repeat' first
   | (with_reducible exact ih0 _ _ _)
   | (with_reducible exact ih1 _ _ _ _)
   | (with_reducible exact porticoref3_hex.mono _ _)
   | (with_reducible exact LeO.refl _)
   | (with_reducible exact LeO.none _)
   | (with_reducible refine LeO.ite ?_ ?_)
   | (with_reducible refine LeO.bind ?_ (fun _ => ?_))
   | exact ih0 _ _ _
   | exact ih1 _ _ _ _
   | exact porticoref3_hex.mono _ _
   | exact LeO.none _
   | refine LeO.ite ?_ ?_
   | refine LeO.bind ?_ (fun _ => ?_)
def porticoref3_Decode.T9 : Bool × List (List Nat × List Nat) := (true, [([], []), ([], []), ([], []), ([2], [2]), ([1, 3], [1, 3]), ([4], [4]), ([5], [5]), ([], []), ([], []), ([8], [8]), ([7, 9], [7, 9]), ([10, 5], [10]), ([6, 11], [6, 11]), ([12], [12]), ([13], [13]), ([0, 14, 11], [0, 14]), ([15, 15, 0, 1, 2, 3, 4, 5, 6, 7, 8, 9, 10, 11, 12, 13, 14, 15], [0, 15])])
def porticoref3_Decode.B9 : List Nat := [0, 0, 0, 4, 14, 30, 62, 0, 0, 256, 896, 1982, 4094, 8190, 16382, 32767, 65535]
theorem porticoref3_Decode.tab9 : rtab .any (opsOf Tryd.f34 9) = porticoref3_Decode.T9 := by kernel_rfl
theorem porticoref3_Decode.bits9 : waitsOk porticoref3_Decode.T9.2 porticoref3_Decode.B9 = true := by kernel_rfl
set_option maxHeartbeats 8000000 in
set_option maxRecDepth 100000 in
theorem porticoref3_Decode.calls (k : Nat) (a0 : ByteArray) (r1 : ByteArray) (r2 : Bool) (w : World) (h : porticoref3_Decode.f k a0 = some (r1, r2)) :
  Calls Tryd.prog 34 #[.string a0] w fun e w' => e = .returned (.tuple #[.string r1, .bool r2]) ∧ Below w.heap.size w w' := by
 have HB := Aside0.mk (Below.refl w.heap.size w)
 have H : (porticoref3_Decode.l0 k a0 ([] : List Int) 0) = some (r1, r2) := h
 clear h
 have H' := Aside0.mk H
 clear H
 go_enter Tryd.func34, Tryd.ntmps34
 go_wp2
 go_loopg [4, 5] k (fun kq v4 v5 w' => ∃ (x4_1 : List Int) (x5_1 : Int), v5 = .int .i64 x5_1 ∧ Aside0 (porticoref3_Decode.l0 kq a0 x4_1 x5_1 = some (r1, r2)) ∧ Aside0 (kq ≤ k) ∧ Aside0 (Kd.R (Kd.int .u8) 5 w' w.heap.size (fun _ => True) v4 x4_1) ∧ Aside0 (Below w.heap.size w w'))
 case atStart => exact ⟨(([] : List Int)), (0), (by first | rfl | (simp; done) | (simp [*]; done)), H', ⟨Nat.le_refl _⟩, ⟨by first | exact Kd.R_nil _ _ _ _ _ | exact Kd.N_nil _ _ _ _ _ | exact Kd.V_nil _ _ _ _ _ | exact Kd.Q_nil _ _ _ _ _ | exact Kd.S_nil _ _ _ _ _⟩, ⟨by repeat (first | (with_reducible first | exact HB.out | apply below_alloc | apply pw_below_drewN | apply below_drew1) | exact HB.out)⟩⟩
 case round =>
  clear H'
  obtain ⟨x4_1, x5_1, rfl, HA, HK1, HO_4, HB⟩ := hrel
  cases gk with
  | zero => exact absurd HA.out (by simp [porticoref3_Decode.l0])
  | succ k1 =>
   have H := HA.out
   clear HA
   simp only [porticoref3_Decode.l0] at H
   by_cases c2 : x5_1 < (a0.size : Int)
   rotate_left
   ·
    rw [if_neg c2] at H
    have c2b0 : decide (x5_1 < (a0.size : Int)) = false := decide_eq_false c2
    clear c2
    simp only [Option.some.injEq, Prod.mk.injEq] at H
    obtain ⟨rfl, rfl⟩ := H
    have hcv38 := own_string (P := Tryd.prog) Tryd.underlying44 Tryd.underlying5 Tryd.underlying9 (Kd.own_of_R HO_4.out)
    go_wp2
    go_ret2
    exact ⟨by first | rfl | (simp [errW_none, errW_some] <;> rfl) | (simp [*, errW_none, errW_some] <;> rfl), by repeat (first | (with_reducible first | exact HB.out | apply below_alloc | apply pw_below_drewN | apply below_drew1) | exact HB.out)⟩
   rw [if_pos c2] at H
   have c2b0 : decide (x5_1 < (a0.size : Int)) = true := decide_eq_true c2
   clear c2
   by_cases c3 : 0 ≤ x5_1
   rotate_left
   ·
    rw [if_neg c3] at H
    exact absurd H (by simp)
   rw [if_pos c3] at H
   have c3b0 : decide (0 ≤ x5_1) = true := decide_eq_true c3
   clear c3
   replace H := Option.bind_eq_some_iff.mp H
   obtain ⟨t224, A50, H⟩ := H
   replace H : (if t224 = true then (if x4_1.length < 140737488355328 then (porticoref3_Decode.l0 k1 a0 (x4_1 ++ [bt a0 x5_1]) (wrap64 (x5_1 + 1))) else (none)) else (if (bt a0 x5_1) = 37 then (if (wrap64 (x5_1 + 2)) < (a0.size : Int) then (if 0 ≤ (wrap64 (x5_1 + 1)) then (if (wrap64 (x5_1 + 1)) < (a0.size : Int) then ((porticoref3_hex.f k1 (bt a0 (wrap64 (x5_1 + 1)))).bind fun t228 => (if t228 ≥ 0 then (if 0 ≤ (wrap64 (x5_1 + 2)) then ((porticoref3_hex.f k1 (bt a0 (wrap64 (x5_1 + 2)))).bind fun t229 => (porticoref3_Decode.j1 k1 a0 x4_1 x5_1 (decide (t229 ≥ 0)))) else (none)) else (porticoref3_Decode.j1 k1 a0 x4_1 x5_1 false))) else (none)) else (none)) else (porticoref3_Decode.j1 k1 a0 x4_1 x5_1 false)) else (porticoref3_Decode.j1 k1 a0 x4_1 x5_1 false))) = some (r1, r2) := H
   have A5 := Aside0.mk A50
   clear A50
   by_cases c6 : t224 = true
   ·
    subst c6
    have H1 : (if x4_1.length < 140737488355328 then (porticoref3_Decode.l0 k1 a0 (x4_1 ++ [bt a0 x5_1]) (wrap64 (x5_1 + 1))) else (none)) = some (r1, r2) := by rw [if_pos rfl] at H; exact H
    clear H
    have H := H1
    clear H1
    by_cases c8 : x4_1.length < 140737488355328
    rotate_left
    ·
     rw [if_neg c8] at H
     exact absurd H (by simp)
    rw [if_pos c8] at H
    have LMc8 := Aside0.mk c8
    clear c8
    obtain ⟨y225, hy225⟩ : ∃ y_ : List Int, y_ = (x4_1 ++ [bt a0 x5_1]) := ⟨_, rfl⟩
    replace H : (porticoref3_Decode.l0 k1 a0 y225 (wrap64 (x5_1 + 1))) = some (r1, r2) := by first | (rw [hy225]; with_reducible exact H) | (have H2_ := (Option.bind_some _ _).symm.trans H; rw [hy225]; with_reducible exact H2_) | (have H2_ := (Option.bind_some _ _).symm.trans H; with_reducible exact H2_) | with_reducible exact H | (rw [hy225]; exact H) | exact H
    have Ny225 := Aside0.mk hy225
    clear hy225
    have H' := Aside0.mk H
    clear H
    have p4 : 0 ≤ (x5_1 : Int) := of_decide_eq_true (by first | (with_reducible assumption) | assumption)
    have q4 : x5_1 < (a0.size : Int) := of_decide_eq_true (by first | (with_reducible assumption) | assumption)
    have hx4 := bt_at a0 x5_1
    replace p4 := eq_true p4
    replace q4 := eq_true q4
    go_wp2_with (first | ((with_reducible refine gate_callee (f := 43) rfl ?_); refine goesL_ (some 16) rfl rfl Tryd.func43 (by kernel_rfl) rfl #[.int .u8 (bt a0 x5_1)] rfl (by (try simp only [List.map_toArray, List.map_cons, List.map_nil]); first | done | rfl | (simp only [List.length_drop, List.length_take]; rfl)) ?_; (with_reducible refine (porticoref3_plain.calls (bt a0 x5_1) true _ A5.out).mono ?_); rintro e w' ⟨rfl, ⟨nd, rfl⟩⟩; refine ⟨_, rfl, ?_⟩; have p7 : 0 ≤ (x5_1 : Int) := of_decide_eq_true (by first | (with_reducible assumption) | assumption); have q7 : x5_1 < (a0.size : Int) := of_decide_eq_true (by first | (with_reducible assumption) | assumption); have hx7 := bt_at a0 x5_1; replace p7 := eq_true p7; replace q7 := eq_true q7) | ((with_reducible refine gate_builtin (b := .append) (xs := #[.tmp 17, .tmp 21]) rfl ?_); (try (refine gate_guard (by rfl) ?_; dsimp only)); at_builtin; refine Kd.R_append (Kd.int .u8) (w0 := w) w.heap.size rfl (.tmp 17) (.tmp 21) 44 5 (.int .u8 0) 1 rfl Tryd.underlying44 info5 rfl (by decide) (by omega) u4 x4_1 (bt a0 x5_1) [.int .u8 (bt a0 x5_1)] (fun _ => True) (fun _ => False) rfl rfl ?aP (fun _ hk => hk.elim) ?aF ?aO ?aB ?aS ?aL ?_; (case aP => exact rfl); (case aB => exact (by repeat (first | (with_reducible first | exact HB.out | apply below_alloc | apply pw_below_drewN | apply below_drew1) | exact HB.out))); (case aF => exact (fun _ _ => trivial)); (case aO => exact (by (with_reducible repeat (first | apply Kd.R_alloc | apply Kd.R_drewN | apply Kd.R_drew)); exact HO_4.out)); (case aS => exact (below_size (by repeat (first | (with_reducible first | exact HB.out | apply below_alloc | apply pw_below_drewN | apply below_drew1) | exact HB.out)))); (case aL => have := LMc8.out; omega); intro v226 w9 ho hb hg hat; rw [← Ny225.out] at ho; have n0_ := Aside0.mk (hb); have n1_ := Aside0.mk (ho); clear HB; clear HO_4; have HB := n0_; have HO227 := n1_; clear n0_ n1_; clear ho hb hg hat))
    go_roundg k1
    case measure => have := HK1.out; omega
    case rel => exact ⟨(y225), (wrap64 (x5_1 + 1)), (by first | rfl | (simp; done) | (simp [*]; done)), H', ⟨by have := HK1.out; omega⟩, ⟨by (with_reducible repeat (first | apply Kd.R_alloc | apply Kd.R_drewN | apply Kd.R_drew)); exact HO227.out⟩, ⟨by repeat (first | (with_reducible first | exact HB.out | apply below_alloc | apply pw_below_drewN | apply below_drew1) | exact HB.out)⟩⟩
   replace c6 := Bool.eq_false_iff.mpr c6
   subst c6
   have H1 : (if (bt a0 x5_1) = 37 then (if (wrap64 (x5_1 + 2)) < (a0.size : Int) then (if 0 ≤ (wrap64 (x5_1 + 1)) then (if (wrap64 (x5_1 + 1)) < (a0.size : Int) then ((porticoref3_hex.f k1 (bt a0 (wrap64 (x5_1 + 1)))).bind fun t228 => (if t228 ≥ 0 then (if 0 ≤ (wrap64 (x5_1 + 2)) then ((porticoref3_hex.f k1 (bt a0 (wrap64 (x5_1 + 2)))).bind fun t229 => (porticoref3_Decode.j1 k1 a0 x4_1 x5_1 (decide (t229 ≥ 0)))) else (none)) else (porticoref3_Decode.j1 k1 a0 x4_1 x5_1 false))) else (none)) else (none)) else (porticoref3_Decode.j1 k1 a0 x4_1 x5_1 false)) else (porticoref3_Decode.j1 k1 a0 x4_1 x5_1 false)) = some (r1, r2) := by rw [if_neg (show ¬ (false = true) by decide)] at H; exact H
   clear H
   have H := H1
   clear H1
   have HC10 := Aside0.mk H
   clear H
   have p4 : 0 ≤ (x5_1 : Int) := of_decide_eq_true (by first | (with_reducible assumption) | assumption)
   have q4 : x5_1 < (a0.size : Int) := of_decide_eq_true (by first | (with_reducible assumption) | assumption)
   have hx4 := bt_at a0 x5_1
   replace p4 := eq_true p4
   replace q4 := eq_true q4
   go_upto_region 8 with (first | ((with_reducible refine gate_callee (f := 43) rfl ?_); refine goesL_ (some 16) rfl rfl Tryd.func43 (by kernel_rfl) rfl #[.int .u8 (bt a0 x5_1)] rfl (by (try simp only [List.map_toArray, List.map_cons, List.map_nil]); first | done | rfl | (simp only [List.length_drop, List.length_take]; rfl)) ?_; (with_reducible refine (porticoref3_plain.calls (bt a0 x5_1) false _ A5.out).mono ?_); rintro e w' ⟨rfl, ⟨nd, rfl⟩⟩; refine ⟨_, rfl, ?_⟩))
   (try simp only [Act.put, List.setIfInBounds_toArray, List.set_cons_zero, List.set_cons_succ])
   go_cut [23] (fun v23 wc => ∃ (kq : Nat) (x23_9 : Bool), v23 = .bool x23_9 ∧ Aside0 (porticoref3_Decode.j1 kq a0 x4_1 x5_1 x23_9 = some (r1, r2)) ∧ Aside0 (kq ≤ k1) ∧ Aside0 (Kd.R (Kd.int .u8) 5 wc w.heap.size (fun _ => True) u4 x4_1) ∧ Aside0 (Below w.heap.size w wc))
   case first =>
    have H := HC10.out
    clear HC10
    by_cases c12 : (bt a0 x5_1) = 37
    rotate_left
    ·
     rw [if_neg c12] at H
     have c12b0 : ((bt a0 x5_1) == 37) = false := beq_eq_false_iff_ne.mpr c12
     have c12b1 : ((bt a0 x5_1) != 37) = true := bne_iff_ne.mpr c12
     (first | rw [c12b0] | (simp only [i64_w, i32_w]; rw [c12b0]) | rw [c12b1] | skip)
     have H' := Aside0.mk H
     clear H
     have p11 : 0 ≤ (x5_1 : Int) := of_decide_eq_true (by first | (with_reducible assumption) | assumption)
     have q11 : x5_1 < (a0.size : Int) := of_decide_eq_true (by first | (with_reducible assumption) | assumption)
     have hx11 := bt_at a0 x5_1
     replace p11 := eq_true p11
     replace q11 := eq_true q11
     go_wp2
     go_meet
     case rel => exact ⟨_, (false), (by first | rfl | (simp; done) | (simp [*]; done)), H', ⟨by have := HK1.out; first | omega | exact Nat.le_refl _⟩, ⟨by (with_reducible repeat (first | apply Kd.R_alloc | apply Kd.R_drewN | apply Kd.R_drew)); exact HO_4.out⟩, ⟨by repeat (first | (with_reducible first | exact HB.out | apply below_alloc | apply pw_below_drewN | apply below_drew1) | exact HB.out)⟩⟩
    rw [if_pos c12] at H
    have c12b0 : ((bt a0 x5_1) == 37) = true := beq_iff_eq.mpr c12
    have c12b1 : ((bt a0 x5_1) != 37) = false := bne_eq_false_iff_eq.mpr c12
    clear c12
    (first | rw [c12b0] | (simp only [i64_w, i32_w]; rw [c12b0]) | rw [c12b1] | skip)
    by_cases c13 : (wrap64 (x5_1 + 2)) < (a0.size : Int)
    rotate_left
    ·
     rw [if_neg c13] at H
     have c13b0 : decide ((wrap64 (x5_1 + 2)) < (a0.size : Int)) = false := decide_eq_false c13
     clear c13
     have H' := Aside0.mk H
     clear H
     have p11 : 0 ≤ (x5_1 : Int) := of_decide_eq_true (by first | (with_reducible assumption) | assumption)
     have q11 : x5_1 < (a0.size : Int) := of_decide_eq_true (by first | (with_reducible assumption) | assumption)
     have hx11 := bt_at a0 x5_1
     replace p11 := eq_true p11
     replace q11 := eq_true q11
     go_wp2
     go_meet
     case rel => exact ⟨_, (false), (by first | rfl | (simp; done) | (simp [*]; done)), H', ⟨by have := HK1.out; first | omega | exact Nat.le_refl _⟩, ⟨by (with_reducible repeat (first | apply Kd.R_alloc | apply Kd.R_drewN | apply Kd.R_drew)); exact HO_4.out⟩, ⟨by repeat (first | (with_reducible first | exact HB.out | apply below_alloc | apply pw_below_drewN | apply below_drew1) | exact HB.out)⟩⟩
    rw [if_pos c13] at H
    have c13b0 : decide ((wrap64 (x5_1 + 2)) < (a0.size : Int)) = true := decide_eq_true c13
    clear c13
    obtain ⟨ji14, hji14⟩ : ∃ j_ : Int, (wrap64 (x5_1 + 1)) = j_ := ⟨_, rfl⟩
    replace H : (if 0 ≤ (ji14) then (if (ji14) < (a0.size : Int) then ((porticoref3_hex.f k1 (bt a0 (ji14))).bind fun t228 => (if t228 ≥ 0 then (if 0 ≤ (wrap64 (x5_1 + 2)) then ((porticoref3_hex.f k1 (bt a0 (wrap64 (x5_1 + 2)))).bind fun t229 => (porticoref3_Decode.j1 k1 a0 x4_1 x5_1 (decide (t229 ≥ 0)))) else (none)) else (porticoref3_Decode.j1 k1 a0 x4_1 x5_1 false))) else (none)) else (none)) = some (r1, r2) := by first | (rw [hji14] at H; exact H) | (simp only [hji14] at H ⊢; exact H)
    have hji14w : (IntKind.i64.wrap (x5_1 + 1)) = ji14 := (i64_w _).trans hji14
    by_cases c15 : 0 ≤ (ji14)
    rotate_left
    ·
     rw [if_neg c15] at H
     exact absurd H (by simp)
    rw [if_pos c15] at H
    have c15b0 : decide (0 ≤ (ji14)) = true := decide_eq_true c15
    clear c15
    by_cases c16 : (ji14) < (a0.size : Int)
    rotate_left
    ·
     rw [if_neg c16] at H
     exact absurd H (by simp)
    rw [if_pos c16] at H
    have c16b0 : decide ((ji14) < (a0.size : Int)) = true := decide_eq_true c16
    clear c16
    replace H := Option.bind_eq_some_iff.mp H
    obtain ⟨t228, A180, H⟩ := H
    replace H : (if t228 ≥ 0 then (if 0 ≤ (wrap64 (x5_1 + 2)) then ((porticoref3_hex.f k1 (bt a0 (wrap64 (x5_1 + 2)))).bind fun t229 => (porticoref3_Decode.j1 k1 a0 x4_1 x5_1 (decide (t229 ≥ 0)))) else (none)) else (porticoref3_Decode.j1 k1 a0 x4_1 x5_1 false)) = some (r1, r2) := H
    have A18 := Aside0.mk A180
    clear A180
    by_cases c19 : t228 ≥ 0
    rotate_left
    ·
     rw [if_neg c19] at H
     have c19b0 : decide (0 ≤ t228) = false := decide_eq_false c19
     clear c19
     have H' := Aside0.mk H
     clear H
     have p11 : 0 ≤ (x5_1 : Int) := of_decide_eq_true (by first | (with_reducible assumption) | assumption)
     have q11 : x5_1 < (a0.size : Int) := of_decide_eq_true (by first | (with_reducible assumption) | assumption)
     have hx11 := bt_at a0 x5_1
     replace p11 := eq_true p11
     replace q11 := eq_true q11
     have p17 : 0 ≤ ((ji14) : Int) := of_decide_eq_true (by first | (with_reducible assumption) | assumption)
     have q17 : (ji14) < (a0.size : Int) := of_decide_eq_true (by first | (with_reducible assumption) | assumption)
     have hx17 := bt_at a0 (ji14)
     replace p17 := eq_true p17
     replace q17 := eq_true q17
     go_wp2_with (first | (go_at_call 44; (with_reducible refine (porticoref3_hex.calls k1 (bt a0 (ji14)) t228 _ A18.out).mono ?_); rintro e w' ⟨rfl, ⟨nd, rfl⟩⟩))
     go_meet
     case rel => exact ⟨_, (false), (by first | rfl | (simp; done) | (simp [*]; done)), H', ⟨by have := HK1.out; first | omega | exact Nat.le_refl _⟩, ⟨by (with_reducible repeat (first | apply Kd.R_alloc | apply Kd.R_drewN | apply Kd.R_drew)); exact HO_4.out⟩, ⟨by repeat (first | (with_reducible first | exact HB.out | apply below_alloc | apply pw_below_drewN | apply below_drew1) | exact HB.out)⟩⟩
    rw [if_pos c19] at H
    have c19b0 : decide (0 ≤ t228) = true := decide_eq_true c19
    clear c19
    obtain ⟨ji20, hji20⟩ : ∃ j_ : Int, (wrap64 (x5_1 + 2)) = j_ := ⟨_, rfl⟩
    replace H : (if 0 ≤ (ji20) then ((porticoref3_hex.f k1 (bt a0 (ji20))).bind fun t229 => (porticoref3_Decode.j1 k1 a0 x4_1 x5_1 (decide (t229 ≥ 0)))) else (none)) = some (r1, r2) := by first | (rw [hji20] at H; exact H) | (simp only [hji20] at H ⊢; exact H)
    (try rw [hji20] at c13b0)
    (try rw [hji20] at A18)
    have hji20w : (IntKind.i64.wrap (x5_1 + 2)) = ji20 := (i64_w _).trans hji20
    by_cases c21 : 0 ≤ (ji20)
    rotate_left
    ·
     rw [if_neg c21] at H
     exact absurd H (by simp)
    rw [if_pos c21] at H
    have c21b0 : decide (0 ≤ (ji20)) = true := decide_eq_true c21
    clear c21
    replace H := Option.bind_eq_some_iff.mp H
    obtain ⟨t229, A230, H⟩ := H
    replace H : (porticoref3_Decode.j1 k1 a0 x4_1 x5_1 (decide (t229 ≥ 0))) = some (r1, r2) := H
    have A23 := Aside0.mk A230
    clear A230
    have H' := Aside0.mk H
    clear H
    have p11 : 0 ≤ (x5_1 : Int) := of_decide_eq_true (by first | (with_reducible assumption) | assumption)
    have q11 : x5_1 < (a0.size : Int) := of_decide_eq_true (by first | (with_reducible assumption) | assumption)
    have hx11 := bt_at a0 x5_1
    replace p11 := eq_true p11
    replace q11 := eq_true q11
    have p17 : 0 ≤ ((ji14) : Int) := of_decide_eq_true (by first | (with_reducible assumption) | assumption)
    have q17 : (ji14) < (a0.size : Int) := of_decide_eq_true (by first | (with_reducible assumption) | assumption)
    have hx17 := bt_at a0 (ji14)
    replace p17 := eq_true p17
    replace q17 := eq_true q17
    go_wp2_with (first | (go_at_call 44; (with_reducible refine (porticoref3_hex.calls k1 (bt a0 (ji14)) t228 _ A18.out).mono ?_); rintro e w' ⟨rfl, ⟨nd, rfl⟩⟩; have p22 : 0 ≤ ((ji20) : Int) := of_decide_eq_true (by first | (with_reducible assumption) | assumption); have q22 : (ji20) < (a0.size : Int) := of_decide_eq_true (by first | (with_reducible assumption) | assumption); have hx22 := bt_at a0 (ji20); replace p22 := eq_true p22; replace q22 := eq_true q22) | (go_at_call 44; (with_reducible refine (porticoref3_hex.calls k1 (bt a0 (ji20)) t229 _ A23.out).mono ?_); rintro e w' ⟨rfl, ⟨nd, rfl⟩⟩))
    go_meet
    case rel => exact ⟨_, (decide (t229 ≥ 0)), (by first | rfl | (simp; done) | (simp [*]; done)), H', ⟨by have := HK1.out; first | omega | exact Nat.le_refl _⟩, ⟨by (with_reducible repeat (first | apply Kd.R_alloc | apply Kd.R_drewN | apply Kd.R_drew)); exact HO_4.out⟩, ⟨by repeat (first | (with_reducible first | exact HB.out | apply below_alloc | apply pw_below_drewN | apply below_drew1) | exact HB.out)⟩⟩
   case rest =>
    clear HC10
    try clear c1
    try clear p1
    try clear q1
    try clear hx1
    try clear c2
    try clear c2b0
    try clear p2
    try clear q2
    try clear hx2
    try clear c3
    try clear c3b0
    try clear c4
    try clear p4
    try clear q4
    try clear hx4
    try clear c6
    try clear p6
    try clear p7
    try clear q7
    try clear hx7
    try clear c8
    try clear p11
    try clear q11
    try clear hx11
    try clear c12
    try clear c12b0
    try clear c12b1
    try clear c13
    try clear c13b0
    try clear c15
    try clear c15b0
    try clear c16
    try clear c16b0
    try clear p17
    try clear q17
    try clear hx17
    try clear c19
    try clear c19b0
    try clear c21
    try clear c21b0
    try clear p22
    try clear q22
    try clear hx22
    try clear p11
    try clear p17
    try clear p22
    try clear p4
    try clear p7
    try clear q11
    try clear q17
    try clear q22
    try clear q4
    try clear q7
    obtain ⟨kq, x23_9, rfl, HA, HJ9, HO_4, HB⟩ := hcut
    cases kq with
    | zero => exact absurd HA.out (by simp [porticoref3_Decode.j1])
    | succ kj9 =>
     have H := HA.out
     clear HA
     simp only [porticoref3_Decode.j1] at H
     by_cases c24 : x23_9 = true
     rotate_left
     ·
      replace c24 := Bool.eq_false_iff.mpr c24
      subst c24
      have H1 : (some ((⟨#[]⟩ : ByteArray), false)) = some (r1, r2) := by rw [if_neg (show ¬ (false = true) by decide)] at H; exact H
      clear H
      have H := H1
      clear H1
      simp only [Option.some.injEq, Prod.mk.injEq] at H
      obtain ⟨rfl, rfl⟩ := H
      go_wp2
      go_ret2
      exact ⟨by first | rfl | (simp [errW_none, errW_some] <;> rfl) | (simp [*, errW_none, errW_some] <;> rfl), by repeat (first | (with_reducible first | exact HB.out | apply below_alloc | apply pw_below_drewN | apply below_drew1) | exact HB.out)⟩
     subst c24
     have H1 : (if 0 ≤ (wrap64 (x5_1 + 1)) then (if (wrap64 (x5_1 + 1)) < (a0.size : Int) then ((porticoref3_hex.f kj9 (bt a0 (wrap64 (x5_1 + 1)))).bind fun t230 => (if 0 ≤ (wrap64 (x5_1 + 2)) then (if (wrap64 (x5_1 + 2)) < (a0.size : Int) then ((porticoref3_hex.f kj9 (bt a0 (wrap64 (x5_1 + 2)))).bind fun t231 => (if x4_1.length < 140737488355328 then (porticoref3_Decode.l0 kj9 a0 (x4_1 ++ [(Go.bits .or .i64 (wrap64 (t230 * 16)) t231) % 256]) (wrap64 ((wrap64 (x5_1 + 2)) + 1))) else (none))) else (none)) else (none))) else (none)) else (none)) = some (r1, r2) := by rw [if_pos rfl] at H; exact H
     clear H
     have H := H1
     clear H1
     obtain ⟨ji25, hji25⟩ : ∃ j_ : Int, (wrap64 (x5_1 + 1)) = j_ := ⟨_, rfl⟩
     replace H : (if 0 ≤ (ji25) then (if (ji25) < (a0.size : Int) then ((porticoref3_hex.f kj9 (bt a0 (ji25))).bind fun t230 => (if 0 ≤ (wrap64 (x5_1 + 2)) then (if (wrap64 (x5_1 + 2)) < (a0.size : Int) then ((porticoref3_hex.f kj9 (bt a0 (wrap64 (x5_1 + 2)))).bind fun t231 => (if x4_1.length < 140737488355328 then (porticoref3_Decode.l0 kj9 a0 (x4_1 ++ [(Go.bits .or .i64 (wrap64 (t230 * 16)) t231) % 256]) (wrap64 ((wrap64 (x5_1 + 2)) + 1))) else (none))) else (none)) else (none))) else (none)) else (none)) = some (r1, r2) := by first | (rw [hji25] at H; exact H) | (simp only [hji25] at H ⊢; exact H)
     have hji25w : (IntKind.i64.wrap (x5_1 + 1)) = ji25 := (i64_w _).trans hji25
     by_cases c26 : 0 ≤ (ji25)
     rotate_left
     ·
      rw [if_neg c26] at H
      exact absurd H (by simp)
     rw [if_pos c26] at H
     have c26b0 : decide (0 ≤ (ji25)) = true := decide_eq_true c26
     clear c26
     by_cases c27 : (ji25) < (a0.size : Int)
     rotate_left
     ·
      rw [if_neg c27] at H
      exact absurd H (by simp)
     rw [if_pos c27] at H
     have c27b0 : decide ((ji25) < (a0.size : Int)) = true := decide_eq_true c27
     clear c27
     replace H := Option.bind_eq_some_iff.mp H
     obtain ⟨t230, A290, H⟩ := H
     replace H : (if 0 ≤ (wrap64 (x5_1 + 2)) then (if (wrap64 (x5_1 + 2)) < (a0.size : Int) then ((porticoref3_hex.f kj9 (bt a0 (wrap64 (x5_1 + 2)))).bind fun t231 => (if x4_1.length < 140737488355328 then (porticoref3_Decode.l0 kj9 a0 (x4_1 ++ [(Go.bits .or .i64 (wrap64 (t230 * 16)) t231) % 256]) (wrap64 ((wrap64 (x5_1 + 2)) + 1))) else (none))) else (none)) else (none)) = some (r1, r2) := H
     have A29 := Aside0.mk A290
     clear A290
     obtain ⟨ji30, hji30⟩ : ∃ j_ : Int, (wrap64 (x5_1 + 2)) = j_ := ⟨_, rfl⟩
     replace H : (if 0 ≤ (ji30) then (if (ji30) < (a0.size : Int) then ((porticoref3_hex.f kj9 (bt a0 (ji30))).bind fun t231 => (if x4_1.length < 140737488355328 then (porticoref3_Decode.l0 kj9 a0 (x4_1 ++ [(Go.bits .or .i64 (wrap64 (t230 * 16)) t231) % 256]) (wrap64 ((ji30) + 1))) else (none))) else (none)) else (none)) = some (r1, r2) := by first | (rw [hji30] at H; exact H) | (simp only [hji30] at H ⊢; exact H)
     (try rw [hji30] at A29)
     have hji30w : (IntKind.i64.wrap (x5_1 + 2)) = ji30 := (i64_w _).trans hji30
     by_cases c31 : 0 ≤ (ji30)
     rotate_left
     ·
      rw [if_neg c31] at H
      exact absurd H (by simp)
     rw [if_pos c31] at H
     have c31b0 : decide (0 ≤ (ji30)) = true := decide_eq_true c31
     clear c31
     by_cases c32 : (ji30) < (a0.size : Int)
     rotate_left
     ·
      rw [if_neg c32] at H
      exact absurd H (by simp)
     rw [if_pos c32] at H
     have c32b0 : decide ((ji30) < (a0.size : Int)) = true := decide_eq_true c32
     clear c32
     replace H := Option.bind_eq_some_iff.mp H
     obtain ⟨t231, A340, H⟩ := H
     replace H : (if x4_1.length < 140737488355328 then (porticoref3_Decode.l0 kj9 a0 (x4_1 ++ [(Go.bits .or .i64 (wrap64 (t230 * 16)) t231) % 256]) (wrap64 ((ji30) + 1))) else (none)) = some (r1, r2) := H
     have A34 := Aside0.mk A340
     clear A340
     by_cases c35 : x4_1.length < 140737488355328
     rotate_left
     ·
      rw [if_neg c35] at H
      exact absurd H (by simp)
     rw [if_pos c35] at H
     have LMc35 := Aside0.mk c35
     clear c35
     obtain ⟨y232, hy232⟩ : ∃ y_ : List Int, y_ = (x4_1 ++ [(Go.bits .or .i64 (wrap64 (t230 * 16)) t231) % 256]) := ⟨_, rfl⟩
     replace H : (porticoref3_Decode.l0 kj9 a0 y232 (wrap64 ((ji30) + 1))) = some (r1, r2) := by first | (rw [hy232]; with_reducible exact H) | (have H2_ := (Option.bind_some _ _).symm.trans H; rw [hy232]; with_reducible exact H2_) | (have H2_ := (Option.bind_some _ _).symm.trans H; with_reducible exact H2_) | with_reducible exact H | (rw [hy232]; exact H) | exact H
     have Ny232 := Aside0.mk hy232
     clear hy232
     have H' := Aside0.mk H
     clear H
     try go_wp2
     have n0_ := Aside0.mk (Kd.R_drew HO_4.out)
     have n1_ := Aside0.mk (below_drew1 HB.out)
     clear HO_4
     clear HB
     have HO_4 := n0_
     have HB := n1_
     clear n0_ n1_
     have p28 : 0 ≤ ((ji25) : Int) := of_decide_eq_true (by first | (with_reducible assumption) | assumption)
     have q28 : (ji25) < (a0.size : Int) := of_decide_eq_true (by first | (with_reducible assumption) | assumption)
     have hx28 := bt_at a0 (ji25)
     replace p28 := eq_true p28
     replace q28 := eq_true q28
     have p33 : 0 ≤ ((ji30) : Int) := of_decide_eq_true (by first | (with_reducible assumption) | assumption)
     have q33 : (ji30) < (a0.size : Int) := of_decide_eq_true (by first | (with_reducible assumption) | assumption)
     have hx33 := bt_at a0 (ji30)
     replace p33 := eq_true p33
     replace q33 := eq_true q33
     refine start_ (n := 17) (S := fun w' => True) (ds := []) #[false, false, false, false, false, false, false, false, false, false, false, false, false, false, false, false, false] (by kernel_rfl) rfl rfl trivial (fun hHeld => ?_); refine with_tabW porticoref3_Decode.tab9 porticoref3_Decode.bits9 (fun HT_ HW_ => ?_)
     generalize wc.drew = w36 at HO_4 HB hHeld ⊢
     refine pure_ (i := 0) (N := some 51) (v := ?_) (a' := ?_) #[true, false, false, false, false, false, false, false, false, false, false, false, false, false, false, false, false] rfl rfl (any_of HT_.out (by kernel_rfl)) (fun _ _ _ h => h) (Or.inl ⟨by rfl, ?_⟩) ?_ ?_
     rotate_left
     ·
      intro w'
      go_simp
      with_reducible rfl
     rotate_left
     ·
      simp only [Act.put, List.setIfInBounds_toArray, List.set_cons_zero, List.set_cons_succ, i64_w, i32_w]
      rfl
     refine pure_ (i := 1) (N := some 52) (v := ?_) (a' := ?_) #[true, true, false, false, false, false, false, false, false, false, false, false, false, false, false, false, false] rfl rfl (any_of HT_.out (by kernel_rfl)) (fun _ _ _ h => h) (Or.inl ⟨by rfl, ?_⟩) ?_ ?_
     rotate_left
     ·
      intro w'
      go_simp
      with_reducible rfl
     rotate_left
     ·
      simp only [Act.put, List.setIfInBounds_toArray, List.set_cons_zero, List.set_cons_succ, i64_w, i32_w]
      rfl
     refine pure_ (i := 2) (N := some 53) (v := ?_) (a' := ?_) #[true, true, true, false, false, false, false, false, false, false, false, false, false, false, false, false, false] rfl rfl (any_of HT_.out (by kernel_rfl)) (fun _ _ _ h => h) (Or.inl ⟨by rfl, ?_⟩) ?_ ?_
     rotate_left
     ·
      intro w'
      go_simp
      with_reducible rfl
     rotate_left
     ·
      simp only [Act.put, List.setIfInBounds_toArray, List.set_cons_zero, List.set_cons_succ, i64_w, i32_w]
      rfl
     refine pure_ (i := 3) (N := some 54) (v := ?_) (a' := ?_) #[true, true, true, true, false, false, false, false, false, false, false, false, false, false, false, false, false] rfl rfl (any_of HT_.out (by kernel_rfl)) (fun _ _ _ h => h) (Or.inl ⟨by rfl, ?_⟩) ?_ ?_
     rotate_left
     ·
      intro w'
      go_simp
      with_reducible rfl
     rotate_left
     ·
      simp only [Act.put, List.setIfInBounds_toArray, List.set_cons_zero, List.set_cons_succ, i64_w, i32_w]
      rfl
     refine pure_ (i := 7) (N := some 58) (v := ?_) (a' := ?_) #[true, true, true, true, false, false, false, true, false, false, false, false, false, false, false, false, false] rfl rfl (any_of HT_.out (by kernel_rfl)) (fun _ _ _ h => h) (Or.inl ⟨by rfl, ?_⟩) ?_ ?_
     rotate_left
     ·
      intro w'
      go_simp
      with_reducible rfl
     rotate_left
     ·
      simp only [Act.put, List.setIfInBounds_toArray, List.set_cons_zero, List.set_cons_succ, i64_w, i32_w]
      rfl
     refine pure_ (i := 8) (N := some 59) (v := ?_) (a' := ?_) #[true, true, true, true, false, false, false, true, true, false, false, false, false, false, false, false, false] rfl rfl (any_of HT_.out (by kernel_rfl)) (fun _ _ _ h => h) (Or.inl ⟨by rfl, ?_⟩) ?_ ?_
     rotate_left
     ·
      intro w'
      go_simp
      with_reducible rfl
     rotate_left
     ·
      simp only [Act.put, List.setIfInBounds_toArray, List.set_cons_zero, List.set_cons_succ, i64_w, i32_w]
      rfl
     refine pure_ (i := 9) (N := some 60) (v := ?_) (a' := ?_) #[true, true, true, true, false, false, false, true, true, true, false, false, false, false, false, false, false] rfl rfl (any_of HT_.out (by kernel_rfl)) (fun _ _ _ h => h) (Or.inl ⟨by rfl, ?_⟩) ?_ ?_
     rotate_left
     ·
      intro w'
      go_simp
      with_reducible rfl
     rotate_left
     ·
      simp only [Act.put, List.setIfInBounds_toArray, List.set_cons_zero, List.set_cons_succ, i64_w, i32_w]
      rfl
     refine take_ (i := 4) (N := some 55) (v := ?_) (a' := ?_) #[true, true, true, true, true, false, false, true, true, true, false, false, false, false, false, false, false] rfl rfl (take_ofW HT_.out HW_.out (by kernel_rfl)) (fun _ _ _ h => h) (Or.inl ⟨by rfl, ?_⟩) hHeld ?_ ?_
     rotate_left
     ·
      intro w' _
      go_simp
      with_reducible rfl
     rotate_left
     ·
      simp only [Act.put, List.setIfInBounds_toArray, List.set_cons_zero, List.set_cons_succ, i64_w, i32_w]
      rfl
     refine take_ (i := 10) (N := some 61) (v := ?_) (a' := ?_) #[true, true, true, true, true, false, false, true, true, true, true, false, false, false, false, false, false] rfl rfl (take_ofW HT_.out HW_.out (by kernel_rfl)) (fun _ _ _ h => h) (Or.inl ⟨by rfl, ?_⟩) hHeld ?_ ?_
     rotate_left
     ·
      intro w' _
      go_simp
      with_reducible rfl
     rotate_left
     ·
      simp only [Act.put, List.setIfInBounds_toArray, List.set_cons_zero, List.set_cons_succ, i64_w, i32_w]
      rfl
     refine one_ (i := 5) (N := some 56) #[true, true, true, true, true, true, false, true, true, true, true, false, false, false, false, false, false] rfl rfl (one_of HT_.out (by kernel_rfl)) (by decide) (fun K hK => ?_)
     refine goes_ Tryd.func44 (by kernel_rfl) rfl #[.int .u8 (bt a0 (ji25))] (by rfl) rfl rfl (by (try simp only [List.map_toArray, List.map_cons, List.map_nil]); first | done | (simp only [hji25]; rfl) | rfl | (simp only [List.length_drop, List.length_take]; rfl)) ?_
     with_reducible refine (porticoref3_hex.calls kj9 (bt a0 (ji25)) t230 _ A29.out).mono ?_
     rintro e w' ⟨rfl, ⟨nd, rfl⟩⟩
     refine ⟨_, rfl, ?_⟩
     refine hK.out _ _ trivial (fun hHeld => ?_)
     clear hK K
     refine norm_ (a' := ?_) ?_ ?_
     rotate_left
     ·
      show Act.put _ (some 56) _ = _
      simp only [Act.put, List.setIfInBounds_toArray, List.set_cons_zero, List.set_cons_succ, i64_w, i32_w]
      rfl
     refine pure_ (i := 6) (N := some 57) (v := ?_) (a' := ?_) #[true, true, true, true, true, true, true, true, true, true, true, false, false, false, false, false, false] rfl rfl (any_of HT_.out (by kernel_rfl)) (fun _ _ _ h => h) (Or.inl ⟨by rfl, ?_⟩) ?_ ?_
     rotate_left
     ·
      intro w'
      go_simp
      with_reducible rfl
     rotate_left
     ·
      simp only [Act.put, List.setIfInBounds_toArray, List.set_cons_zero, List.set_cons_succ, i64_w, i32_w]
      rfl
     refine one_ (i := 11) (N := some 62) #[true, true, true, true, true, true, true, true, true, true, true, true, false, false, false, false, false] rfl rfl (one_of HT_.out (by kernel_rfl)) (by decide) (fun K hK => ?_)
     refine goes_ Tryd.func44 (by kernel_rfl) rfl #[.int .u8 (bt a0 (ji30))] (by rfl) rfl rfl (by (try simp only [List.map_toArray, List.map_cons, List.map_nil]); first | done | (simp only [hji30]; rfl) | rfl | (simp only [List.length_drop, List.length_take]; rfl)) ?_
     with_reducible refine (porticoref3_hex.calls kj9 (bt a0 (ji30)) t231 _ A34.out).mono ?_
     rintro e w' ⟨rfl, ⟨nd, rfl⟩⟩
     refine ⟨_, rfl, ?_⟩
     refine hK.out _ _ trivial (fun hHeld => ?_)
     clear hK K
     refine norm_ (a' := ?_) ?_ ?_
     rotate_left
     ·
      show Act.put _ (some 62) _ = _
      simp only [Act.put, List.setIfInBounds_toArray, List.set_cons_zero, List.set_cons_succ, i64_w, i32_w]
      rfl
     refine pure_ (i := 12) (N := some 63) (v := ?_) (a' := ?_) #[true, true, true, true, true, true, true, true, true, true, true, true, true, false, false, false, false] rfl rfl (any_of HT_.out (by kernel_rfl)) (fun _ _ _ h => h) (Or.inl ⟨by rfl, ?_⟩) ?_ ?_
     rotate_left
     ·
      intro w'
      go_simp
      with_reducible rfl
     rotate_left
     ·
      simp only [Act.put, List.setIfInBounds_toArray, List.set_cons_zero, List.set_cons_succ, i64_w, i32_w]
      rfl
     refine pure_ (i := 13) (N := some 64) (v := ?_) (a' := ?_) #[true, true, true, true, true, true, true, true, true, true, true, true, true, true, false, false, false] rfl rfl (any_of HT_.out (by kernel_rfl)) (fun _ _ _ h => h) (Or.inl ⟨by rfl, ?_⟩) ?_ ?_
     rotate_left
     ·
      intro w'
      go_simp
      with_reducible rfl
     rotate_left
     ·
      simp only [Act.put, List.setIfInBounds_toArray, List.set_cons_zero, List.set_cons_succ, i64_w, i32_w]
      rfl
     refine one_ (i := 14) (N := some 65) #[true, true, true, true, true, true, true, true, true, true, true, true, true, true, true, false, false] rfl rfl (one_of HT_.out (by kernel_rfl)) (by decide) (fun K hK => ?_)
     refine value_ (w1 := ?_) (v := ?_) (by rfl) rfl ?_ ?_
     rotate_left 2
     ·
      go_simp
      constructor
      ·
       rfl
      ·
       rfl
     refine hK.out _ _ trivial (fun hHeld => ?_)
     clear hK K
     refine norm_ (a' := ?_) ?_ ?_
     rotate_left
     ·
      show Act.put _ (some 65) _ = _
      simp only [Act.put, List.setIfInBounds_toArray, List.set_cons_zero, List.set_cons_succ, i64_w, i32_w]
      rfl
     refine one_ (i := 15) (N := some 66) #[true, true, true, true, true, true, true, true, true, true, true, true, true, true, true, true, false] rfl rfl (one_of HT_.out (by kernel_rfl)) (by decide) (fun K hK => ?_)
     refine Kd.R_append_step (Kd.int .u8) (w0 := w) w.heap.size (by rfl) (.tmp 51) (.tmp 65) 44 5 (.int .u8 0) 1 rfl Tryd.underlying44 info5 rfl (by decide) (by omega) u4 x4_1 ((Go.bits .or .i64 (wrap64 (t230 * 16)) t231) % 256) [.int .u8 ((Go.bits .or .i64 (wrap64 (t230 * 16)) t231) % 256)] (fun _ => True) (fun _ => False) rfl rfl ?aP (fun _ hk => hk.elim) ?aF ?aO ?aB ?aS ?aL ?_
     (case aP => exact rfl)
     (case aB => exact (by repeat (first | (with_reducible first | exact HB.out | apply below_alloc | apply pw_below_drewN | apply below_drew1) | exact HB.out)))
     (case aF => exact (fun _ _ => trivial))
     (case aO => exact (by (with_reducible repeat (first | apply Kd.R_alloc | apply Kd.R_drewN | apply Kd.R_drew)); exact HO_4.out))
     (case aS => exact (below_size (by repeat (first | (with_reducible first | exact HB.out | apply below_alloc | apply pw_below_drewN | apply below_drew1) | exact HB.out))))
     (case aL => have := LMc35.out; omega)
     intro v233 w37 ho hb hg hat
     rw [← Ny232.out] at ho
     have n0_ := Aside0.mk (hb)
     have n1_ := Aside0.mk (ho)
     clear HB
     clear HO_4
     have HB := n0_
     have HO234 := n1_
     clear n0_ n1_
     clear ho hb hg hat
     refine hK.out _ _ trivial (fun hHeld => ?_)
     clear hK K
     refine norm_ (a' := ?_) ?_ ?_
     rotate_left
     ·
      show Act.put _ (some 66) _ = _
      simp only [Act.put, List.setIfInBounds_toArray, List.set_cons_zero, List.set_cons_succ, i64_w, i32_w]
      rfl
     refine pure_ (i := 16) (N := some 4) (v := ?_) (a' := ?_) #[true, true, true, true, true, true, true, true, true, true, true, true, true, true, true, true, true] rfl rfl (any_of HT_.out (by kernel_rfl)) (fun _ _ _ h => h) (Or.inl ⟨by rfl, ?_⟩) ?_ ?_
     rotate_left
     ·
      intro w'
      go_simp
      with_reducible rfl
     rotate_left
     ·
      simp only [Act.put, List.setIfInBounds_toArray, List.set_cons_zero, List.set_cons_succ, i64_w, i32_w]
      rfl
     refine done_ (done_of HT_.out (by kernel_rfl)) ?_
     try go_wp2
     go_roundg kj9
     case measure => have := HK1.out; have := HJ9.out; omega
     case rel => exact ⟨(y232), (wrap64 ((ji30) + 1)), (by first | rfl | (simp; done) | (simp only [← hji30] <;> (first | rfl | simp)) | (simp [*]; done)), H', ⟨by have := HK1.out; have := HJ9.out; omega⟩, ⟨by (with_reducible repeat (first | apply Kd.R_alloc | apply Kd.R_drewN | apply Kd.R_drew)); exact HO234.out⟩, ⟨by repeat (first | (with_reducible first | exact HB.out | apply below_alloc | apply pw_below_drewN | apply below_drew1) | exact HB.out)⟩⟩

end Go.Proofs.YtcaaggfobdfgpaaDoor.PURLTells
