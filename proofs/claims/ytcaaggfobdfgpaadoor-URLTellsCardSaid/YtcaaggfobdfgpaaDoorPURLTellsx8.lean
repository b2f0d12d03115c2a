-- Printed by a program of this session's own (wip/tools: a turned copy of the kit's print).
import Derived.Test.YtcaaggfobdfgpaaDoorPURLTellsx0
import Derived.Test.YtcaaggfobdfgpaaDoorPURLTellsx5
import Derived.Test.YtcaaggfobdfgpaaDoorPURLTellsx7
namespace Go.Proofs.YtcaaggfobdfgpaaDoor.PURLTells
open Go.Proofs.YtcaaggfobdfgpaaDoor.Given
open Go.RowKit Go.Proofs.YtcaaggfobdfgpaaDoorW.PrintWords Go.Proofs.YtcaaggfobdfgpaaDoorW.PrintLast Go.Proofs.YtcaaggfobdfgpaaDoorW.PrintMore
attribute [local go_sem] max2_int min2_int max_two min_two max_three min_three max_four min_four   -- for this text's walks alone
set_option linter.unusedVariables false
set_option linter.unusedSimpArgs false

/-! ### porticoref3_Parse: function 19 -/
mutual
def porticoref3_Parse.j0 : Nat → List ByteArray → Bool → Option (List ByteArray × (List (S32)) × Int)
 | 0, _, _ => none
 | k + 1, x4, x31 => if x31 = true then (some (([] : List ByteArray), ([] : List (S32)), 1)) else (if 0 < (x4.length : Int) then (if (rdOf ByteArray.empty x4 0).toList = ([47] : List UInt8) then (porticoref3_Parse.j2 k x4 ([] : List ByteArray)) else (if 1 ≤ ((rdOf ByteArray.empty x4 0).size : Int) then ((porticoref3_split.f k ((rdOf ByteArray.empty x4 0).extract 1 (rdOf ByteArray.empty x4 0).size) 47).bind fun t242 => (porticoref3_Parse.l0 k x4 t242 (t242.length : Int) 0 ([] : List ByteArray))) else (none))) else (none))
def porticoref3_Parse.j2 : Nat → List ByteArray → List ByteArray → Option (List ByteArray × (List (S32)) × Int)
 | 0, _, _ => none
 | k + 1, x4, x240000 => if (x4.length : Int) = 2 then (if 1 < (x4.length : Int) then ((porticoref3_split.f k (rdOf ByteArray.empty x4 1) 38).bind fun t252 => (porticoref3_Parse.l1 k t252 (t252.length : Int) 0 x240000 ([] : List (S32)))) else (none)) else ((porticoref3_Right.f k x240000 ([] : List (S32))).bind fun t272 => (if t272 = true then (some (x240000, ([] : List (S32)), 0)) else (some (([] : List ByteArray), ([] : List (S32)), 1))))
def porticoref3_Parse.l1 : Nat → List ByteArray → Int → Int → List ByteArray → List (S32) → Option (List ByteArray × (List (S32)) × Int)
 | 0, _, _, _, _, _ => none
 | k + 1, x68, x69, x70, x240000, x240001 => if x70 < x69 then (if 0 ≤ x70 then (if x70 < (x68.length : Int) then ((porticoref3_split.f k (rdOf ByteArray.empty x68 x70) 61).bind fun t257 => (if (t257.length : Int) > 2 then (some (([] : List ByteArray), ([] : List (S32)), 1)) else (if 0 < (t257.length : Int) then ((porticoref3_Decode.f k (rdOf ByteArray.empty t257 0)).bind fun bt261 => (if (t257.length : Int) = 2 then (if 1 < (t257.length : Int) then ((porticoref3_Decode.f k (rdOf ByteArray.empty t257 1)).bind fun bt264 => (if bt261.2 = true then (if bt264.2 = true then (if x240001.length < 4398046511104 then (porticoref3_Parse.l1 k x68 x69 (wrap64 (x70 + 1)) x240000 (x240001 ++ [(⟨bt261.1, bt264.1⟩ : S32)])) else (none)) else (some (([] : List ByteArray), ([] : List (S32)), 1))) else (some (([] : List ByteArray), ([] : List (S32)), 1)))) else (none)) else (if bt261.2 = true then (if x240001.length < 4398046511104 then (porticoref3_Parse.l1 k x68 x69 (wrap64 (x70 + 1)) x240000 (x240001 ++ [(⟨bt261.1, (⟨#[]⟩ : ByteArray)⟩ : S32)])) else (none)) else (some (([] : List ByteArray), ([] : List (S32)), 1))))) else (none)))) else (none)) else (none)) else ((porticoref3_Right.f k x240000 x240001).bind fun t255 => (if t255 = true then (some (x240000, x240001, 0)) else (some (([] : List ByteArray), ([] : List (S32)), 1))))
def porticoref3_Parse.l0 : Nat → List ByteArray → List ByteArray → Int → Int → List ByteArray → Option (List ByteArray × (List (S32)) × Int)
 | 0, _, _, _, _, _ => none
 | k + 1, x4, x41, x42, x43, x240000 => if x43 < x42 then (if 0 ≤ x43 then (if x43 < (x41.length : Int) then ((porticoref3_Decode.f k (rdOf ByteArray.empty x41 x43)).bind fun bt246 => (if bt246.2 = true then (if x240000.length < 8796093022208 then (porticoref3_Parse.l0 k x4 x41 x42 (wrap64 (x43 + 1)) (x240000 ++ [bt246.1])) else (none)) else (some (([] : List ByteArray), ([] : List (S32)), 1)))) else (none)) else (none)) else (porticoref3_Parse.j2 k x4 x240000)
end
def porticoref3_Parse.f (k : Nat) (a0 : ByteArray) : Option (List ByteArray × (List (S32)) × Int) := (porticoref3_split.f k a0 63).bind fun t236 => (if (t236.length : Int) > 2 then (porticoref3_Parse.j0 k t236 true) else (if (a0.size : Int) = 0 then (porticoref3_Parse.j0 k t236 true) else (if 0 < (a0.size : Int) then (porticoref3_Parse.j0 k t236 ((bt a0 0) != 47)) else (none))))
theorem porticoref3_Parse.mono_l : ∀ k, (∀ y0 y1, LeO (porticoref3_Parse.j0 k y0 y1) (porticoref3_Parse.j0 (k + 1) y0 y1)) ∧ (∀ y0 y1, LeO (porticoref3_Parse.j2 k y0 y1) (porticoref3_Parse.j2 (k + 1) y0 y1)) ∧ (∀ y0 y1 y2 y3 y4, LeO (porticoref3_Parse.l1 k y0 y1 y2 y3 y4) (porticoref3_Parse.l1 (k + 1) y0 y1 y2 y3 y4)) ∧ (∀ y0 y1 y2 y3 y4, LeO (porticoref3_Parse.l0 k y0 y1 y2 y3 y4) (porticoref3_Parse.l0 (k + 1) y0 y1 y2 y3 y4))
 | 0 => ⟨fun _ _ r h => by simp [porticoref3_Parse.j0] at h, fun _ _ r h => by simp [porticoref3_Parse.j2] at h, fun _ _ _ _ _ r h => by simp [porticoref3_Parse.l1] at h, fun _ _ _ _ _ r h => by simp [porticoref3_Parse.l0] at h⟩
 | k + 1 => by
  obtain ⟨ih0, ih1, ih2, ih3⟩ := porticoref3_Parse.mono_l k
  refine ⟨?_, ?_, ?_, ?_⟩
  ·
   intro y0 y1
   unfold porticoref3_Parse.j0
   repeat' first
   | (with_reducible exact ih0 _ _)
   | (with_reducible exact ih1 _ _)
   | (with_reducible exact ih2 _ _ _ _ _)
   | (with_reducible exact ih3 _ _ _ _ _)
   | (with_reducible exact porticoref3_Decode.mono _ _)
   | (with_reducible exact porticoref3_Right.mono _ _ _)
   | (with_reducible exact porticoref3_split.mono _ _ _)
   | (with_reducible exact LeO.refl _)
   | (with_reducible exact LeO.none _)
   | (with_reducible refine LeO.ite ?_ ?_)
   | (with_reducible refine LeO.bind ?_ (fun _ => ?_))
   | exact ih0 _ _
   | exact ih1 _ _
   | exact ih2 _ _ _ _ _
   | exact ih3 _ _ _ _ _
   | exact porticoref3_Decode.mono _ _
   | exact porticoref3_Right.mono _ _ _
   | exact porticoref3_split.mono _ _ _
   | exact LeO.none _
   | refine LeO.ite ?_ ?_
   | refine LeO.bind ?_ (fun _ => ?_)
  ·
   intro y0 y1
   unfold porticoref3_Parse.j2
   repeat' first
   | (with_reducible exact ih0 _ _)
   | (with_reducible exact ih1 _ _)
   | (with_reducible exact ih2 _ _ _ _ _)
   | (with_reducible exact ih3 _ _ _ _ _)
   | (with_reducible exact porticoref3_Decode.mono _ _)
   | (with_reducible exact porticoref3_Right.mono _ _ _)
   | (with_reducible exact porticoref3_split.mono _ _ _)
   | (with_reducible exact LeO.refl _)
   | (with_reducible exact LeO.none _)
   | (with_reducible refine LeO.ite ?_ ?_)
   | (with_reducible refine LeO.bind ?_ (fun _ => ?_))
   | exact ih0 _ _
   | exact ih1 _ _
   | exact ih2 _ _ _ _ _
   | exact ih3 _ _ _ _ _
   | exact porticoref3_Decode.mono _ _
   | exact porticoref3_Right.mono _ _ _
   | exact porticoref3_split.mono _ _ _
   | exact LeO.none _
   | refine LeO.ite ?_ ?_
   | refine LeO.bind ?_ (fun _ => ?_)
  ·
   intro y0 y1 y2 y3 y4
   unfold porticoref3_Parse.l1
   repeat' first
   | (with_reducible exact ih0 _ _)
   | (with_reducible exact ih1 _ _)
   | (with_reducible exact ih2 _ _ _ _ _)
   | (with_reducible exact ih3 _ _ _ _ _)
   | (with_reducible exact porticoref3_Decode.mono _ _)
   | (with_reducible exact porticoref3_Right.mono _ _ _)
   | (with_reducible exact porticoref3_split.mono _ _ _)
   | (with_reducible exact LeO.refl _)
   | (with_reducible exact LeO.none _)
   | (with_reducible refine LeO.ite ?_ ?_)
   | (with_reducible refine LeO.bind ?_ (fun _ => ?_))
   | exact ih0 _ _
   | exact ih1 _ _
   | exact ih2 _ _ _ _ _
   | exact ih3 _ _ _ _ _
   | exact porticoref3_Decode.mono _ _
   | exact porticoref3_Right.mono _ _ _
   | exact porticoref3_split.mono _ _ _
   | exact LeO.none _
   | refine LeO.ite ?_ ?_
   | refine LeO.bind ?_ (fun _ => ?_)
  ·
   intro y0 y1 y2 y3 y4
   unfold porticoref3_Parse.l0
   repeat' first
   | (with_reducible exact ih0 _ _)
   | (with_reducible exact ih1 _ _)
   | (with_reducible exact ih2 _ _ _ _ _)
   | (with_reducible exact ih3 _ _ _ _ _)
   | (with_reducible exact porticoref3_Decode.mono _ _)
   | (with_reducible exact porticoref3_Right.mono _ _ _)
   | (with_reducible exact porticoref3_split.mono _ _ _)
   | (with_reducible exact LeO.refl _)
   | (with_reducible exact LeO.none _)
   | (with_reducible refine LeO.ite ?_ ?_)
   | (with_reducible refine LeO.bind ?_ (fun _ => ?_))
   | exact ih0 _ _
   | exact ih1 _ _
   | exact ih2 _ _ _ _ _
   | exact ih3 _ _ _ _ _
   | exact porticoref3_Decode.mono _ _
   | exact porticoref3_Right.mono _ _ _
   | exact porticoref3_split.mono _ _ _
   | exact LeO.none _
   | refine LeO.ite ?_ ?_
   | refine LeO.bind ?_ (fun _ => ?_)
theorem porticoref3_Parse.mono : ∀ a0 k, LeO (porticoref3_Parse.f k a0) (porticoref3_Parse.f (k + 1) a0) := by
 intro a0 k
 obtain ⟨ih0, ih1, ih2, ih3⟩ := porticoref3_Parse.mono_l k
 unfold porticoref3_Parse.f
 repeat' first
   | (with_reducible exact ih0 _ _)
   | (with_reducible exact ih1 _ _)
   | (with_reducible exact ih2 _ _ _ _ _)
   | (with_reducible exact ih3 _ _ _ _ _)
   | (with_reducible exact porticoref3_Decode.mono _ _)
   | (with_reducible exact porticoref3_Right.mono _ _ _)
   | (with_reducible exact porticoref3_split.mono _ _ _)
   | (with_reducible exact LeO.refl _)
   | (with_reducible exact LeO.none _)
   | (with_reducible refine LeO.ite ?_ ?_)
   | (with_reducible refine LeO.bind ?_ (fun _ => ?_))
   | exact ih0 _ _
   | exact ih1 _ _
   | exact ih2 _ _ _ _ _
   | exact ih3 _ _ _ _ _
   | exact porticoref3_Decode.mono _ _
   | exact porticoref3_Right.mono _ _ _
   | exact porticoref3_split.mono _ _ _
   | exact LeO.none _
   | refine LeO.ite ?_ ?_
   | refine LeO.bind ?_ (fun _ => ?_)
set_option maxHeartbeats 8000000 in
set_option maxRecDepth 100000 in
theorem porticoref3_Parse.calls (k : Nat) (a0 : ByteArray) (r1 : List ByteArray) (r2 : List (S32)) (r3 : Int) (w : World) (h : porticoref3_Parse.f k a0 = some (r1, r2, r3)) :
  Calls Tryd.prog 19 #[.string a0] w fun e w' => ∃ v0_ v1_ : Value, e = .returned (.tuple #[.agg #[v0_, v1_], .int .i64 r3]) ∧ Kd.R Kd.string 9 w' w.heap.size (fun _ => True) v0_ r1 ∧ Kd.R k32 32 w' w.heap.size (fun _ => True) v1_ r2 ∧ Below w.heap.size w w' := by
 have hu25 := Tryd.underlying25
 have hu32 := Tryd.underlying32
 have HB := Aside0.mk (Below.refl w.heap.size w)
 have H : ((porticoref3_split.f k a0 63).bind fun t236 => (if (t236.length : Int) > 2 then (porticoref3_Parse.j0 k t236 true) else (if (a0.size : Int) = 0 then (porticoref3_Parse.j0 k t236 true) else (if 0 < (a0.size : Int) then (porticoref3_Parse.j0 k t236 ((bt a0 0) != 47)) else (none))))) = some (r1, r2, r3) := h
 clear h
 replace H := Option.bind_eq_some_iff.mp H
 obtain ⟨t236, A20, H⟩ := H
 replace H : (if (t236.length : Int) > 2 then (porticoref3_Parse.j0 k t236 true) else (if (a0.size : Int) = 0 then (porticoref3_Parse.j0 k t236 true) else (if 0 < (a0.size : Int) then (porticoref3_Parse.j0 k t236 ((bt a0 0) != 47)) else (none)))) = some (r1, r2, r3) := H
 have A2 := Aside0.mk A20
 clear A20
 have HC3 := Aside0.mk H
 clear H
 go_enter Tryd.func19, Tryd.ntmps19
 go_upto_region 2 with (first | ((with_reducible refine gate_dst (N := 2) rfl ?_); (try (refine gate_guard (by rfl) ?_; dsimp only)); refine box_event ?hg (N := 2) ?hd (cs := #[.slice none 0 0, .slice none 0 0]) (t := 25) ?hr ?_; (case hd => rfl); (case hg => rfl); (case hr => first | (go_simp; done) | (go_simp; rfl)); intro gb235 hg w4 hbox hb; have n0_ := Aside0.mk (below_step (by repeat (first | (with_reducible first | exact HB.out | apply below_alloc | apply pw_below_drewN | apply below_drew1) | exact HB.out)) hb); have n1_ := Aside0.mk (hbox); have n2_ := Aside0.mk ((by rw [hg]; exact (below_size (by repeat (first | (with_reducible first | exact HB.out | apply below_alloc | apply pw_below_drewN | apply below_drew1) | exact HB.out))) : w.heap.size ≤ gb235)); have n3_ := Aside0.mk ((by rw [hg]; exact (below_size (by repeat (first | (with_reducible first | exact HB.out | apply below_alloc | apply pw_below_drewN | apply below_drew1) | exact HB.out))) : w.heap.size ≤ gb235)); clear HB; have HB := n0_; have BK235 := n1_; have GW235 := n2_; have GE235 := n3_; clear n0_ n1_ n2_ n3_; clear hb hbox hg) | ((with_reducible refine gate_callee (f := 33) rfl ?_); refine goesL_ (some 18) rfl rfl Tryd.func33 (by kernel_rfl) rfl #[.string a0, .int .u8 63] rfl (by (try simp only [List.map_toArray, List.map_cons, List.map_nil]); first | done | rfl | (simp only [List.length_drop, List.length_take]; rfl)) ?_; (with_reducible refine (porticoref3_split.calls k a0 63 t236 _ A2.out).mono ?_); rintro e w5 ⟨v237, rfl, ho0, hb⟩; refine ⟨_, rfl, ?_⟩; have n0_ := Aside0.mk (Kd.R_lower ho0 (below_size (by repeat (first | (with_reducible first | exact HB.out | apply below_alloc | apply pw_below_drewN | apply below_drew1 | refine below_set ?_ GE235.out) | exact HB.out)))); have n1_ := Aside0.mk (blk_below (g := gb235) (o := .cells #[.slice none 0 0, .slice none 0 0] 25 (0, 0)) (by (with_reducible repeat (first | refine blk_drewN ?_ _ | refine blk_drew ?_ | refine blk_alloc ?_ _)); exact BK235.out) hb); have n2_ := Aside0.mk (below_step (by repeat (first | (with_reducible first | exact HB.out | apply below_alloc | apply pw_below_drewN | apply below_drew1 | refine below_set ?_ GE235.out) | exact HB.out)) hb); clear BK235; clear HB; have HO238 := n0_; have BK235 := n1_; have HB := n2_; clear n0_ n1_ n2_; (try clear hb); (try clear hb2); (try clear hk); (try clear hi); (try clear ho0)))
 (try simp only [Act.put, List.setIfInBounds_toArray, List.set_cons_zero, List.set_cons_succ])
 go_cut [31] (fun v31 wc => ∃ (kq : Nat) (x31_2 : Bool), v31 = .bool x31_2 ∧ Aside0 (porticoref3_Parse.j0 kq t236 x31_2 = some (r1, r2, r3)) ∧ Aside0 (kq ≤ k) ∧ Aside0 (Kd.R Kd.string 9 wc w.heap.size (fun _ => True) v237 t236) ∧ Aside0 (wc.heap[gb235]? = some (.cells #[(.slice none 0 0), (.slice none 0 0)] 25 (0, 0))) ∧ Aside0 (Below w.heap.size w wc))
 case first =>
  have H := HC3.out
  clear HC3
  by_cases c6 : (t236.length : Int) > 2
  ·
   rw [if_pos c6] at H
   have c6b0 : decide (2 < (t236.length : Int)) = true := decide_eq_true c6
   have c6b1 : decide (2 < t236.length) = true := decide_eq_true (by omega)
   clear c6
   (first | rw [c6b0] | (simp only [i64_w, i32_w]; rw [c6b0]) | rw [c6b1] | skip)
   have H' := Aside0.mk H
   clear H
   obtain ⟨Ao7, co7, eo7⟩ := Kd.R_slice HO238.out
   subst eo7
   go_wp2
   go_meet
   case rel => exact ⟨_, (true), (by first | rfl | (simp; done) | (simp [*]; done)), H', ⟨by first | omega | exact Nat.le_refl _⟩, ⟨by (with_reducible repeat (first | apply Kd.R_alloc | apply Kd.R_drewN | apply Kd.R_drew)); exact HO238.out⟩, ⟨by (with_reducible repeat (first | refine blk_drewN ?_ _ | refine blk_drew ?_ | refine blk_alloc ?_ _)); exact BK235.out⟩, ⟨by repeat (first | (with_reducible first | exact HB.out | apply below_alloc | apply pw_below_drewN | apply below_drew1 | refine below_set ?_ GE235.out) | exact HB.out)⟩⟩
  rw [if_neg c6] at H
  have c6b0 : decide (2 < (t236.length : Int)) = false := decide_eq_false c6
  have c6b1 : decide (2 < t236.length) = false := decide_eq_false (by omega)
  clear c6
  (first | rw [c6b0] | (simp only [i64_w, i32_w]; rw [c6b0]) | rw [c6b1] | skip)
  by_cases c8 : (a0.size : Int) = 0
  ·
   rw [if_pos c8] at H
   have c8b0 : ((a0.size : Int) == 0) = true := beq_iff_eq.mpr c8
   have c8b1 : ((a0.size : Int) != 0) = false := bne_eq_false_iff_eq.mpr c8
   clear c8
   have H' := Aside0.mk H
   clear H
   obtain ⟨Ao9, co9, eo9⟩ := Kd.R_slice HO238.out
   subst eo9
   go_wp2
   go_meet
   case rel => exact ⟨_, (true), (by first | rfl | (simp; done) | (simp [*]; done)), H', ⟨by first | omega | exact Nat.le_refl _⟩, ⟨by (with_reducible repeat (first | apply Kd.R_alloc | apply Kd.R_drewN | apply Kd.R_drew)); exact HO238.out⟩, ⟨by (with_reducible repeat (first | refine blk_drewN ?_ _ | refine blk_drew ?_ | refine blk_alloc ?_ _)); exact BK235.out⟩, ⟨by repeat (first | (with_reducible first | exact HB.out | apply below_alloc | apply pw_below_drewN | apply below_drew1 | refine below_set ?_ GE235.out) | exact HB.out)⟩⟩
  rw [if_neg c8] at H
  have c8b0 : ((a0.size : Int) == 0) = false := beq_eq_false_iff_ne.mpr c8
  have c8b1 : ((a0.size : Int) != 0) = true := bne_iff_ne.mpr c8
  by_cases c10 : 0 < (a0.size : Int)
  rotate_left
  ·
   rw [if_neg c10] at H
   exact absurd H (by simp)
  rw [if_pos c10] at H
  have c10b0 : decide (0 < (a0.size : Int)) = true := decide_eq_true c10
  have c10b1 : decide (0 < a0.size) = true := decide_eq_true (by omega)
  clear c10
  have H' := Aside0.mk H
  clear H
  obtain ⟨Ao12, co12, eo12⟩ := Kd.R_slice HO238.out
  subst eo12
  have p11 : 0 ≤ (0 : Int) := (by omega)
  have q11 : 0 < a0.size := (by have : (0 : Int) < (a0.size : Int) := of_decide_eq_true (by first | (with_reducible assumption) | assumption); omega)
  have hx11 : ∀ h : 0 < a0.size, ((a0[0]'h).toNat : Int) = bt a0 0 := bt_at a0 0
  clear p11
  have qi11 : (0 < (a0.size : Int)) = True := eq_true (of_decide_eq_true (by first | (with_reducible assumption) | assumption))
  replace q11 := eq_true q11
  go_wp2
  go_meet
  case rel => exact ⟨_, (((bt a0 0) != 47)), (by first | rfl | (simp; done) | (simp [*]; done)), H', ⟨by first | omega | exact Nat.le_refl _⟩, ⟨by (with_reducible repeat (first | apply Kd.R_alloc | apply Kd.R_drewN | apply Kd.R_drew)); exact HO238.out⟩, ⟨by (with_reducible repeat (first | refine blk_drewN ?_ _ | refine blk_drew ?_ | refine blk_alloc ?_ _)); exact BK235.out⟩, ⟨by repeat (first | (with_reducible first | exact HB.out | apply below_alloc | apply pw_below_drewN | apply below_drew1 | refine below_set ?_ GE235.out) | exact HB.out)⟩⟩
 case rest =>
  clear HC3
  try clear c1
  try clear p1
  try clear q1
  try clear hx1
  try clear qi1
  try clear p2
  try clear c3
  try clear c6
  try clear c6b0
  try clear c6b1
  try clear c8
  try clear c8b0
  try clear c8b1
  try clear c10
  try clear c10b0
  try clear c10b1
  try clear p11
  try clear q11
  try clear hx11
  try clear qi11
  try clear p11
  try clear q11
  obtain ⟨kq, x31_2, rfl, HA, HJ2, HO_4, BK235, HB⟩ := hcut
  cases kq with
  | zero => exact absurd HA.out (by simp [porticoref3_Parse.j0])
  | succ kj2 =>
   have H := HA.out
   clear HA
   simp only [porticoref3_Parse.j0] at H
   by_cases c13 : x31_2 = true
   ·
    subst c13
    have H1 : (some (([] : List ByteArray), ([] : List (S32)), 1)) = some (r1, r2, r3) := by rw [if_pos rfl] at H; exact H
    clear H
    have H := H1
    clear H1
    simp only [Option.some.injEq, Prod.mk.injEq] at H
    obtain ⟨rfl, rfl, rfl⟩ := H
    have hcz14_0 : wc.cell? ⟨gb235, 0, none⟩ = some (.slice none 0 0) := (blk_cell BK235.out 0).trans rfl
    have hcz14_1 : wc.cell? ⟨gb235, 1, none⟩ = some (.slice none 0 0) := (blk_cell BK235.out 1).trans rfl
    have hfz14_0 := blk_frozen BK235.out 0
    have hfz14_1 := blk_frozen BK235.out 1
    go_wp2
    refine bodyPost_ret (results_ct rfl _ _ gb235 25 #[.slice none 0 0, .slice none 0 0] (0, 0) _ rfl (by (with_reducible repeat (first | refine blk_drewN ?_ _ | refine blk_drew ?_ | refine blk_alloc ?_ _)); refine blk_put (cs := #[.slice none 0 0, .slice none 0 0]) ?_ 1 _ rfl; (with_reducible repeat (first | refine blk_drewN ?_ _ | refine blk_drew ?_ | refine blk_alloc ?_ _)); refine blk_put (cs := #[.slice none 0 0, .slice none 0 0]) ?_ 0 _ rfl; (with_reducible repeat (first | refine blk_drewN ?_ _ | refine blk_drew ?_ | refine blk_alloc ?_ _)); exact BK235.out) Tryd.underlying25 rfl (by kernel_rfl)) rfl ?_
    exact ⟨_, _, by first | rfl | (simp [errW_none, errW_some] <;> rfl) | (simp [*, errW_none, errW_some] <;> rfl), by first | exact Kd.R_nil _ _ _ _ _ | exact Kd.N_nil _ _ _ _ _ | exact Kd.V_nil _ _ _ _ _ | exact Kd.Q_nil _ _ _ _ _ | exact Kd.S_nil _ _ _ _ _, by first | exact Kd.R_nil _ _ _ _ _ | exact Kd.N_nil _ _ _ _ _ | exact Kd.V_nil _ _ _ _ _ | exact Kd.Q_nil _ _ _ _ _ | exact Kd.S_nil _ _ _ _ _, by repeat (first | (with_reducible first | exact HB.out | apply below_alloc | apply pw_below_drewN | apply below_drew1 | refine below_set ?_ GE235.out) | exact HB.out)⟩
   replace c13 := Bool.eq_false_iff.mpr c13
   subst c13
   have H1 : (if 0 < (t236.length : Int) then (if (rdOf ByteArray.empty t236 0).toList = ([47] : List UInt8) then (porticoref3_Parse.j2 kj2 t236 ([] : List ByteArray)) else (if 1 ≤ ((rdOf ByteArray.empty t236 0).size : Int) then ((porticoref3_split.f kj2 ((rdOf ByteArray.empty t236 0).extract 1 (rdOf ByteArray.empty t236 0).size) 47).bind fun t242 => (porticoref3_Parse.l0 kj2 t236 t242 (t242.length : Int) 0 ([] : List ByteArray))) else (none))) else (none)) = some (r1, r2, r3) := by rw [if_neg (show ¬ (false = true) by decide)] at H; exact H
   clear H
   have H := H1
   clear H1
   by_cases c15 : 0 < (t236.length : Int)
   rotate_left
   ·
    rw [if_neg c15] at H
    exact absurd H (by simp)
   rw [if_pos c15] at H
   have c15b0 : decide (0 < (t236.length : Int)) = true := decide_eq_true c15
   have c15b1 : decide (0 < t236.length) = true := decide_eq_true (by omega)
   clear c15
   have HC16 := Aside0.mk H
   clear H
   go_upto_if 36 with (first | ((with_reducible refine gate_dst (N := 5) rfl ?_); (try (refine gate_guard (by rfl) ?_; dsimp only)); refine box_event ?hg (N := 5) ?hd (cs := #[.slice none 0 0, .slice none 0 0]) (t := 25) ?hr ?_; (case hd => rfl); (case hg => rfl); (case hr => first | (go_simp; done) | (go_simp; rfl)); intro gb239 hg w17 hbox hb; have n0_ := Aside0.mk (Kd.R_below (by (with_reducible repeat (first | apply Kd.R_alloc | apply Kd.R_drewN | apply Kd.R_drew)); exact HO_4.out) hb); have n1_ := Aside0.mk (blk_below (g := gb235) (o := .cells #[.slice none 0 0, .slice none 0 0] 25 (0, 0)) (by (with_reducible repeat (first | refine blk_drewN ?_ _ | refine blk_drew ?_ | refine blk_alloc ?_ _)); exact BK235.out) hb); have n2_ := Aside0.mk (below_step (by repeat (first | (with_reducible first | exact HB.out | apply below_alloc | apply pw_below_drewN | apply below_drew1 | refine below_set ?_ GE235.out) | exact HB.out)) hb); have n3_ := Aside0.mk (hbox); have n4_ := Aside0.mk ((by rw [hg]; exact (below_size (by repeat (first | (with_reducible first | exact HB.out | apply below_alloc | apply pw_below_drewN | apply below_drew1 | refine below_set ?_ GE235.out) | exact HB.out))) : w.heap.size ≤ gb239)); have n5_ := Aside0.mk ((by rw [hg]; exact (below_size (by repeat (first | (with_reducible first | exact HB.out | apply below_alloc | apply pw_below_drewN | apply below_drew1 | refine below_set ?_ GE235.out) | exact HB.out))) : w.heap.size ≤ gb239)); have n6_ := Aside0.mk ((by rw [hg]; exact Nat.ne_of_lt (blk_lt (g := gb235) (o := .cells #[.slice none 0 0, .slice none 0 0] 25 (0, 0)) (by (with_reducible repeat (first | refine blk_drewN ?_ _ | refine blk_drew ?_ | refine blk_alloc ?_ _)); exact BK235.out)) : gb235 ≠ gb239)); have n7_ := Aside0.mk ((by rw [hg]; exact Nat.ne_of_gt (blk_lt (g := gb235) (o := .cells #[.slice none 0 0, .slice none 0 0] 25 (0, 0)) (by (with_reducible repeat (first | refine blk_drewN ?_ _ | refine blk_drew ?_ | refine blk_alloc ?_ _)); exact BK235.out)) : gb239 ≠ gb235)); clear HO_4; clear BK235; clear HB; have HO_4 := n0_; have BK235 := n1_; have HB := n2_; have BK239 := n3_; have GW239 := n4_; have GE239 := n5_; have NB235_239 := n6_; have NB239_235 := n7_; clear n0_ n1_ n2_ n3_ n4_ n5_ n6_ n7_; clear hb hbox hg; obtain ⟨Ao18, co18, eo18⟩ := Kd.R_slice HO_4.out; subst eo18; have p240 : 0 ≤ (0 : Int) := (by omega); have q240 : 0 < (t236.length : Int) := of_decide_eq_true (by first | (with_reducible assumption) | assumption); obtain ⟨ad240, e240, hx240_0⟩ := Kd.at_string (Kd.R_reads' HO_4.out).2.2 0 p240 q240; cases e240; have qi240 : (0 < t236.length) = True := eq_true (by omega); (try rw [show ((0 : Int)).toNat = 0 from rfl] at hx240_0); (try rw [Addr.add_zero'] at hx240_0); replace p240 := eq_true p240; replace q240 := eq_true q240))
   (try simp only [Act.put, List.setIfInBounds_toArray, List.set_cons_zero, List.set_cons_succ])
   go_cut [] (fun wc => ∃ (kq : Nat) (x240000_15 : List ByteArray) (u240000 : Value), Aside0 (porticoref3_Parse.j2 kq t236 x240000_15 = some (r1, r2, r3)) ∧ Aside0 (kq ≤ kj2) ∧ Aside0 (Kd.R Kd.string 9 wc w.heap.size (fun k_ => some k_ ≠ (u240000 : Value).ownBlock) (.slice (some ad240) t236.length co18) t236) ∧ Aside0 (Kd.R Kd.string 9 wc w.heap.size (fun k_ => some k_ ≠ ((.slice (some ad240) t236.length co18) : Value).ownBlock) u240000 x240000_15) ∧ Aside0 (wc.heap[gb235]? = some (.cells #[(.slice none 0 0), (.slice none 0 0)] 25 (0, 0))) ∧ Aside0 (wc.heap[gb239]? = some (.cells #[u240000, (.slice none 0 0)] 25 (0, 0))) ∧ Aside0 (Below w.heap.size w wc))
   case first =>
    have H := HC16.out
    clear HC16
    by_cases c19 : (rdOf ByteArray.empty t236 0).toList = ([47] : List UInt8)
    ·
     rw [if_pos c19] at H
     have c19b0 : ((rdOf ByteArray.empty t236 0).toList == ([47] : List UInt8)) = true := beq_iff_eq.mpr c19
     have c19b1 : ((rdOf ByteArray.empty t236 0).toList != ([47] : List UInt8)) = false := bne_eq_false_iff_eq.mpr c19
     clear c19
     (first | rw [c19b0] | (simp only [i64_w, i32_w]; rw [c19b0]) | rw [c19b1] | skip)
     have H' := Aside0.mk H
     clear H
     go_wp2
     go_meet
     case rel => exact ⟨_, (([] : List ByteArray)), (.slice none 0 0), H', ⟨by have := HJ2.out; first | omega | exact Nat.le_refl _⟩, ⟨by (with_reducible repeat (first | apply Kd.R_alloc | apply Kd.R_drewN | apply Kd.R_drew)); exact Kd.R_mono HO_4.out (fun _ hk => (by simp [Value.ownBlock]))⟩, ⟨by first | exact Kd.R_nil _ _ _ _ _ | exact Kd.N_nil _ _ _ _ _ | exact Kd.V_nil _ _ _ _ _ | exact Kd.Q_nil _ _ _ _ _ | exact Kd.S_nil _ _ _ _ _⟩, ⟨by (with_reducible repeat (first | refine blk_drewN ?_ _ | refine blk_drew ?_ | refine blk_alloc ?_ _)); exact BK235.out⟩, ⟨by (with_reducible repeat (first | refine blk_drewN ?_ _ | refine blk_drew ?_ | refine blk_alloc ?_ _)); exact BK239.out⟩, ⟨by repeat (first | (with_reducible first | exact HB.out | apply below_alloc | apply pw_below_drewN | apply below_drew1 | refine below_set ?_ GE235.out | refine below_set ?_ GE239.out) | exact HB.out)⟩⟩
    rw [if_neg c19] at H
    have c19b0 : ((rdOf ByteArray.empty t236 0).toList == ([47] : List UInt8)) = false := beq_eq_false_iff_ne.mpr c19
    have c19b1 : ((rdOf ByteArray.empty t236 0).toList != ([47] : List UInt8)) = true := bne_iff_ne.mpr c19
    (first | rw [c19b0] | (simp only [i64_w, i32_w]; rw [c19b0]) | rw [c19b1] | skip)
    by_cases c20 : 1 ≤ ((rdOf ByteArray.empty t236 0).size : Int)
    rotate_left
    ·
     rw [if_neg c20] at H
     exact absurd H (by simp)
    rw [if_pos c20] at H
    have c20b0 := eq_true c20
    have c20b1 : decide (1 ≤ ((rdOf ByteArray.empty t236 0).size : Int)) = true := decide_eq_true c20
    clear c20
    replace H := Option.bind_eq_some_iff.mp H
    obtain ⟨t242, A210, H⟩ := H
    replace H : (porticoref3_Parse.l0 kj2 t236 t242 (t242.length : Int) 0 ([] : List ByteArray)) = some (r1, r2, r3) := H
    have A21 := Aside0.mk A210
    clear A210
    have H' := Aside0.mk H
    clear H
    have p241 : 0 ≤ (0 : Int) := (by omega)
    have q241 : 0 < (t236.length : Int) := of_decide_eq_true (by first | (with_reducible assumption) | assumption)
    obtain ⟨ad241, e241, hx241_0⟩ := Kd.at_string (Kd.R_reads' HO_4.out).2.2 0 p241 q241
    obtain rfl : ad240 = ad241 := (by injection e241)
    have qi241 : (0 < t236.length) = True := eq_true (by omega)
    (try rw [show ((0 : Int)).toNat = 0 from rfl] at hx241_0)
    (try rw [Addr.add_zero'] at hx241_0)
    replace p241 := eq_true p241
    replace q241 := eq_true q241
    go_wp2_with (first | ((with_reducible refine gate_callee (f := 33) rfl ?_); refine goesL_ (some 41) rfl rfl Tryd.func33 (by kernel_rfl) rfl #[.string ((rdOf ByteArray.empty t236 0).extract 1 (rdOf ByteArray.empty t236 0).size), .int .u8 47] rfl (by (try simp only [List.map_toArray, List.map_cons, List.map_nil]); first | done | rfl | (simp only [List.length_drop, List.length_take]; rfl)) ?_; (with_reducible refine (porticoref3_split.calls kj2 ((rdOf ByteArray.empty t236 0).extract 1 (rdOf ByteArray.empty t236 0).size) 47 t242 _ A21.out).mono ?_); rintro e w22 ⟨v243, rfl, ho0, hb⟩; refine ⟨_, rfl, ?_⟩; have n0_ := Aside0.mk (Kd.R_elder' (by (with_reducible repeat (first | apply Kd.R_alloc | apply Kd.R_drewN | apply Kd.R_drew)); exact HO_4.out) (Kd.R_base ho0) hb); have n1_ := Aside0.mk (Kd.R_lower (Kd.R_new' ho0 (Kd.R_lt (by (with_reducible repeat (first | apply Kd.R_alloc | apply Kd.R_drewN | apply Kd.R_drew)); exact HO_4.out))) (below_size (by repeat (first | (with_reducible first | exact HB.out | apply below_alloc | apply pw_below_drewN | apply below_drew1 | refine below_set ?_ GE235.out | refine below_set ?_ GE239.out) | exact HB.out)))); have n2_ := Aside0.mk (blk_below (g := gb235) (o := .cells #[.slice none 0 0, .slice none 0 0] 25 (0, 0)) (by (with_reducible repeat (first | refine blk_drewN ?_ _ | refine blk_drew ?_ | refine blk_alloc ?_ _)); exact BK235.out) hb); have n3_ := Aside0.mk (blk_below (g := gb239) (o := .cells #[.slice none 0 0, .slice none 0 0] 25 (0, 0)) (by (with_reducible repeat (first | refine blk_drewN ?_ _ | refine blk_drew ?_ | refine blk_alloc ?_ _)); exact BK239.out) hb); have n4_ := Aside0.mk (below_step (by repeat (first | (with_reducible first | exact HB.out | apply below_alloc | apply pw_below_drewN | apply below_drew1 | refine below_set ?_ GE235.out | refine below_set ?_ GE239.out) | exact HB.out)) hb); clear HO_4; clear BK235; clear BK239; clear HB; have HO_4 := n0_; have HO244 := n1_; have BK235 := n2_; have BK239 := n3_; have HB := n4_; clear n0_ n1_ n2_ n3_ n4_; (try clear hb); (try clear hb2); (try clear hk); (try clear hi); (try clear ho0); obtain ⟨Ao23, co23, eo23⟩ := Kd.R_slice HO244.out; subst eo23))
    go_loopg [43] kj2 (fun kq v43 w' => ∃ (x43_2 : Int) (x240000_2 : List ByteArray) (u240000 : Value), v43 = .int .i64 x43_2 ∧ Aside0 (porticoref3_Parse.l0 kq t236 t242 (t242.length : Int) x43_2 x240000_2 = some (r1, r2, r3)) ∧ Aside0 (kq ≤ kj2) ∧ Aside0 (Kd.R Kd.string 9 w' w.heap.size (fun k_ => some k_ ≠ ((.slice Ao23 t242.length co23) : Value).ownBlock ∧ some k_ ≠ (u240000 : Value).ownBlock) (.slice (some ad240) t236.length co18) t236) ∧ Aside0 (Kd.R Kd.string 9 w' w.heap.size (fun k_ => some k_ ≠ ((.slice (some ad240) t236.length co18) : Value).ownBlock ∧ some k_ ≠ (u240000 : Value).ownBlock) (.slice Ao23 t242.length co23) t242) ∧ Aside0 (Kd.R Kd.string 9 w' w.heap.size (fun k_ => some k_ ≠ ((.slice (some ad240) t236.length co18) : Value).ownBlock ∧ some k_ ≠ ((.slice Ao23 t242.length co23) : Value).ownBlock) u240000 x240000_2) ∧ Aside0 (w'.heap[gb235]? = some (.cells #[(.slice none 0 0), (.slice none 0 0)] 25 (0, 0))) ∧ Aside0 (w'.heap[gb239]? = some (.cells #[u240000, (.slice none 0 0)] 25 (0, 0))) ∧ Aside0 (Below w.heap.size w w'))
    case atStart => exact ⟨(0), (([] : List ByteArray)), (.slice none 0 0), (by first | rfl | (simp; done) | (simp [*]; done)), H', ⟨Nat.le_refl _⟩, ⟨by (with_reducible repeat (first | apply Kd.R_alloc | apply Kd.R_drewN | apply Kd.R_drew)); exact Kd.R_mono HO_4.out (fun _ hk => ⟨hk.2, (by simp [Value.ownBlock])⟩)⟩, ⟨by (with_reducible repeat (first | apply Kd.R_alloc | apply Kd.R_drewN | apply Kd.R_drew)); exact Kd.R_mono HO244.out (fun _ hk => ⟨hk.2, (by simp [Value.ownBlock])⟩)⟩, ⟨by first | exact Kd.R_nil _ _ _ _ _ | exact Kd.N_nil _ _ _ _ _ | exact Kd.V_nil _ _ _ _ _ | exact Kd.Q_nil _ _ _ _ _ | exact Kd.S_nil _ _ _ _ _⟩, ⟨by (with_reducible repeat (first | refine blk_drewN ?_ _ | refine blk_drew ?_ | refine blk_alloc ?_ _)); exact BK235.out⟩, ⟨by (with_reducible repeat (first | refine blk_drewN ?_ _ | refine blk_drew ?_ | refine blk_alloc ?_ _)); exact BK239.out⟩, ⟨by repeat (first | (with_reducible first | exact HB.out | apply below_alloc | apply pw_below_drewN | apply below_drew1 | refine below_set ?_ GE235.out | refine below_set ?_ GE239.out) | exact HB.out)⟩⟩
    case round =>
     clear H'
     try clear c1
     try clear p1
     try clear q1
     try clear hx1
     try clear qi1
     try clear c2
     try clear p2
     try clear q2
     try clear hx2
     try clear qi2
     try clear c3
     try clear c6
     try clear c6b0
     try clear c6b1
     try clear c8
     try clear c8b0
     try clear c8b1
     try clear c10
     try clear c10b0
     try clear c10b1
     try clear p11
     try clear q11
     try clear hx11
     try clear qi11
     try clear c13
     try clear c15
     try clear c15b0
     try clear c15b1
     try clear c19
     try clear c19b0
     try clear c19b1
     try clear c20
     try clear c20b0
     try clear c20b1
     try clear hcz14_0
     try clear hcz14_1
     try clear hfz14_0
     try clear hfz14_1
     try clear hx240_0
     try clear hx241_0
     try clear p1
     try clear p11
     try clear p2
     try clear p240
     try clear p241
     try clear q1
     try clear q11
     try clear q240
     try clear q241
     obtain ⟨x43_2, x240000_2, u240000, rfl, HA, HK2, HO_4, HO_41, HO_240000, BK235, BK239, HB⟩ := hrel
     cases gk with
     | zero => exact absurd HA.out (by simp [porticoref3_Parse.l0])
     | succ k2 =>
      have H := HA.out
      clear HA
      simp only [porticoref3_Parse.l0] at H
      by_cases c24 : x43_2 < (t242.length : Int)
      rotate_left
      ·
       rw [if_neg c24] at H
       have c24b0 : decide (x43_2 < (t242.length : Int)) = false := decide_eq_false c24
       clear c24
       have H' := Aside0.mk H
       clear H
       go_wp2
       go_meet
       case rel => exact ⟨_, (x240000_2), (u240000), H', ⟨by have := HJ2.out; have := HK2.out; first | omega | exact Nat.le_refl _⟩, ⟨by (with_reducible repeat (first | apply Kd.R_alloc | apply Kd.R_drewN | apply Kd.R_drew)); exact Kd.R_mono HO_4.out (fun _ hk => hk.2)⟩, ⟨by (with_reducible repeat (first | apply Kd.R_alloc | apply Kd.R_drewN | apply Kd.R_drew)); exact Kd.R_mono HO_240000.out (fun _ hk => hk.1)⟩, ⟨by (with_reducible repeat (first | refine blk_drewN ?_ _ | refine blk_drew ?_ | refine blk_alloc ?_ _)); exact BK235.out⟩, ⟨by (with_reducible repeat (first | refine blk_drewN ?_ _ | refine blk_drew ?_ | refine blk_alloc ?_ _)); exact BK239.out⟩, ⟨by repeat (first | (with_reducible first | exact HB.out | apply below_alloc | apply pw_below_drewN | apply below_drew1 | refine below_set ?_ GE235.out | refine below_set ?_ GE239.out) | exact HB.out)⟩⟩
      rw [if_pos c24] at H
      have c24b0 : decide (x43_2 < (t242.length : Int)) = true := decide_eq_true c24
      clear c24
      by_cases c25 : 0 ≤ x43_2
      rotate_left
      ·
       rw [if_neg c25] at H
       exact absurd H (by simp)
      rw [if_pos c25] at H
      have c25b0 : decide (0 ≤ x43_2) = true := decide_eq_true c25
      clear c25
      by_cases c26 : x43_2 < (t242.length : Int)
      rotate_left
      ·
       rw [if_neg c26] at H
       exact absurd H (by simp)
      rw [if_pos c26] at H
      have c26b0 : decide (x43_2 < (t242.length : Int)) = true := decide_eq_true c26
      clear c26
      replace H := Option.bind_eq_some_iff.mp H
      obtain ⟨⟨t246, t247⟩, A270, H⟩ := H
      replace H : (if t247 = true then (if x240000_2.length < 8796093022208 then (porticoref3_Parse.l0 k2 t236 t242 (t242.length : Int) (wrap64 (x43_2 + 1)) (x240000_2 ++ [t246])) else (none)) else (some (([] : List ByteArray), ([] : List (S32)), 1))) = some (r1, r2, r3) := H
      have A27 := Aside0.mk A270
      clear A270
      by_cases c28 : t247 = true
      rotate_left
      ·
       replace c28 := Bool.eq_false_iff.mpr c28
       subst c28
       have H1 : (some (([] : List ByteArray), ([] : List (S32)), 1)) = some (r1, r2, r3) := by rw [if_neg (show ¬ (false = true) by decide)] at H; exact H
       clear H
       have H := H1
       clear H1
       simp only [Option.some.injEq, Prod.mk.injEq] at H
       obtain ⟨rfl, rfl, rfl⟩ := H
       have p245 : 0 ≤ (x43_2 : Int) := of_decide_eq_true (by first | (with_reducible assumption) | assumption)
       have q245 : x43_2 < (t242.length : Int) := of_decide_eq_true (by first | (with_reducible assumption) | assumption)
       obtain ⟨ad245, e245, hx245_0⟩ := Kd.at_string (Kd.R_reads' HO_41.out).2.2 x43_2 p245 q245
       cases e245
       replace p245 := eq_true p245
       replace q245 := eq_true q245
       go_wp2_with (first | ((with_reducible refine gate_callee (f := 34) rfl ?_); refine goesL_ (some 49) rfl rfl Tryd.func34 (by kernel_rfl) rfl #[.string (rdOf ByteArray.empty t242 x43_2)] rfl (by (try simp only [List.map_toArray, List.map_cons, List.map_nil]); first | done | rfl | (simp only [List.length_drop, List.length_take]; rfl)) ?_; (with_reducible refine (porticoref3_Decode.calls k2 (rdOf ByteArray.empty t242 x43_2) t246 false _ A27.out).mono ?_); rintro e w36 ⟨rfl, hb⟩; refine ⟨_, rfl, ?_⟩; have n0_ := Aside0.mk (Kd.R_below (by (with_reducible repeat (first | apply Kd.R_alloc | apply Kd.R_drewN | apply Kd.R_drew)); exact HO_4.out) hb); have n1_ := Aside0.mk (Kd.R_below (by (with_reducible repeat (first | apply Kd.R_alloc | apply Kd.R_drewN | apply Kd.R_drew)); exact HO_41.out) hb); have n2_ := Aside0.mk (Kd.R_below (by (with_reducible repeat (first | apply Kd.R_alloc | apply Kd.R_drewN | apply Kd.R_drew)); exact HO_240000.out) hb); have n3_ := Aside0.mk (blk_below (g := gb235) (o := .cells #[.slice none 0 0, .slice none 0 0] 25 (0, 0)) (by (with_reducible repeat (first | refine blk_drewN ?_ _ | refine blk_drew ?_ | refine blk_alloc ?_ _)); exact BK235.out) hb); have n4_ := Aside0.mk (blk_below (g := gb239) (o := .cells #[u240000, .slice none 0 0] 25 (0, 0)) (by (with_reducible repeat (first | refine blk_drewN ?_ _ | refine blk_drew ?_ | refine blk_alloc ?_ _)); exact BK239.out) hb); have n5_ := Aside0.mk (below_step (by repeat (first | (with_reducible first | exact HB.out | apply below_alloc | apply pw_below_drewN | apply below_drew1 | refine below_set ?_ GE235.out | refine below_set ?_ GE239.out) | exact HB.out)) hb); clear HO_4; clear HO_41; clear HO_240000; clear BK235; clear BK239; clear HB; have HO_4 := n0_; have HO_41 := n1_; have HO_240000 := n2_; have BK235 := n3_; have BK239 := n4_; have HB := n5_; clear n0_ n1_ n2_ n3_ n4_ n5_; (try clear hb); (try clear hb2); (try clear hk); (try clear hi); have hnb37 := NB235_239.out; have hnc37 := NB239_235.out; have hcz38_0 : w36.cell? ⟨gb235, 0, none⟩ = some (.slice none 0 0) := (blk_cell BK235.out 0).trans rfl; have hcz38_1 : w36.cell? ⟨gb235, 1, none⟩ = some (.slice none 0 0) := (blk_cell BK235.out 1).trans rfl; have hfz38_0 := blk_frozen BK235.out 0; have hfz38_1 := blk_frozen BK235.out 1))
       refine bodyPost_ret (results_ct rfl _ _ gb235 25 #[.slice none 0 0, .slice none 0 0] (0, 0) _ rfl (by (with_reducible repeat (first | refine blk_drewN ?_ _ | refine blk_drew ?_ | refine blk_alloc ?_ _)); refine blk_put (cs := #[.slice none 0 0, .slice none 0 0]) ?_ 1 _ rfl; (with_reducible repeat (first | refine blk_drewN ?_ _ | refine blk_drew ?_ | refine blk_alloc ?_ _)); refine blk_put (cs := #[.slice none 0 0, .slice none 0 0]) ?_ 0 _ rfl; (with_reducible repeat (first | refine blk_drewN ?_ _ | refine blk_drew ?_ | refine blk_alloc ?_ _)); exact BK235.out) Tryd.underlying25 rfl (by kernel_rfl)) rfl ?_
       exact ⟨_, _, by first | rfl | (simp [errW_none, errW_some] <;> rfl) | (simp [*, errW_none, errW_some] <;> rfl), by first | exact Kd.R_nil _ _ _ _ _ | exact Kd.N_nil _ _ _ _ _ | exact Kd.V_nil _ _ _ _ _ | exact Kd.Q_nil _ _ _ _ _ | exact Kd.S_nil _ _ _ _ _, by first | exact Kd.R_nil _ _ _ _ _ | exact Kd.N_nil _ _ _ _ _ | exact Kd.V_nil _ _ _ _ _ | exact Kd.Q_nil _ _ _ _ _ | exact Kd.S_nil _ _ _ _ _, by repeat (first | (with_reducible first | exact HB.out | apply below_alloc | apply pw_below_drewN | apply below_drew1 | refine below_set ?_ GE235.out | refine below_set ?_ GE239.out) | exact HB.out)⟩
      subst c28
      have H1 : (if x240000_2.length < 8796093022208 then (porticoref3_Parse.l0 k2 t236 t242 (t242.length : Int) (wrap64 (x43_2 + 1)) (x240000_2 ++ [t246])) else (none)) = some (r1, r2, r3) := by rw [if_pos rfl] at H; exact H
      clear H
      have H := H1
      clear H1
      by_cases c29 : x240000_2.length < 8796093022208
      rotate_left
      ·
       rw [if_neg c29] at H
       exact absurd H (by simp)
      rw [if_pos c29] at H
      have LMc29 := Aside0.mk c29
      clear c29
      obtain ⟨y248, hy248⟩ : ∃ y_ : List ByteArray, y_ = (x240000_2 ++ [t246]) := ⟨_, rfl⟩
      replace H : (porticoref3_Parse.l0 k2 t236 t242 (t242.length : Int) (wrap64 (x43_2 + 1)) y248) = some (r1, r2, r3) := by first | (rw [hy248]; with_reducible exact H) | (have H2_ := (Option.bind_some _ _).symm.trans H; rw [hy248]; with_reducible exact H2_) | (have H2_ := (Option.bind_some _ _).symm.trans H; with_reducible exact H2_) | with_reducible exact H | (rw [hy248]; exact H) | exact H
      have Ny248 := Aside0.mk hy248
      clear hy248
      have H' := Aside0.mk H
      clear H
      have p245 : 0 ≤ (x43_2 : Int) := of_decide_eq_true (by first | (with_reducible assumption) | assumption)
      have q245 : x43_2 < (t242.length : Int) := of_decide_eq_true (by first | (with_reducible assumption) | assumption)
      obtain ⟨ad245, e245, hx245_0⟩ := Kd.at_string (Kd.R_reads' HO_41.out).2.2 x43_2 p245 q245
      cases e245
      replace p245 := eq_true p245
      replace q245 := eq_true q245
      go_wp2_with (first | ((with_reducible refine gate_callee (f := 34) rfl ?_); refine goesL_ (some 49) rfl rfl Tryd.func34 (by kernel_rfl) rfl #[.string (rdOf ByteArray.empty t242 x43_2)] rfl (by (try simp only [List.map_toArray, List.map_cons, List.map_nil]); first | done | rfl | (simp only [List.length_drop, List.length_take]; rfl)) ?_; (with_reducible refine (porticoref3_Decode.calls k2 (rdOf ByteArray.empty t242 x43_2) t246 true _ A27.out).mono ?_); rintro e w30 ⟨rfl, hb⟩; refine ⟨_, rfl, ?_⟩; have n0_ := Aside0.mk (Kd.R_below (by (with_reducible repeat (first | apply Kd.R_alloc | apply Kd.R_drewN | apply Kd.R_drew)); exact HO_4.out) hb); have n1_ := Aside0.mk (Kd.R_below (by (with_reducible repeat (first | apply Kd.R_alloc | apply Kd.R_drewN | apply Kd.R_drew)); exact HO_41.out) hb); have n2_ := Aside0.mk (Kd.R_below (by (with_reducible repeat (first | apply Kd.R_alloc | apply Kd.R_drewN | apply Kd.R_drew)); exact HO_240000.out) hb); have n3_ := Aside0.mk (blk_below (g := gb235) (o := .cells #[.slice none 0 0, .slice none 0 0] 25 (0, 0)) (by (with_reducible repeat (first | refine blk_drewN ?_ _ | refine blk_drew ?_ | refine blk_alloc ?_ _)); exact BK235.out) hb); have n4_ := Aside0.mk (blk_below (g := gb239) (o := .cells #[u240000, .slice none 0 0] 25 (0, 0)) (by (with_reducible repeat (first | refine blk_drewN ?_ _ | refine blk_drew ?_ | refine blk_alloc ?_ _)); exact BK239.out) hb); have n5_ := Aside0.mk (below_step (by repeat (first | (with_reducible first | exact HB.out | apply below_alloc | apply pw_below_drewN | apply below_drew1 | refine below_set ?_ GE235.out | refine below_set ?_ GE239.out) | exact HB.out)) hb); clear HO_4; clear HO_41; clear HO_240000; clear BK235; clear BK239; clear HB; have HO_4 := n0_; have HO_41 := n1_; have HO_240000 := n2_; have BK235 := n3_; have BK239 := n4_; have HB := n5_; clear n0_ n1_ n2_ n3_ n4_ n5_; (try clear hb); (try clear hb2); (try clear hk); (try clear hi); have hnb31 := NB239_235.out; have hnc31 := NB235_239.out; have hcz32_0 : w30.cell? ⟨gb239, 0, none⟩ = some (u240000) := (blk_cell BK239.out 0).trans rfl; have hcz32_1 : w30.cell? ⟨gb239, 1, none⟩ = some (.slice none 0 0) := (blk_cell BK239.out 1).trans rfl; have hfz32_0 := blk_frozen BK239.out 0; have hfz32_1 := blk_frozen BK239.out 1) | ((with_reducible refine gate_builtin (b := .append) (xs := #[.tmp 56, .tmp 58]) rfl ?_); (try (refine gate_guard (by rfl) ?_; dsimp only)); at_builtin; refine Kd.R_append Kd.string (w0 := w) w.heap.size rfl (.tmp 56) (.tmp 58) 22 9 (.string ⟨#[]⟩) 16 rfl Tryd.underlying22 info9 rfl (by decide) (by omega) u240000 x240000_2 t246 [.string t246] (fun k_ => some k_ ≠ (.slice (some ad240) t236.length co18 : Value).ownBlock ∧ some k_ ≠ (.slice (some ad245) t242.length co23 : Value).ownBlock) (fun _ => False) rfl rfl ?aP (fun _ hk => hk.elim) ?aF ?aO ?aB ?aS ?aL ?_; (case aP => exact rfl); (case aB => exact (by repeat (first | (with_reducible first | exact HB.out | apply below_alloc | apply pw_below_drewN | apply below_drew1 | refine below_set ?_ GE235.out | refine below_set ?_ GE239.out) | exact HB.out))); (case aF => exact (fun k_ hk => ⟨Kd.fresh' (Kd.R_lt (by (with_reducible repeat (first | apply Kd.R_alloc | apply Kd.R_drewN | apply Kd.R_drew)); exact HO_4.out)) k_ hk, Kd.fresh' (Kd.R_lt (by (with_reducible repeat (first | apply Kd.R_alloc | apply Kd.R_drewN | apply Kd.R_drew)); exact HO_41.out)) k_ hk⟩)); (case aO => exact (by (with_reducible repeat (first | apply Kd.R_alloc | apply Kd.R_drewN | apply Kd.R_drew)); exact HO_240000.out)); (case aS => exact (below_size (by repeat (first | (with_reducible first | exact HB.out | apply below_alloc | apply pw_below_drewN | apply below_drew1 | refine below_set ?_ GE235.out | refine below_set ?_ GE239.out) | exact HB.out)))); (case aL => have := LMc29.out; omega); intro v249 w33 ho hb hg hat; rw [← Ny248.out] at ho; have n0_ := Aside0.mk (Kd.R_after (ok := (fun k_ => some k_ ≠ (.slice (some ad245) t242.length co23 : Value).ownBlock)) (by (with_reducible repeat (first | apply Kd.R_alloc | apply Kd.R_drewN | apply Kd.R_drew)); exact HO_4.out) hg hat); have n1_ := Aside0.mk (Kd.R_after (ok := (fun k_ => some k_ ≠ (.slice (some ad240) t236.length co18 : Value).ownBlock)) (by (with_reducible repeat (first | apply Kd.R_alloc | apply Kd.R_drewN | apply Kd.R_drew)); exact HO_41.out) hg hat); have n2_ := Aside0.mk (blk_grown (g := gb235) (o := .cells #[.slice none 0 0, .slice none 0 0] 25 (0, 0)) (by (with_reducible repeat (first | refine blk_drewN ?_ _ | refine blk_drew ?_ | refine blk_alloc ?_ _)); exact BK235.out) hg (Kd.R_ne HO_240000.out BK235.out (by decide))); have n3_ := Aside0.mk (blk_grown (g := gb239) (o := .cells #[u240000, .slice none 0 0] 25 (0, 0)) (by (with_reducible repeat (first | refine blk_drewN ?_ _ | refine blk_drew ?_ | refine blk_alloc ?_ _)); exact BK239.out) hg (Kd.R_ne HO_240000.out BK239.out (by decide))); have n4_ := Aside0.mk (hb); have n5_ := Aside0.mk (ho); clear HO_4; clear HO_41; clear BK235; clear BK239; clear HB; clear HO_240000; have HO_4 := n0_; have HO_41 := n1_; have BK235 := n2_; have BK239 := n3_; have HB := n4_; have HO250 := n5_; clear n0_ n1_ n2_ n3_ n4_ n5_; clear ho hb hg hat; obtain ⟨Ao34, co34, eo34⟩ := Kd.R_slice HO250.out; subst eo34; have hcz35_0 : w33.cell? ⟨gb239, 0, none⟩ = some (u240000) := (blk_cell BK239.out 0).trans rfl; have hcz35_1 : w33.cell? ⟨gb239, 1, none⟩ = some (.slice none 0 0) := (blk_cell BK239.out 1).trans rfl; have hfz35_0 := blk_frozen BK239.out 0; have hfz35_1 := blk_frozen BK239.out 1))
      go_roundg k2
      case measure => have := HJ2.out; have := HK2.out; omega
      case rel => exact ⟨(wrap64 (x43_2 + 1)), (y248), (.slice Ao34 y248.length co34), (by first | rfl | (simp; done) | (simp [*]; done)), H', ⟨by have := HJ2.out; have := HK2.out; omega⟩, ⟨by (with_reducible repeat (first | apply Kd.R_alloc | apply Kd.R_drewN | apply Kd.R_drew)); exact Kd.R_mono (Kd.R_far (p := ⟨gb239, 0, none⟩) (Kd.R_types HO_4.out BK239.out (by decide)) (fun _ hk => hk.2) (.slice Ao34 y248.length co34)) (fun _ hk => ⟨hk.1.1, hk.1.2⟩)⟩, ⟨by (with_reducible repeat (first | apply Kd.R_alloc | apply Kd.R_drewN | apply Kd.R_drew)); exact Kd.R_mono (Kd.R_far (p := ⟨gb239, 0, none⟩) (Kd.R_types HO_41.out BK239.out (by decide)) (fun _ hk => hk.2) (.slice Ao34 y248.length co34)) (fun _ hk => ⟨hk.1.1, hk.1.2⟩)⟩, ⟨by (with_reducible repeat (first | apply Kd.R_alloc | apply Kd.R_drewN | apply Kd.R_drew)); exact Kd.R_mono (Kd.R_far (p := ⟨gb239, 0, none⟩) (Kd.R_types HO250.out BK239.out (by decide)) (fun _ hk => hk.2) (.slice Ao34 y248.length co34)) (fun _ hk => ⟨hk.1.1, hk.1.2⟩)⟩, ⟨by (with_reducible repeat (first | refine blk_drewN ?_ _ | refine blk_drew ?_ | refine blk_alloc ?_ _)); refine blk_far ?_ NB235_239.out _; (with_reducible repeat (first | refine blk_drewN ?_ _ | refine blk_drew ?_ | refine blk_alloc ?_ _)); exact BK235.out⟩, ⟨by (with_reducible repeat (first | refine blk_drewN ?_ _ | refine blk_drew ?_ | refine blk_alloc ?_ _)); refine blk_put (cs := #[u240000, .slice none 0 0]) ?_ 0 _ rfl; (with_reducible repeat (first | refine blk_drewN ?_ _ | refine blk_drew ?_ | refine blk_alloc ?_ _)); exact BK239.out⟩, ⟨by repeat (first | (with_reducible first | exact HB.out | apply below_alloc | apply pw_below_drewN | apply below_drew1 | refine below_set ?_ GE235.out | refine below_set ?_ GE239.out) | exact HB.out)⟩⟩
   case rest =>
    clear HC16
    try clear c1
    try clear p1
    try clear q1
    try clear hx1
    try clear qi1
    try clear c2
    try clear p2
    try clear q2
    try clear hx2
    try clear qi2
    try clear c3
    try clear c6
    try clear c6b0
    try clear c6b1
    try clear p6
    try clear c8
    try clear c8b0
    try clear c8b1
    try clear c10
    try clear c10b0
    try clear c10b1
    try clear p11
    try clear q11
    try clear hx11
    try clear qi11
    try clear c13
    try clear c15
    try clear c15b0
    try clear c15b1
    try clear c19
    try clear c19b0
    try clear c19b1
    try clear c20
    try clear c20b0
    try clear c20b1
    try clear c24
    try clear c24b0
    try clear p24
    try clear q24
    try clear hx24
    try clear qi24
    try clear c25
    try clear c25b0
    try clear c26
    try clear c26b0
    try clear c28
    try clear c29
    try clear c31
    try clear c33
    try clear c34
    try clear c37
    try clear hcz14_0
    try clear hcz14_1
    try clear hcz32_0
    try clear hcz32_1
    try clear hcz35_0
    try clear hcz35_1
    try clear hcz38_0
    try clear hcz38_1
    try clear hfz14_0
    try clear hfz14_1
    try clear hfz32_0
    try clear hfz32_1
    try clear hfz35_0
    try clear hfz35_1
    try clear hfz38_0
    try clear hfz38_1
    try clear hx240_0
    try clear hx241_0
    try clear hx245_0
    try clear p1
    try clear p11
    try clear p2
    try clear p240
    try clear p241
    try clear p245
    try clear q1
    try clear q11
    try clear q2
    try clear q240
    try clear q241
    try clear q245
    obtain ⟨kq, x240000_15, u240000, HA, HJ15, HO_4, HO_240000, BK235, BK239, HB⟩ := hcut
    cases kq with
    | zero => exact absurd HA.out (by simp [porticoref3_Parse.j2])
    | succ kj15 =>
     have H := HA.out
     clear HA
     simp only [porticoref3_Parse.j2] at H
     by_cases c39 : (t236.length : Int) = 2
     rotate_left
     ·
      rw [if_neg c39] at H
      have c39b0 : ((t236.length : Int) == 2) = false := beq_eq_false_iff_ne.mpr c39
      have c39b1 : ((t236.length : Int) != 2) = true := bne_iff_ne.mpr c39
      replace H := Option.bind_eq_some_iff.mp H
      obtain ⟨t272, A1120, H⟩ := H
      replace H : (if t272 = true then (some (x240000_15, ([] : List (S32)), 0)) else (some (([] : List ByteArray), ([] : List (S32)), 1))) = some (r1, r2, r3) := H
      have A112 := Aside0.mk A1120
      clear A1120
      by_cases c113 : t272 = true
      ·
       subst c113
       have H1 : (some (x240000_15, ([] : List (S32)), 0)) = some (r1, r2, r3) := by rw [if_pos rfl] at H; exact H
       clear H
       have H := H1
       clear H1
       simp only [Option.some.injEq, Prod.mk.injEq] at H
       obtain ⟨rfl, rfl, rfl⟩ := H
       have hnb114 := NB239_235.out
       have hnc114 := NB235_239.out
       have hcz115_0 : wc.cell? ⟨gb239, 0, none⟩ = some (u240000) := (blk_cell BK239.out 0).trans rfl
       have hcz115_1 : wc.cell? ⟨gb239, 1, none⟩ = some (.slice none 0 0) := (blk_cell BK239.out 1).trans rfl
       have hfz115_0 := blk_frozen BK239.out 0
       have hfz115_1 := blk_frozen BK239.out 1
       obtain ⟨Ao116, co116, eo116⟩ := Kd.R_slice HO_240000.out
       subst eo116
       go_wp2_with (first | ((with_reducible refine gate_callee (f := 20) rfl ?_); refine goesL_ (some 114) rfl rfl Tryd.func20 (by kernel_rfl) rfl #[.agg #[.slice Ao116 x240000_15.length co116, .slice none 0 0]] rfl (by (try simp only [List.map_toArray, List.map_cons, List.map_nil]); first | done | rfl | (simp only [List.length_drop, List.length_take]; rfl)) ?_; (refine (porticoref3_Right.calls kj15 _ _ x240000_15 _ _ ([] : List (S32)) true _ ?side1 ?side2 ?side3 ?side4 A112.out).mono ?_); (case side1 => repeat (first | exact (Kd.R_reads' HO_240000.out).2.2 | (with_reducible refine Kd.C_alloc ?_ _) | (with_reducible refine Kd.C_drewN ?_ _) | (with_reducible refine Kd.C_drew ?_))); (case side2 => exact (Kd.R_reads' HO_240000.out).2.1); (case side3 => exact Kd.C_nil _ _); (case side4 => exact Nat.le_refl _); rintro e w117 ⟨rfl, hb⟩; refine ⟨_, rfl, ?_⟩; have n0_ := Aside0.mk (Kd.R_below (by (with_reducible repeat (first | apply Kd.R_alloc | apply Kd.R_drewN | apply Kd.R_drew)); exact HO_4.out) hb); have n1_ := Aside0.mk (Kd.R_below (by (with_reducible repeat (first | apply Kd.R_alloc | apply Kd.R_drewN | apply Kd.R_drew)); exact HO_240000.out) hb); have n2_ := Aside0.mk (blk_below (g := gb235) (o := .cells #[.slice none 0 0, .slice none 0 0] 25 (0, 0)) (by (with_reducible repeat (first | refine blk_drewN ?_ _ | refine blk_drew ?_ | refine blk_alloc ?_ _)); exact BK235.out) hb); have n3_ := Aside0.mk (blk_below (g := gb239) (o := .cells #[.slice Ao116 x240000_15.length co116, .slice none 0 0] 25 (0, 0)) (by (with_reducible repeat (first | refine blk_drewN ?_ _ | refine blk_drew ?_ | refine blk_alloc ?_ _)); exact BK239.out) hb); have n4_ := Aside0.mk (below_step (by repeat (first | (with_reducible first | exact HB.out | apply below_alloc | apply pw_below_drewN | apply below_drew1 | refine below_set ?_ GE235.out | refine below_set ?_ GE239.out) | exact HB.out)) hb); clear HO_4; clear HO_240000; clear BK235; clear BK239; clear HB; have HO_4 := n0_; have HO_240000 := n1_; have BK235 := n2_; have BK239 := n3_; have HB := n4_; clear n0_ n1_ n2_ n3_ n4_; (try clear hb); (try clear hb2); (try clear hk); (try clear hi); have hcz118_0 : w117.cell? ⟨gb239, 0, none⟩ = some (.slice Ao116 x240000_15.length co116) := (blk_cell BK239.out 0).trans rfl; have hcz118_1 : w117.cell? ⟨gb239, 1, none⟩ = some (.slice none 0 0) := (blk_cell BK239.out 1).trans rfl; have hfz118_0 := blk_frozen BK239.out 0; have hfz118_1 := blk_frozen BK239.out 1; have hcz119_0 : w117.cell? ⟨gb235, 0, none⟩ = some (.slice none 0 0) := (blk_cell BK235.out 0).trans rfl; have hcz119_1 : w117.cell? ⟨gb235, 1, none⟩ = some (.slice none 0 0) := (blk_cell BK235.out 1).trans rfl; have hfz119_0 := blk_frozen BK235.out 0; have hfz119_1 := blk_frozen BK235.out 1))
       refine bodyPost_ret (results_ct rfl _ _ gb235 25 #[.slice Ao116 x240000_15.length co116, .slice none 0 0] (0, 0) _ rfl (by (with_reducible repeat (first | refine blk_drewN ?_ _ | refine blk_drew ?_ | refine blk_alloc ?_ _)); refine blk_put (cs := #[.slice Ao116 x240000_15.length co116, .slice none 0 0]) ?_ 1 _ rfl; (with_reducible repeat (first | refine blk_drewN ?_ _ | refine blk_drew ?_ | refine blk_alloc ?_ _)); refine blk_put (cs := #[.slice none 0 0, .slice none 0 0]) ?_ 0 _ rfl; (with_reducible repeat (first | refine blk_drewN ?_ _ | refine blk_drew ?_ | refine blk_alloc ?_ _)); exact BK235.out) Tryd.underlying25 rfl (by kernel_rfl)) rfl ?_
       exact ⟨_, _, by first | rfl | (simp [errW_none, errW_some] <;> rfl) | (simp [*, errW_none, errW_some] <;> rfl), by (with_reducible repeat (first | apply Kd.R_alloc | apply Kd.R_drewN | apply Kd.R_drew)); exact Kd.R_mono (Kd.R_far (p := ⟨gb235, 1, none⟩) (Kd.R_far (p := ⟨gb235, 0, none⟩) (Kd.R_types HO_240000.out BK235.out (by decide)) (fun _ hk => hk.2) (.slice Ao116 x240000_15.length co116)) (fun _ hk => hk.2) (.slice none 0 0)) (fun _ hk => trivial), by first | exact Kd.R_nil _ _ _ _ _ | exact Kd.N_nil _ _ _ _ _ | exact Kd.V_nil _ _ _ _ _ | exact Kd.Q_nil _ _ _ _ _ | exact Kd.S_nil _ _ _ _ _, by repeat (first | (with_reducible first | exact HB.out | apply below_alloc | apply pw_below_drewN | apply below_drew1 | refine below_set ?_ GE235.out | refine below_set ?_ GE239.out) | exact HB.out)⟩
      replace c113 := Bool.eq_false_iff.mpr c113
      subst c113
      have H1 : (some (([] : List ByteArray), ([] : List (S32)), 1)) = some (r1, r2, r3) := by rw [if_neg (show ¬ (false = true) by decide)] at H; exact H
      clear H
      have H := H1
      clear H1
      simp only [Option.some.injEq, Prod.mk.injEq] at H
      obtain ⟨rfl, rfl, rfl⟩ := H
      have hnb120 := NB239_235.out
      have hnc120 := NB235_239.out
      have hcz121_0 : wc.cell? ⟨gb239, 0, none⟩ = some (u240000) := (blk_cell BK239.out 0).trans rfl
      have hcz121_1 : wc.cell? ⟨gb239, 1, none⟩ = some (.slice none 0 0) := (blk_cell BK239.out 1).trans rfl
      have hfz121_0 := blk_frozen BK239.out 0
      have hfz121_1 := blk_frozen BK239.out 1
      obtain ⟨Ao122, co122, eo122⟩ := Kd.R_slice HO_240000.out
      subst eo122
      go_wp2_with (first | ((with_reducible refine gate_callee (f := 20) rfl ?_); refine goesL_ (some 114) rfl rfl Tryd.func20 (by kernel_rfl) rfl #[.agg #[.slice Ao122 x240000_15.length co122, .slice none 0 0]] rfl (by (try simp only [List.map_toArray, List.map_cons, List.map_nil]); first | done | rfl | (simp only [List.length_drop, List.length_take]; rfl)) ?_; (refine (porticoref3_Right.calls kj15 _ _ x240000_15 _ _ ([] : List (S32)) false _ ?side1 ?side2 ?side3 ?side4 A112.out).mono ?_); (case side1 => repeat (first | exact (Kd.R_reads' HO_240000.out).2.2 | (with_reducible refine Kd.C_alloc ?_ _) | (with_reducible refine Kd.C_drewN ?_ _) | (with_reducible refine Kd.C_drew ?_))); (case side2 => exact (Kd.R_reads' HO_240000.out).2.1); (case side3 => exact Kd.C_nil _ _); (case side4 => exact Nat.le_refl _); rintro e w123 ⟨rfl, hb⟩; refine ⟨_, rfl, ?_⟩; have n0_ := Aside0.mk (Kd.R_below (by (with_reducible repeat (first | apply Kd.R_alloc | apply Kd.R_drewN | apply Kd.R_drew)); exact HO_4.out) hb); have n1_ := Aside0.mk (Kd.R_below (by (with_reducible repeat (first | apply Kd.R_alloc | apply Kd.R_drewN | apply Kd.R_drew)); exact HO_240000.out) hb); have n2_ := Aside0.mk (blk_below (g := gb235) (o := .cells #[.slice none 0 0, .slice none 0 0] 25 (0, 0)) (by (with_reducible repeat (first | refine blk_drewN ?_ _ | refine blk_drew ?_ | refine blk_alloc ?_ _)); exact BK235.out) hb); have n3_ := Aside0.mk (blk_below (g := gb239) (o := .cells #[.slice Ao122 x240000_15.length co122, .slice none 0 0] 25 (0, 0)) (by (with_reducible repeat (first | refine blk_drewN ?_ _ | refine blk_drew ?_ | refine blk_alloc ?_ _)); exact BK239.out) hb); have n4_ := Aside0.mk (below_step (by repeat (first | (with_reducible first | exact HB.out | apply below_alloc | apply pw_below_drewN | apply below_drew1 | refine below_set ?_ GE235.out | refine below_set ?_ GE239.out) | exact HB.out)) hb); clear HO_4; clear HO_240000; clear BK235; clear BK239; clear HB; have HO_4 := n0_; have HO_240000 := n1_; have BK235 := n2_; have BK239 := n3_; have HB := n4_; clear n0_ n1_ n2_ n3_ n4_; (try clear hb); (try clear hb2); (try clear hk); (try clear hi); have hcz124_0 : w123.cell? ⟨gb235, 0, none⟩ = some (.slice none 0 0) := (blk_cell BK235.out 0).trans rfl; have hcz124_1 : w123.cell? ⟨gb235, 1, none⟩ = some (.slice none 0 0) := (blk_cell BK235.out 1).trans rfl; have hfz124_0 := blk_frozen BK235.out 0; have hfz124_1 := blk_frozen BK235.out 1))
      refine bodyPost_ret (results_ct rfl _ _ gb235 25 #[.slice none 0 0, .slice none 0 0] (0, 0) _ rfl (by (with_reducible repeat (first | refine blk_drewN ?_ _ | refine blk_drew ?_ | refine blk_alloc ?_ _)); refine blk_put (cs := #[.slice none 0 0, .slice none 0 0]) ?_ 1 _ rfl; (with_reducible repeat (first | refine blk_drewN ?_ _ | refine blk_drew ?_ | refine blk_alloc ?_ _)); refine blk_put (cs := #[.slice none 0 0, .slice none 0 0]) ?_ 0 _ rfl; (with_reducible repeat (first | refine blk_drewN ?_ _ | refine blk_drew ?_ | refine blk_alloc ?_ _)); exact BK235.out) Tryd.underlying25 rfl (by kernel_rfl)) rfl ?_
      exact ⟨_, _, by first | rfl | (simp [errW_none, errW_some] <;> rfl) | (simp [*, errW_none, errW_some] <;> rfl), by first | exact Kd.R_nil _ _ _ _ _ | exact Kd.N_nil _ _ _ _ _ | exact Kd.V_nil _ _ _ _ _ | exact Kd.Q_nil _ _ _ _ _ | exact Kd.S_nil _ _ _ _ _, by first | exact Kd.R_nil _ _ _ _ _ | exact Kd.N_nil _ _ _ _ _ | exact Kd.V_nil _ _ _ _ _ | exact Kd.Q_nil _ _ _ _ _ | exact Kd.S_nil _ _ _ _ _, by repeat (first | (with_reducible first | exact HB.out | apply below_alloc | apply pw_below_drewN | apply below_drew1 | refine below_set ?_ GE235.out | refine below_set ?_ GE239.out) | exact HB.out)⟩
     rw [if_pos c39] at H
     have c39b0 : ((t236.length : Int) == 2) = true := beq_iff_eq.mpr c39
     have c39b1 : ((t236.length : Int) != 2) = false := bne_eq_false_iff_eq.mpr c39
     clear c39
     by_cases c40 : 1 < (t236.length : Int)
     rotate_left
     ·
      rw [if_neg c40] at H
      exact absurd H (by simp)
     rw [if_pos c40] at H
     have c40b0 : decide (1 < (t236.length : Int)) = true := decide_eq_true c40
     have c40b1 : decide (1 < t236.length) = true := decide_eq_true (by omega)
     clear c40
     replace H := Option.bind_eq_some_iff.mp H
     obtain ⟨t252, A410, H⟩ := H
     replace H : (porticoref3_Parse.l1 kj15 t252 (t252.length : Int) 0 x240000_15 ([] : List (S32))) = some (r1, r2, r3) := H
     have A41 := Aside0.mk A410
     clear A410
     have H' := Aside0.mk H
     clear H
     have p251 : 0 ≤ (1 : Int) := (by omega)
     have q251 : 1 < (t236.length : Int) := of_decide_eq_true (by first | (with_reducible assumption) | assumption)
     obtain ⟨ad251, e251, hx251_0⟩ := Kd.at_string (Kd.R_reads' HO_4.out).2.2 1 p251 q251
     obtain rfl : ad240 = ad251 := (by injection e251)
     (try simp only [show (1 : Int).toNat = 1 from rfl, Nat.reduceMul, Nat.reduceEqDiff, Go.Addr.add, ↓reduceIte] at hx251_0)
     have qi251 : (1 < t236.length) = True := eq_true (by omega)
     (try rw [show ((1 : Int)).toNat = 1 from rfl] at hx251_0)
     replace p251 := eq_true p251
     replace q251 := eq_true q251
     go_wp2_with (first | ((with_reducible refine gate_callee (f := 33) rfl ?_); refine goesL_ (some 68) rfl rfl Tryd.func33 (by kernel_rfl) rfl #[.string (rdOf ByteArray.empty t236 1), .int .u8 38] rfl (by (try simp only [List.map_toArray, List.map_cons, List.map_nil]); first | done | rfl | (simp only [List.length_drop, List.length_take]; rfl)) ?_; (with_reducible refine (porticoref3_split.calls kj15 (rdOf ByteArray.empty t236 1) 38 t252 _ A41.out).mono ?_); rintro e w42 ⟨v253, rfl, ho0, hb⟩; refine ⟨_, rfl, ?_⟩; have n0_ := Aside0.mk (Kd.R_elder' (by (with_reducible repeat (first | apply Kd.R_alloc | apply Kd.R_drewN | apply Kd.R_drew)); exact HO_4.out) (Kd.R_base ho0) hb); have n1_ := Aside0.mk (Kd.R_elder' (by (with_reducible repeat (first | apply Kd.R_alloc | apply Kd.R_drewN | apply Kd.R_drew)); exact HO_240000.out) (Kd.R_base ho0) hb); have n2_ := Aside0.mk (Kd.R_lower (Kd.R_new' (Kd.R_new' ho0 (Kd.R_lt (by (with_reducible repeat (first | apply Kd.R_alloc | apply Kd.R_drewN | apply Kd.R_drew)); exact HO_4.out))) (Kd.R_lt (by (with_reducible repeat (first | apply Kd.R_alloc | apply Kd.R_drewN | apply Kd.R_drew)); exact HO_240000.out))) (below_size (by repeat (first | (with_reducible first | exact HB.out | apply below_alloc | apply pw_below_drewN | apply below_drew1 | refine below_set ?_ GE235.out | refine below_set ?_ GE239.out) | exact HB.out)))); have n3_ := Aside0.mk (blk_below (g := gb235) (o := .cells #[.slice none 0 0, .slice none 0 0] 25 (0, 0)) (by (with_reducible repeat (first | refine blk_drewN ?_ _ | refine blk_drew ?_ | refine blk_alloc ?_ _)); exact BK235.out) hb); have n4_ := Aside0.mk (blk_below (g := gb239) (o := .cells #[u240000, .slice none 0 0] 25 (0, 0)) (by (with_reducible repeat (first | refine blk_drewN ?_ _ | refine blk_drew ?_ | refine blk_alloc ?_ _)); exact BK239.out) hb); have n5_ := Aside0.mk (below_step (by repeat (first | (with_reducible first | exact HB.out | apply below_alloc | apply pw_below_drewN | apply below_drew1 | refine below_set ?_ GE235.out | refine below_set ?_ GE239.out) | exact HB.out)) hb); clear HO_4; clear HO_240000; clear BK235; clear BK239; clear HB; have HO_4 := n0_; have HO_240000 := n1_; have HO254 := n2_; have BK235 := n3_; have BK239 := n4_; have HB := n5_; clear n0_ n1_ n2_ n3_ n4_ n5_; (try clear hb); (try clear hb2); (try clear hk); (try clear hi); (try clear ho0); obtain ⟨Ao43, co43, eo43⟩ := Kd.R_slice HO254.out; subst eo43))
     go_loopg [70] kj15 (fun kq v70 w' => ∃ (x70_3 : Int) (x240001_3 : List (S32)) (u240001 : Value), v70 = .int .i64 x70_3 ∧ Aside0 (porticoref3_Parse.l1 kq t252 (t252.length : Int) x70_3 x240000_15 x240001_3 = some (r1, r2, r3)) ∧ Aside0 (kq ≤ kj15) ∧ Aside0 (Kd.R Kd.string 9 w' w.heap.size (fun k_ => some k_ ≠ (u240000 : Value).ownBlock) (.slice Ao43 t252.length co43) t252) ∧ Aside0 (Kd.R Kd.string 9 w' w.heap.size (fun k_ => some k_ ≠ ((.slice Ao43 t252.length co43) : Value).ownBlock) u240000 x240000_15) ∧ Aside0 (Kd.R k32 32 w' w.heap.size (fun _ => True) u240001 x240001_3) ∧ Aside0 (w'.heap[gb235]? = some (.cells #[(.slice none 0 0), (.slice none 0 0)] 25 (0, 0))) ∧ Aside0 (w'.heap[gb239]? = some (.cells #[u240000, u240001] 25 (0, 0))) ∧ Aside0 (Below w.heap.size w w'))
     case atStart => exact ⟨(0), (([] : List (S32))), (.slice none 0 0), (by first | rfl | (simp; done) | (simp [*]; done)), H', ⟨Nat.le_refl _⟩, ⟨by (with_reducible repeat (first | apply Kd.R_alloc | apply Kd.R_drewN | apply Kd.R_drew)); exact Kd.R_mono HO254.out (fun _ hk => hk.2)⟩, ⟨by (with_reducible repeat (first | apply Kd.R_alloc | apply Kd.R_drewN | apply Kd.R_drew)); exact Kd.R_mono HO_240000.out (fun _ hk => hk.2)⟩, ⟨by first | exact Kd.R_nil _ _ _ _ _ | exact Kd.N_nil _ _ _ _ _ | exact Kd.V_nil _ _ _ _ _ | exact Kd.Q_nil _ _ _ _ _ | exact Kd.S_nil _ _ _ _ _⟩, ⟨by (with_reducible repeat (first | refine blk_drewN ?_ _ | refine blk_drew ?_ | refine blk_alloc ?_ _)); exact BK235.out⟩, ⟨by (with_reducible repeat (first | refine blk_drewN ?_ _ | refine blk_drew ?_ | refine blk_alloc ?_ _)); exact BK239.out⟩, ⟨by repeat (first | (with_reducible first | exact HB.out | apply below_alloc | apply pw_below_drewN | apply below_drew1 | refine below_set ?_ GE235.out | refine below_set ?_ GE239.out) | exact HB.out)⟩⟩
     case round =>
      clear H'
      try clear c1
      try clear p1
      try clear q1
      try clear hx1
      try clear qi1
      try clear c2
      try clear p2
      try clear q2
      try clear hx2
      try clear qi2
      try clear c3
      try clear c4
      try clear c6
      try clear c6b0
      try clear c6b1
      try clear p6
      try clear c8
      try clear c8b0
      try clear c8b1
      try clear c10
      try clear c10b0
      try clear c10b1
      try clear p11
      try clear q11
      try clear hx11
      try clear qi11
      try clear c13
      try clear c15
      try clear c15b0
      try clear c15b1
      try clear c19
      try clear c19b0
      try clear c19b1
      try clear c20
      try clear c20b0
      try clear c20b1
      try clear c24
      try clear c24b0
      try clear p24
      try clear q24
      try clear hx24
      try clear qi24
      try clear c25
      try clear c25b0
      try clear p25
      try clear q25
      try clear hx25
      try clear qi25
      try clear c26
      try clear c26b0
      try clear c28
      try clear c29
      try clear c31
      try clear c33
      try clear c34
      try clear c37
      try clear c39
      try clear c39b0
      try clear c39b1
      try clear c40
      try clear c40b0
      try clear c40b1
      try clear hcz14_0
      try clear hcz14_1
      try clear hcz32_0
      try clear hcz32_1
      try clear hcz35_0
      try clear hcz35_1
      try clear hcz38_0
      try clear hcz38_1
      try clear hfz14_0
      try clear hfz14_1
      try clear hfz32_0
      try clear hfz32_1
      try clear hfz35_0
      try clear hfz35_1
      try clear hfz38_0
      try clear hfz38_1
      try clear hx240_0
      try clear hx241_0
      try clear hx245_0
      try clear hx251_0
      try clear p1
      try clear p11
      try clear p2
      try clear p24
      try clear p240
      try clear p241
      try clear p245
      try clear p251
      try clear p6
      try clear q1
      try clear q11
      try clear q2
      try clear q24
      try clear q240
      try clear q241
      try clear q245
      try clear q251
      obtain ⟨x70_3, x240001_3, u240001, rfl, HA, HK3, HO_68, HO_240000, HO_240001, BK235, BK239, HB⟩ := hrel
      cases gk with
      | zero => exact absurd HA.out (by simp [porticoref3_Parse.l1])
      | succ k3 =>
       have H := HA.out
       clear HA
       simp only [porticoref3_Parse.l1] at H
       by_cases c44 : x70_3 < (t252.length : Int)
       rotate_left
       ·
        rw [if_neg c44] at H
        have c44b0 : decide (x70_3 < (t252.length : Int)) = false := decide_eq_false c44
        clear c44
        replace H := Option.bind_eq_some_iff.mp H
        obtain ⟨t255, A970, H⟩ := H
        replace H : (if t255 = true then (some (x240000_15, x240001_3, 0)) else (some (([] : List ByteArray), ([] : List (S32)), 1))) = some (r1, r2, r3) := H
        have A97 := Aside0.mk A970
        clear A970
        by_cases c98 : t255 = true
        ·
         subst c98
         have H1 : (some (x240000_15, x240001_3, 0)) = some (r1, r2, r3) := by rw [if_pos rfl] at H; exact H
         clear H
         have H := H1
         clear H1
         simp only [Option.some.injEq, Prod.mk.injEq] at H
         obtain ⟨rfl, rfl, rfl⟩ := H
         have hnb99 := NB239_235.out
         have hnc99 := NB235_239.out
         have hcz100_0 : wr.cell? ⟨gb239, 0, none⟩ = some (u240000) := (blk_cell BK239.out 0).trans rfl
         have hcz100_1 : wr.cell? ⟨gb239, 1, none⟩ = some (u240001) := (blk_cell BK239.out 1).trans rfl
         have hfz100_0 := blk_frozen BK239.out 0
         have hfz100_1 := blk_frozen BK239.out 1
         obtain ⟨Ao101, co101, eo101⟩ := Kd.R_slice HO_240000.out
         subst eo101
         obtain ⟨Ao102, co102, eo102⟩ := Kd.R_slice HO_240001.out
         subst eo102
         go_wp2_with (first | ((with_reducible refine gate_callee (f := 20) rfl ?_); refine goesL_ (some 114) rfl rfl Tryd.func20 (by kernel_rfl) rfl #[.agg #[.slice Ao101 x240000_15.length co101, .slice Ao102 x240001_3.length co102]] rfl (by (try simp only [List.map_toArray, List.map_cons, List.map_nil]); first | done | rfl | (simp only [List.length_drop, List.length_take]; rfl)) ?_; (with_reducible refine (porticoref3_Right.calls k3 _ _ x240000_15 _ _ x240001_3 true _ ?side1 ?side2 ?side3 ?side4 A97.out).mono ?_); (case side1 => repeat (first | exact (Kd.R_reads' HO_240000.out).2.2 | (with_reducible refine Kd.C_alloc ?_ _) | (with_reducible refine Kd.C_drewN ?_ _) | (with_reducible refine Kd.C_drew ?_))); (case side2 => exact (Kd.R_reads' HO_240000.out).2.1); (case side3 => repeat (first | exact (Kd.R_reads' HO_240001.out).2.2 | (with_reducible refine Kd.C_alloc ?_ _) | (with_reducible refine Kd.C_drewN ?_ _) | (with_reducible refine Kd.C_drew ?_))); (case side4 => exact (Kd.R_reads' HO_240001.out).2.1); rintro e w103 ⟨rfl, hb⟩; refine ⟨_, rfl, ?_⟩; have n0_ := Aside0.mk (Kd.R_below (by (with_reducible repeat (first | apply Kd.R_alloc | apply Kd.R_drewN | apply Kd.R_drew)); exact HO_68.out) hb); have n1_ := Aside0.mk (Kd.R_below (by (with_reducible repeat (first | apply Kd.R_alloc | apply Kd.R_drewN | apply Kd.R_drew)); exact HO_240000.out) hb); have n2_ := Aside0.mk (Kd.R_below (by (with_reducible repeat (first | apply Kd.R_alloc | apply Kd.R_drewN | apply Kd.R_drew)); exact HO_240001.out) hb); have n3_ := Aside0.mk (blk_below (g := gb235) (o := .cells #[.slice none 0 0, .slice none 0 0] 25 (0, 0)) (by (with_reducible repeat (first | refine blk_drewN ?_ _ | refine blk_drew ?_ | refine blk_alloc ?_ _)); exact BK235.out) hb); have n4_ := Aside0.mk (blk_below (g := gb239) (o := .cells #[.slice Ao101 x240000_15.length co101, .slice Ao102 x240001_3.length co102] 25 (0, 0)) (by (with_reducible repeat (first | refine blk_drewN ?_ _ | refine blk_drew ?_ | refine blk_alloc ?_ _)); exact BK239.out) hb); have n5_ := Aside0.mk (below_step (by repeat (first | (with_reducible first | exact HB.out | apply below_alloc | apply pw_below_drewN | apply below_drew1 | refine below_set ?_ GE235.out | refine below_set ?_ GE239.out) | exact HB.out)) hb); clear HO_68; clear HO_240000; clear HO_240001; clear BK235; clear BK239; clear HB; have HO_68 := n0_; have HO_240000 := n1_; have HO_240001 := n2_; have BK235 := n3_; have BK239 := n4_; have HB := n5_; clear n0_ n1_ n2_ n3_ n4_ n5_; (try clear hb); (try clear hb2); (try clear hk); (try clear hi); have hcz104_0 : w103.cell? ⟨gb239, 0, none⟩ = some (.slice Ao101 x240000_15.length co101) := (blk_cell BK239.out 0).trans rfl; have hcz104_1 : w103.cell? ⟨gb239, 1, none⟩ = some (.slice Ao102 x240001_3.length co102) := (blk_cell BK239.out 1).trans rfl; have hfz104_0 := blk_frozen BK239.out 0; have hfz104_1 := blk_frozen BK239.out 1; have hcz105_0 : w103.cell? ⟨gb235, 0, none⟩ = some (.slice none 0 0) := (blk_cell BK235.out 0).trans rfl; have hcz105_1 : w103.cell? ⟨gb235, 1, none⟩ = some (.slice none 0 0) := (blk_cell BK235.out 1).trans rfl; have hfz105_0 := blk_frozen BK235.out 0; have hfz105_1 := blk_frozen BK235.out 1))
         refine bodyPost_ret (results_ct rfl _ _ gb235 25 #[.slice Ao101 x240000_15.length co101, .slice Ao102 x240001_3.length co102] (0, 0) _ rfl (by (with_reducible repeat (first | refine blk_drewN ?_ _ | refine blk_drew ?_ | refine blk_alloc ?_ _)); refine blk_put (cs := #[.slice Ao101 x240000_15.length co101, .slice none 0 0]) ?_ 1 _ rfl; (with_reducible repeat (first | refine blk_drewN ?_ _ | refine blk_drew ?_ | refine blk_alloc ?_ _)); refine blk_put (cs := #[.slice none 0 0, .slice none 0 0]) ?_ 0 _ rfl; (with_reducible repeat (first | refine blk_drewN ?_ _ | refine blk_drew ?_ | refine blk_alloc ?_ _)); exact BK235.out) Tryd.underlying25 rfl (by kernel_rfl)) rfl ?_
         exact ⟨_, _, by first | rfl | (simp [errW_none, errW_some] <;> rfl) | (simp [*, errW_none, errW_some] <;> rfl), by (with_reducible repeat (first | apply Kd.R_alloc | apply Kd.R_drewN | apply Kd.R_drew)); exact Kd.R_mono (Kd.R_far (p := ⟨gb235, 1, none⟩) (Kd.R_far (p := ⟨gb235, 0, none⟩) (Kd.R_types HO_240000.out BK235.out (by decide)) (fun _ hk => hk.2) (.slice Ao101 x240000_15.length co101)) (fun _ hk => hk.2) (.slice Ao102 x240001_3.length co102)) (fun _ hk => trivial), by (with_reducible repeat (first | apply Kd.R_alloc | apply Kd.R_drewN | apply Kd.R_drew)); exact Kd.R_mono (Kd.R_far (p := ⟨gb235, 1, none⟩) (Kd.R_far (p := ⟨gb235, 0, none⟩) (Kd.R_types HO_240001.out BK235.out (by decide)) (fun _ hk => hk.2) (.slice Ao101 x240000_15.length co101)) (fun _ hk => hk.2) (.slice Ao102 x240001_3.length co102)) (fun _ hk => trivial), by repeat (first | (with_reducible first | exact HB.out | apply below_alloc | apply pw_below_drewN | apply below_drew1 | refine below_set ?_ GE235.out | refine below_set ?_ GE239.out) | exact HB.out)⟩
        replace c98 := Bool.eq_false_iff.mpr c98
        subst c98
        have H1 : (some (([] : List ByteArray), ([] : List (S32)), 1)) = some (r1, r2, r3) := by rw [if_neg (show ¬ (false = true) by decide)] at H; exact H
        clear H
        have H := H1
        clear H1
        simp only [Option.some.injEq, Prod.mk.injEq] at H
        obtain ⟨rfl, rfl, rfl⟩ := H
        have hnb106 := NB239_235.out
        have hnc106 := NB235_239.out
        have hcz107_0 : wr.cell? ⟨gb239, 0, none⟩ = some (u240000) := (blk_cell BK239.out 0).trans rfl
        have hcz107_1 : wr.cell? ⟨gb239, 1, none⟩ = some (u240001) := (blk_cell BK239.out 1).trans rfl
        have hfz107_0 := blk_frozen BK239.out 0
        have hfz107_1 := blk_frozen BK239.out 1
        obtain ⟨Ao108, co108, eo108⟩ := Kd.R_slice HO_240000.out
        subst eo108
        obtain ⟨Ao109, co109, eo109⟩ := Kd.R_slice HO_240001.out
        subst eo109
        go_wp2_with (first | ((with_reducible refine gate_callee (f := 20) rfl ?_); refine goesL_ (some 114) rfl rfl Tryd.func20 (by kernel_rfl) rfl #[.agg #[.slice Ao108 x240000_15.length co108, .slice Ao109 x240001_3.length co109]] rfl (by (try simp only [List.map_toArray, List.map_cons, List.map_nil]); first | done | rfl | (simp only [List.length_drop, List.length_take]; rfl)) ?_; (with_reducible refine (porticoref3_Right.calls k3 _ _ x240000_15 _ _ x240001_3 false _ ?side1 ?side2 ?side3 ?side4 A97.out).mono ?_); (case side1 => repeat (first | exact (Kd.R_reads' HO_240000.out).2.2 | (with_reducible refine Kd.C_alloc ?_ _) | (with_reducible refine Kd.C_drewN ?_ _) | (with_reducible refine Kd.C_drew ?_))); (case side2 => exact (Kd.R_reads' HO_240000.out).2.1); (case side3 => repeat (first | exact (Kd.R_reads' HO_240001.out).2.2 | (with_reducible refine Kd.C_alloc ?_ _) | (with_reducible refine Kd.C_drewN ?_ _) | (with_reducible refine Kd.C_drew ?_))); (case side4 => exact (Kd.R_reads' HO_240001.out).2.1); rintro e w110 ⟨rfl, hb⟩; refine ⟨_, rfl, ?_⟩; have n0_ := Aside0.mk (Kd.R_below (by (with_reducible repeat (first | apply Kd.R_alloc | apply Kd.R_drewN | apply Kd.R_drew)); exact HO_68.out) hb); have n1_ := Aside0.mk (Kd.R_below (by (with_reducible repeat (first | apply Kd.R_alloc | apply Kd.R_drewN | apply Kd.R_drew)); exact HO_240000.out) hb); have n2_ := Aside0.mk (Kd.R_below (by (with_reducible repeat (first | apply Kd.R_alloc | apply Kd.R_drewN | apply Kd.R_drew)); exact HO_240001.out) hb); have n3_ := Aside0.mk (blk_below (g := gb235) (o := .cells #[.slice none 0 0, .slice none 0 0] 25 (0, 0)) (by (with_reducible repeat (first | refine blk_drewN ?_ _ | refine blk_drew ?_ | refine blk_alloc ?_ _)); exact BK235.out) hb); have n4_ := Aside0.mk (blk_below (g := gb239) (o := .cells #[.slice Ao108 x240000_15.length co108, .slice Ao109 x240001_3.length co109] 25 (0, 0)) (by (with_reducible repeat (first | refine blk_drewN ?_ _ | refine blk_drew ?_ | refine blk_alloc ?_ _)); exact BK239.out) hb); have n5_ := Aside0.mk (below_step (by repeat (first | (with_reducible first | exact HB.out | apply below_alloc | apply pw_below_drewN | apply below_drew1 | refine below_set ?_ GE235.out | refine below_set ?_ GE239.out) | exact HB.out)) hb); clear HO_68; clear HO_240000; clear HO_240001; clear BK235; clear BK239; clear HB; have HO_68 := n0_; have HO_240000 := n1_; have HO_240001 := n2_; have BK235 := n3_; have BK239 := n4_; have HB := n5_; clear n0_ n1_ n2_ n3_ n4_ n5_; (try clear hb); (try clear hb2); (try clear hk); (try clear hi); have hcz111_0 : w110.cell? ⟨gb235, 0, none⟩ = some (.slice none 0 0) := (blk_cell BK235.out 0).trans rfl; have hcz111_1 : w110.cell? ⟨gb235, 1, none⟩ = some (.slice none 0 0) := (blk_cell BK235.out 1).trans rfl; have hfz111_0 := blk_frozen BK235.out 0; have hfz111_1 := blk_frozen BK235.out 1))
        refine bodyPost_ret (results_ct rfl _ _ gb235 25 #[.slice none 0 0, .slice none 0 0] (0, 0) _ rfl (by (with_reducible repeat (first | refine blk_drewN ?_ _ | refine blk_drew ?_ | refine blk_alloc ?_ _)); refine blk_put (cs := #[.slice none 0 0, .slice none 0 0]) ?_ 1 _ rfl; (with_reducible repeat (first | refine blk_drewN ?_ _ | refine blk_drew ?_ | refine blk_alloc ?_ _)); refine blk_put (cs := #[.slice none 0 0, .slice none 0 0]) ?_ 0 _ rfl; (with_reducible repeat (first | refine blk_drewN ?_ _ | refine blk_drew ?_ | refine blk_alloc ?_ _)); exact BK235.out) Tryd.underlying25 rfl (by kernel_rfl)) rfl ?_
        exact ⟨_, _, by first | rfl | (simp [errW_none, errW_some] <;> rfl) | (simp [*, errW_none, errW_some] <;> rfl), by first | exact Kd.R_nil _ _ _ _ _ | exact Kd.N_nil _ _ _ _ _ | exact Kd.V_nil _ _ _ _ _ | exact Kd.Q_nil _ _ _ _ _ | exact Kd.S_nil _ _ _ _ _, by first | exact Kd.R_nil _ _ _ _ _ | exact Kd.N_nil _ _ _ _ _ | exact Kd.V_nil _ _ _ _ _ | exact Kd.Q_nil _ _ _ _ _ | exact Kd.S_nil _ _ _ _ _, by repeat (first | (with_reducible first | exact HB.out | apply below_alloc | apply pw_below_drewN | apply below_drew1 | refine below_set ?_ GE235.out | refine below_set ?_ GE239.out) | exact HB.out)⟩
       rw [if_pos c44] at H
       have c44b0 : decide (x70_3 < (t252.length : Int)) = true := decide_eq_true c44
       clear c44
       by_cases c45 : 0 ≤ x70_3
       rotate_left
       ·
        rw [if_neg c45] at H
        exact absurd H (by simp)
       rw [if_pos c45] at H
       have c45b0 : decide (0 ≤ x70_3) = true := decide_eq_true c45
       clear c45
       by_cases c46 : x70_3 < (t252.length : Int)
       rotate_left
       ·
        rw [if_neg c46] at H
        exact absurd H (by simp)
       rw [if_pos c46] at H
       have c46b0 : decide (x70_3 < (t252.length : Int)) = true := decide_eq_true c46
       clear c46
       replace H := Option.bind_eq_some_iff.mp H
       obtain ⟨t257, A470, H⟩ := H
       replace H : (if (t257.length : Int) > 2 then (some (([] : List ByteArray), ([] : List (S32)), 1)) else (if 0 < (t257.length : Int) then ((porticoref3_Decode.f k3 (rdOf ByteArray.empty t257 0)).bind fun bt261 => (if (t257.length : Int) = 2 then (if 1 < (t257.length : Int) then ((porticoref3_Decode.f k3 (rdOf ByteArray.empty t257 1)).bind fun bt264 => (if bt261.2 = true then (if bt264.2 = true then (if x240001_3.length < 4398046511104 then (porticoref3_Parse.l1 k3 t252 (t252.length : Int) (wrap64 (x70_3 + 1)) x240000_15 (x240001_3 ++ [(⟨bt261.1, bt264.1⟩ : S32)])) else (none)) else (some (([] : List ByteArray), ([] : List (S32)), 1))) else (some (([] : List ByteArray), ([] : List (S32)), 1)))) else (none)) else (if bt261.2 = true then (if x240001_3.length < 4398046511104 then (porticoref3_Parse.l1 k3 t252 (t252.length : Int) (wrap64 (x70_3 + 1)) x240000_15 (x240001_3 ++ [(⟨bt261.1, (⟨#[]⟩ : ByteArray)⟩ : S32)])) else (none)) else (some (([] : List ByteArray), ([] : List (S32)), 1))))) else (none))) = some (r1, r2, r3) := H
       have A47 := Aside0.mk A470
       clear A470
       by_cases c48 : (t257.length : Int) > 2
       ·
        rw [if_pos c48] at H
        have c48b0 : decide (2 < (t257.length : Int)) = true := decide_eq_true c48
        have c48b1 : decide (2 < t257.length) = true := decide_eq_true (by omega)
        clear c48
        simp only [Option.some.injEq, Prod.mk.injEq] at H
        obtain ⟨rfl, rfl, rfl⟩ := H
        have p256 : 0 ≤ (x70_3 : Int) := of_decide_eq_true (by first | (with_reducible assumption) | assumption)
        have q256 : x70_3 < (t252.length : Int) := of_decide_eq_true (by first | (with_reducible assumption) | assumption)
        obtain ⟨ad256, e256, hx256_0⟩ := Kd.at_string (Kd.R_reads' HO_68.out).2.2 x70_3 p256 q256
        cases e256
        replace p256 := eq_true p256
        replace q256 := eq_true q256
        go_wp2_with (first | ((with_reducible refine gate_callee (f := 33) rfl ?_); refine goesL_ (some 75) rfl rfl Tryd.func33 (by kernel_rfl) rfl #[.string (rdOf ByteArray.empty t252 x70_3), .int .u8 61] rfl (by (try simp only [List.map_toArray, List.map_cons, List.map_nil]); first | done | rfl | (simp only [List.length_drop, List.length_take]; rfl)) ?_; (with_reducible refine (porticoref3_split.calls k3 (rdOf ByteArray.empty t252 x70_3) 61 t257 _ A47.out).mono ?_); rintro e w49 ⟨v258, rfl, ho0, hb⟩; refine ⟨_, rfl, ?_⟩; have n0_ := Aside0.mk (Kd.R_elder' (by (with_reducible repeat (first | apply Kd.R_alloc | apply Kd.R_drewN | apply Kd.R_drew)); exact HO_68.out) (Kd.R_base ho0) hb); have n1_ := Aside0.mk (Kd.R_elder' (by (with_reducible repeat (first | apply Kd.R_alloc | apply Kd.R_drewN | apply Kd.R_drew)); exact HO_240000.out) (Kd.R_base ho0) hb); have n2_ := Aside0.mk (Kd.R_below (by (with_reducible repeat (first | apply Kd.R_alloc | apply Kd.R_drewN | apply Kd.R_drew)); exact HO_240001.out) hb); have n3_ := Aside0.mk (Kd.R_lower (Kd.R_new' (Kd.R_new' ho0 (Kd.R_lt (by (with_reducible repeat (first | apply Kd.R_alloc | apply Kd.R_drewN | apply Kd.R_drew)); exact HO_68.out))) (Kd.R_lt (by (with_reducible repeat (first | apply Kd.R_alloc | apply Kd.R_drewN | apply Kd.R_drew)); exact HO_240000.out))) (below_size (by repeat (first | (with_reducible first | exact HB.out | apply below_alloc | apply pw_below_drewN | apply below_drew1 | refine below_set ?_ GE235.out | refine below_set ?_ GE239.out) | exact HB.out)))); have n4_ := Aside0.mk (blk_below (g := gb235) (o := .cells #[.slice none 0 0, .slice none 0 0] 25 (0, 0)) (by (with_reducible repeat (first | refine blk_drewN ?_ _ | refine blk_drew ?_ | refine blk_alloc ?_ _)); exact BK235.out) hb); have n5_ := Aside0.mk (blk_below (g := gb239) (o := .cells #[u240000, u240001] 25 (0, 0)) (by (with_reducible repeat (first | refine blk_drewN ?_ _ | refine blk_drew ?_ | refine blk_alloc ?_ _)); exact BK239.out) hb); have n6_ := Aside0.mk (below_step (by repeat (first | (with_reducible first | exact HB.out | apply below_alloc | apply pw_below_drewN | apply below_drew1 | refine below_set ?_ GE235.out | refine below_set ?_ GE239.out) | exact HB.out)) hb); clear HO_68; clear HO_240000; clear HO_240001; clear BK235; clear BK239; clear HB; have HO_68 := n0_; have HO_240000 := n1_; have HO_240001 := n2_; have HO259 := n3_; have BK235 := n4_; have BK239 := n5_; have HB := n6_; clear n0_ n1_ n2_ n3_ n4_ n5_ n6_; (try clear hb); (try clear hb2); (try clear hk); (try clear hi); (try clear ho0); obtain ⟨Ao50, co50, eo50⟩ := Kd.R_slice HO259.out; subst eo50; have hnb51 := NB235_239.out; have hnc51 := NB239_235.out; have hcz52_0 : w49.cell? ⟨gb235, 0, none⟩ = some (.slice none 0 0) := (blk_cell BK235.out 0).trans rfl; have hcz52_1 : w49.cell? ⟨gb235, 1, none⟩ = some (.slice none 0 0) := (blk_cell BK235.out 1).trans rfl; have hfz52_0 := blk_frozen BK235.out 0; have hfz52_1 := blk_frozen BK235.out 1))
        refine bodyPost_ret (results_ct rfl _ _ gb235 25 #[.slice none 0 0, .slice none 0 0] (0, 0) _ rfl (by (with_reducible repeat (first | refine blk_drewN ?_ _ | refine blk_drew ?_ | refine blk_alloc ?_ _)); refine blk_put (cs := #[.slice none 0 0, .slice none 0 0]) ?_ 1 _ rfl; (with_reducible repeat (first | refine blk_drewN ?_ _ | refine blk_drew ?_ | refine blk_alloc ?_ _)); refine blk_put (cs := #[.slice none 0 0, .slice none 0 0]) ?_ 0 _ rfl; (with_reducible repeat (first | refine blk_drewN ?_ _ | refine blk_drew ?_ | refine blk_alloc ?_ _)); exact BK235.out) Tryd.underlying25 rfl (by kernel_rfl)) rfl ?_
        exact ⟨_, _, by first | rfl | (simp [errW_none, errW_some] <;> rfl) | (simp [*, errW_none, errW_some] <;> rfl), by first | exact Kd.R_nil _ _ _ _ _ | exact Kd.N_nil _ _ _ _ _ | exact Kd.V_nil _ _ _ _ _ | exact Kd.Q_nil _ _ _ _ _ | exact Kd.S_nil _ _ _ _ _, by first | exact Kd.R_nil _ _ _ _ _ | exact Kd.N_nil _ _ _ _ _ | exact Kd.V_nil _ _ _ _ _ | exact Kd.Q_nil _ _ _ _ _ | exact Kd.S_nil _ _ _ _ _, by repeat (first | (with_reducible first | exact HB.out | apply below_alloc | apply pw_below_drewN | apply below_drew1 | refine below_set ?_ GE235.out | refine below_set ?_ GE239.out) | exact HB.out)⟩
       rw [if_neg c48] at H
       have c48b0 : decide (2 < (t257.length : Int)) = false := decide_eq_false c48
       have c48b1 : decide (2 < t257.length) = false := decide_eq_false (by omega)
       clear c48
       by_cases c53 : 0 < (t257.length : Int)
       rotate_left
       ·
        rw [if_neg c53] at H
        exact absurd H (by simp)
       rw [if_pos c53] at H
       have c53b0 : decide (0 < (t257.length : Int)) = true := decide_eq_true c53
       have c53b1 : decide (0 < t257.length) = true := decide_eq_true (by omega)
       clear c53
       replace H := Option.bind_eq_some_iff.mp H
       obtain ⟨⟨t261, t262⟩, A540, H⟩ := H
       replace H : (if (t257.length : Int) = 2 then (if 1 < (t257.length : Int) then ((porticoref3_Decode.f k3 (rdOf ByteArray.empty t257 1)).bind fun bt264 => (if t262 = true then (if bt264.2 = true then (if x240001_3.length < 4398046511104 then (porticoref3_Parse.l1 k3 t252 (t252.length : Int) (wrap64 (x70_3 + 1)) x240000_15 (x240001_3 ++ [(⟨t261, bt264.1⟩ : S32)])) else (none)) else (some (([] : List ByteArray), ([] : List (S32)), 1))) else (some (([] : List ByteArray), ([] : List (S32)), 1)))) else (none)) else (if t262 = true then (if x240001_3.length < 4398046511104 then (porticoref3_Parse.l1 k3 t252 (t252.length : Int) (wrap64 (x70_3 + 1)) x240000_15 (x240001_3 ++ [(⟨t261, (⟨#[]⟩ : ByteArray)⟩ : S32)])) else (none)) else (some (([] : List ByteArray), ([] : List (S32)), 1)))) = some (r1, r2, r3) := H
       have A54 := Aside0.mk A540
       clear A540
       by_cases c55 : (t257.length : Int) = 2
       rotate_left
       ·
        rw [if_neg c55] at H
        have c55b0 : ((t257.length : Int) == 2) = false := beq_eq_false_iff_ne.mpr c55
        have c55b1 : ((t257.length : Int) != 2) = true := bne_iff_ne.mpr c55
        by_cases c82 : t262 = true
        rotate_left
        ·
         replace c82 := Bool.eq_false_iff.mpr c82
         subst c82
         have H1 : (some (([] : List ByteArray), ([] : List (S32)), 1)) = some (r1, r2, r3) := by rw [if_neg (show ¬ (false = true) by decide)] at H; exact H
         clear H
         have H := H1
         clear H1
         simp only [Option.some.injEq, Prod.mk.injEq] at H
         obtain ⟨rfl, rfl, rfl⟩ := H
         have p256 : 0 ≤ (x70_3 : Int) := of_decide_eq_true (by first | (with_reducible assumption) | assumption)
         have q256 : x70_3 < (t252.length : Int) := of_decide_eq_true (by first | (with_reducible assumption) | assumption)
         obtain ⟨ad256, e256, hx256_0⟩ := Kd.at_string (Kd.R_reads' HO_68.out).2.2 x70_3 p256 q256
         cases e256
         replace p256 := eq_true p256
         replace q256 := eq_true q256
         go_wp2_with (first | ((with_reducible refine gate_callee (f := 33) rfl ?_); refine goesL_ (some 75) rfl rfl Tryd.func33 (by kernel_rfl) rfl #[.string (rdOf ByteArray.empty t252 x70_3), .int .u8 61] rfl (by (try simp only [List.map_toArray, List.map_cons, List.map_nil]); first | done | rfl | (simp only [List.length_drop, List.length_take]; rfl)) ?_; (with_reducible refine (porticoref3_split.calls k3 (rdOf ByteArray.empty t252 x70_3) 61 t257 _ A47.out).mono ?_); rintro e w92 ⟨v258, rfl, ho0, hb⟩; refine ⟨_, rfl, ?_⟩; have n0_ := Aside0.mk (Kd.R_elder' (by (with_reducible repeat (first | apply Kd.R_alloc | apply Kd.R_drewN | apply Kd.R_drew)); exact HO_68.out) (Kd.R_base ho0) hb); have n1_ := Aside0.mk (Kd.R_elder' (by (with_reducible repeat (first | apply Kd.R_alloc | apply Kd.R_drewN | apply Kd.R_drew)); exact HO_240000.out) (Kd.R_base ho0) hb); have n2_ := Aside0.mk (Kd.R_below (by (with_reducible repeat (first | apply Kd.R_alloc | apply Kd.R_drewN | apply Kd.R_drew)); exact HO_240001.out) hb); have n3_ := Aside0.mk (Kd.R_lower (Kd.R_new' (Kd.R_new' ho0 (Kd.R_lt (by (with_reducible repeat (first | apply Kd.R_alloc | apply Kd.R_drewN | apply Kd.R_drew)); exact HO_68.out))) (Kd.R_lt (by (with_reducible repeat (first | apply Kd.R_alloc | apply Kd.R_drewN | apply Kd.R_drew)); exact HO_240000.out))) (below_size (by repeat (first | (with_reducible first | exact HB.out | apply below_alloc | apply pw_below_drewN | apply below_drew1 | refine below_set ?_ GE235.out | refine below_set ?_ GE239.out) | exact HB.out)))); have n4_ := Aside0.mk (blk_below (g := gb235) (o := .cells #[.slice none 0 0, .slice none 0 0] 25 (0, 0)) (by (with_reducible repeat (first | refine blk_drewN ?_ _ | refine blk_drew ?_ | refine blk_alloc ?_ _)); exact BK235.out) hb); have n5_ := Aside0.mk (blk_below (g := gb239) (o := .cells #[u240000, u240001] 25 (0, 0)) (by (with_reducible repeat (first | refine blk_drewN ?_ _ | refine blk_drew ?_ | refine blk_alloc ?_ _)); exact BK239.out) hb); have n6_ := Aside0.mk (below_step (by repeat (first | (with_reducible first | exact HB.out | apply below_alloc | apply pw_below_drewN | apply below_drew1 | refine below_set ?_ GE235.out | refine below_set ?_ GE239.out) | exact HB.out)) hb); clear HO_68; clear HO_240000; clear HO_240001; clear BK235; clear BK239; clear HB; have HO_68 := n0_; have HO_240000 := n1_; have HO_240001 := n2_; have HO259 := n3_; have BK235 := n4_; have BK239 := n5_; have HB := n6_; clear n0_ n1_ n2_ n3_ n4_ n5_ n6_; (try clear hb); (try clear hb2); (try clear hk); (try clear hi); (try clear ho0); obtain ⟨Ao93, co93, eo93⟩ := Kd.R_slice HO259.out; subst eo93; have p260 : 0 ≤ (0 : Int) := (by omega); have q260 : 0 < (t257.length : Int) := of_decide_eq_true (by first | (with_reducible assumption) | assumption); obtain ⟨ad260, e260, hx260_0⟩ := Kd.at_string (Kd.R_reads' HO259.out).2.2 0 p260 q260; cases e260; have qi260 : (0 < t257.length) = True := eq_true (by omega); (try rw [show ((0 : Int)).toNat = 0 from rfl] at hx260_0); (try rw [Addr.add_zero'] at hx260_0); replace p260 := eq_true p260; replace q260 := eq_true q260) | ((with_reducible refine gate_callee (f := 34) rfl ?_); refine goesL_ (some 84) rfl rfl Tryd.func34 (by kernel_rfl) rfl #[.string (rdOf ByteArray.empty t257 0)] rfl (by (try simp only [List.map_toArray, List.map_cons, List.map_nil]); first | done | rfl | (simp only [List.length_drop, List.length_take]; rfl)) ?_; (with_reducible refine (porticoref3_Decode.calls k3 (rdOf ByteArray.empty t257 0) t261 false _ A54.out).mono ?_); rintro e w94 ⟨rfl, hb⟩; refine ⟨_, rfl, ?_⟩; have n0_ := Aside0.mk (Kd.R_below (by (with_reducible repeat (first | apply Kd.R_alloc | apply Kd.R_drewN | apply Kd.R_drew)); exact HO_68.out) hb); have n1_ := Aside0.mk (Kd.R_below (by (with_reducible repeat (first | apply Kd.R_alloc | apply Kd.R_drewN | apply Kd.R_drew)); exact HO_240000.out) hb); have n2_ := Aside0.mk (Kd.R_below (by (with_reducible repeat (first | apply Kd.R_alloc | apply Kd.R_drewN | apply Kd.R_drew)); exact HO_240001.out) hb); have n3_ := Aside0.mk (Kd.R_below (by (with_reducible repeat (first | apply Kd.R_alloc | apply Kd.R_drewN | apply Kd.R_drew)); exact HO259.out) hb); have n4_ := Aside0.mk (blk_below (g := gb235) (o := .cells #[.slice none 0 0, .slice none 0 0] 25 (0, 0)) (by (with_reducible repeat (first | refine blk_drewN ?_ _ | refine blk_drew ?_ | refine blk_alloc ?_ _)); exact BK235.out) hb); have n5_ := Aside0.mk (blk_below (g := gb239) (o := .cells #[u240000, u240001] 25 (0, 0)) (by (with_reducible repeat (first | refine blk_drewN ?_ _ | refine blk_drew ?_ | refine blk_alloc ?_ _)); exact BK239.out) hb); have n6_ := Aside0.mk (below_step (by repeat (first | (with_reducible first | exact HB.out | apply below_alloc | apply pw_below_drewN | apply below_drew1 | refine below_set ?_ GE235.out | refine below_set ?_ GE239.out) | exact HB.out)) hb); clear HO_68; clear HO_240000; clear HO_240001; clear HO259; clear BK235; clear BK239; clear HB; have HO_68 := n0_; have HO_240000 := n1_; have HO_240001 := n2_; have HO259 := n3_; have BK235 := n4_; have BK239 := n5_; have HB := n6_; clear n0_ n1_ n2_ n3_ n4_ n5_ n6_; (try clear hb); (try clear hb2); (try clear hk); (try clear hi); have hnb95 := NB235_239.out; have hnc95 := NB239_235.out; have hcz96_0 : w94.cell? ⟨gb235, 0, none⟩ = some (.slice none 0 0) := (blk_cell BK235.out 0).trans rfl; have hcz96_1 : w94.cell? ⟨gb235, 1, none⟩ = some (.slice none 0 0) := (blk_cell BK235.out 1).trans rfl; have hfz96_0 := blk_frozen BK235.out 0; have hfz96_1 := blk_frozen BK235.out 1))
         refine bodyPost_ret (results_ct rfl _ _ gb235 25 #[.slice none 0 0, .slice none 0 0] (0, 0) _ rfl (by (with_reducible repeat (first | refine blk_drewN ?_ _ | refine blk_drew ?_ | refine blk_alloc ?_ _)); refine blk_put (cs := #[.slice none 0 0, .slice none 0 0]) ?_ 1 _ rfl; (with_reducible repeat (first | refine blk_drewN ?_ _ | refine blk_drew ?_ | refine blk_alloc ?_ _)); refine blk_put (cs := #[.slice none 0 0, .slice none 0 0]) ?_ 0 _ rfl; (with_reducible repeat (first | refine blk_drewN ?_ _ | refine blk_drew ?_ | refine blk_alloc ?_ _)); exact BK235.out) Tryd.underlying25 rfl (by kernel_rfl)) rfl ?_
         exact ⟨_, _, by first | rfl | (simp [errW_none, errW_some] <;> rfl) | (simp [*, errW_none, errW_some] <;> rfl), by first | exact Kd.R_nil _ _ _ _ _ | exact Kd.N_nil _ _ _ _ _ | exact Kd.V_nil _ _ _ _ _ | exact Kd.Q_nil _ _ _ _ _ | exact Kd.S_nil _ _ _ _ _, by first | exact Kd.R_nil _ _ _ _ _ | exact Kd.N_nil _ _ _ _ _ | exact Kd.V_nil _ _ _ _ _ | exact Kd.Q_nil _ _ _ _ _ | exact Kd.S_nil _ _ _ _ _, by repeat (first | (with_reducible first | exact HB.out | apply below_alloc | apply pw_below_drewN | apply below_drew1 | refine below_set ?_ GE235.out | refine below_set ?_ GE239.out) | exact HB.out)⟩
        subst c82
        have H1 : (if x240001_3.length < 4398046511104 then (porticoref3_Parse.l1 k3 t252 (t252.length : Int) (wrap64 (x70_3 + 1)) x240000_15 (x240001_3 ++ [(⟨t261, (⟨#[]⟩ : ByteArray)⟩ : S32)])) else (none)) = some (r1, r2, r3) := by rw [if_pos rfl] at H; exact H
        clear H
        have H := H1
        clear H1
        by_cases c83 : x240001_3.length < 4398046511104
        rotate_left
        ·
         rw [if_neg c83] at H
         exact absurd H (by simp)
        rw [if_pos c83] at H
        have LMc83 := Aside0.mk c83
        clear c83
        obtain ⟨y269, hy269⟩ : ∃ y_ : List (S32), y_ = (x240001_3 ++ [(⟨t261, (⟨#[]⟩ : ByteArray)⟩ : S32)]) := ⟨_, rfl⟩
        replace H : (porticoref3_Parse.l1 k3 t252 (t252.length : Int) (wrap64 (x70_3 + 1)) x240000_15 y269) = some (r1, r2, r3) := by first | (rw [hy269]; with_reducible exact H) | (have H2_ := (Option.bind_some _ _).symm.trans H; rw [hy269]; with_reducible exact H2_) | (have H2_ := (Option.bind_some _ _).symm.trans H; with_reducible exact H2_) | with_reducible exact H | (rw [hy269]; exact H) | exact H
        have Ny269 := Aside0.mk hy269
        clear hy269
        have H' := Aside0.mk H
        clear H
        have p256 : 0 ≤ (x70_3 : Int) := of_decide_eq_true (by first | (with_reducible assumption) | assumption)
        have q256 : x70_3 < (t252.length : Int) := of_decide_eq_true (by first | (with_reducible assumption) | assumption)
        obtain ⟨ad256, e256, hx256_0⟩ := Kd.at_string (Kd.R_reads' HO_68.out).2.2 x70_3 p256 q256
        cases e256
        replace p256 := eq_true p256
        replace q256 := eq_true q256
        go_wp2_with (first | ((with_reducible refine gate_callee (f := 33) rfl ?_); refine goesL_ (some 75) rfl rfl Tryd.func33 (by kernel_rfl) rfl #[.string (rdOf ByteArray.empty t252 x70_3), .int .u8 61] rfl (by (try simp only [List.map_toArray, List.map_cons, List.map_nil]); first | done | rfl | (simp only [List.length_drop, List.length_take]; rfl)) ?_; (with_reducible refine (porticoref3_split.calls k3 (rdOf ByteArray.empty t252 x70_3) 61 t257 _ A47.out).mono ?_); rintro e w84 ⟨v258, rfl, ho0, hb⟩; refine ⟨_, rfl, ?_⟩; have n0_ := Aside0.mk (Kd.R_elder' (by (with_reducible repeat (first | apply Kd.R_alloc | apply Kd.R_drewN | apply Kd.R_drew)); exact HO_68.out) (Kd.R_base ho0) hb); have n1_ := Aside0.mk (Kd.R_elder' (by (with_reducible repeat (first | apply Kd.R_alloc | apply Kd.R_drewN | apply Kd.R_drew)); exact HO_240000.out) (Kd.R_base ho0) hb); have n2_ := Aside0.mk (Kd.R_below (by (with_reducible repeat (first | apply Kd.R_alloc | apply Kd.R_drewN | apply Kd.R_drew)); exact HO_240001.out) hb); have n3_ := Aside0.mk (Kd.R_lower (Kd.R_new' (Kd.R_new' ho0 (Kd.R_lt (by (with_reducible repeat (first | apply Kd.R_alloc | apply Kd.R_drewN | apply Kd.R_drew)); exact HO_68.out))) (Kd.R_lt (by (with_reducible repeat (first | apply Kd.R_alloc | apply Kd.R_drewN | apply Kd.R_drew)); exact HO_240000.out))) (below_size (by repeat (first | (with_reducible first | exact HB.out | apply below_alloc | apply pw_below_drewN | apply below_drew1 | refine below_set ?_ GE235.out | refine below_set ?_ GE239.out) | exact HB.out)))); have n4_ := Aside0.mk (blk_below (g := gb235) (o := .cells #[.slice none 0 0, .slice none 0 0] 25 (0, 0)) (by (with_reducible repeat (first | refine blk_drewN ?_ _ | refine blk_drew ?_ | refine blk_alloc ?_ _)); exact BK235.out) hb); have n5_ := Aside0.mk (blk_below (g := gb239) (o := .cells #[u240000, u240001] 25 (0, 0)) (by (with_reducible repeat (first | refine blk_drewN ?_ _ | refine blk_drew ?_ | refine blk_alloc ?_ _)); exact BK239.out) hb); have n6_ := Aside0.mk (below_step (by repeat (first | (with_reducible first | exact HB.out | apply below_alloc | apply pw_below_drewN | apply below_drew1 | refine below_set ?_ GE235.out | refine below_set ?_ GE239.out) | exact HB.out)) hb); clear HO_68; clear HO_240000; clear HO_240001; clear BK235; clear BK239; clear HB; have HO_68 := n0_; have HO_240000 := n1_; have HO_240001 := n2_; have HO259 := n3_; have BK235 := n4_; have BK239 := n5_; have HB := n6_; clear n0_ n1_ n2_ n3_ n4_ n5_ n6_; (try clear hb); (try clear hb2); (try clear hk); (try clear hi); (try clear ho0); obtain ⟨Ao85, co85, eo85⟩ := Kd.R_slice HO259.out; subst eo85; have p260 : 0 ≤ (0 : Int) := (by omega); have q260 : 0 < (t257.length : Int) := of_decide_eq_true (by first | (with_reducible assumption) | assumption); obtain ⟨ad260, e260, hx260_0⟩ := Kd.at_string (Kd.R_reads' HO259.out).2.2 0 p260 q260; cases e260; have qi260 : (0 < t257.length) = True := eq_true (by omega); (try rw [show ((0 : Int)).toNat = 0 from rfl] at hx260_0); (try rw [Addr.add_zero'] at hx260_0); replace p260 := eq_true p260; replace q260 := eq_true q260) | ((with_reducible refine gate_callee (f := 34) rfl ?_); refine goesL_ (some 84) rfl rfl Tryd.func34 (by kernel_rfl) rfl #[.string (rdOf ByteArray.empty t257 0)] rfl (by (try simp only [List.map_toArray, List.map_cons, List.map_nil]); first | done | rfl | (simp only [List.length_drop, List.length_take]; rfl)) ?_; (with_reducible refine (porticoref3_Decode.calls k3 (rdOf ByteArray.empty t257 0) t261 true _ A54.out).mono ?_); rintro e w86 ⟨rfl, hb⟩; refine ⟨_, rfl, ?_⟩; have n0_ := Aside0.mk (Kd.R_below (by (with_reducible repeat (first | apply Kd.R_alloc | apply Kd.R_drewN | apply Kd.R_drew)); exact HO_68.out) hb); have n1_ := Aside0.mk (Kd.R_below (by (with_reducible repeat (first | apply Kd.R_alloc | apply Kd.R_drewN | apply Kd.R_drew)); exact HO_240000.out) hb); have n2_ := Aside0.mk (Kd.R_below (by (with_reducible repeat (first | apply Kd.R_alloc | apply Kd.R_drewN | apply Kd.R_drew)); exact HO_240001.out) hb); have n3_ := Aside0.mk (Kd.R_below (by (with_reducible repeat (first | apply Kd.R_alloc | apply Kd.R_drewN | apply Kd.R_drew)); exact HO259.out) hb); have n4_ := Aside0.mk (blk_below (g := gb235) (o := .cells #[.slice none 0 0, .slice none 0 0] 25 (0, 0)) (by (with_reducible repeat (first | refine blk_drewN ?_ _ | refine blk_drew ?_ | refine blk_alloc ?_ _)); exact BK235.out) hb); have n5_ := Aside0.mk (blk_below (g := gb239) (o := .cells #[u240000, u240001] 25 (0, 0)) (by (with_reducible repeat (first | refine blk_drewN ?_ _ | refine blk_drew ?_ | refine blk_alloc ?_ _)); exact BK239.out) hb); have n6_ := Aside0.mk (below_step (by repeat (first | (with_reducible first | exact HB.out | apply below_alloc | apply pw_below_drewN | apply below_drew1 | refine below_set ?_ GE235.out | refine below_set ?_ GE239.out) | exact HB.out)) hb); clear HO_68; clear HO_240000; clear HO_240001; clear HO259; clear BK235; clear BK239; clear HB; have HO_68 := n0_; have HO_240000 := n1_; have HO_240001 := n2_; have HO259 := n3_; have BK235 := n4_; have BK239 := n5_; have HB := n6_; clear n0_ n1_ n2_ n3_ n4_ n5_ n6_; (try clear hb); (try clear hb2); (try clear hk); (try clear hi); have hnb87 := NB239_235.out; have hnc87 := NB235_239.out; have hcz88_0 : w86.cell? ⟨gb239, 0, none⟩ = some (u240000) := (blk_cell BK239.out 0).trans rfl; have hcz88_1 : w86.cell? ⟨gb239, 1, none⟩ = some (u240001) := (blk_cell BK239.out 1).trans rfl; have hfz88_0 := blk_frozen BK239.out 0; have hfz88_1 := blk_frozen BK239.out 1) | ((with_reducible refine gate_builtin (b := .append) (xs := #[.tmp 105, .tmp 109]) rfl ?_); (try (refine gate_guard (by rfl) ?_; dsimp only)); at_builtin; refine Kd.R_append k32 (w0 := w) w.heap.size rfl (.tmp 105) (.tmp 109) 23 32 (.agg #[(.string ⟨#[]⟩), (.string ⟨#[]⟩)]) 32 rfl Tryd.underlying23 info32 rfl (by decide) (by omega) u240001 x240001_3 (⟨t261, (⟨#[]⟩ : ByteArray)⟩ : S32) [.string t261, .string (⟨#[]⟩ : ByteArray)] (fun _ => True) (fun _ => False) rfl rfl ?aP (fun _ hk => hk.elim) ?aF ?aO ?aB ?aS ?aL ?_; (case aP => exact k32_mkM _ _ _ (⟨t261, (⟨#[]⟩ : ByteArray)⟩ : S32)); (case aB => exact (by repeat (first | (with_reducible first | exact HB.out | apply below_alloc | apply pw_below_drewN | apply below_drew1 | refine below_set ?_ GE235.out | refine below_set ?_ GE239.out) | exact HB.out))); (case aF => exact (fun _ _ => trivial)); (case aO => exact (by (with_reducible repeat (first | apply Kd.R_alloc | apply Kd.R_drewN | apply Kd.R_drew)); exact HO_240001.out)); (case aS => exact (below_size (by repeat (first | (with_reducible first | exact HB.out | apply below_alloc | apply pw_below_drewN | apply below_drew1 | refine below_set ?_ GE235.out | refine below_set ?_ GE239.out) | exact HB.out)))); (case aL => have := LMc83.out; omega); intro v270 w89 ho hb hg hat; rw [← Ny269.out] at ho; have n0_ := Aside0.mk (Kd.R_over' (by (with_reducible repeat (first | apply Kd.R_alloc | apply Kd.R_drewN | apply Kd.R_drew)); exact HO_68.out) (Kd.R_typed (by (with_reducible repeat (first | apply Kd.R_alloc | apply Kd.R_drewN | apply Kd.R_drew)); exact HO_240001.out)) (by decide) hg); have n1_ := Aside0.mk (Kd.R_over' (by (with_reducible repeat (first | apply Kd.R_alloc | apply Kd.R_drewN | apply Kd.R_drew)); exact HO_240000.out) (Kd.R_typed (by (with_reducible repeat (first | apply Kd.R_alloc | apply Kd.R_drewN | apply Kd.R_drew)); exact HO_240001.out)) (by decide) hg); have n2_ := Aside0.mk (blk_grown (g := gb235) (o := .cells #[.slice none 0 0, .slice none 0 0] 25 (0, 0)) (by (with_reducible repeat (first | refine blk_drewN ?_ _ | refine blk_drew ?_ | refine blk_alloc ?_ _)); exact BK235.out) hg (Kd.R_ne HO_240001.out BK235.out (by decide))); have n3_ := Aside0.mk (blk_grown (g := gb239) (o := .cells #[u240000, u240001] 25 (0, 0)) (by (with_reducible repeat (first | refine blk_drewN ?_ _ | refine blk_drew ?_ | refine blk_alloc ?_ _)); exact BK239.out) hg (Kd.R_ne HO_240001.out BK239.out (by decide))); have n4_ := Aside0.mk (Kd.R_over' (by (with_reducible repeat (first | apply Kd.R_alloc | apply Kd.R_drewN | apply Kd.R_drew)); exact HO259.out) (Kd.R_typed (by (with_reducible repeat (first | apply Kd.R_alloc | apply Kd.R_drewN | apply Kd.R_drew)); exact HO_240001.out)) (by decide) hg); have n5_ := Aside0.mk (hb); have n6_ := Aside0.mk (ho); clear HO_68; clear HO_240000; clear BK235; clear BK239; clear HO259; clear HB; clear HO_240001; have HO_68 := n0_; have HO_240000 := n1_; have BK235 := n2_; have BK239 := n3_; have HO259 := n4_; have HB := n5_; have HO271 := n6_; clear n0_ n1_ n2_ n3_ n4_ n5_ n6_; clear ho hb hg hat; obtain ⟨Ao90, co90, eo90⟩ := Kd.R_slice HO271.out; subst eo90; have hcz91_0 : w89.cell? ⟨gb239, 0, none⟩ = some (u240000) := (blk_cell BK239.out 0).trans rfl; have hcz91_1 : w89.cell? ⟨gb239, 1, none⟩ = some (u240001) := (blk_cell BK239.out 1).trans rfl; have hfz91_0 := blk_frozen BK239.out 0; have hfz91_1 := blk_frozen BK239.out 1))
        go_roundg k3
        case measure => have := HJ2.out; have := HJ15.out; have := HK3.out; omega
        case rel => exact ⟨(wrap64 (x70_3 + 1)), (y269), (.slice Ao90 y269.length co90), (by first | rfl | (simp; done) | (simp [*]; done)), H', ⟨by have := HJ2.out; have := HJ15.out; have := HK3.out; omega⟩, ⟨by (with_reducible repeat (first | apply Kd.R_alloc | apply Kd.R_drewN | apply Kd.R_drew)); exact Kd.R_mono (Kd.R_far (p := ⟨gb239, 1, none⟩) (Kd.R_types HO_68.out BK239.out (by decide)) (fun _ hk => hk.2) (.slice Ao90 y269.length co90)) (fun _ hk => hk.1.1)⟩, ⟨by (with_reducible repeat (first | apply Kd.R_alloc | apply Kd.R_drewN | apply Kd.R_drew)); exact Kd.R_mono (Kd.R_far (p := ⟨gb239, 1, none⟩) (Kd.R_types HO_240000.out BK239.out (by decide)) (fun _ hk => hk.2) (.slice Ao90 y269.length co90)) (fun _ hk => hk.1.1)⟩, ⟨by (with_reducible repeat (first | apply Kd.R_alloc | apply Kd.R_drewN | apply Kd.R_drew)); exact Kd.R_mono (Kd.R_far (p := ⟨gb239, 1, none⟩) (Kd.R_types HO271.out BK239.out (by decide)) (fun _ hk => hk.2) (.slice Ao90 y269.length co90)) (fun _ hk => trivial)⟩, ⟨by (with_reducible repeat (first | refine blk_drewN ?_ _ | refine blk_drew ?_ | refine blk_alloc ?_ _)); refine blk_far ?_ NB235_239.out _; (with_reducible repeat (first | refine blk_drewN ?_ _ | refine blk_drew ?_ | refine blk_alloc ?_ _)); exact BK235.out⟩, ⟨by (with_reducible repeat (first | refine blk_drewN ?_ _ | refine blk_drew ?_ | refine blk_alloc ?_ _)); refine blk_put (cs := #[u240000, u240001]) ?_ 1 _ rfl; (with_reducible repeat (first | refine blk_drewN ?_ _ | refine blk_drew ?_ | refine blk_alloc ?_ _)); exact BK239.out⟩, ⟨by repeat (first | (with_reducible first | exact HB.out | apply below_alloc | apply pw_below_drewN | apply below_drew1 | refine below_set ?_ GE235.out | refine below_set ?_ GE239.out) | exact HB.out)⟩⟩
       rw [if_pos c55] at H
       have c55b0 : ((t257.length : Int) == 2) = true := beq_iff_eq.mpr c55
       have c55b1 : ((t257.length : Int) != 2) = false := bne_eq_false_iff_eq.mpr c55
       clear c55
       by_cases c56 : 1 < (t257.length : Int)
       rotate_left
       ·
        rw [if_neg c56] at H
        exact absurd H (by simp)
       rw [if_pos c56] at H
       have c56b0 : decide (1 < (t257.length : Int)) = true := decide_eq_true c56
       have c56b1 : decide (1 < t257.length) = true := decide_eq_true (by omega)
       clear c56
       replace H := Option.bind_eq_some_iff.mp H
       obtain ⟨⟨t264, t265⟩, A570, H⟩ := H
       replace H : (if t262 = true then (if t265 = true then (if x240001_3.length < 4398046511104 then (porticoref3_Parse.l1 k3 t252 (t252.length : Int) (wrap64 (x70_3 + 1)) x240000_15 (x240001_3 ++ [(⟨t261, t264⟩ : S32)])) else (none)) else (some (([] : List ByteArray), ([] : List (S32)), 1))) else (some (([] : List ByteArray), ([] : List (S32)), 1))) = some (r1, r2, r3) := H
       have A57 := Aside0.mk A570
       clear A570
       by_cases c58 : t262 = true
       rotate_left
       ·
        replace c58 := Bool.eq_false_iff.mpr c58
        subst c58
        have H1 : (some (([] : List ByteArray), ([] : List (S32)), 1)) = some (r1, r2, r3) := by rw [if_neg (show ¬ (false = true) by decide)] at H; exact H
        clear H
        have H := H1
        clear H1
        simp only [Option.some.injEq, Prod.mk.injEq] at H
        obtain ⟨rfl, rfl, rfl⟩ := H
        have p256 : 0 ≤ (x70_3 : Int) := of_decide_eq_true (by first | (with_reducible assumption) | assumption)
        have q256 : x70_3 < (t252.length : Int) := of_decide_eq_true (by first | (with_reducible assumption) | assumption)
        obtain ⟨ad256, e256, hx256_0⟩ := Kd.at_string (Kd.R_reads' HO_68.out).2.2 x70_3 p256 q256
        cases e256
        replace p256 := eq_true p256
        replace q256 := eq_true q256
        go_wp2_with (first | ((with_reducible refine gate_callee (f := 33) rfl ?_); refine goesL_ (some 75) rfl rfl Tryd.func33 (by kernel_rfl) rfl #[.string (rdOf ByteArray.empty t252 x70_3), .int .u8 61] rfl (by (try simp only [List.map_toArray, List.map_cons, List.map_nil]); first | done | rfl | (simp only [List.length_drop, List.length_take]; rfl)) ?_; (with_reducible refine (porticoref3_split.calls k3 (rdOf ByteArray.empty t252 x70_3) 61 t257 _ A47.out).mono ?_); rintro e w76 ⟨v258, rfl, ho0, hb⟩; refine ⟨_, rfl, ?_⟩; have n0_ := Aside0.mk (Kd.R_elder' (by (with_reducible repeat (first | apply Kd.R_alloc | apply Kd.R_drewN | apply Kd.R_drew)); exact HO_68.out) (Kd.R_base ho0) hb); have n1_ := Aside0.mk (Kd.R_elder' (by (with_reducible repeat (first | apply Kd.R_alloc | apply Kd.R_drewN | apply Kd.R_drew)); exact HO_240000.out) (Kd.R_base ho0) hb); have n2_ := Aside0.mk (Kd.R_below (by (with_reducible repeat (first | apply Kd.R_alloc | apply Kd.R_drewN | apply Kd.R_drew)); exact HO_240001.out) hb); have n3_ := Aside0.mk (Kd.R_lower (Kd.R_new' (Kd.R_new' ho0 (Kd.R_lt (by (with_reducible repeat (first | apply Kd.R_alloc | apply Kd.R_drewN | apply Kd.R_drew)); exact HO_68.out))) (Kd.R_lt (by (with_reducible repeat (first | apply Kd.R_alloc | apply Kd.R_drewN | apply Kd.R_drew)); exact HO_240000.out))) (below_size (by repeat (first | (with_reducible first | exact HB.out | apply below_alloc | apply pw_below_drewN | apply below_drew1 | refine below_set ?_ GE235.out | refine below_set ?_ GE239.out) | exact HB.out)))); have n4_ := Aside0.mk (blk_below (g := gb235) (o := .cells #[.slice none 0 0, .slice none 0 0] 25 (0, 0)) (by (with_reducible repeat (first | refine blk_drewN ?_ _ | refine blk_drew ?_ | refine blk_alloc ?_ _)); exact BK235.out) hb); have n5_ := Aside0.mk (blk_below (g := gb239) (o := .cells #[u240000, u240001] 25 (0, 0)) (by (with_reducible repeat (first | refine blk_drewN ?_ _ | refine blk_drew ?_ | refine blk_alloc ?_ _)); exact BK239.out) hb); have n6_ := Aside0.mk (below_step (by repeat (first | (with_reducible first | exact HB.out | apply below_alloc | apply pw_below_drewN | apply below_drew1 | refine below_set ?_ GE235.out | refine below_set ?_ GE239.out) | exact HB.out)) hb); clear HO_68; clear HO_240000; clear HO_240001; clear BK235; clear BK239; clear HB; have HO_68 := n0_; have HO_240000 := n1_; have HO_240001 := n2_; have HO259 := n3_; have BK235 := n4_; have BK239 := n5_; have HB := n6_; clear n0_ n1_ n2_ n3_ n4_ n5_ n6_; (try clear hb); (try clear hb2); (try clear hk); (try clear hi); (try clear ho0); obtain ⟨Ao77, co77, eo77⟩ := Kd.R_slice HO259.out; subst eo77; have p260 : 0 ≤ (0 : Int) := (by omega); have q260 : 0 < (t257.length : Int) := of_decide_eq_true (by first | (with_reducible assumption) | assumption); obtain ⟨ad260, e260, hx260_0⟩ := Kd.at_string (Kd.R_reads' HO259.out).2.2 0 p260 q260; cases e260; have qi260 : (0 < t257.length) = True := eq_true (by omega); (try rw [show ((0 : Int)).toNat = 0 from rfl] at hx260_0); (try rw [Addr.add_zero'] at hx260_0); replace p260 := eq_true p260; replace q260 := eq_true q260) | ((with_reducible refine gate_callee (f := 34) rfl ?_); refine goesL_ (some 84) rfl rfl Tryd.func34 (by kernel_rfl) rfl #[.string (rdOf ByteArray.empty t257 0)] rfl (by (try simp only [List.map_toArray, List.map_cons, List.map_nil]); first | done | rfl | (simp only [List.length_drop, List.length_take]; rfl)) ?_; (with_reducible refine (porticoref3_Decode.calls k3 (rdOf ByteArray.empty t257 0) t261 false _ A54.out).mono ?_); rintro e w78 ⟨rfl, hb⟩; refine ⟨_, rfl, ?_⟩; have n0_ := Aside0.mk (Kd.R_below (by (with_reducible repeat (first | apply Kd.R_alloc | apply Kd.R_drewN | apply Kd.R_drew)); exact HO_68.out) hb); have n1_ := Aside0.mk (Kd.R_below (by (with_reducible repeat (first | apply Kd.R_alloc | apply Kd.R_drewN | apply Kd.R_drew)); exact HO_240000.out) hb); have n2_ := Aside0.mk (Kd.R_below (by (with_reducible repeat (first | apply Kd.R_alloc | apply Kd.R_drewN | apply Kd.R_drew)); exact HO_240001.out) hb); have n3_ := Aside0.mk (Kd.R_below (by (with_reducible repeat (first | apply Kd.R_alloc | apply Kd.R_drewN | apply Kd.R_drew)); exact HO259.out) hb); have n4_ := Aside0.mk (blk_below (g := gb235) (o := .cells #[.slice none 0 0, .slice none 0 0] 25 (0, 0)) (by (with_reducible repeat (first | refine blk_drewN ?_ _ | refine blk_drew ?_ | refine blk_alloc ?_ _)); exact BK235.out) hb); have n5_ := Aside0.mk (blk_below (g := gb239) (o := .cells #[u240000, u240001] 25 (0, 0)) (by (with_reducible repeat (first | refine blk_drewN ?_ _ | refine blk_drew ?_ | refine blk_alloc ?_ _)); exact BK239.out) hb); have n6_ := Aside0.mk (below_step (by repeat (first | (with_reducible first | exact HB.out | apply below_alloc | apply pw_below_drewN | apply below_drew1 | refine below_set ?_ GE235.out | refine below_set ?_ GE239.out) | exact HB.out)) hb); clear HO_68; clear HO_240000; clear HO_240001; clear HO259; clear BK235; clear BK239; clear HB; have HO_68 := n0_; have HO_240000 := n1_; have HO_240001 := n2_; have HO259 := n3_; have BK235 := n4_; have BK239 := n5_; have HB := n6_; clear n0_ n1_ n2_ n3_ n4_ n5_ n6_; (try clear hb); (try clear hb2); (try clear hk); (try clear hi); have p263 : 0 ≤ (1 : Int) := (by omega); have q263 : 1 < (t257.length : Int) := of_decide_eq_true (by first | (with_reducible assumption) | assumption); obtain ⟨ad263, e263, hx263_0⟩ := Kd.at_string (Kd.R_reads' HO259.out).2.2 1 p263 q263; obtain rfl : ad260 = ad263 := (by injection e263); (try simp only [show (1 : Int).toNat = 1 from rfl, Nat.reduceMul, Nat.reduceEqDiff, Go.Addr.add, ↓reduceIte] at hx263_0); have qi263 : (1 < t257.length) = True := eq_true (by omega); (try rw [show ((1 : Int)).toNat = 1 from rfl] at hx263_0); replace p263 := eq_true p263; replace q263 := eq_true q263) | ((with_reducible refine gate_callee (f := 34) rfl ?_); refine goesL_ (some 94) rfl rfl Tryd.func34 (by kernel_rfl) rfl #[.string (rdOf ByteArray.empty t257 1)] rfl (by (try simp only [List.map_toArray, List.map_cons, List.map_nil]); first | done | rfl | (simp only [List.length_drop, List.length_take]; rfl)) ?_; (with_reducible refine (porticoref3_Decode.calls k3 (rdOf ByteArray.empty t257 1) t264 t265 _ A57.out).mono ?_); rintro e w79 ⟨rfl, hb⟩; refine ⟨_, rfl, ?_⟩; have n0_ := Aside0.mk (Kd.R_below (by (with_reducible repeat (first | apply Kd.R_alloc | apply Kd.R_drewN | apply Kd.R_drew)); exact HO_68.out) hb); have n1_ := Aside0.mk (Kd.R_below (by (with_reducible repeat (first | apply Kd.R_alloc | apply Kd.R_drewN | apply Kd.R_drew)); exact HO_240000.out) hb); have n2_ := Aside0.mk (Kd.R_below (by (with_reducible repeat (first | apply Kd.R_alloc | apply Kd.R_drewN | apply Kd.R_drew)); exact HO_240001.out) hb); have n3_ := Aside0.mk (Kd.R_below (by (with_reducible repeat (first | apply Kd.R_alloc | apply Kd.R_drewN | apply Kd.R_drew)); exact HO259.out) hb); have n4_ := Aside0.mk (blk_below (g := gb235) (o := .cells #[.slice none 0 0, .slice none 0 0] 25 (0, 0)) (by (with_reducible repeat (first | refine blk_drewN ?_ _ | refine blk_drew ?_ | refine blk_alloc ?_ _)); exact BK235.out) hb); have n5_ := Aside0.mk (blk_below (g := gb239) (o := .cells #[u240000, u240001] 25 (0, 0)) (by (with_reducible repeat (first | refine blk_drewN ?_ _ | refine blk_drew ?_ | refine blk_alloc ?_ _)); exact BK239.out) hb); have n6_ := Aside0.mk (below_step (by repeat (first | (with_reducible first | exact HB.out | apply below_alloc | apply pw_below_drewN | apply below_drew1 | refine below_set ?_ GE235.out | refine below_set ?_ GE239.out) | exact HB.out)) hb); clear HO_68; clear HO_240000; clear HO_240001; clear HO259; clear BK235; clear BK239; clear HB; have HO_68 := n0_; have HO_240000 := n1_; have HO_240001 := n2_; have HO259 := n3_; have BK235 := n4_; have BK239 := n5_; have HB := n6_; clear n0_ n1_ n2_ n3_ n4_ n5_ n6_; (try clear hb); (try clear hb2); (try clear hk); (try clear hi); have hnb80 := NB235_239.out; have hnc80 := NB239_235.out; have hcz81_0 : w79.cell? ⟨gb235, 0, none⟩ = some (.slice none 0 0) := (blk_cell BK235.out 0).trans rfl; have hcz81_1 : w79.cell? ⟨gb235, 1, none⟩ = some (.slice none 0 0) := (blk_cell BK235.out 1).trans rfl; have hfz81_0 := blk_frozen BK235.out 0; have hfz81_1 := blk_frozen BK235.out 1))
        refine bodyPost_ret (results_ct rfl _ _ gb235 25 #[.slice none 0 0, .slice none 0 0] (0, 0) _ rfl (by (with_reducible repeat (first | refine blk_drewN ?_ _ | refine blk_drew ?_ | refine blk_alloc ?_ _)); refine blk_put (cs := #[.slice none 0 0, .slice none 0 0]) ?_ 1 _ rfl; (with_reducible repeat (first | refine blk_drewN ?_ _ | refine blk_drew ?_ | refine blk_alloc ?_ _)); refine blk_put (cs := #[.slice none 0 0, .slice none 0 0]) ?_ 0 _ rfl; (with_reducible repeat (first | refine blk_drewN ?_ _ | refine blk_drew ?_ | refine blk_alloc ?_ _)); exact BK235.out) Tryd.underlying25 rfl (by kernel_rfl)) rfl ?_
        exact ⟨_, _, by first | rfl | (simp [errW_none, errW_some] <;> rfl) | (simp [*, errW_none, errW_some] <;> rfl), by first | exact Kd.R_nil _ _ _ _ _ | exact Kd.N_nil _ _ _ _ _ | exact Kd.V_nil _ _ _ _ _ | exact Kd.Q_nil _ _ _ _ _ | exact Kd.S_nil _ _ _ _ _, by first | exact Kd.R_nil _ _ _ _ _ | exact Kd.N_nil _ _ _ _ _ | exact Kd.V_nil _ _ _ _ _ | exact Kd.Q_nil _ _ _ _ _ | exact Kd.S_nil _ _ _ _ _, by repeat (first | (with_reducible first | exact HB.out | apply below_alloc | apply pw_below_drewN | apply below_drew1 | refine below_set ?_ GE235.out | refine below_set ?_ GE239.out) | exact HB.out)⟩
       subst c58
       have H1 : (if t265 = true then (if x240001_3.length < 4398046511104 then (porticoref3_Parse.l1 k3 t252 (t252.length : Int) (wrap64 (x70_3 + 1)) x240000_15 (x240001_3 ++ [(⟨t261, t264⟩ : S32)])) else (none)) else (some (([] : List ByteArray), ([] : List (S32)), 1))) = some (r1, r2, r3) := by rw [if_pos rfl] at H; exact H
       clear H
       have H := H1
       clear H1
       by_cases c59 : t265 = true
       rotate_left
       ·
        replace c59 := Bool.eq_false_iff.mpr c59
        subst c59
        have H1 : (some (([] : List ByteArray), ([] : List (S32)), 1)) = some (r1, r2, r3) := by rw [if_neg (show ¬ (false = true) by decide)] at H; exact H
        clear H
        have H := H1
        clear H1
        simp only [Option.some.injEq, Prod.mk.injEq] at H
        obtain ⟨rfl, rfl, rfl⟩ := H
        have p256 : 0 ≤ (x70_3 : Int) := of_decide_eq_true (by first | (with_reducible assumption) | assumption)
        have q256 : x70_3 < (t252.length : Int) := of_decide_eq_true (by first | (with_reducible assumption) | assumption)
        obtain ⟨ad256, e256, hx256_0⟩ := Kd.at_string (Kd.R_reads' HO_68.out).2.2 x70_3 p256 q256
        cases e256
        replace p256 := eq_true p256
        replace q256 := eq_true q256
        go_wp2_with (first | ((with_reducible refine gate_callee (f := 33) rfl ?_); refine goesL_ (some 75) rfl rfl Tryd.func33 (by kernel_rfl) rfl #[.string (rdOf ByteArray.empty t252 x70_3), .int .u8 61] rfl (by (try simp only [List.map_toArray, List.map_cons, List.map_nil]); first | done | rfl | (simp only [List.length_drop, List.length_take]; rfl)) ?_; (with_reducible refine (porticoref3_split.calls k3 (rdOf ByteArray.empty t252 x70_3) 61 t257 _ A47.out).mono ?_); rintro e w70 ⟨v258, rfl, ho0, hb⟩; refine ⟨_, rfl, ?_⟩; have n0_ := Aside0.mk (Kd.R_elder' (by (with_reducible repeat (first | apply Kd.R_alloc | apply Kd.R_drewN | apply Kd.R_drew)); exact HO_68.out) (Kd.R_base ho0) hb); have n1_ := Aside0.mk (Kd.R_elder' (by (with_reducible repeat (first | apply Kd.R_alloc | apply Kd.R_drewN | apply Kd.R_drew)); exact HO_240000.out) (Kd.R_base ho0) hb); have n2_ := Aside0.mk (Kd.R_below (by (with_reducible repeat (first | apply Kd.R_alloc | apply Kd.R_drewN | apply Kd.R_drew)); exact HO_240001.out) hb); have n3_ := Aside0.mk (Kd.R_lower (Kd.R_new' (Kd.R_new' ho0 (Kd.R_lt (by (with_reducible repeat (first | apply Kd.R_alloc | apply Kd.R_drewN | apply Kd.R_drew)); exact HO_68.out))) (Kd.R_lt (by (with_reducible repeat (first | apply Kd.R_alloc | apply Kd.R_drewN | apply Kd.R_drew)); exact HO_240000.out))) (below_size (by repeat (first | (with_reducible first | exact HB.out | apply below_alloc | apply pw_below_drewN | apply below_drew1 | refine below_set ?_ GE235.out | refine below_set ?_ GE239.out) | exact HB.out)))); have n4_ := Aside0.mk (blk_below (g := gb235) (o := .cells #[.slice none 0 0, .slice none 0 0] 25 (0, 0)) (by (with_reducible repeat (first | refine blk_drewN ?_ _ | refine blk_drew ?_ | refine blk_alloc ?_ _)); exact BK235.out) hb); have n5_ := Aside0.mk (blk_below (g := gb239) (o := .cells #[u240000, u240001] 25 (0, 0)) (by (with_reducible repeat (first | refine blk_drewN ?_ _ | refine blk_drew ?_ | refine blk_alloc ?_ _)); exact BK239.out) hb); have n6_ := Aside0.mk (below_step (by repeat (first | (with_reducible first | exact HB.out | apply below_alloc | apply pw_below_drewN | apply below_drew1 | refine below_set ?_ GE235.out | refine below_set ?_ GE239.out) | exact HB.out)) hb); clear HO_68; clear HO_240000; clear HO_240001; clear BK235; clear BK239; clear HB; have HO_68 := n0_; have HO_240000 := n1_; have HO_240001 := n2_; have HO259 := n3_; have BK235 := n4_; have BK239 := n5_; have HB := n6_; clear n0_ n1_ n2_ n3_ n4_ n5_ n6_; (try clear hb); (try clear hb2); (try clear hk); (try clear hi); (try clear ho0); obtain ⟨Ao71, co71, eo71⟩ := Kd.R_slice HO259.out; subst eo71; have p260 : 0 ≤ (0 : Int) := (by omega); have q260 : 0 < (t257.length : Int) := of_decide_eq_true (by first | (with_reducible assumption) | assumption); obtain ⟨ad260, e260, hx260_0⟩ := Kd.at_string (Kd.R_reads' HO259.out).2.2 0 p260 q260; cases e260; have qi260 : (0 < t257.length) = True := eq_true (by omega); (try rw [show ((0 : Int)).toNat = 0 from rfl] at hx260_0); (try rw [Addr.add_zero'] at hx260_0); replace p260 := eq_true p260; replace q260 := eq_true q260) | ((with_reducible refine gate_callee (f := 34) rfl ?_); refine goesL_ (some 84) rfl rfl Tryd.func34 (by kernel_rfl) rfl #[.string (rdOf ByteArray.empty t257 0)] rfl (by (try simp only [List.map_toArray, List.map_cons, List.map_nil]); first | done | rfl | (simp only [List.length_drop, List.length_take]; rfl)) ?_; (with_reducible refine (porticoref3_Decode.calls k3 (rdOf ByteArray.empty t257 0) t261 true _ A54.out).mono ?_); rintro e w72 ⟨rfl, hb⟩; refine ⟨_, rfl, ?_⟩; have n0_ := Aside0.mk (Kd.R_below (by (with_reducible repeat (first | apply Kd.R_alloc | apply Kd.R_drewN | apply Kd.R_drew)); exact HO_68.out) hb); have n1_ := Aside0.mk (Kd.R_below (by (with_reducible repeat (first | apply Kd.R_alloc | apply Kd.R_drewN | apply Kd.R_drew)); exact HO_240000.out) hb); have n2_ := Aside0.mk (Kd.R_below (by (with_reducible repeat (first | apply Kd.R_alloc | apply Kd.R_drewN | apply Kd.R_drew)); exact HO_240001.out) hb); have n3_ := Aside0.mk (Kd.R_below (by (with_reducible repeat (first | apply Kd.R_alloc | apply Kd.R_drewN | apply Kd.R_drew)); exact HO259.out) hb); have n4_ := Aside0.mk (blk_below (g := gb235) (o := .cells #[.slice none 0 0, .slice none 0 0] 25 (0, 0)) (by (with_reducible repeat (first | refine blk_drewN ?_ _ | refine blk_drew ?_ | refine blk_alloc ?_ _)); exact BK235.out) hb); have n5_ := Aside0.mk (blk_below (g := gb239) (o := .cells #[u240000, u240001] 25 (0, 0)) (by (with_reducible repeat (first | refine blk_drewN ?_ _ | refine blk_drew ?_ | refine blk_alloc ?_ _)); exact BK239.out) hb); have n6_ := Aside0.mk (below_step (by repeat (first | (with_reducible first | exact HB.out | apply below_alloc | apply pw_below_drewN | apply below_drew1 | refine below_set ?_ GE235.out | refine below_set ?_ GE239.out) | exact HB.out)) hb); clear HO_68; clear HO_240000; clear HO_240001; clear HO259; clear BK235; clear BK239; clear HB; have HO_68 := n0_; have HO_240000 := n1_; have HO_240001 := n2_; have HO259 := n3_; have BK235 := n4_; have BK239 := n5_; have HB := n6_; clear n0_ n1_ n2_ n3_ n4_ n5_ n6_; (try clear hb); (try clear hb2); (try clear hk); (try clear hi); have p263 : 0 ≤ (1 : Int) := (by omega); have q263 : 1 < (t257.length : Int) := of_decide_eq_true (by first | (with_reducible assumption) | assumption); obtain ⟨ad263, e263, hx263_0⟩ := Kd.at_string (Kd.R_reads' HO259.out).2.2 1 p263 q263; obtain rfl : ad260 = ad263 := (by injection e263); (try simp only [show (1 : Int).toNat = 1 from rfl, Nat.reduceMul, Nat.reduceEqDiff, Go.Addr.add, ↓reduceIte] at hx263_0); have qi263 : (1 < t257.length) = True := eq_true (by omega); (try rw [show ((1 : Int)).toNat = 1 from rfl] at hx263_0); replace p263 := eq_true p263; replace q263 := eq_true q263) | ((with_reducible refine gate_callee (f := 34) rfl ?_); refine goesL_ (some 94) rfl rfl Tryd.func34 (by kernel_rfl) rfl #[.string (rdOf ByteArray.empty t257 1)] rfl (by (try simp only [List.map_toArray, List.map_cons, List.map_nil]); first | done | rfl | (simp only [List.length_drop, List.length_take]; rfl)) ?_; (with_reducible refine (porticoref3_Decode.calls k3 (rdOf ByteArray.empty t257 1) t264 false _ A57.out).mono ?_); rintro e w73 ⟨rfl, hb⟩; refine ⟨_, rfl, ?_⟩; have n0_ := Aside0.mk (Kd.R_below (by (with_reducible repeat (first | apply Kd.R_alloc | apply Kd.R_drewN | apply Kd.R_drew)); exact HO_68.out) hb); have n1_ := Aside0.mk (Kd.R_below (by (with_reducible repeat (first | apply Kd.R_alloc | apply Kd.R_drewN | apply Kd.R_drew)); exact HO_240000.out) hb); have n2_ := Aside0.mk (Kd.R_below (by (with_reducible repeat (first | apply Kd.R_alloc | apply Kd.R_drewN | apply Kd.R_drew)); exact HO_240001.out) hb); have n3_ := Aside0.mk (Kd.R_below (by (with_reducible repeat (first | apply Kd.R_alloc | apply Kd.R_drewN | apply Kd.R_drew)); exact HO259.out) hb); have n4_ := Aside0.mk (blk_below (g := gb235) (o := .cells #[.slice none 0 0, .slice none 0 0] 25 (0, 0)) (by (with_reducible repeat (first | refine blk_drewN ?_ _ | refine blk_drew ?_ | refine blk_alloc ?_ _)); exact BK235.out) hb); have n5_ := Aside0.mk (blk_below (g := gb239) (o := .cells #[u240000, u240001] 25 (0, 0)) (by (with_reducible repeat (first | refine blk_drewN ?_ _ | refine blk_drew ?_ | refine blk_alloc ?_ _)); exact BK239.out) hb); have n6_ := Aside0.mk (below_step (by repeat (first | (with_reducible first | exact HB.out | apply below_alloc | apply pw_below_drewN | apply below_drew1 | refine below_set ?_ GE235.out | refine below_set ?_ GE239.out) | exact HB.out)) hb); clear HO_68; clear HO_240000; clear HO_240001; clear HO259; clear BK235; clear BK239; clear HB; have HO_68 := n0_; have HO_240000 := n1_; have HO_240001 := n2_; have HO259 := n3_; have BK235 := n4_; have BK239 := n5_; have HB := n6_; clear n0_ n1_ n2_ n3_ n4_ n5_ n6_; (try clear hb); (try clear hb2); (try clear hk); (try clear hi); have hnb74 := NB235_239.out; have hnc74 := NB239_235.out; have hcz75_0 : w73.cell? ⟨gb235, 0, none⟩ = some (.slice none 0 0) := (blk_cell BK235.out 0).trans rfl; have hcz75_1 : w73.cell? ⟨gb235, 1, none⟩ = some (.slice none 0 0) := (blk_cell BK235.out 1).trans rfl; have hfz75_0 := blk_frozen BK235.out 0; have hfz75_1 := blk_frozen BK235.out 1))
        refine bodyPost_ret (results_ct rfl _ _ gb235 25 #[.slice none 0 0, .slice none 0 0] (0, 0) _ rfl (by (with_reducible repeat (first | refine blk_drewN ?_ _ | refine blk_drew ?_ | refine blk_alloc ?_ _)); refine blk_put (cs := #[.slice none 0 0, .slice none 0 0]) ?_ 1 _ rfl; (with_reducible repeat (first | refine blk_drewN ?_ _ | refine blk_drew ?_ | refine blk_alloc ?_ _)); refine blk_put (cs := #[.slice none 0 0, .slice none 0 0]) ?_ 0 _ rfl; (with_reducible repeat (first | refine blk_drewN ?_ _ | refine blk_drew ?_ | refine blk_alloc ?_ _)); exact BK235.out) Tryd.underlying25 rfl (by kernel_rfl)) rfl ?_
        exact ⟨_, _, by first | rfl | (simp [errW_none, errW_some] <;> rfl) | (simp [*, errW_none, errW_some] <;> rfl), by first | exact Kd.R_nil _ _ _ _ _ | exact Kd.N_nil _ _ _ _ _ | exact Kd.V_nil _ _ _ _ _ | exact Kd.Q_nil _ _ _ _ _ | exact Kd.S_nil _ _ _ _ _, by first | exact Kd.R_nil _ _ _ _ _ | exact Kd.N_nil _ _ _ _ _ | exact Kd.V_nil _ _ _ _ _ | exact Kd.Q_nil _ _ _ _ _ | exact Kd.S_nil _ _ _ _ _, by repeat (first | (with_reducible first | exact HB.out | apply below_alloc | apply pw_below_drewN | apply below_drew1 | refine below_set ?_ GE235.out | refine below_set ?_ GE239.out) | exact HB.out)⟩
       subst c59
       have H1 : (if x240001_3.length < 4398046511104 then (porticoref3_Parse.l1 k3 t252 (t252.length : Int) (wrap64 (x70_3 + 1)) x240000_15 (x240001_3 ++ [(⟨t261, t264⟩ : S32)])) else (none)) = some (r1, r2, r3) := by rw [if_pos rfl] at H; exact H
       clear H
       have H := H1
       clear H1
       by_cases c60 : x240001_3.length < 4398046511104
       rotate_left
       ·
        rw [if_neg c60] at H
        exact absurd H (by simp)
       rw [if_pos c60] at H
       have LMc60 := Aside0.mk c60
       clear c60
       obtain ⟨y266, hy266⟩ : ∃ y_ : List (S32), y_ = (x240001_3 ++ [(⟨t261, t264⟩ : S32)]) := ⟨_, rfl⟩
       replace H : (porticoref3_Parse.l1 k3 t252 (t252.length : Int) (wrap64 (x70_3 + 1)) x240000_15 y266) = some (r1, r2, r3) := by first | (rw [hy266]; with_reducible exact H) | (have H2_ := (Option.bind_some _ _).symm.trans H; rw [hy266]; with_reducible exact H2_) | (have H2_ := (Option.bind_some _ _).symm.trans H; with_reducible exact H2_) | with_reducible exact H | (rw [hy266]; exact H) | exact H
       have Ny266 := Aside0.mk hy266
       clear hy266
       have H' := Aside0.mk H
       clear H
       have p256 : 0 ≤ (x70_3 : Int) := of_decide_eq_true (by first | (with_reducible assumption) | assumption)
       have q256 : x70_3 < (t252.length : Int) := of_decide_eq_true (by first | (with_reducible assumption) | assumption)
       obtain ⟨ad256, e256, hx256_0⟩ := Kd.at_string (Kd.R_reads' HO_68.out).2.2 x70_3 p256 q256
       cases e256
       replace p256 := eq_true p256
       replace q256 := eq_true q256
       go_wp2_with (first | ((with_reducible refine gate_callee (f := 33) rfl ?_); refine goesL_ (some 75) rfl rfl Tryd.func33 (by kernel_rfl) rfl #[.string (rdOf ByteArray.empty t252 x70_3), .int .u8 61] rfl (by (try simp only [List.map_toArray, List.map_cons, List.map_nil]); first | done | rfl | (simp only [List.length_drop, List.length_take]; rfl)) ?_; (with_reducible refine (porticoref3_split.calls k3 (rdOf ByteArray.empty t252 x70_3) 61 t257 _ A47.out).mono ?_); rintro e w61 ⟨v258, rfl, ho0, hb⟩; refine ⟨_, rfl, ?_⟩; have n0_ := Aside0.mk (Kd.R_elder' (by (with_reducible repeat (first | apply Kd.R_alloc | apply Kd.R_drewN | apply Kd.R_drew)); exact HO_68.out) (Kd.R_base ho0) hb); have n1_ := Aside0.mk (Kd.R_elder' (by (with_reducible repeat (first | apply Kd.R_alloc | apply Kd.R_drewN | apply Kd.R_drew)); exact HO_240000.out) (Kd.R_base ho0) hb); have n2_ := Aside0.mk (Kd.R_below (by (with_reducible repeat (first | apply Kd.R_alloc | apply Kd.R_drewN | apply Kd.R_drew)); exact HO_240001.out) hb); have n3_ := Aside0.mk (Kd.R_lower (Kd.R_new' (Kd.R_new' ho0 (Kd.R_lt (by (with_reducible repeat (first | apply Kd.R_alloc | apply Kd.R_drewN | apply Kd.R_drew)); exact HO_68.out))) (Kd.R_lt (by (with_reducible repeat (first | apply Kd.R_alloc | apply Kd.R_drewN | apply Kd.R_drew)); exact HO_240000.out))) (below_size (by repeat (first | (with_reducible first | exact HB.out | apply below_alloc | apply pw_below_drewN | apply below_drew1 | refine below_set ?_ GE235.out | refine below_set ?_ GE239.out) | exact HB.out)))); have n4_ := Aside0.mk (blk_below (g := gb235) (o := .cells #[.slice none 0 0, .slice none 0 0] 25 (0, 0)) (by (with_reducible repeat (first | refine blk_drewN ?_ _ | refine blk_drew ?_ | refine blk_alloc ?_ _)); exact BK235.out) hb); have n5_ := Aside0.mk (blk_below (g := gb239) (o := .cells #[u240000, u240001] 25 (0, 0)) (by (with_reducible repeat (first | refine blk_drewN ?_ _ | refine blk_drew ?_ | refine blk_alloc ?_ _)); exact BK239.out) hb); have n6_ := Aside0.mk (below_step (by repeat (first | (with_reducible first | exact HB.out | apply below_alloc | apply pw_below_drewN | apply below_drew1 | refine below_set ?_ GE235.out | refine below_set ?_ GE239.out) | exact HB.out)) hb); clear HO_68; clear HO_240000; clear HO_240001; clear BK235; clear BK239; clear HB; have HO_68 := n0_; have HO_240000 := n1_; have HO_240001 := n2_; have HO259 := n3_; have BK235 := n4_; have BK239 := n5_; have HB := n6_; clear n0_ n1_ n2_ n3_ n4_ n5_ n6_; (try clear hb); (try clear hb2); (try clear hk); (try clear hi); (try clear ho0); obtain ⟨Ao62, co62, eo62⟩ := Kd.R_slice HO259.out; subst eo62; have p260 : 0 ≤ (0 : Int) := (by omega); have q260 : 0 < (t257.length : Int) := of_decide_eq_true (by first | (with_reducible assumption) | assumption); obtain ⟨ad260, e260, hx260_0⟩ := Kd.at_string (Kd.R_reads' HO259.out).2.2 0 p260 q260; cases e260; have qi260 : (0 < t257.length) = True := eq_true (by omega); (try rw [show ((0 : Int)).toNat = 0 from rfl] at hx260_0); (try rw [Addr.add_zero'] at hx260_0); replace p260 := eq_true p260; replace q260 := eq_true q260) | ((with_reducible refine gate_callee (f := 34) rfl ?_); refine goesL_ (some 84) rfl rfl Tryd.func34 (by kernel_rfl) rfl #[.string (rdOf ByteArray.empty t257 0)] rfl (by (try simp only [List.map_toArray, List.map_cons, List.map_nil]); first | done | rfl | (simp only [List.length_drop, List.length_take]; rfl)) ?_; (with_reducible refine (porticoref3_Decode.calls k3 (rdOf ByteArray.empty t257 0) t261 true _ A54.out).mono ?_); rintro e w63 ⟨rfl, hb⟩; refine ⟨_, rfl, ?_⟩; have n0_ := Aside0.mk (Kd.R_below (by (with_reducible repeat (first | apply Kd.R_alloc | apply Kd.R_drewN | apply Kd.R_drew)); exact HO_68.out) hb); have n1_ := Aside0.mk (Kd.R_below (by (with_reducible repeat (first | apply Kd.R_alloc | apply Kd.R_drewN | apply Kd.R_drew)); exact HO_240000.out) hb); have n2_ := Aside0.mk (Kd.R_below (by (with_reducible repeat (first | apply Kd.R_alloc | apply Kd.R_drewN | apply Kd.R_drew)); exact HO_240001.out) hb); have n3_ := Aside0.mk (Kd.R_below (by (with_reducible repeat (first | apply Kd.R_alloc | apply Kd.R_drewN | apply Kd.R_drew)); exact HO259.out) hb); have n4_ := Aside0.mk (blk_below (g := gb235) (o := .cells #[.slice none 0 0, .slice none 0 0] 25 (0, 0)) (by (with_reducible repeat (first | refine blk_drewN ?_ _ | refine blk_drew ?_ | refine blk_alloc ?_ _)); exact BK235.out) hb); have n5_ := Aside0.mk (blk_below (g := gb239) (o := .cells #[u240000, u240001] 25 (0, 0)) (by (with_reducible repeat (first | refine blk_drewN ?_ _ | refine blk_drew ?_ | refine blk_alloc ?_ _)); exact BK239.out) hb); have n6_ := Aside0.mk (below_step (by repeat (first | (with_reducible first | exact HB.out | apply below_alloc | apply pw_below_drewN | apply below_drew1 | refine below_set ?_ GE235.out | refine below_set ?_ GE239.out) | exact HB.out)) hb); clear HO_68; clear HO_240000; clear HO_240001; clear HO259; clear BK235; clear BK239; clear HB; have HO_68 := n0_; have HO_240000 := n1_; have HO_240001 := n2_; have HO259 := n3_; have BK235 := n4_; have BK239 := n5_; have HB := n6_; clear n0_ n1_ n2_ n3_ n4_ n5_ n6_; (try clear hb); (try clear hb2); (try clear hk); (try clear hi); have p263 : 0 ≤ (1 : Int) := (by omega); have q263 : 1 < (t257.length : Int) := of_decide_eq_true (by first | (with_reducible assumption) | assumption); obtain ⟨ad263, e263, hx263_0⟩ := Kd.at_string (Kd.R_reads' HO259.out).2.2 1 p263 q263; obtain rfl : ad260 = ad263 := (by injection e263); (try simp only [show (1 : Int).toNat = 1 from rfl, Nat.reduceMul, Nat.reduceEqDiff, Go.Addr.add, ↓reduceIte] at hx263_0); have qi263 : (1 < t257.length) = True := eq_true (by omega); (try rw [show ((1 : Int)).toNat = 1 from rfl] at hx263_0); replace p263 := eq_true p263; replace q263 := eq_true q263) | ((with_reducible refine gate_callee (f := 34) rfl ?_); refine goesL_ (some 94) rfl rfl Tryd.func34 (by kernel_rfl) rfl #[.string (rdOf ByteArray.empty t257 1)] rfl (by (try simp only [List.map_toArray, List.map_cons, List.map_nil]); first | done | rfl | (simp only [List.length_drop, List.length_take]; rfl)) ?_; (with_reducible refine (porticoref3_Decode.calls k3 (rdOf ByteArray.empty t257 1) t264 true _ A57.out).mono ?_); rintro e w64 ⟨rfl, hb⟩; refine ⟨_, rfl, ?_⟩; have n0_ := Aside0.mk (Kd.R_below (by (with_reducible repeat (first | apply Kd.R_alloc | apply Kd.R_drewN | apply Kd.R_drew)); exact HO_68.out) hb); have n1_ := Aside0.mk (Kd.R_below (by (with_reducible repeat (first | apply Kd.R_alloc | apply Kd.R_drewN | apply Kd.R_drew)); exact HO_240000.out) hb); have n2_ := Aside0.mk (Kd.R_below (by (with_reducible repeat (first | apply Kd.R_alloc | apply Kd.R_drewN | apply Kd.R_drew)); exact HO_240001.out) hb); have n3_ := Aside0.mk (Kd.R_below (by (with_reducible repeat (first | apply Kd.R_alloc | apply Kd.R_drewN | apply Kd.R_drew)); exact HO259.out) hb); have n4_ := Aside0.mk (blk_below (g := gb235) (o := .cells #[.slice none 0 0, .slice none 0 0] 25 (0, 0)) (by (with_reducible repeat (first | refine blk_drewN ?_ _ | refine blk_drew ?_ | refine blk_alloc ?_ _)); exact BK235.out) hb); have n5_ := Aside0.mk (blk_below (g := gb239) (o := .cells #[u240000, u240001] 25 (0, 0)) (by (with_reducible repeat (first | refine blk_drewN ?_ _ | refine blk_drew ?_ | refine blk_alloc ?_ _)); exact BK239.out) hb); have n6_ := Aside0.mk (below_step (by repeat (first | (with_reducible first | exact HB.out | apply below_alloc | apply pw_below_drewN | apply below_drew1 | refine below_set ?_ GE235.out | refine below_set ?_ GE239.out) | exact HB.out)) hb); clear HO_68; clear HO_240000; clear HO_240001; clear HO259; clear BK235; clear BK239; clear HB; have HO_68 := n0_; have HO_240000 := n1_; have HO_240001 := n2_; have HO259 := n3_; have BK235 := n4_; have BK239 := n5_; have HB := n6_; clear n0_ n1_ n2_ n3_ n4_ n5_ n6_; (try clear hb); (try clear hb2); (try clear hk); (try clear hi); have hnb65 := NB239_235.out; have hnc65 := NB235_239.out; have hcz66_0 : w64.cell? ⟨gb239, 0, none⟩ = some (u240000) := (blk_cell BK239.out 0).trans rfl; have hcz66_1 : w64.cell? ⟨gb239, 1, none⟩ = some (u240001) := (blk_cell BK239.out 1).trans rfl; have hfz66_0 := blk_frozen BK239.out 0; have hfz66_1 := blk_frozen BK239.out 1) | ((with_reducible refine gate_builtin (b := .append) (xs := #[.tmp 105, .tmp 109]) rfl ?_); (try (refine gate_guard (by rfl) ?_; dsimp only)); at_builtin; refine Kd.R_append k32 (w0 := w) w.heap.size rfl (.tmp 105) (.tmp 109) 23 32 (.agg #[(.string ⟨#[]⟩), (.string ⟨#[]⟩)]) 32 rfl Tryd.underlying23 info32 rfl (by decide) (by omega) u240001 x240001_3 (⟨t261, t264⟩ : S32) [.string t261, .string t264] (fun _ => True) (fun _ => False) rfl rfl ?aP (fun _ hk => hk.elim) ?aF ?aO ?aB ?aS ?aL ?_; (case aP => exact k32_mkM _ _ _ (⟨t261, t264⟩ : S32)); (case aB => exact (by repeat (first | (with_reducible first | exact HB.out | apply below_alloc | apply pw_below_drewN | apply below_drew1 | refine below_set ?_ GE235.out | refine below_set ?_ GE239.out) | exact HB.out))); (case aF => exact (fun _ _ => trivial)); (case aO => exact (by (with_reducible repeat (first | apply Kd.R_alloc | apply Kd.R_drewN | apply Kd.R_drew)); exact HO_240001.out)); (case aS => exact (below_size (by repeat (first | (with_reducible first | exact HB.out | apply below_alloc | apply pw_below_drewN | apply below_drew1 | refine below_set ?_ GE235.out | refine below_set ?_ GE239.out) | exact HB.out)))); (case aL => have := LMc60.out; omega); intro v267 w67 ho hb hg hat; rw [← Ny266.out] at ho; have n0_ := Aside0.mk (Kd.R_over' (by (with_reducible repeat (first | apply Kd.R_alloc | apply Kd.R_drewN | apply Kd.R_drew)); exact HO_68.out) (Kd.R_typed (by (with_reducible repeat (first | apply Kd.R_alloc | apply Kd.R_drewN | apply Kd.R_drew)); exact HO_240001.out)) (by decide) hg); have n1_ := Aside0.mk (Kd.R_over' (by (with_reducible repeat (first | apply Kd.R_alloc | apply Kd.R_drewN | apply Kd.R_drew)); exact HO_240000.out) (Kd.R_typed (by (with_reducible repeat (first | apply Kd.R_alloc | apply Kd.R_drewN | apply Kd.R_drew)); exact HO_240001.out)) (by decide) hg); have n2_ := Aside0.mk (blk_grown (g := gb235) (o := .cells #[.slice none 0 0, .slice none 0 0] 25 (0, 0)) (by (with_reducible repeat (first | refine blk_drewN ?_ _ | refine blk_drew ?_ | refine blk_alloc ?_ _)); exact BK235.out) hg (Kd.R_ne HO_240001.out BK235.out (by decide))); have n3_ := Aside0.mk (blk_grown (g := gb239) (o := .cells #[u240000, u240001] 25 (0, 0)) (by (with_reducible repeat (first | refine blk_drewN ?_ _ | refine blk_drew ?_ | refine blk_alloc ?_ _)); exact BK239.out) hg (Kd.R_ne HO_240001.out BK239.out (by decide))); have n4_ := Aside0.mk (Kd.R_over' (by (with_reducible repeat (first | apply Kd.R_alloc | apply Kd.R_drewN | apply Kd.R_drew)); exact HO259.out) (Kd.R_typed (by (with_reducible repeat (first | apply Kd.R_alloc | apply Kd.R_drewN | apply Kd.R_drew)); exact HO_240001.out)) (by decide) hg); have n5_ := Aside0.mk (hb); have n6_ := Aside0.mk (ho); clear HO_68; clear HO_240000; clear BK235; clear BK239; clear HO259; clear HB; clear HO_240001; have HO_68 := n0_; have HO_240000 := n1_; have BK235 := n2_; have BK239 := n3_; have HO259 := n4_; have HB := n5_; have HO268 := n6_; clear n0_ n1_ n2_ n3_ n4_ n5_ n6_; clear ho hb hg hat; obtain ⟨Ao68, co68, eo68⟩ := Kd.R_slice HO268.out; subst eo68; have hcz69_0 : w67.cell? ⟨gb239, 0, none⟩ = some (u240000) := (blk_cell BK239.out 0).trans rfl; have hcz69_1 : w67.cell? ⟨gb239, 1, none⟩ = some (u240001) := (blk_cell BK239.out 1).trans rfl; have hfz69_0 := blk_frozen BK239.out 0; have hfz69_1 := blk_frozen BK239.out 1))
       go_roundg k3
       case measure => have := HJ2.out; have := HJ15.out; have := HK3.out; omega
       case rel => exact ⟨(wrap64 (x70_3 + 1)), (y266), (.slice Ao68 y266.length co68), (by first | rfl | (simp; done) | (simp [*]; done)), H', ⟨by have := HJ2.out; have := HJ15.out; have := HK3.out; omega⟩, ⟨by (with_reducible repeat (first | apply Kd.R_alloc | apply Kd.R_drewN | apply Kd.R_drew)); exact Kd.R_mono (Kd.R_far (p := ⟨gb239, 1, none⟩) (Kd.R_types HO_68.out BK239.out (by decide)) (fun _ hk => hk.2) (.slice Ao68 y266.length co68)) (fun _ hk => hk.1.1)⟩, ⟨by (with_reducible repeat (first | apply Kd.R_alloc | apply Kd.R_drewN | apply Kd.R_drew)); exact Kd.R_mono (Kd.R_far (p := ⟨gb239, 1, none⟩) (Kd.R_types HO_240000.out BK239.out (by decide)) (fun _ hk => hk.2) (.slice Ao68 y266.length co68)) (fun _ hk => hk.1.1)⟩, ⟨by (with_reducible repeat (first | apply Kd.R_alloc | apply Kd.R_drewN | apply Kd.R_drew)); exact Kd.R_mono (Kd.R_far (p := ⟨gb239, 1, none⟩) (Kd.R_types HO268.out BK239.out (by decide)) (fun _ hk => hk.2) (.slice Ao68 y266.length co68)) (fun _ hk => trivial)⟩, ⟨by (with_reducible repeat (first | refine blk_drewN ?_ _ | refine blk_drew ?_ | refine blk_alloc ?_ _)); refine blk_far ?_ NB235_239.out _; (with_reducible repeat (first | refine blk_drewN ?_ _ | refine blk_drew ?_ | refine blk_alloc ?_ _)); exact BK235.out⟩, ⟨by (with_reducible repeat (first | refine blk_drewN ?_ _ | refine blk_drew ?_ | refine blk_alloc ?_ _)); refine blk_put (cs := #[u240000, u240001]) ?_ 1 _ rfl; (with_reducible repeat (first | refine blk_drewN ?_ _ | refine blk_drew ?_ | refine blk_alloc ?_ _)); exact BK239.out⟩, ⟨by repeat (first | (with_reducible first | exact HB.out | apply below_alloc | apply pw_below_drewN | apply below_drew1 | refine below_set ?_ GE235.out | refine below_set ?_ GE239.out) | exact HB.out)⟩⟩

end Go.Proofs.YtcaaggfobdfgpaaDoor.PURLTells
