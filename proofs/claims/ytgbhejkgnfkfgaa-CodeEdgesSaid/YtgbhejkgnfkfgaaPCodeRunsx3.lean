-- Printed by a program of this session's own (wip/tools: a turned copy of the kit's print).
import Derived.Test.YtgbhejkgnfkfgaaPCodeRunsx0
import Derived.Test.YtgbhejkgnfkfgaaPCodeRunsx2
namespace Go.Proofs.Ytgbhejkgnfkfgaa.PCodeRuns
open Go.Proofs.Ytgbhejkgnfkfgaa.Given
open Go.RowKit Go.Proofs.YtgbhejkgnfkfgaaW.PrintWords Go.Proofs.YtgbhejkgnfkfgaaW.PrintLast Go.Proofs.YtgbhejkgnfkfgaaW.PrintMore
attribute [local go_sem] max2_int min2_int max_two min_two max_three min_three max_four min_four   -- for this text's walks alone
set_option linter.unusedVariables false
set_option linter.unusedSimpArgs false

/-! ### code_body: function 17 -/
mutual
def code_body.l0 : Nat → List Int → List (S24) → Int → Int → List (S24) → Int → List Bool → List (List Int) → Option (List Int)
  | 0, _, _, _, _, _, _, _, _ => none
  | k + 1, x3, x18, x19, x20, x108000, x108001, x108002, x108003 => if x20 < x19 then (if 0 ≤ x20 then (if x20 < (x18.length : Int) then ((code_num.f k x3 (((rd_T24 x18 x20).f0).size : Int)).bind fun t113 => (if t113.length + ((rd_T24 x18 x20).f0).size < 140737488355328 then ((code_put.f k (t113 ++ bytesOf ((rd_T24 x18 x20).f0)) ((rd_T24 x18 x20).f1) 8).bind fun t119 => (code_body.l0 k t119 x18 x19 (wrap64 (x20 + 1)) x108000 x108001 x108002 x108003)) else (none))) else (none)) else (none)) else ((code_num.f k x3 x108001).bind fun t122 => ((code_num.f k t122 (x108002.length : Int)).bind fun t125 => (code_body.l1 k t125 x108002 (x108002.length : Int) 0 x108000 x108001 x108002 x108003)))
def code_body.l1 : Nat → List Int → List Bool → Int → Int → List (S24) → Int → List Bool → List (List Int) → Option (List Int)
  | 0, _, _, _, _, _, _, _, _ => none
  | k + 1, x3, x47, x48, x49, x108000, x108001, x108002, x108003 => if x49 < x48 then (if 0 ≤ x49 then (if x49 < (x47.length : Int) then (if rdOf false x47 x49 = true then ((code_num.f k x3 1).bind fun t129 => (code_body.l1 k t129 x47 x48 (wrap64 (x49 + 1)) x108000 x108001 x108002 x108003)) else ((code_num.f k x3 0).bind fun t132 => (code_body.l1 k t132 x47 x48 (wrap64 (x49 + 1)) x108000 x108001 x108002 x108003))) else (none)) else (none)) else ((code_num.f k x3 (x108003.length : Int)).bind fun t135 => (code_body.l2 k t135 x108003 (x108003.length : Int) 0))
def code_body.l2 : Nat → List Int → List (List Int) → Int → Int → Option (List Int)
  | 0, _, _, _, _ => none
  | k + 1, x3, x64, x65, x66 => if x66 < x65 then (if 0 ≤ x66 then (if x66 < (x64.length : Int) then ((code_num.f k x3 ((rd_L6 x64 x66).length : Int)).bind fun t139 => (code_body.l3 k t139 x64 x65 x66 (rd_L6 x64 x66) ((rd_L6 x64 x66).length : Int) 0)) else (none)) else (none)) else (some x3)
def code_body.l3 : Nat → List Int → List (List Int) → Int → Int → List Int → Int → Int → Option (List Int)
  | 0, _, _, _, _, _, _, _ => none
  | k + 1, x3, x64, x65, x66, x74, x75, x76 => if x76 < x75 then (if 0 ≤ x76 then (if x76 < (x74.length : Int) then ((code_num.f k x3 (rd x74 x76)).bind fun t143 => (code_body.l3 k t143 x64 x65 x66 x74 x75 (wrap64 (x76 + 1)))) else (none)) else (none)) else (code_body.l2 k x3 x64 x65 (wrap64 (x66 + 1)))
end
def code_body.f (k : Nat) (l0_0 : List (S24)) (a0_1 : Int) (l0_2 : List Bool) (l0_3 : List (List Int)) : Option (List Int) := (code_num.f k ([] : List Int) (l0_0.length : Int)).bind fun t108 => (code_body.l0 k t108 l0_0 (l0_0.length : Int) 0 l0_0 a0_1 l0_2 l0_3)
theorem code_body.mono_l : ∀ k, (∀ y0 y1 y2 y3 y4 y5 y6 y7, LeO (code_body.l0 k y0 y1 y2 y3 y4 y5 y6 y7) (code_body.l0 (k + 1) y0 y1 y2 y3 y4 y5 y6 y7)) ∧ (∀ y0 y1 y2 y3 y4 y5 y6 y7, LeO (code_body.l1 k y0 y1 y2 y3 y4 y5 y6 y7) (code_body.l1 (k + 1) y0 y1 y2 y3 y4 y5 y6 y7)) ∧ (∀ y0 y1 y2 y3, LeO (code_body.l2 k y0 y1 y2 y3) (code_body.l2 (k + 1) y0 y1 y2 y3)) ∧ (∀ y0 y1 y2 y3 y4 y5 y6, LeO (code_body.l3 k y0 y1 y2 y3 y4 y5 y6) (code_body.l3 (k + 1) y0 y1 y2 y3 y4 y5 y6))
  | 0 => ⟨fun _ _ _ _ _ _ _ _ r h => by simp [code_body.l0] at h, fun _ _ _ _ _ _ _ _ r h => by simp [code_body.l1] at h, fun _ _ _ _ r h => by simp [code_body.l2] at h, fun _ _ _ _ _ _ _ r h => by simp [code_body.l3] at h⟩
  | k + 1 => by
    obtain ⟨ih0, ih1, ih2, ih3⟩ := code_body.mono_l k
    refine ⟨?_, ?_, ?_, ?_⟩
    · intro y0 y1 y2 y3 y4 y5 y6 y7
      unfold code_body.l0
      repeat' first
      | (with_reducible exact ih0 _ _ _ _ _ _ _ _)
      | (with_reducible exact ih1 _ _ _ _ _ _ _ _)
      | (with_reducible exact ih2 _ _ _ _)
      | (with_reducible exact ih3 _ _ _ _ _ _ _)
      | (with_reducible exact code_num.mono _ _ _)
      | (with_reducible exact code_put.mono _ _ _ _)
      | (with_reducible exact LeO.refl _)
      | (with_reducible exact LeO.none _)
      | (with_reducible refine LeO.ite ?_ ?_)
      | (with_reducible refine LeO.bind ?_ (fun _ => ?_))
      | exact ih0 _ _ _ _ _ _ _ _
      | exact ih1 _ _ _ _ _ _ _ _
      | exact ih2 _ _ _ _
      | exact ih3 _ _ _ _ _ _ _
      | exact code_num.mono _ _ _
      | exact code_put.mono _ _ _ _
      | exact LeO.none _
      | refine LeO.ite ?_ ?_
      | refine LeO.bind ?_ (fun _ => ?_)
    · intro y0 y1 y2 y3 y4 y5 y6 y7
      unfold code_body.l1
      repeat' first
      | (with_reducible exact ih0 _ _ _ _ _ _ _ _)
      | (with_reducible exact ih1 _ _ _ _ _ _ _ _)
      | (with_reducible exact ih2 _ _ _ _)
      | (with_reducible exact ih3 _ _ _ _ _ _ _)
      | (with_reducible exact code_num.mono _ _ _)
      | (with_reducible exact code_put.mono _ _ _ _)
      | (with_reducible exact LeO.refl _)
      | (with_reducible exact LeO.none _)
      | (with_reducible refine LeO.ite ?_ ?_)
      | (with_reducible refine LeO.bind ?_ (fun _ => ?_))
      | exact ih0 _ _ _ _ _ _ _ _
      | exact ih1 _ _ _ _ _ _ _ _
      | exact ih2 _ _ _ _
      | exact ih3 _ _ _ _ _ _ _
      | exact code_num.mono _ _ _
      | exact code_put.mono _ _ _ _
      | exact LeO.none _
      | refine LeO.ite ?_ ?_
      | refine LeO.bind ?_ (fun _ => ?_)
    · intro y0 y1 y2 y3
      unfold code_body.l2
      repeat' first
      | (with_reducible exact ih0 _ _ _ _ _ _ _ _)
      | (with_reducible exact ih1 _ _ _ _ _ _ _ _)
      | (with_reducible exact ih2 _ _ _ _)
      | (with_reducible exact ih3 _ _ _ _ _ _ _)
      | (with_reducible exact code_num.mono _ _ _)
      | (with_reducible exact code_put.mono _ _ _ _)
      | (with_reducible exact LeO.refl _)
      | (with_reducible exact LeO.none _)
      | (with_reducible refine LeO.ite ?_ ?_)
      | (with_reducible refine LeO.bind ?_ (fun _ => ?_))
      | exact ih0 _ _ _ _ _ _ _ _
      | exact ih1 _ _ _ _ _ _ _ _
      | exact ih2 _ _ _ _
      | exact ih3 _ _ _ _ _ _ _
      | exact code_num.mono _ _ _
      | exact code_put.mono _ _ _ _
      | exact LeO.none _
      | refine LeO.ite ?_ ?_
      | refine LeO.bind ?_ (fun _ => ?_)
    · intro y0 y1 y2 y3 y4 y5 y6
      unfold code_body.l3
      repeat' first
      | (with_reducible exact ih0 _ _ _ _ _ _ _ _)
      | (with_reducible exact ih1 _ _ _ _ _ _ _ _)
      | (with_reducible exact ih2 _ _ _ _)
      | (with_reducible exact ih3 _ _ _ _ _ _ _)
      | (with_reducible exact code_num.mono _ _ _)
      | (with_reducible exact code_put.mono _ _ _ _)
      | (with_reducible exact LeO.refl _)
      | (with_reducible exact LeO.none _)
      | (with_reducible refine LeO.ite ?_ ?_)
      | (with_reducible refine LeO.bind ?_ (fun _ => ?_))
      | exact ih0 _ _ _ _ _ _ _ _
      | exact ih1 _ _ _ _ _ _ _ _
      | exact ih2 _ _ _ _
      | exact ih3 _ _ _ _ _ _ _
      | exact code_num.mono _ _ _
      | exact code_put.mono _ _ _ _
      | exact LeO.none _
      | refine LeO.ite ?_ ?_
      | refine LeO.bind ?_ (fun _ => ?_)
theorem code_body.mono : ∀ a0 a1 a2 a3 k, LeO (code_body.f k a0 a1 a2 a3) (code_body.f (k + 1) a0 a1 a2 a3) := by
  intro a0 a1 a2 a3 k
  obtain ⟨ih0, ih1, ih2, ih3⟩ := code_body.mono_l k
  unfold code_body.f
  repeat' first
      | (with_reducible exact ih0 _ _ _ _ _ _ _ _)
      | (with_reducible exact ih1 _ _ _ _ _ _ _ _)
      | (with_reducible exact ih2 _ _ _ _)
      | (with_reducible exact ih3 _ _ _ _ _ _ _)
      | (with_reducible exact code_num.mono _ _ _)
      | (with_reducible exact code_put.mono _ _ _ _)
      | (with_reducible exact LeO.refl _)
      | (with_reducible exact LeO.none _)
      | (with_reducible refine LeO.ite ?_ ?_)
      | (with_reducible refine LeO.bind ?_ (fun _ => ?_))
      | exact ih0 _ _ _ _ _ _ _ _
      | exact ih1 _ _ _ _ _ _ _ _
      | exact ih2 _ _ _ _
      | exact ih3 _ _ _ _ _ _ _
      | exact code_num.mono _ _ _
      | exact code_put.mono _ _ _ _
      | exact LeO.none _
      | refine LeO.ite ?_ ?_
      | refine LeO.bind ?_ (fun _ => ?_)
def code_body.T5 : Bool × List (List Nat × List Nat) := (true, [([], []), ([], []), ([1], [1]), ([2], [2]), ([0, 3], [0, 3]), ([], []), ([5], [5]), ([4, 6, 4], [4, 6]), ([7, 7, 0, 1, 2, 3, 4, 5, 6, 7], [0, 7])])
def code_body.B5 : List Nat := [0, 0, 2, 6, 15, 0, 32, 127, 255]
theorem code_body.tab5 : rtab .any (opsOf Try.f17 5) = code_body.T5 := by kernel_rfl
theorem code_body.bits5 : waitsOk code_body.T5.2 code_body.B5 = true := by kernel_rfl
set_option maxHeartbeats 8000000 in
set_option maxRecDepth 100000 in
theorem code_body.calls (k : Nat) (A0_0 : Option Addr) (c0_0 : Nat) (l0_0 : List (S24)) (a0_1 : Int) (A0_2 : Option Addr) (c0_2 : Nat) (l0_2 : List Bool) (A0_3 : Option Addr) (c0_3 : Nat) (l0_3 : List (List Int)) (r : List Int) (w : World) (hr0_0 : Kd.C k24 w A0_0 l0_0.length l0_0) (hc0_0 : l0_0.length ≤ c0_0) (hr0_2 : Kd.C Kd.bool w A0_2 l0_2.length l0_2) (hc0_2 : l0_2.length ≤ c0_2) (hr0_3 : Kd.C (Kd.slice 3 (Kd.int .i64)) w A0_3 l0_3.length l0_3) (hc0_3 : l0_3.length ≤ c0_3) (h : code_body.f k l0_0 a0_1 l0_2 l0_3 = some r) :
    Calls Try.prog 17 #[.agg #[.slice A0_0 l0_0.length c0_0, .int .i64 a0_1, .slice A0_2 l0_2.length c0_2, .slice A0_3 l0_3.length c0_3]] w fun e w' => ∃ v0_ : Value, e = .returned (v0_) ∧ Kd.R (Kd.int .u8) 5 w' w.heap.size (fun _ => True) v0_ r ∧ Below w.heap.size w w' := by
  have hu29 := Try.underlying29
  have hu24 := Try.underlying24
  have HR0_0 := Aside0.mk hr0_0
  have HC0_0 := Aside0.mk hc0_0
  clear hr0_0 hc0_0
  have HR0_2 := Aside0.mk hr0_2
  have HC0_2 := Aside0.mk hc0_2
  clear hr0_2 hc0_2
  have HR0_3 := Aside0.mk hr0_3
  have HC0_3 := Aside0.mk hc0_3
  clear hr0_3 hc0_3
  have HB := Aside0.mk (Below.refl w.heap.size w)
  have H : ((code_num.f k ([] : List Int) (l0_0.length : Int)).bind fun t108 => (code_body.l0 k t108 l0_0 (l0_0.length : Int) 0 l0_0 a0_1 l0_2 l0_3)) = some r := h
  clear h
  replace H := Option.bind_eq_some_iff.mp H
  obtain ⟨t108, A20, H⟩ := H
  replace H : (code_body.l0 k t108 l0_0 (l0_0.length : Int) 0 l0_0 a0_1 l0_2 l0_3) = some r := H
  have A2 := Aside0.mk A20
  clear A20
  have H' := Aside0.mk H
  clear H
  go_enter Try.func17, Try.ntmps17
  go_wp2_with (first | ((with_reducible refine gate_dst (N := 1) rfl ?_); refine box_event ?hg (N := 1) ?hd (cs := #[.slice A0_0 l0_0.length c0_0, .int .i64 a0_1, .slice A0_2 l0_2.length c0_2, .slice A0_3 l0_3.length c0_3]) (t := 29) ?hr ?_; (case hd => rfl); (case hg => rfl); (case hr => first | (go_simp; done) | (go_simp; rfl)); intro gb107 hg w3 hbox hb; have n0_ := Aside0.mk (below_step (by repeat (first | (with_reducible first | exact HB.out | apply below_alloc | apply pw_below_drewN | apply below_drew1) | exact HB.out)) hb); have n1_ := Aside0.mk (hbox); have n2_ := Aside0.mk ((by rw [hg]; exact (below_size (by repeat (first | (with_reducible first | exact HB.out | apply below_alloc | apply pw_below_drewN | apply below_drew1) | exact HB.out))) : w.heap.size ≤ gb107)); have n3_ := Aside0.mk ((by rw [hg]; exact (below_size (by repeat (first | (with_reducible first | exact HB.out | apply below_alloc | apply pw_below_drewN | apply below_drew1) | exact HB.out))) : w.heap.size ≤ gb107)); clear HB; have HB := n0_; have BK107 := n1_; have GW107 := n2_; have GE107 := n3_; clear n0_ n1_ n2_ n3_; clear hb hbox hg; have hcz4_0 : w3.cell? ⟨gb107, 0, none⟩ = some (.slice A0_0 l0_0.length c0_0) := (blk_cell BK107.out 0).trans rfl; have hcz4_1 : w3.cell? ⟨gb107, 1, none⟩ = some (.int .i64 a0_1) := (blk_cell BK107.out 1).trans rfl; have hcz4_2 : w3.cell? ⟨gb107, 2, none⟩ = some (.slice A0_2 l0_2.length c0_2) := (blk_cell BK107.out 2).trans rfl; have hcz4_3 : w3.cell? ⟨gb107, 3, none⟩ = some (.slice A0_3 l0_3.length c0_3) := (blk_cell BK107.out 3).trans rfl; have hfz4_0 := blk_frozen BK107.out 0; have hfz4_1 := blk_frozen BK107.out 1; have hfz4_2 := blk_frozen BK107.out 2; have hfz4_3 := blk_frozen BK107.out 3) | ((with_reducible refine gate_callee (f := 18) rfl ?_); refine goesL_ (some 16) rfl rfl Try.func18 (by kernel_rfl) rfl #[.slice none 0 0, .int .i64 (l0_0.length : Int)] rfl (by (try simp only [List.map_toArray, List.map_cons, List.map_nil]); first | done | rfl | (simp only [List.length_drop, List.length_take]; rfl)) ?_; (refine (code_num.calls k (fun k_ => some k_ = (.slice none 0 0 : Value).ownBlock) (.slice none 0 0) ([] : List Int) (l0_0.length : Int) t108 w _ ?side1 ?side2 A2.out).mono ?_); (case side1 => repeat (first | (with_reducible first | exact HB.out | apply below_alloc | apply pw_below_drewN | apply below_drew1 | refine below_set ?_ GE107.out) | exact HB.out)); (case side2 => exact Kd.R_nil _ _ _ _ _); rintro e w5 ⟨v109, rfl, ho0, hb, hkp⟩; refine ⟨_, rfl, ?_⟩; have n0_ := Aside0.mk (blk_kept (by (with_reducible repeat (first | refine blk_drewN ?_ _ | refine blk_drew ?_ | refine blk_alloc ?_ _)); exact BK107.out) hkp (fun hs_ => (fun e_ => by simp [Value.ownBlock] at e_) hs_)); have n1_ := Aside0.mk (Kd.R_mono (ok' := fun k_ => True) ho0 (fun k_ hk_ => trivial)); have n2_ := Aside0.mk (hb); clear BK107; clear HB; have BK107 := n0_; have HO110 := n1_; have HB := n2_; clear n0_ n1_ n2_; (try clear hb); (try clear hkp); (try clear ho0); have hcz6_0 : w5.cell? ⟨gb107, 0, none⟩ = some (.slice A0_0 l0_0.length c0_0) := (blk_cell BK107.out 0).trans rfl; have hcz6_1 : w5.cell? ⟨gb107, 1, none⟩ = some (.int .i64 a0_1) := (blk_cell BK107.out 1).trans rfl; have hcz6_2 : w5.cell? ⟨gb107, 2, none⟩ = some (.slice A0_2 l0_2.length c0_2) := (blk_cell BK107.out 2).trans rfl; have hcz6_3 : w5.cell? ⟨gb107, 3, none⟩ = some (.slice A0_3 l0_3.length c0_3) := (blk_cell BK107.out 3).trans rfl; have hfz6_0 := blk_frozen BK107.out 0; have hfz6_1 := blk_frozen BK107.out 1; have hfz6_2 := blk_frozen BK107.out 2; have hfz6_3 := blk_frozen BK107.out 3))
  go_loopg [3, 20] k (fun kq v3 v20 w' => ∃ (x3_1 : List Int) (x20_1 : Int), v20 = .int .i64 x20_1 ∧ Aside0 (code_body.l0 kq x3_1 l0_0 (l0_0.length : Int) x20_1 l0_0 a0_1 l0_2 l0_3 = some r) ∧ Aside0 (kq ≤ k) ∧ Aside0 (Kd.R (Kd.int .u8) 5 w' w.heap.size (fun _ => True) v3 x3_1) ∧ Aside0 (w'.heap[gb107]? = some (.cells #[(.slice A0_0 l0_0.length c0_0), .int .i64 a0_1, (.slice A0_2 l0_2.length c0_2), (.slice A0_3 l0_3.length c0_3)] 29 (0, 0))) ∧ Aside0 (Below w.heap.size w w'))
  case atStart => exact ⟨(t108), (0), (by first | rfl | (simp; done) | (simp [*]; done)), H', ⟨Nat.le_refl _⟩, ⟨by (with_reducible repeat (first | apply Kd.R_alloc | apply Kd.R_drewN | apply Kd.R_drew)); exact HO110.out⟩, ⟨by (with_reducible repeat (first | refine blk_drewN ?_ _ | refine blk_drew ?_ | refine blk_alloc ?_ _)); exact BK107.out⟩, ⟨by repeat (first | (with_reducible first | exact HB.out | apply below_alloc | apply pw_below_drewN | apply below_drew1 | refine below_set ?_ GE107.out) | exact HB.out)⟩⟩
  case round =>
    clear H'
    try clear c1
    try clear p2
    try clear hcz4_0
    try clear hcz4_1
    try clear hcz4_2
    try clear hcz4_3
    try clear hcz6_0
    try clear hcz6_1
    try clear hcz6_2
    try clear hcz6_3
    try clear hfz4_0
    try clear hfz4_1
    try clear hfz4_2
    try clear hfz4_3
    try clear hfz6_0
    try clear hfz6_1
    try clear hfz6_2
    try clear hfz6_3
    obtain ⟨x3_1, x20_1, rfl, HA, HK1, HO_3, BK107, HB⟩ := hrel
    cases gk with
    | zero => exact absurd HA.out (by simp [code_body.l0])
    | succ k1 =>
      have H := HA.out
      clear HA
      simp only [code_body.l0] at H
      by_cases c7 : x20_1 < (l0_0.length : Int)
      · rw [if_pos c7] at H
        have c7b0 : decide (x20_1 < (l0_0.length : Int)) = true := decide_eq_true c7
        clear c7
        by_cases c8 : 0 ≤ x20_1
        · rw [if_pos c8] at H
          have c8b0 : decide (0 ≤ x20_1) = true := decide_eq_true c8
          clear c8
          by_cases c9 : x20_1 < (l0_0.length : Int)
          · rw [if_pos c9] at H
            have c9b0 : decide (x20_1 < (l0_0.length : Int)) = true := decide_eq_true c9
            clear c9
            replace H := Option.bind_eq_some_iff.mp H
            obtain ⟨t113, A100, H⟩ := H
            replace H : (if t113.length + ((rd_T24 l0_0 x20_1).f0).size < 140737488355328 then ((code_put.f k1 (t113 ++ bytesOf ((rd_T24 l0_0 x20_1).f0)) ((rd_T24 l0_0 x20_1).f1) 8).bind fun t119 => (code_body.l0 k1 t119 l0_0 (l0_0.length : Int) (wrap64 (x20_1 + 1)) l0_0 a0_1 l0_2 l0_3)) else (none)) = some r := H
            have A10 := Aside0.mk A100
            clear A100
            by_cases c11 : t113.length + ((rd_T24 l0_0 x20_1).f0).size < 140737488355328
            · rw [if_pos c11] at H
              have LMc11 := Aside0.mk c11
              clear c11
              obtain ⟨y116, hy116⟩ : ∃ y_ : List Int, y_ = (t113 ++ bytesOf ((rd_T24 l0_0 x20_1).f0)) := ⟨_, rfl⟩
              replace H : ((code_put.f k1 y116 ((rd_T24 l0_0 x20_1).f1) 8).bind fun t119 => (code_body.l0 k1 t119 l0_0 (l0_0.length : Int) (wrap64 (x20_1 + 1)) l0_0 a0_1 l0_2 l0_3)) = some r := by first | (rw [hy116]; with_reducible exact H) | (have H2_ := (Option.bind_some _ _).symm.trans H; rw [hy116]; with_reducible exact H2_) | (have H2_ := (Option.bind_some _ _).symm.trans H; with_reducible exact H2_) | with_reducible exact H | (rw [hy116]; exact H) | exact H
              have Ny116 := Aside0.mk hy116
              clear hy116
              replace H := Option.bind_eq_some_iff.mp H
              obtain ⟨t119, A120, H⟩ := H
              replace H : (code_body.l0 k1 t119 l0_0 (l0_0.length : Int) (wrap64 (x20_1 + 1)) l0_0 a0_1 l0_2 l0_3) = some r := H
              have A12 := Aside0.mk A120
              clear A120
              have H' := Aside0.mk H
              clear H
              have p111 : 0 ≤ (x20_1 : Int) := of_decide_eq_true (by first | (with_reducible assumption) | assumption)
              have q111 : x20_1 < (l0_0.length : Int) := of_decide_eq_true (by first | (with_reducible assumption) | assumption)
              obtain ⟨ad111, e111, hx111_0, hx111_1⟩ := at_T24 HR0_0.out x20_1 p111 q111
              cases e111
              replace hx111_0 := (HB.out.cell (World.block_lt_of_cell? w _ hx111_0)).trans hx111_0
              replace hx111_1 := (HB.out.cell (World.block_lt_of_cell? w _ hx111_1)).trans hx111_1
              replace p111 := eq_true p111
              replace q111 := eq_true q111
              try go_wp2_with (first | ((with_reducible refine gate_dst (N := 5) rfl ?_); refine box_event ?hg (N := 5) ?hd (cs := #[.string (⟨#[]⟩ : ByteArray), .int .u64 0]) (t := 24) ?hr ?_; (case hd => rfl); (case hg => rfl); (case hr => first | (go_simp; done) | (go_simp; rfl)); intro gb112 hg w13 hbox hb; have n0_ := Aside0.mk (Kd.R_below (by (with_reducible repeat (first | apply Kd.R_alloc | apply Kd.R_drewN | apply Kd.R_drew)); exact HO_3.out) hb); have n1_ := Aside0.mk (blk_below (g := gb107) (o := .cells #[.slice (some ad111) l0_0.length c0_0, .int .i64 a0_1, .slice A0_2 l0_2.length c0_2, .slice A0_3 l0_3.length c0_3] 29 (0, 0)) (by (with_reducible repeat (first | refine blk_drewN ?_ _ | refine blk_drew ?_ | refine blk_alloc ?_ _)); exact BK107.out) hb); have n2_ := Aside0.mk (below_step (by repeat (first | (with_reducible first | exact HB.out | apply below_alloc | apply pw_below_drewN | apply below_drew1 | refine below_set ?_ GE107.out) | exact HB.out)) hb); have n3_ := Aside0.mk (hbox); have n4_ := Aside0.mk ((by rw [hg]; exact (below_size (by repeat (first | (with_reducible first | exact HB.out | apply below_alloc | apply pw_below_drewN | apply below_drew1 | refine below_set ?_ GE107.out) | exact HB.out))) : w.heap.size ≤ gb112)); have n5_ := Aside0.mk ((by rw [hg]; exact (below_size (by repeat (first | (with_reducible first | exact HB.out | apply below_alloc | apply pw_below_drewN | apply below_drew1 | refine below_set ?_ GE107.out) | exact HB.out))) : w.heap.size ≤ gb112)); have n6_ := Aside0.mk ((by rw [hg]; exact Nat.ne_of_lt (blk_lt (g := gb107) (o := .cells #[.slice (some ad111) l0_0.length c0_0, .int .i64 a0_1, .slice A0_2 l0_2.length c0_2, .slice A0_3 l0_3.length c0_3] 29 (0, 0)) (by (with_reducible repeat (first | refine blk_drewN ?_ _ | refine blk_drew ?_ | refine blk_alloc ?_ _)); exact BK107.out)) : gb107 ≠ gb112)); have n7_ := Aside0.mk ((by rw [hg]; exact Nat.ne_of_gt (blk_lt (g := gb107) (o := .cells #[.slice (some ad111) l0_0.length c0_0, .int .i64 a0_1, .slice A0_2 l0_2.length c0_2, .slice A0_3 l0_3.length c0_3] 29 (0, 0)) (by (with_reducible repeat (first | refine blk_drewN ?_ _ | refine blk_drew ?_ | refine blk_alloc ?_ _)); exact BK107.out)) : gb112 ≠ gb107)); clear HO_3; clear BK107; clear HB; have HO_3 := n0_; have BK107 := n1_; have HB := n2_; have BK112 := n3_; have GW112 := n4_; have GE112 := n5_; have NB107_112 := n6_; have NB112_107 := n7_; clear n0_ n1_ n2_ n3_ n4_ n5_ n6_ n7_; clear hb hbox hg; have hnb14 := NB112_107.out; have hnc14 := NB107_112.out; have hcz15_0 : w13.cell? ⟨gb112, 0, none⟩ = some (.string (⟨#[]⟩ : ByteArray)) := (blk_cell BK112.out 0).trans rfl; have hcz15_1 : w13.cell? ⟨gb112, 1, none⟩ = some (.int .u64 0) := (blk_cell BK112.out 1).trans rfl; have hfz15_0 := blk_frozen BK112.out 0; have hfz15_1 := blk_frozen BK112.out 1))
              have n0_ : Aside0 (Kd.R (Kd.int .u8) 5 ((w13.setCell ⟨gb112, 0, none⟩ (.string ((rd_T24 l0_0 x20_1).f0))).setCell ⟨gb112, 1, none⟩ (.int .u64 ((rd_T24 l0_0 x20_1).f1))) w.heap.size (fun _ => True) u3 x3_1) := ⟨by (with_reducible repeat (first | apply Kd.R_alloc | apply Kd.R_drewN | apply Kd.R_drew)); exact Kd.R_mono (Kd.R_far (p := ⟨gb112, 1, none⟩) (Kd.R_far (p := ⟨gb112, 0, none⟩) (Kd.R_types HO_3.out BK112.out (by decide)) (fun _ hk => hk.2) (.string ((rd_T24 l0_0 x20_1).f0))) (fun _ hk => hk.2) (.int .u64 ((rd_T24 l0_0 x20_1).f1))) (fun _ hk => trivial)⟩
              have n1_ : Aside0 (((w13.setCell ⟨gb112, 0, none⟩ (.string ((rd_T24 l0_0 x20_1).f0))).setCell ⟨gb112, 1, none⟩ (.int .u64 ((rd_T24 l0_0 x20_1).f1))).heap[gb107]? = some (.cells #[.slice (some ad111) l0_0.length c0_0, .int .i64 a0_1, .slice A0_2 l0_2.length c0_2, .slice A0_3 l0_3.length c0_3] 29 (0, 0))) := ⟨by (with_reducible repeat (first | refine blk_drewN ?_ _ | refine blk_drew ?_ | refine blk_alloc ?_ _)); refine blk_far ?_ NB107_112.out _; (with_reducible repeat (first | refine blk_drewN ?_ _ | refine blk_drew ?_ | refine blk_alloc ?_ _)); refine blk_far ?_ NB107_112.out _; (with_reducible repeat (first | refine blk_drewN ?_ _ | refine blk_drew ?_ | refine blk_alloc ?_ _)); exact BK107.out⟩
              have n2_ : Aside0 (((w13.setCell ⟨gb112, 0, none⟩ (.string ((rd_T24 l0_0 x20_1).f0))).setCell ⟨gb112, 1, none⟩ (.int .u64 ((rd_T24 l0_0 x20_1).f1))).heap[gb112]? = some (.cells #[.string ((rd_T24 l0_0 x20_1).f0), .int .u64 ((rd_T24 l0_0 x20_1).f1)] 24 (0, 0))) := ⟨by (with_reducible repeat (first | refine blk_drewN ?_ _ | refine blk_drew ?_ | refine blk_alloc ?_ _)); refine blk_put (cs := #[.string ((rd_T24 l0_0 x20_1).f0), .int .u64 0]) ?_ 1 _ rfl; (with_reducible repeat (first | refine blk_drewN ?_ _ | refine blk_drew ?_ | refine blk_alloc ?_ _)); refine blk_put (cs := #[.string (⟨#[]⟩ : ByteArray), .int .u64 0]) ?_ 0 _ rfl; (with_reducible repeat (first | refine blk_drewN ?_ _ | refine blk_drew ?_ | refine blk_alloc ?_ _)); exact BK112.out⟩
              have n3_ : Aside0 (Below w.heap.size w ((w13.setCell ⟨gb112, 0, none⟩ (.string ((rd_T24 l0_0 x20_1).f0))).setCell ⟨gb112, 1, none⟩ (.int .u64 ((rd_T24 l0_0 x20_1).f1)))) := ⟨by repeat (first | (with_reducible first | exact HB.out | apply below_alloc | apply pw_below_drewN | apply below_drew1 | refine below_set ?_ GE107.out | refine below_set ?_ GE112.out) | exact HB.out)⟩
              (try clear HO_3)
              (try clear BK107)
              (try clear BK112)
              (try clear HB)
              generalize ((w13.setCell ⟨gb112, 0, none⟩ (.string ((rd_T24 l0_0 x20_1).f0))).setCell ⟨gb112, 1, none⟩ (.int .u64 ((rd_T24 l0_0 x20_1).f1))) = w16 at n0_ n1_ n2_ n3_ ⊢
              have HO_3 := n0_
              have BK107 := n1_
              have BK112 := n2_
              have HB := n3_
              clear n0_ n1_ n2_ n3_
              have n0_ := Aside0.mk (Kd.R_drew HO_3.out)
              have n1_ := Aside0.mk (blk_drew BK107.out)
              have n2_ := Aside0.mk (blk_drew BK112.out)
              have n3_ := Aside0.mk (below_drew1 HB.out)
              clear HO_3
              clear BK107
              clear BK112
              clear HB
              have HO_3 := n0_
              have BK107 := n1_
              have BK112 := n2_
              have HB := n3_
              clear n0_ n1_ n2_ n3_
              obtain ⟨Ao18, co18, eo18⟩ := Kd.R_slice HO_3.out
              (first | subst eo18 | (injection eo18 with f1_ f2_ f3_; have f4_ := f1_.symm; have f5_ := f3_.symm; clear f1_ f2_ f3_; subst f4_; subst f5_))
              refine start_ (n := 9) (S := fun w' => w'.cell? ⟨gb112, 0, none⟩ = some (.string ((rd_T24 l0_0 x20_1).f0)) ∧ w'.cell? ⟨gb112, 1, none⟩ = some (.int .u64 ((rd_T24 l0_0 x20_1).f1))) (ds := []) #[false, false, false, false, false, false, false, false, false] (by kernel_rfl) rfl rfl ⟨(blk_cell BK112.out 0).trans rfl, (blk_cell BK112.out 1).trans rfl⟩ (fun hHeld => ?_); refine with_tabW code_body.tab5 code_body.bits5 (fun HT_ HW_ => ?_)
              generalize w16.drew = w17 at HO_3 BK107 BK112 HB hHeld ⊢
              refine pure_ (i := 0) (N := some 24) (v := ?_) (a' := ?_) #[true, false, false, false, false, false, false, false, false] rfl rfl (any_of HT_.out (by kernel_rfl)) (fun _ _ _ h => h) (Or.inl ⟨by rfl, ?_⟩) ?_ ?_
              rotate_left
              · intro w'
                go_simp
                with_reducible rfl
              rotate_left
              · simp only [Act.put, List.setIfInBounds_toArray, List.set_cons_zero, List.set_cons_succ, i64_w, i32_w]
                rfl
              refine pure_ (i := 1) (N := some 25) (v := ?_) (a' := ?_) #[true, true, false, false, false, false, false, false, false] rfl rfl (any_of HT_.out (by kernel_rfl)) (fun _ _ _ h => h) (Or.inl ⟨by rfl, ?_⟩) ?_ ?_
              rotate_left
              · intro w'
                go_simp
                with_reducible rfl
              rotate_left
              · simp only [Act.put, List.setIfInBounds_toArray, List.set_cons_zero, List.set_cons_succ, i64_w, i32_w]
                rfl
              refine pure_ (i := 5) (N := some 29) (v := ?_) (a' := ?_) #[true, true, false, false, false, true, false, false, false] rfl rfl (any_of HT_.out (by kernel_rfl)) (fun _ _ _ h => h) (Or.inl ⟨by rfl, ?_⟩) ?_ ?_
              rotate_left
              · intro w'
                go_simp
                with_reducible rfl
              rotate_left
              · simp only [Act.put, List.setIfInBounds_toArray, List.set_cons_zero, List.set_cons_succ, i64_w, i32_w]
                rfl
              refine take_ (i := 2) (N := some 26) (v := ?_) (a' := ?_) #[true, true, true, false, false, true, false, false, false] rfl rfl (take_ofW HT_.out HW_.out (by kernel_rfl)) (fun _ _ _ h => h) (Or.inl ⟨by rfl, ?_⟩) hHeld ?_ ?_
              rotate_left
              · rintro w' ⟨s0, s1⟩
                go_simp
                with_reducible rfl
              rotate_left
              · simp only [Act.put, List.setIfInBounds_toArray, List.set_cons_zero, List.set_cons_succ, i64_w, i32_w]
                rfl
              refine pure_ (i := 3) (N := some 27) (v := ?_) (a' := ?_) #[true, true, true, true, false, true, false, false, false] rfl rfl (any_of HT_.out (by kernel_rfl)) (fun _ _ _ h => h) (Or.inl ⟨by rfl, ?_⟩) ?_ ?_
              rotate_left
              · intro w'
                go_simp
                with_reducible rfl
              rotate_left
              · simp only [Act.put, List.setIfInBounds_toArray, List.set_cons_zero, List.set_cons_succ, i64_w, i32_w]
                rfl
              refine take_ (i := 6) (N := some 30) (v := ?_) (a' := ?_) #[true, true, true, true, false, true, true, false, false] rfl rfl (take_ofW HT_.out HW_.out (by kernel_rfl)) (fun _ _ _ h => h) (Or.inl ⟨by rfl, ?_⟩) hHeld ?_ ?_
              rotate_left
              · rintro w' ⟨s0, s1⟩
                go_simp
                with_reducible rfl
              rotate_left
              · simp only [Act.put, List.setIfInBounds_toArray, List.set_cons_zero, List.set_cons_succ, i64_w, i32_w]
                rfl
              refine one_ (i := 4) (N := some 28) #[true, true, true, true, true, true, true, false, false] rfl rfl (one_of HT_.out (by kernel_rfl)) (by decide) (fun K hK => ?_)
              refine goes_ Try.func18 (by kernel_rfl) rfl #[.slice Ao18 x3_1.length co18, .int .i64 (((rd_T24 l0_0 x20_1).f0).size : Int)] (by rfl) rfl rfl (by (try simp only [List.map_toArray, List.map_cons, List.map_nil]); first | done | rfl | (simp only [List.length_drop, List.length_take]; rfl)) ?_
              with_reducible refine (code_num.calls k1 (fun k_ => some k_ = (.slice Ao18 x3_1.length co18 : Value).ownBlock) (.slice Ao18 x3_1.length co18) x3_1 (((rd_T24 l0_0 x20_1).f0).size : Int) t113 w _ ?side1 ?side2 A10.out).mono ?_
              (case side1 => repeat (first | (with_reducible first | exact HB.out | apply below_alloc | apply pw_below_drewN | apply below_drew1 | refine below_set ?_ GE107.out | refine below_set ?_ GE112.out) | exact HB.out))
              (case side2 => exact Kd.R_tight rfl HO_3.out)
              rintro e w19 ⟨v114, rfl, ho0, hb, hkp⟩
              refine ⟨_, rfl, ?_⟩
              have n0_ := Aside0.mk (blk_kept (by (with_reducible repeat (first | refine blk_drewN ?_ _ | refine blk_drew ?_ | refine blk_alloc ?_ _)); exact BK107.out) hkp (fun hs_ => (fun e_ => (Kd.R_ne HO_3.out BK107.out (by decide)) e_) hs_))
              have n1_ := Aside0.mk (blk_kept (by (with_reducible repeat (first | refine blk_drewN ?_ _ | refine blk_drew ?_ | refine blk_alloc ?_ _)); exact BK112.out) hkp (fun hs_ => (fun e_ => (Kd.R_ne HO_3.out BK112.out (by decide)) e_) hs_))
              have n2_ := Aside0.mk (Kd.R_mono (ok' := fun k_ => True) ho0 (fun k_ hk_ => trivial))
              have n3_ := Aside0.mk (hb)
              clear BK107
              clear BK112
              clear HB
              clear HO_3
              have BK107 := n0_
              have BK112 := n1_
              have HO115 := n2_
              have HB := n3_
              clear n0_ n1_ n2_ n3_
              (try clear hb)
              (try clear hkp)
              (try clear ho0)
              refine hK.out _ _ ⟨(blk_cell BK112.out 0).trans rfl, (blk_cell BK112.out 1).trans rfl⟩ (fun hHeld => ?_)
              clear hK K
              refine norm_ (a' := ?_) ?_ ?_
              rotate_left
              · show Act.put _ (some 28) _ = _
                simp only [Act.put, List.setIfInBounds_toArray, List.set_cons_zero, List.set_cons_succ, i64_w, i32_w]
                rfl
              refine one_ (i := 7) (N := some 31) #[true, true, true, true, true, true, true, true, false] rfl rfl (one_of HT_.out (by kernel_rfl)) (by decide) (fun K hK => ?_)
              refine append_str_step (w0 := w) w.heap.size (by rfl) (.tmp 28) _ 30 9 5 rfl Try.underlying30 Try.underlying9 info5 v114 t113 ((rd_T24 l0_0 x20_1).f0) rfl rfl ?aO ?aB ?aS ?aL ?_
              (case aB => exact (by repeat (first | (with_reducible first | exact HB.out | apply below_alloc | apply pw_below_drewN | apply below_drew1 | refine below_set ?_ GE107.out | refine below_set ?_ GE112.out) | exact HB.out)))
              (case aO => exact (Kd.own_of_R (by (with_reducible repeat (first | apply Kd.R_alloc | apply Kd.R_drewN | apply Kd.R_drew)); exact HO115.out)))
              (case aS => exact (below_size (by repeat (first | (with_reducible first | exact HB.out | apply below_alloc | apply pw_below_drewN | apply below_drew1 | refine below_set ?_ GE107.out | refine below_set ?_ GE112.out) | exact HB.out))))
              (case aL => have := LMc11.out; omega)
              intro v117 w20 ho0 hb hg
              have ho := Kd.R_of_own (h1 := fun _ => rfl) (ok := fun _ => True) ho0 (fun _ _ => trivial)
              clear ho0
              have hat := True.intro
              rw [← Ny116.out] at ho
              change Kd.R (Kd.int .u8) 5 w20 w.heap.size (fun _ => True) v117 y116 at ho
              have n0_ := Aside0.mk (blk_grown (g := gb107) (o := .cells #[.slice (some ad111) l0_0.length c0_0, .int .i64 a0_1, .slice A0_2 l0_2.length c0_2, .slice A0_3 l0_3.length c0_3] 29 (0, 0)) (by (with_reducible repeat (first | refine blk_drewN ?_ _ | refine blk_drew ?_ | refine blk_alloc ?_ _)); exact BK107.out) hg (Kd.R_ne HO115.out BK107.out (by decide)))
              have n1_ := Aside0.mk (blk_grown (g := gb112) (o := .cells #[.string ((rd_T24 l0_0 x20_1).f0), .int .u64 ((rd_T24 l0_0 x20_1).f1)] 24 (0, 0)) (by (with_reducible repeat (first | refine blk_drewN ?_ _ | refine blk_drew ?_ | refine blk_alloc ?_ _)); exact BK112.out) hg (Kd.R_ne HO115.out BK112.out (by decide)))
              have n2_ := Aside0.mk (hb)
              have n3_ := Aside0.mk (ho)
              clear BK107
              clear BK112
              clear HB
              clear HO115
              have BK107 := n0_
              have BK112 := n1_
              have HB := n2_
              have HO118 := n3_
              clear n0_ n1_ n2_ n3_
              clear ho hb hg hat
              refine hK.out _ _ ⟨(blk_cell BK112.out 0).trans rfl, (blk_cell BK112.out 1).trans rfl⟩ (fun hHeld => ?_)
              clear hK K
              refine norm_ (a' := ?_) ?_ ?_
              rotate_left
              · show Act.put _ (some 31) _ = _
                simp only [Act.put, List.setIfInBounds_toArray, List.set_cons_zero, List.set_cons_succ, i64_w, i32_w]
                rfl
              refine pure_ (i := 8) (N := some 3) (v := ?_) (a' := ?_) #[true, true, true, true, true, true, true, true, true] rfl rfl (any_of HT_.out (by kernel_rfl)) (fun _ _ _ h => h) (Or.inl ⟨by rfl, ?_⟩) ?_ ?_
              rotate_left
              · intro w'
                go_simp
                with_reducible rfl
              rotate_left
              · simp only [Act.put, List.setIfInBounds_toArray, List.set_cons_zero, List.set_cons_succ, i64_w, i32_w]
                rfl
              refine done_ (done_of HT_.out (by kernel_rfl)) ?_
              have hcz21_0 : w20.cell? ⟨gb112, 0, none⟩ = some (.string ((rd_T24 l0_0 x20_1).f0)) := (blk_cell BK112.out 0).trans rfl
              have hcz21_1 : w20.cell? ⟨gb112, 1, none⟩ = some (.int .u64 ((rd_T24 l0_0 x20_1).f1)) := (blk_cell BK112.out 1).trans rfl
              have hfz21_0 := blk_frozen BK112.out 0
              have hfz21_1 := blk_frozen BK112.out 1
              obtain ⟨Ao22, co22, eo22⟩ := Kd.R_slice HO118.out
              subst eo22
              try go_wp2_with (first | ((with_reducible refine gate_callee (f := 29) rfl ?_); refine goesL_ (some 35) rfl rfl Try.func29 (by kernel_rfl) rfl #[.slice Ao22 y116.length co22, .int .u64 ((rd_T24 l0_0 x20_1).f1), .int .i64 8] rfl (by (try simp only [List.map_toArray, List.map_cons, List.map_nil]); first | done | rfl | (simp only [List.length_drop, List.length_take]; rfl)) ?_; (with_reducible refine (code_put.calls k1 (fun k_ => some k_ = (.slice Ao22 y116.length co22 : Value).ownBlock) (.slice Ao22 y116.length co22) y116 ((rd_T24 l0_0 x20_1).f1) 8 t119 w _ ?side1 ?side2 A12.out).mono ?_); (case side1 => repeat (first | (with_reducible first | exact HB.out | apply below_alloc | apply pw_below_drewN | apply below_drew1 | refine below_set ?_ GE107.out | refine below_set ?_ GE112.out) | exact HB.out)); (case side2 => exact Kd.R_tight rfl HO118.out); rintro e w23 ⟨v120, rfl, ho0, hb, hkp⟩; refine ⟨_, rfl, ?_⟩; have n0_ := Aside0.mk (blk_kept (by (with_reducible repeat (first | refine blk_drewN ?_ _ | refine blk_drew ?_ | refine blk_alloc ?_ _)); exact BK107.out) hkp (fun hs_ => (fun e_ => (Kd.R_ne HO118.out BK107.out (by decide)) e_) hs_)); have n1_ := Aside0.mk (blk_kept (by (with_reducible repeat (first | refine blk_drewN ?_ _ | refine blk_drew ?_ | refine blk_alloc ?_ _)); exact BK112.out) hkp (fun hs_ => (fun e_ => (Kd.R_ne HO118.out BK112.out (by decide)) e_) hs_)); have n2_ := Aside0.mk (Kd.R_mono (ok' := fun k_ => True) ho0 (fun k_ hk_ => trivial)); have n3_ := Aside0.mk (hb); clear BK107; clear BK112; clear HB; clear HO118; have BK107 := n0_; have BK112 := n1_; have HO121 := n2_; have HB := n3_; clear n0_ n1_ n2_ n3_; (try clear hb); (try clear hkp); (try clear ho0)))
              go_roundg k1
              case measure => have := HK1.out; omega
              case rel => exact ⟨(t119), (wrap64 (x20_1 + 1)), (by first | rfl | (simp; done) | (simp [*]; done)), H', ⟨by have := HK1.out; omega⟩, ⟨by (with_reducible repeat (first | apply Kd.R_alloc | apply Kd.R_drewN | apply Kd.R_drew)); exact HO121.out⟩, ⟨by (with_reducible repeat (first | refine blk_drewN ?_ _ | refine blk_drew ?_ | refine blk_alloc ?_ _)); exact BK107.out⟩, ⟨by repeat (first | (with_reducible first | exact HB.out | apply below_alloc | apply pw_below_drewN | apply below_drew1 | refine below_set ?_ GE107.out | refine below_set ?_ GE112.out) | exact HB.out)⟩⟩
            · rw [if_neg c11] at H
              exact absurd H (by simp)
          · rw [if_neg c9] at H
            exact absurd H (by simp)
        · rw [if_neg c8] at H
          exact absurd H (by simp)
      · rw [if_neg c7] at H
        have c7b0 : decide (x20_1 < (l0_0.length : Int)) = false := decide_eq_false c7
        clear c7
        replace H := Option.bind_eq_some_iff.mp H
        obtain ⟨t122, A240, H⟩ := H
        replace H : ((code_num.f k1 t122 (l0_2.length : Int)).bind fun t125 => (code_body.l1 k1 t125 l0_2 (l0_2.length : Int) 0 l0_0 a0_1 l0_2 l0_3)) = some r := H
        have A24 := Aside0.mk A240
        clear A240
        replace H := Option.bind_eq_some_iff.mp H
        obtain ⟨t125, A250, H⟩ := H
        replace H : (code_body.l1 k1 t125 l0_2 (l0_2.length : Int) 0 l0_0 a0_1 l0_2 l0_3) = some r := H
        have A25 := Aside0.mk A250
        clear A250
        have H' := Aside0.mk H
        clear H
        have hcz26_0 : wr.cell? ⟨gb107, 0, none⟩ = some (.slice A0_0 l0_0.length c0_0) := (blk_cell BK107.out 0).trans rfl
        have hcz26_1 : wr.cell? ⟨gb107, 1, none⟩ = some (.int .i64 a0_1) := (blk_cell BK107.out 1).trans rfl
        have hcz26_2 : wr.cell? ⟨gb107, 2, none⟩ = some (.slice A0_2 l0_2.length c0_2) := (blk_cell BK107.out 2).trans rfl
        have hcz26_3 : wr.cell? ⟨gb107, 3, none⟩ = some (.slice A0_3 l0_3.length c0_3) := (blk_cell BK107.out 3).trans rfl
        have hfz26_0 := blk_frozen BK107.out 0
        have hfz26_1 := blk_frozen BK107.out 1
        have hfz26_2 := blk_frozen BK107.out 2
        have hfz26_3 := blk_frozen BK107.out 3
        obtain ⟨Ao27, co27, eo27⟩ := Kd.R_slice HO_3.out
        subst eo27
        go_wp2_with (first | ((with_reducible refine gate_callee (f := 18) rfl ?_); refine goesL_ (some 40) rfl rfl Try.func18 (by kernel_rfl) rfl #[.slice Ao27 x3_1.length co27, .int .i64 a0_1] rfl (by (try simp only [List.map_toArray, List.map_cons, List.map_nil]); first | done | rfl | (simp only [List.length_drop, List.length_take]; rfl)) ?_; (with_reducible refine (code_num.calls k1 (fun k_ => some k_ = (.slice Ao27 x3_1.length co27 : Value).ownBlock) (.slice Ao27 x3_1.length co27) x3_1 a0_1 t122 w _ ?side1 ?side2 A24.out).mono ?_); (case side1 => repeat (first | (with_reducible first | exact HB.out | apply below_alloc | apply pw_below_drewN | apply below_drew1 | refine below_set ?_ GE107.out) | exact HB.out)); (case side2 => exact Kd.R_tight rfl HO_3.out); rintro e w28 ⟨v123, rfl, ho0, hb, hkp⟩; refine ⟨_, rfl, ?_⟩; have n0_ := Aside0.mk (blk_kept (by (with_reducible repeat (first | refine blk_drewN ?_ _ | refine blk_drew ?_ | refine blk_alloc ?_ _)); exact BK107.out) hkp (fun hs_ => (fun e_ => (Kd.R_ne HO_3.out BK107.out (by decide)) e_) hs_)); have n1_ := Aside0.mk (Kd.R_mono (ok' := fun k_ => True) ho0 (fun k_ hk_ => trivial)); have n2_ := Aside0.mk (hb); clear BK107; clear HB; clear HO_3; have BK107 := n0_; have HO124 := n1_; have HB := n2_; clear n0_ n1_ n2_; (try clear hb); (try clear hkp); (try clear ho0); have hcz29_0 : w28.cell? ⟨gb107, 0, none⟩ = some (.slice A0_0 l0_0.length c0_0) := (blk_cell BK107.out 0).trans rfl; have hcz29_1 : w28.cell? ⟨gb107, 1, none⟩ = some (.int .i64 a0_1) := (blk_cell BK107.out 1).trans rfl; have hcz29_2 : w28.cell? ⟨gb107, 2, none⟩ = some (.slice A0_2 l0_2.length c0_2) := (blk_cell BK107.out 2).trans rfl; have hcz29_3 : w28.cell? ⟨gb107, 3, none⟩ = some (.slice A0_3 l0_3.length c0_3) := (blk_cell BK107.out 3).trans rfl; have hfz29_0 := blk_frozen BK107.out 0; have hfz29_1 := blk_frozen BK107.out 1; have hfz29_2 := blk_frozen BK107.out 2; have hfz29_3 := blk_frozen BK107.out 3; obtain ⟨Ao30, co30, eo30⟩ := Kd.R_slice HO124.out; subst eo30) | ((with_reducible refine gate_callee (f := 18) rfl ?_); refine goesL_ (some 45) rfl rfl Try.func18 (by kernel_rfl) rfl #[.slice Ao30 t122.length co30, .int .i64 (l0_2.length : Int)] rfl (by (try simp only [List.map_toArray, List.map_cons, List.map_nil]); first | done | rfl | (simp only [List.length_drop, List.length_take]; rfl)) ?_; (with_reducible refine (code_num.calls k1 (fun k_ => some k_ = (.slice Ao30 t122.length co30 : Value).ownBlock) (.slice Ao30 t122.length co30) t122 (l0_2.length : Int) t125 w _ ?side1 ?side2 A25.out).mono ?_); (case side1 => repeat (first | (with_reducible first | exact HB.out | apply below_alloc | apply pw_below_drewN | apply below_drew1 | refine below_set ?_ GE107.out) | exact HB.out)); (case side2 => exact Kd.R_tight rfl HO124.out); rintro e w31 ⟨v126, rfl, ho0, hb, hkp⟩; refine ⟨_, rfl, ?_⟩; have n0_ := Aside0.mk (blk_kept (by (with_reducible repeat (first | refine blk_drewN ?_ _ | refine blk_drew ?_ | refine blk_alloc ?_ _)); exact BK107.out) hkp (fun hs_ => (fun e_ => (Kd.R_ne HO124.out BK107.out (by decide)) e_) hs_)); have n1_ := Aside0.mk (Kd.R_mono (ok' := fun k_ => True) ho0 (fun k_ hk_ => trivial)); have n2_ := Aside0.mk (hb); clear BK107; clear HB; clear HO124; have BK107 := n0_; have HO127 := n1_; have HB := n2_; clear n0_ n1_ n2_; (try clear hb); (try clear hkp); (try clear ho0); have hcz32_0 : w31.cell? ⟨gb107, 0, none⟩ = some (.slice A0_0 l0_0.length c0_0) := (blk_cell BK107.out 0).trans rfl; have hcz32_1 : w31.cell? ⟨gb107, 1, none⟩ = some (.int .i64 a0_1) := (blk_cell BK107.out 1).trans rfl; have hcz32_2 : w31.cell? ⟨gb107, 2, none⟩ = some (.slice A0_2 l0_2.length c0_2) := (blk_cell BK107.out 2).trans rfl; have hcz32_3 : w31.cell? ⟨gb107, 3, none⟩ = some (.slice A0_3 l0_3.length c0_3) := (blk_cell BK107.out 3).trans rfl; have hfz32_0 := blk_frozen BK107.out 0; have hfz32_1 := blk_frozen BK107.out 1; have hfz32_2 := blk_frozen BK107.out 2; have hfz32_3 := blk_frozen BK107.out 3))
        go_loopg [3, 49] k1 (fun kq v3 v49 w' => ∃ (x3_2 : List Int) (x49_2 : Int), v49 = .int .i64 x49_2 ∧ Aside0 (code_body.l1 kq x3_2 l0_2 (l0_2.length : Int) x49_2 l0_0 a0_1 l0_2 l0_3 = some r) ∧ Aside0 (kq ≤ k1) ∧ Aside0 (Kd.R (Kd.int .u8) 5 w' w.heap.size (fun _ => True) v3 x3_2) ∧ Aside0 (w'.heap[gb107]? = some (.cells #[(.slice A0_0 l0_0.length c0_0), .int .i64 a0_1, (.slice A0_2 l0_2.length c0_2), (.slice A0_3 l0_3.length c0_3)] 29 (0, 0))) ∧ Aside0 (Below w.heap.size w w'))
        case atStart => exact ⟨(t125), (0), (by first | rfl | (simp; done) | (simp [*]; done)), H', ⟨Nat.le_refl _⟩, ⟨by (with_reducible repeat (first | apply Kd.R_alloc | apply Kd.R_drewN | apply Kd.R_drew)); exact HO127.out⟩, ⟨by (with_reducible repeat (first | refine blk_drewN ?_ _ | refine blk_drew ?_ | refine blk_alloc ?_ _)); exact BK107.out⟩, ⟨by repeat (first | (with_reducible first | exact HB.out | apply below_alloc | apply pw_below_drewN | apply below_drew1 | refine below_set ?_ GE107.out) | exact HB.out)⟩⟩
        case round =>
          clear H'
          try clear c1
          try clear p1
          try clear q1
          try clear hx1
          try clear c2
          try clear p2
          try clear p6
          try clear c7
          try clear c7b0
          try clear c8
          try clear c8b0
          try clear c9
          try clear c9b0
          try clear c11
          try clear p11
          try clear q11
          try clear hx11
          try clear c14
          try clear c17
          try clear c18
          try clear c29
          try clear hcz15_0
          try clear hcz15_1
          try clear hcz21_0
          try clear hcz21_1
          try clear hcz26_0
          try clear hcz26_1
          try clear hcz26_2
          try clear hcz26_3
          try clear hcz29_0
          try clear hcz29_1
          try clear hcz29_2
          try clear hcz29_3
          try clear hcz32_0
          try clear hcz32_1
          try clear hcz32_2
          try clear hcz32_3
          try clear hcz4_0
          try clear hcz4_1
          try clear hcz4_2
          try clear hcz4_3
          try clear hcz6_0
          try clear hcz6_1
          try clear hcz6_2
          try clear hcz6_3
          try clear hfz15_0
          try clear hfz15_1
          try clear hfz21_0
          try clear hfz21_1
          try clear hfz26_0
          try clear hfz26_1
          try clear hfz26_2
          try clear hfz26_3
          try clear hfz29_0
          try clear hfz29_1
          try clear hfz29_2
          try clear hfz29_3
          try clear hfz32_0
          try clear hfz32_1
          try clear hfz32_2
          try clear hfz32_3
          try clear hfz4_0
          try clear hfz4_1
          try clear hfz4_2
          try clear hfz4_3
          try clear hfz6_0
          try clear hfz6_1
          try clear hfz6_2
          try clear hfz6_3
          try clear hx111_0
          try clear hx111_1
          try clear p111
          try clear p2
          try clear q111
          obtain ⟨x3_2, x49_2, rfl, HA, HK2, HO_3, BK107, HB⟩ := hrel
          cases gk with
          | zero => exact absurd HA.out (by simp [code_body.l1])
          | succ k2 =>
            have H := HA.out
            clear HA
            simp only [code_body.l1] at H
            by_cases c33 : x49_2 < (l0_2.length : Int)
            · rw [if_pos c33] at H
              have c33b0 : decide (x49_2 < (l0_2.length : Int)) = true := decide_eq_true c33
              clear c33
              by_cases c34 : 0 ≤ x49_2
              · rw [if_pos c34] at H
                have c34b0 : decide (0 ≤ x49_2) = true := decide_eq_true c34
                clear c34
                by_cases c35 : x49_2 < (l0_2.length : Int)
                · rw [if_pos c35] at H
                  have c35b0 : decide (x49_2 < (l0_2.length : Int)) = true := decide_eq_true c35
                  clear c35
                  obtain ⟨bq36, hbq36⟩ : ∃ b_ : Bool, b_ = (rdOf false l0_2 x49_2) := ⟨_, rfl⟩
                  replace H : (if bq36 = true then ((code_num.f k2 x3_2 1).bind fun t129 => (code_body.l1 k2 t129 l0_2 (l0_2.length : Int) (wrap64 (x49_2 + 1)) l0_0 a0_1 l0_2 l0_3)) else ((code_num.f k2 x3_2 0).bind fun t132 => (code_body.l1 k2 t132 l0_2 (l0_2.length : Int) (wrap64 (x49_2 + 1)) l0_0 a0_1 l0_2 l0_3))) = some r := by rw [← hbq36] at H; exact H
                  have Nbq36 := Aside0.mk hbq36
                  clear hbq36
                  by_cases c37 : bq36 = true
                  · subst c37
                    have H1 : ((code_num.f k2 x3_2 1).bind fun t129 => (code_body.l1 k2 t129 l0_2 (l0_2.length : Int) (wrap64 (x49_2 + 1)) l0_0 a0_1 l0_2 l0_3)) = some r := by rw [if_pos rfl] at H; exact H
                    clear H
                    have H := H1
                    clear H1
                    replace H := Option.bind_eq_some_iff.mp H
                    obtain ⟨t129, A380, H⟩ := H
                    replace H : (code_body.l1 k2 t129 l0_2 (l0_2.length : Int) (wrap64 (x49_2 + 1)) l0_0 a0_1 l0_2 l0_3) = some r := H
                    have A38 := Aside0.mk A380
                    clear A380
                    have H' := Aside0.mk H
                    clear H
                    have p128 : 0 ≤ (x49_2 : Int) := of_decide_eq_true (by first | (with_reducible assumption) | assumption)
                    have q128 : x49_2 < (l0_2.length : Int) := of_decide_eq_true (by first | (with_reducible assumption) | assumption)
                    obtain ⟨ad128, e128, hx128_0⟩ := Kd.at_bool HR0_2.out x49_2 p128 q128
                    (try rw [← Nbq36.out] at hx128_0)
                    cases e128
                    replace hx128_0 := (HB.out.cell (World.block_lt_of_cell? w _ hx128_0)).trans hx128_0
                    replace p128 := eq_true p128
                    replace q128 := eq_true q128
                    obtain ⟨Ao39, co39, eo39⟩ := Kd.R_slice HO_3.out
                    subst eo39
                    go_wp2_with (first | ((with_reducible refine gate_callee (f := 18) rfl ?_); refine goesL_ (some 56) rfl rfl Try.func18 (by kernel_rfl) rfl #[.slice Ao39 x3_2.length co39, .int .i64 1] rfl (by (try simp only [List.map_toArray, List.map_cons, List.map_nil]); first | done | rfl | (simp only [List.length_drop, List.length_take]; rfl)) ?_; (with_reducible refine (code_num.calls k2 (fun k_ => some k_ = (.slice Ao39 x3_2.length co39 : Value).ownBlock) (.slice Ao39 x3_2.length co39) x3_2 1 t129 w _ ?side1 ?side2 A38.out).mono ?_); (case side1 => repeat (first | (with_reducible first | exact HB.out | apply below_alloc | apply pw_below_drewN | apply below_drew1 | refine below_set ?_ GE107.out) | exact HB.out)); (case side2 => exact Kd.R_tight rfl HO_3.out); rintro e w40 ⟨v130, rfl, ho0, hb, hkp⟩; refine ⟨_, rfl, ?_⟩; have n0_ := Aside0.mk (blk_kept (by (with_reducible repeat (first | refine blk_drewN ?_ _ | refine blk_drew ?_ | refine blk_alloc ?_ _)); exact BK107.out) hkp (fun hs_ => (fun e_ => (Kd.R_ne HO_3.out BK107.out (by decide)) e_) hs_)); have n1_ := Aside0.mk (Kd.R_mono (ok' := fun k_ => True) ho0 (fun k_ hk_ => trivial)); have n2_ := Aside0.mk (hb); clear BK107; clear HB; clear HO_3; have BK107 := n0_; have HO131 := n1_; have HB := n2_; clear n0_ n1_ n2_; (try clear hb); (try clear hkp); (try clear ho0)))
                    go_roundg k2
                    case measure => have := HK1.out; have := HK2.out; omega
                    case rel => exact ⟨(t129), (wrap64 (x49_2 + 1)), (by first | rfl | (simp; done) | (simp [*]; done)), H', ⟨by have := HK1.out; have := HK2.out; omega⟩, ⟨by (with_reducible repeat (first | apply Kd.R_alloc | apply Kd.R_drewN | apply Kd.R_drew)); exact HO131.out⟩, ⟨by (with_reducible repeat (first | refine blk_drewN ?_ _ | refine blk_drew ?_ | refine blk_alloc ?_ _)); exact BK107.out⟩, ⟨by repeat (first | (with_reducible first | exact HB.out | apply below_alloc | apply pw_below_drewN | apply below_drew1 | refine below_set ?_ GE107.out) | exact HB.out)⟩⟩
                  · replace c37 := Bool.eq_false_iff.mpr c37
                    subst c37
                    have H1 : ((code_num.f k2 x3_2 0).bind fun t132 => (code_body.l1 k2 t132 l0_2 (l0_2.length : Int) (wrap64 (x49_2 + 1)) l0_0 a0_1 l0_2 l0_3)) = some r := by rw [if_neg (show ¬ (false = true) by decide)] at H; exact H
                    clear H
                    have H := H1
                    clear H1
                    replace H := Option.bind_eq_some_iff.mp H
                    obtain ⟨t132, A410, H⟩ := H
                    replace H : (code_body.l1 k2 t132 l0_2 (l0_2.length : Int) (wrap64 (x49_2 + 1)) l0_0 a0_1 l0_2 l0_3) = some r := H
                    have A41 := Aside0.mk A410
                    clear A410
                    have H' := Aside0.mk H
                    clear H
                    have p128 : 0 ≤ (x49_2 : Int) := of_decide_eq_true (by first | (with_reducible assumption) | assumption)
                    have q128 : x49_2 < (l0_2.length : Int) := of_decide_eq_true (by first | (with_reducible assumption) | assumption)
                    obtain ⟨ad128, e128, hx128_0⟩ := Kd.at_bool HR0_2.out x49_2 p128 q128
                    (try rw [← Nbq36.out] at hx128_0)
                    cases e128
                    replace hx128_0 := (HB.out.cell (World.block_lt_of_cell? w _ hx128_0)).trans hx128_0
                    replace p128 := eq_true p128
                    replace q128 := eq_true q128
                    obtain ⟨Ao42, co42, eo42⟩ := Kd.R_slice HO_3.out
                    subst eo42
                    go_wp2_with (first | ((with_reducible refine gate_callee (f := 18) rfl ?_); refine goesL_ (some 56) rfl rfl Try.func18 (by kernel_rfl) rfl #[.slice Ao42 x3_2.length co42, .int .i64 0] rfl (by (try simp only [List.map_toArray, List.map_cons, List.map_nil]); first | done | rfl | (simp only [List.length_drop, List.length_take]; rfl)) ?_; (with_reducible refine (code_num.calls k2 (fun k_ => some k_ = (.slice Ao42 x3_2.length co42 : Value).ownBlock) (.slice Ao42 x3_2.length co42) x3_2 0 t132 w _ ?side1 ?side2 A41.out).mono ?_); (case side1 => repeat (first | (with_reducible first | exact HB.out | apply below_alloc | apply pw_below_drewN | apply below_drew1 | refine below_set ?_ GE107.out) | exact HB.out)); (case side2 => exact Kd.R_tight rfl HO_3.out); rintro e w43 ⟨v133, rfl, ho0, hb, hkp⟩; refine ⟨_, rfl, ?_⟩; have n0_ := Aside0.mk (blk_kept (by (with_reducible repeat (first | refine blk_drewN ?_ _ | refine blk_drew ?_ | refine blk_alloc ?_ _)); exact BK107.out) hkp (fun hs_ => (fun e_ => (Kd.R_ne HO_3.out BK107.out (by decide)) e_) hs_)); have n1_ := Aside0.mk (Kd.R_mono (ok' := fun k_ => True) ho0 (fun k_ hk_ => trivial)); have n2_ := Aside0.mk (hb); clear BK107; clear HB; clear HO_3; have BK107 := n0_; have HO134 := n1_; have HB := n2_; clear n0_ n1_ n2_; (try clear hb); (try clear hkp); (try clear ho0)))
                    go_roundg k2
                    case measure => have := HK1.out; have := HK2.out; omega
                    case rel => exact ⟨(t132), (wrap64 (x49_2 + 1)), (by first | rfl | (simp; done) | (simp [*]; done)), H', ⟨by have := HK1.out; have := HK2.out; omega⟩, ⟨by (with_reducible repeat (first | apply Kd.R_alloc | apply Kd.R_drewN | apply Kd.R_drew)); exact HO134.out⟩, ⟨by (with_reducible repeat (first | refine blk_drewN ?_ _ | refine blk_drew ?_ | refine blk_alloc ?_ _)); exact BK107.out⟩, ⟨by repeat (first | (with_reducible first | exact HB.out | apply below_alloc | apply pw_below_drewN | apply below_drew1 | refine below_set ?_ GE107.out) | exact HB.out)⟩⟩
                · rw [if_neg c35] at H
                  exact absurd H (by simp)
              · rw [if_neg c34] at H
                exact absurd H (by simp)
            · rw [if_neg c33] at H
              have c33b0 : decide (x49_2 < (l0_2.length : Int)) = false := decide_eq_false c33
              clear c33
              replace H := Option.bind_eq_some_iff.mp H
              obtain ⟨t135, A440, H⟩ := H
              replace H : (code_body.l2 k2 t135 l0_3 (l0_3.length : Int) 0) = some r := H
              have A44 := Aside0.mk A440
              clear A440
              have H' := Aside0.mk H
              clear H
              have hcz45_0 : wr.cell? ⟨gb107, 0, none⟩ = some (.slice A0_0 l0_0.length c0_0) := (blk_cell BK107.out 0).trans rfl
              have hcz45_1 : wr.cell? ⟨gb107, 1, none⟩ = some (.int .i64 a0_1) := (blk_cell BK107.out 1).trans rfl
              have hcz45_2 : wr.cell? ⟨gb107, 2, none⟩ = some (.slice A0_2 l0_2.length c0_2) := (blk_cell BK107.out 2).trans rfl
              have hcz45_3 : wr.cell? ⟨gb107, 3, none⟩ = some (.slice A0_3 l0_3.length c0_3) := (blk_cell BK107.out 3).trans rfl
              have hfz45_0 := blk_frozen BK107.out 0
              have hfz45_1 := blk_frozen BK107.out 1
              have hfz45_2 := blk_frozen BK107.out 2
              have hfz45_3 := blk_frozen BK107.out 3
              obtain ⟨Ao46, co46, eo46⟩ := Kd.R_slice HO_3.out
              subst eo46
              go_wp2_with (first | ((with_reducible refine gate_callee (f := 18) rfl ?_); refine goesL_ (some 62) rfl rfl Try.func18 (by kernel_rfl) rfl #[.slice Ao46 x3_2.length co46, .int .i64 (l0_3.length : Int)] rfl (by (try simp only [List.map_toArray, List.map_cons, List.map_nil]); first | done | rfl | (simp only [List.length_drop, List.length_take]; rfl)) ?_; (with_reducible refine (code_num.calls k2 (fun k_ => some k_ = (.slice Ao46 x3_2.length co46 : Value).ownBlock) (.slice Ao46 x3_2.length co46) x3_2 (l0_3.length : Int) t135 w _ ?side1 ?side2 A44.out).mono ?_); (case side1 => repeat (first | (with_reducible first | exact HB.out | apply below_alloc | apply pw_below_drewN | apply below_drew1 | refine below_set ?_ GE107.out) | exact HB.out)); (case side2 => exact Kd.R_tight rfl HO_3.out); rintro e w47 ⟨v136, rfl, ho0, hb, hkp⟩; refine ⟨_, rfl, ?_⟩; have n0_ := Aside0.mk (blk_kept (by (with_reducible repeat (first | refine blk_drewN ?_ _ | refine blk_drew ?_ | refine blk_alloc ?_ _)); exact BK107.out) hkp (fun hs_ => (fun e_ => (Kd.R_ne HO_3.out BK107.out (by decide)) e_) hs_)); have n1_ := Aside0.mk (Kd.R_mono (ok' := fun k_ => True) ho0 (fun k_ hk_ => trivial)); have n2_ := Aside0.mk (hb); clear BK107; clear HB; clear HO_3; have BK107 := n0_; have HO137 := n1_; have HB := n2_; clear n0_ n1_ n2_; (try clear hb); (try clear hkp); (try clear ho0); have hcz48_0 : w47.cell? ⟨gb107, 0, none⟩ = some (.slice A0_0 l0_0.length c0_0) := (blk_cell BK107.out 0).trans rfl; have hcz48_1 : w47.cell? ⟨gb107, 1, none⟩ = some (.int .i64 a0_1) := (blk_cell BK107.out 1).trans rfl; have hcz48_2 : w47.cell? ⟨gb107, 2, none⟩ = some (.slice A0_2 l0_2.length c0_2) := (blk_cell BK107.out 2).trans rfl; have hcz48_3 : w47.cell? ⟨gb107, 3, none⟩ = some (.slice A0_3 l0_3.length c0_3) := (blk_cell BK107.out 3).trans rfl; have hfz48_0 := blk_frozen BK107.out 0; have hfz48_1 := blk_frozen BK107.out 1; have hfz48_2 := blk_frozen BK107.out 2; have hfz48_3 := blk_frozen BK107.out 3))
              go_loopg [3, 66] k2 (fun kq v3 v66 w' => ∃ (x3_3 : List Int) (x66_3 : Int), v66 = .int .i64 x66_3 ∧ Aside0 (code_body.l2 kq x3_3 l0_3 (l0_3.length : Int) x66_3 = some r) ∧ Aside0 (kq ≤ k2) ∧ Aside0 (Kd.R (Kd.int .u8) 5 w' w.heap.size (fun _ => True) v3 x3_3) ∧ Aside0 (w'.heap[gb107]? = some (.cells #[(.slice A0_0 l0_0.length c0_0), .int .i64 a0_1, (.slice A0_2 l0_2.length c0_2), (.slice A0_3 l0_3.length c0_3)] 29 (0, 0))) ∧ Aside0 (Below w.heap.size w w'))
              case atStart => exact ⟨(t135), (0), (by first | rfl | (simp; done) | (simp [*]; done)), H', ⟨Nat.le_refl _⟩, ⟨by (with_reducible repeat (first | apply Kd.R_alloc | apply Kd.R_drewN | apply Kd.R_drew)); exact HO137.out⟩, ⟨by (with_reducible repeat (first | refine blk_drewN ?_ _ | refine blk_drew ?_ | refine blk_alloc ?_ _)); exact BK107.out⟩, ⟨by repeat (first | (with_reducible first | exact HB.out | apply below_alloc | apply pw_below_drewN | apply below_drew1 | refine below_set ?_ GE107.out) | exact HB.out)⟩⟩
              case round =>
                clear H'
                try clear c1
                try clear p1
                try clear q1
                try clear hx1
                try clear c2
                try clear p2
                try clear c3
                try clear q3
                try clear p6
                try clear c7
                try clear c7b0
                try clear c8
                try clear c8b0
                try clear c9
                try clear c9b0
                try clear c11
                try clear p11
                try clear q11
                try clear hx11
                try clear p12
                try clear q12
                try clear hx12
                try clear c14
                try clear c17
                try clear c18
                try clear c29
                try clear c33
                try clear c33b0
                try clear c34
                try clear c34b0
                try clear c35
                try clear c35b0
                try clear q36
                try clear c37
                try clear hcz15_0
                try clear hcz15_1
                try clear hcz21_0
                try clear hcz21_1
                try clear hcz26_0
                try clear hcz26_1
                try clear hcz26_2
                try clear hcz26_3
                try clear hcz29_0
                try clear hcz29_1
                try clear hcz29_2
                try clear hcz29_3
                try clear hcz32_0
                try clear hcz32_1
                try clear hcz32_2
                try clear hcz32_3
                try clear hcz45_0
                try clear hcz45_1
                try clear hcz45_2
                try clear hcz45_3
                try clear hcz48_0
                try clear hcz48_1
                try clear hcz48_2
                try clear hcz48_3
                try clear hcz4_0
                try clear hcz4_1
                try clear hcz4_2
                try clear hcz4_3
                try clear hcz6_0
                try clear hcz6_1
                try clear hcz6_2
                try clear hcz6_3
                try clear hfz15_0
                try clear hfz15_1
                try clear hfz21_0
                try clear hfz21_1
                try clear hfz26_0
                try clear hfz26_1
                try clear hfz26_2
                try clear hfz26_3
                try clear hfz29_0
                try clear hfz29_1
                try clear hfz29_2
                try clear hfz29_3
                try clear hfz32_0
                try clear hfz32_1
                try clear hfz32_2
                try clear hfz32_3
                try clear hfz45_0
                try clear hfz45_1
                try clear hfz45_2
                try clear hfz45_3
                try clear hfz48_0
                try clear hfz48_1
                try clear hfz48_2
                try clear hfz48_3
                try clear hfz4_0
                try clear hfz4_1
                try clear hfz4_2
                try clear hfz4_3
                try clear hfz6_0
                try clear hfz6_1
                try clear hfz6_2
                try clear hfz6_3
                try clear hx111_0
                try clear hx111_1
                try clear hx128_0
                try clear p1
                try clear p11
                try clear p111
                try clear p128
                try clear p2
                try clear p6
                try clear q1
                try clear q11
                try clear q111
                try clear q128
                obtain ⟨x3_3, x66_3, rfl, HA, HK3, HO_3, BK107, HB⟩ := hrel
                cases gk with
                | zero => exact absurd HA.out (by simp [code_body.l2])
                | succ k3 =>
                  have H := HA.out
                  clear HA
                  simp only [code_body.l2] at H
                  by_cases c49 : x66_3 < (l0_3.length : Int)
                  · rw [if_pos c49] at H
                    have c49b0 : decide (x66_3 < (l0_3.length : Int)) = true := decide_eq_true c49
                    clear c49
                    by_cases c50 : 0 ≤ x66_3
                    · rw [if_pos c50] at H
                      have c50b0 : decide (0 ≤ x66_3) = true := decide_eq_true c50
                      clear c50
                      by_cases c51 : x66_3 < (l0_3.length : Int)
                      · rw [if_pos c51] at H
                        have c51b0 : decide (x66_3 < (l0_3.length : Int)) = true := decide_eq_true c51
                        clear c51
                        replace H := Option.bind_eq_some_iff.mp H
                        obtain ⟨t139, A520, H⟩ := H
                        replace H : (code_body.l3 k3 t139 l0_3 (l0_3.length : Int) x66_3 (rd_L6 l0_3 x66_3) ((rd_L6 l0_3 x66_3).length : Int) 0) = some r := H
                        have A52 := Aside0.mk A520
                        clear A520
                        have H' := Aside0.mk H
                        clear H
                        have p138 : 0 ≤ (x66_3 : Int) := of_decide_eq_true (by first | (with_reducible assumption) | assumption)
                        have q138 : x66_3 < (l0_3.length : Int) := of_decide_eq_true (by first | (with_reducible assumption) | assumption)
                        obtain ⟨ad138, A138_0, c138_0, e138, hx138_0, hl138_0, hi138_0⟩ := at_L6 HR0_3.out x66_3 p138 q138
                        cases e138
                        replace hx138_0 := (HB.out.cell (World.block_lt_of_cell? w _ hx138_0)).trans hx138_0
                        have HR138_0 := Aside0.mk hi138_0
                        have HC138_0 := Aside0.mk hl138_0
                        clear hi138_0 hl138_0
                        replace p138 := eq_true p138
                        replace q138 := eq_true q138
                        obtain ⟨Ao53, co53, eo53⟩ := Kd.R_slice HO_3.out
                        subst eo53
                        go_wp2_with (first | ((with_reducible refine gate_callee (f := 18) rfl ?_); refine goesL_ (some 73) rfl rfl Try.func18 (by kernel_rfl) rfl #[.slice Ao53 x3_3.length co53, .int .i64 ((rd_L6 l0_3 x66_3).length : Int)] rfl (by (try simp only [List.map_toArray, List.map_cons, List.map_nil]); first | done | rfl | (simp only [List.length_drop, List.length_take]; rfl)) ?_; (with_reducible refine (code_num.calls k3 (fun k_ => some k_ = (.slice Ao53 x3_3.length co53 : Value).ownBlock) (.slice Ao53 x3_3.length co53) x3_3 ((rd_L6 l0_3 x66_3).length : Int) t139 w _ ?side1 ?side2 A52.out).mono ?_); (case side1 => repeat (first | (with_reducible first | exact HB.out | apply below_alloc | apply pw_below_drewN | apply below_drew1 | refine below_set ?_ GE107.out) | exact HB.out)); (case side2 => exact Kd.R_tight rfl HO_3.out); rintro e w54 ⟨v140, rfl, ho0, hb, hkp⟩; refine ⟨_, rfl, ?_⟩; have n0_ := Aside0.mk (blk_kept (by (with_reducible repeat (first | refine blk_drewN ?_ _ | refine blk_drew ?_ | refine blk_alloc ?_ _)); exact BK107.out) hkp (fun hs_ => (fun e_ => (Kd.R_ne HO_3.out BK107.out (by decide)) e_) hs_)); have n1_ := Aside0.mk (Kd.R_mono (ok' := fun k_ => True) ho0 (fun k_ hk_ => trivial)); have n2_ := Aside0.mk (hb); clear BK107; clear HB; clear HO_3; have BK107 := n0_; have HO141 := n1_; have HB := n2_; clear n0_ n1_ n2_; (try clear hb); (try clear hkp); (try clear ho0)))
                        go_loopg [3, 76] k3 (fun kq v3 v76 w' => ∃ (x3_4 : List Int) (x76_4 : Int), v76 = .int .i64 x76_4 ∧ Aside0 (code_body.l3 kq x3_4 l0_3 (l0_3.length : Int) x66_3 (rd_L6 l0_3 x66_3) ((rd_L6 l0_3 x66_3).length : Int) x76_4 = some r) ∧ Aside0 (kq ≤ k3) ∧ Aside0 (Kd.R (Kd.int .u8) 5 w' w.heap.size (fun _ => True) v3 x3_4) ∧ Aside0 (w'.heap[gb107]? = some (.cells #[(.slice A0_0 l0_0.length c0_0), .int .i64 a0_1, (.slice A0_2 l0_2.length c0_2), (.slice (some ad138) l0_3.length c0_3)] 29 (0, 0))) ∧ Aside0 (Below w.heap.size w w'))
                        case atStart => exact ⟨(t139), (0), (by first | rfl | (simp; done) | (simp [*]; done)), H', ⟨Nat.le_refl _⟩, ⟨by (with_reducible repeat (first | apply Kd.R_alloc | apply Kd.R_drewN | apply Kd.R_drew)); exact HO141.out⟩, ⟨by (with_reducible repeat (first | refine blk_drewN ?_ _ | refine blk_drew ?_ | refine blk_alloc ?_ _)); exact BK107.out⟩, ⟨by repeat (first | (with_reducible first | exact HB.out | apply below_alloc | apply pw_below_drewN | apply below_drew1 | refine below_set ?_ GE107.out) | exact HB.out)⟩⟩
                        case round =>
                          clear H'
                          try clear c1
                          try clear p1
                          try clear q1
                          try clear hx1
                          try clear c2
                          try clear p2
                          try clear c3
                          try clear q3
                          try clear c4
                          try clear c5
                          try clear p6
                          try clear c7
                          try clear c7b0
                          try clear c8
                          try clear c8b0
                          try clear c9
                          try clear c9b0
                          try clear c11
                          try clear p11
                          try clear q11
                          try clear hx11
                          try clear p12
                          try clear q12
                          try clear hx12
                          try clear c13
                          try clear p13
                          try clear q13
                          try clear hx13
                          try clear c14
                          try clear c17
                          try clear c18
                          try clear c29
                          try clear c33
                          try clear c33b0
                          try clear c34
                          try clear c34b0
                          try clear c35
                          try clear c35b0
                          try clear q36
                          try clear c37
                          try clear c49
                          try clear c49b0
                          try clear c50
                          try clear c50b0
                          try clear c51
                          try clear c51b0
                          try clear hcz15_0
                          try clear hcz15_1
                          try clear hcz21_0
                          try clear hcz21_1
                          try clear hcz26_0
                          try clear hcz26_1
                          try clear hcz26_2
                          try clear hcz26_3
                          try clear hcz29_0
                          try clear hcz29_1
                          try clear hcz29_2
                          try clear hcz29_3
                          try clear hcz32_0
                          try clear hcz32_1
                          try clear hcz32_2
                          try clear hcz32_3
                          try clear hcz45_0
                          try clear hcz45_1
                          try clear hcz45_2
                          try clear hcz45_3
                          try clear hcz48_0
                          try clear hcz48_1
                          try clear hcz48_2
                          try clear hcz48_3
                          try clear hcz4_0
                          try clear hcz4_1
                          try clear hcz4_2
                          try clear hcz4_3
                          try clear hcz6_0
                          try clear hcz6_1
                          try clear hcz6_2
                          try clear hcz6_3
                          try clear hfz15_0
                          try clear hfz15_1
                          try clear hfz21_0
                          try clear hfz21_1
                          try clear hfz26_0
                          try clear hfz26_1
                          try clear hfz26_2
                          try clear hfz26_3
                          try clear hfz29_0
                          try clear hfz29_1
                          try clear hfz29_2
                          try clear hfz29_3
                          try clear hfz32_0
                          try clear hfz32_1
                          try clear hfz32_2
                          try clear hfz32_3
                          try clear hfz45_0
                          try clear hfz45_1
                          try clear hfz45_2
                          try clear hfz45_3
                          try clear hfz48_0
                          try clear hfz48_1
                          try clear hfz48_2
                          try clear hfz48_3
                          try clear hfz4_0
                          try clear hfz4_1
                          try clear hfz4_2
                          try clear hfz4_3
                          try clear hfz6_0
                          try clear hfz6_1
                          try clear hfz6_2
                          try clear hfz6_3
                          try clear hx111_0
                          try clear hx111_1
                          try clear hx128_0
                          try clear hx138_0
                          try clear p1
                          try clear p11
                          try clear p111
                          try clear p12
                          try clear p128
                          try clear p138
                          try clear p2
                          try clear p6
                          try clear q1
                          try clear q11
                          try clear q111
                          try clear q12
                          try clear q128
                          try clear q138
                          try clear q3
                          try clear q36
                          obtain ⟨x3_4, x76_4, rfl, HA, HK4, HO_3, BK107, HB⟩ := hrel
                          cases gk with
                          | zero => exact absurd HA.out (by simp [code_body.l3])
                          | succ k4 =>
                            have H := HA.out
                            clear HA
                            simp only [code_body.l3] at H
                            by_cases c55 : x76_4 < ((rd_L6 l0_3 x66_3).length : Int)
                            · rw [if_pos c55] at H
                              have c55b0 : decide (x76_4 < ((rd_L6 l0_3 x66_3).length : Int)) = true := decide_eq_true c55
                              clear c55
                              by_cases c56 : 0 ≤ x76_4
                              · rw [if_pos c56] at H
                                have c56b0 : decide (0 ≤ x76_4) = true := decide_eq_true c56
                                clear c56
                                by_cases c57 : x76_4 < ((rd_L6 l0_3 x66_3).length : Int)
                                · rw [if_pos c57] at H
                                  have c57b0 : decide (x76_4 < ((rd_L6 l0_3 x66_3).length : Int)) = true := decide_eq_true c57
                                  clear c57
                                  replace H := Option.bind_eq_some_iff.mp H
                                  obtain ⟨t143, A580, H⟩ := H
                                  replace H : (code_body.l3 k4 t143 l0_3 (l0_3.length : Int) x66_3 (rd_L6 l0_3 x66_3) ((rd_L6 l0_3 x66_3).length : Int) (wrap64 (x76_4 + 1))) = some r := H
                                  have A58 := Aside0.mk A580
                                  clear A580
                                  have H' := Aside0.mk H
                                  clear H
                                  have p142 : 0 ≤ (x76_4 : Int) := of_decide_eq_true (by first | (with_reducible assumption) | assumption)
                                  have q142 : x76_4 < ((rd_L6 l0_3 x66_3).length : Int) := of_decide_eq_true (by first | (with_reducible assumption) | assumption)
                                  obtain ⟨ad142, e142, hx142_0⟩ := Kd.at_int HR138_0.out x76_4 p142 q142
                                  cases e142
                                  replace hx142_0 := (HB.out.cell (World.block_lt_of_cell? w _ hx142_0)).trans hx142_0
                                  replace p142 := eq_true p142
                                  replace q142 := eq_true q142
                                  obtain ⟨Ao59, co59, eo59⟩ := Kd.R_slice HO_3.out
                                  subst eo59
                                  go_wp2_with (first | ((with_reducible refine gate_callee (f := 18) rfl ?_); refine goesL_ (some 82) rfl rfl Try.func18 (by kernel_rfl) rfl #[.slice Ao59 x3_4.length co59, .int .i64 (rd (rd_L6 l0_3 x66_3) x76_4)] rfl (by (try simp only [List.map_toArray, List.map_cons, List.map_nil]); first | done | rfl | (simp only [List.length_drop, List.length_take]; rfl)) ?_; (with_reducible refine (code_num.calls k4 (fun k_ => some k_ = (.slice Ao59 x3_4.length co59 : Value).ownBlock) (.slice Ao59 x3_4.length co59) x3_4 (rd (rd_L6 l0_3 x66_3) x76_4) t143 w _ ?side1 ?side2 A58.out).mono ?_); (case side1 => repeat (first | (with_reducible first | exact HB.out | apply below_alloc | apply pw_below_drewN | apply below_drew1 | refine below_set ?_ GE107.out) | exact HB.out)); (case side2 => exact Kd.R_tight rfl HO_3.out); rintro e w60 ⟨v144, rfl, ho0, hb, hkp⟩; refine ⟨_, rfl, ?_⟩; have n0_ := Aside0.mk (blk_kept (by (with_reducible repeat (first | refine blk_drewN ?_ _ | refine blk_drew ?_ | refine blk_alloc ?_ _)); exact BK107.out) hkp (fun hs_ => (fun e_ => (Kd.R_ne HO_3.out BK107.out (by decide)) e_) hs_)); have n1_ := Aside0.mk (Kd.R_mono (ok' := fun k_ => True) ho0 (fun k_ hk_ => trivial)); have n2_ := Aside0.mk (hb); clear BK107; clear HB; clear HO_3; have BK107 := n0_; have HO145 := n1_; have HB := n2_; clear n0_ n1_ n2_; (try clear hb); (try clear hkp); (try clear ho0)))
                                  go_roundg k4
                                  case measure => have := HK1.out; have := HK2.out; have := HK3.out; have := HK4.out; omega
                                  case rel => exact ⟨(t143), (wrap64 (x76_4 + 1)), (by first | rfl | (simp; done) | (simp [*]; done)), H', ⟨by have := HK1.out; have := HK2.out; have := HK3.out; have := HK4.out; omega⟩, ⟨by (with_reducible repeat (first | apply Kd.R_alloc | apply Kd.R_drewN | apply Kd.R_drew)); exact HO145.out⟩, ⟨by (with_reducible repeat (first | refine blk_drewN ?_ _ | refine blk_drew ?_ | refine blk_alloc ?_ _)); exact BK107.out⟩, ⟨by repeat (first | (with_reducible first | exact HB.out | apply below_alloc | apply pw_below_drewN | apply below_drew1 | refine below_set ?_ GE107.out) | exact HB.out)⟩⟩
                                · rw [if_neg c57] at H
                                  exact absurd H (by simp)
                              · rw [if_neg c56] at H
                                exact absurd H (by simp)
                            · rw [if_neg c55] at H
                              have c55b0 : decide (x76_4 < ((rd_L6 l0_3 x66_3).length : Int)) = false := decide_eq_false c55
                              clear c55
                              have H' := Aside0.mk H
                              clear H
                              go_wp2
                              go_roundg k4
                              case measure => have := HK1.out; have := HK2.out; have := HK3.out; have := HK4.out; omega
                              case rel => exact ⟨(x3_4), (wrap64 (x66_3 + 1)), (by first | rfl | (simp; done) | (simp [*]; done)), H', ⟨by have := HK1.out; have := HK2.out; have := HK3.out; have := HK4.out; omega⟩, ⟨by (with_reducible repeat (first | apply Kd.R_alloc | apply Kd.R_drewN | apply Kd.R_drew)); exact HO_3.out⟩, ⟨by (with_reducible repeat (first | refine blk_drewN ?_ _ | refine blk_drew ?_ | refine blk_alloc ?_ _)); exact BK107.out⟩, ⟨by repeat (first | (with_reducible first | exact HB.out | apply below_alloc | apply pw_below_drewN | apply below_drew1 | refine below_set ?_ GE107.out) | exact HB.out)⟩⟩
                      · rw [if_neg c51] at H
                        exact absurd H (by simp)
                    · rw [if_neg c50] at H
                      exact absurd H (by simp)
                  · rw [if_neg c49] at H
                    have c49b0 : decide (x66_3 < (l0_3.length : Int)) = false := decide_eq_false c49
                    clear c49
                    obtain rfl := Option.some.inj H
                    go_wp2
                    go_ret
                    exact ⟨_, by first | rfl | (simp [errW_none, errW_some] <;> rfl) | (simp [*, errW_none, errW_some] <;> rfl), by (with_reducible repeat (first | apply Kd.R_alloc | apply Kd.R_drewN | apply Kd.R_drew)); exact HO_3.out, by repeat (first | (with_reducible first | exact HB.out | apply below_alloc | apply pw_below_drewN | apply below_drew1 | refine below_set ?_ GE107.out) | exact HB.out)⟩

end Go.Proofs.Ytgbhejkgnfkfgaa.PCodeRuns
