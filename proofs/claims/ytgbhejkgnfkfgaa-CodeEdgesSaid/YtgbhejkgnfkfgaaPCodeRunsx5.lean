-- Printed by a program of this session's own (wip/tools: a turned copy of the kit's print).
import Derived.Test.YtgbhejkgnfkfgaaPCodeRunsx0
import Derived.Test.YtgbhejkgnfkfgaaPCodeRunsx4
namespace Go.Proofs.Ytgbhejkgnfkfgaa.PCodeRuns
open Go.Proofs.Ytgbhejkgnfkfgaa.Given
open Go.RowKit Go.Proofs.YtgbhejkgnfkfgaaW.PrintWords Go.Proofs.YtgbhejkgnfkfgaaW.PrintLast Go.Proofs.YtgbhejkgnfkfgaaW.PrintMore
attribute [local go_sem] max2_int min2_int max_two min_two max_three min_three max_four min_four   -- for this text's walks alone
set_option linter.unusedVariables false
set_option linter.unusedSimpArgs false

/-! ### code_reader_session: function 21 -/
mutual
def code_reader_session.l0 : Nat → Int → Int → List Int → RSt → List (S24) → Int → Option ((List (S24)) × Int × List Bool × (List (List Int)) × RSt)
  | 0, _, _, _, _, _, _ => none
  | k + 1, x7, x8, x1000, x1001, x173000, x173001 => if x8 < x7 then ((code_reader_many.f k x1000 x1001 1000).bind fun bt175 => ((reader_take.f x1000 bt175.2 bt175.1).bind fun bt177 => ((code_reader_wide.f k x1000 bt177.2 8).bind fun bt181 => (if x173000.length < 5864062014805 then (code_reader_session.l0 k x7 (wrap64 (x8 + 1)) x1000 bt181.2 (x173000 ++ [(⟨strOfNums bt177.1, bt181.1⟩ : S24)]) x173001) else (none))))) else ((code_reader_num.f k x1000 x1001).bind fun bt186 => ((code_reader_many.f k x1000 bt186.2 8).bind fun bt188 => (code_reader_session.l1 k bt188.1 0 x1000 bt188.2 x173000 bt186.1 ([] : List Bool))))
def code_reader_session.l1 : Nat → Int → Int → List Int → RSt → List (S24) → Int → List Bool → Option ((List (S24)) × Int × List Bool × (List (List Int)) × RSt)
  | 0, _, _, _, _, _, _, _ => none
  | k + 1, x29, x30, x1000, x1001, x173000, x173001, x173002 => if x30 < x29 then ((code_reader_many.f k x1000 x1001 1).bind fun bt190 => (if x173002.length < 140737488355328 then (code_reader_session.l1 k x29 (wrap64 (x30 + 1)) x1000 bt190.2 x173000 x173001 (x173002 ++ [(bt190.1 == 1)])) else (none))) else ((code_reader_many.f k x1000 x1001 16).bind fun bt195 => (code_reader_session.l2 k bt195.1 0 x1000 bt195.2 x173000 x173001 x173002 ([] : List (List Int))))
def code_reader_session.l2 : Nat → Int → Int → List Int → RSt → List (S24) → Int → List Bool → List (List Int) → Option ((List (S24)) × Int × List Bool × (List (List Int)) × RSt)
  | 0, _, _, _, _, _, _, _, _ => none
  | k + 1, x42, x43, x1000, x1001, x173000, x173001, x173002, x173003 => if x43 < x42 then ((code_reader_many.f k x1000 x1001 6).bind fun bt197 => (code_reader_session.l3 k ([] : List Int) x42 x43 bt197.1 0 x1000 bt197.2 x173000 x173001 x173002 x173003)) else (some (x173000, x173001, x173002, x173003, x1001))
def code_reader_session.l3 : Nat → List Int → Int → Int → Int → Int → List Int → RSt → List (S24) → Int → List Bool → List (List Int) → Option ((List (S24)) × Int × List Bool × (List (List Int)) × RSt)
  | 0, _, _, _, _, _, _, _, _, _, _, _ => none
  | k + 1, x5, x42, x43, x46, x47, x1000, x1001, x173000, x173001, x173002, x173003 => if x47 < x46 then ((code_reader_num.f k x1000 x1001).bind fun bt199 => (if x5.length < 17592186044416 then (code_reader_session.l3 k (x5 ++ [bt199.1]) x42 x43 x46 (wrap64 (x47 + 1)) x1000 bt199.2 x173000 x173001 x173002 x173003) else (none))) else (if x173003.length < 5864062014805 then (code_reader_session.l2 k x42 (wrap64 (x43 + 1)) x1000 x1001 x173000 x173001 x173002 (x173003 ++ [x5])) else (none))
end
def code_reader_session.f (k : Nat) (s0_0 : List Int) (s0_1 : RSt) : Option ((List (S24)) × Int × List Bool × (List (List Int)) × RSt) := (code_reader_many.f k s0_0 s0_1 12).bind fun bt173 => (code_reader_session.l0 k bt173.1 0 s0_0 bt173.2 ([] : List (S24)) 0)
theorem code_reader_session.mono_l : ∀ k, (∀ y0 y1 y2 y3 y4 y5, LeO (code_reader_session.l0 k y0 y1 y2 y3 y4 y5) (code_reader_session.l0 (k + 1) y0 y1 y2 y3 y4 y5)) ∧ (∀ y0 y1 y2 y3 y4 y5 y6, LeO (code_reader_session.l1 k y0 y1 y2 y3 y4 y5 y6) (code_reader_session.l1 (k + 1) y0 y1 y2 y3 y4 y5 y6)) ∧ (∀ y0 y1 y2 y3 y4 y5 y6 y7, LeO (code_reader_session.l2 k y0 y1 y2 y3 y4 y5 y6 y7) (code_reader_session.l2 (k + 1) y0 y1 y2 y3 y4 y5 y6 y7)) ∧ (∀ y0 y1 y2 y3 y4 y5 y6 y7 y8 y9 y10, LeO (code_reader_session.l3 k y0 y1 y2 y3 y4 y5 y6 y7 y8 y9 y10) (code_reader_session.l3 (k + 1) y0 y1 y2 y3 y4 y5 y6 y7 y8 y9 y10))
  | 0 => ⟨fun _ _ _ _ _ _ r h => by simp [code_reader_session.l0] at h, fun _ _ _ _ _ _ _ r h => by simp [code_reader_session.l1] at h, fun _ _ _ _ _ _ _ _ r h => by simp [code_reader_session.l2] at h, fun _ _ _ _ _ _ _ _ _ _ _ r h => by simp [code_reader_session.l3] at h⟩
  | k + 1 => by
    obtain ⟨ih0, ih1, ih2, ih3⟩ := code_reader_session.mono_l k
    refine ⟨?_, ?_, ?_, ?_⟩
    · intro y0 y1 y2 y3 y4 y5
      unfold code_reader_session.l0
      repeat' first
      | (with_reducible exact ih0 _ _ _ _ _ _)
      | (with_reducible exact ih1 _ _ _ _ _ _ _)
      | (with_reducible exact ih2 _ _ _ _ _ _ _ _)
      | (with_reducible exact ih3 _ _ _ _ _ _ _ _ _ _ _)
      | (with_reducible exact code_reader_many.mono _ _ _ _)
      | (with_reducible exact code_reader_num.mono _ _ _)
      | (with_reducible exact code_reader_wide.mono _ _ _ _)
      | (with_reducible exact LeO.refl _)
      | (with_reducible exact LeO.none _)
      | (with_reducible refine LeO.ite ?_ ?_)
      | (with_reducible refine LeO.bind ?_ (fun _ => ?_))
      | exact ih0 _ _ _ _ _ _
      | exact ih1 _ _ _ _ _ _ _
      | exact ih2 _ _ _ _ _ _ _ _
      | exact ih3 _ _ _ _ _ _ _ _ _ _ _
      | exact code_reader_many.mono _ _ _ _
      | exact code_reader_num.mono _ _ _
      | exact code_reader_wide.mono _ _ _ _
      | exact LeO.none _
      | refine LeO.ite ?_ ?_
      | refine LeO.bind ?_ (fun _ => ?_)
    · intro y0 y1 y2 y3 y4 y5 y6
      unfold code_reader_session.l1
      repeat' first
      | (with_reducible exact ih0 _ _ _ _ _ _)
      | (with_reducible exact ih1 _ _ _ _ _ _ _)
      | (with_reducible exact ih2 _ _ _ _ _ _ _ _)
      | (with_reducible exact ih3 _ _ _ _ _ _ _ _ _ _ _)
      | (with_reducible exact code_reader_many.mono _ _ _ _)
      | (with_reducible exact code_reader_num.mono _ _ _)
      | (with_reducible exact code_reader_wide.mono _ _ _ _)
      | (with_reducible exact LeO.refl _)
      | (with_reducible exact LeO.none _)
      | (with_reducible refine LeO.ite ?_ ?_)
      | (with_reducible refine LeO.bind ?_ (fun _ => ?_))
      | exact ih0 _ _ _ _ _ _
      | exact ih1 _ _ _ _ _ _ _
      | exact ih2 _ _ _ _ _ _ _ _
      | exact ih3 _ _ _ _ _ _ _ _ _ _ _
      | exact code_reader_many.mono _ _ _ _
      | exact code_reader_num.mono _ _ _
      | exact code_reader_wide.mono _ _ _ _
      | exact LeO.none _
      | refine LeO.ite ?_ ?_
      | refine LeO.bind ?_ (fun _ => ?_)
    · intro y0 y1 y2 y3 y4 y5 y6 y7
      unfold code_reader_session.l2
      repeat' first
      | (with_reducible exact ih0 _ _ _ _ _ _)
      | (with_reducible exact ih1 _ _ _ _ _ _ _)
      | (with_reducible exact ih2 _ _ _ _ _ _ _ _)
      | (with_reducible exact ih3 _ _ _ _ _ _ _ _ _ _ _)
      | (with_reducible exact code_reader_many.mono _ _ _ _)
      | (with_reducible exact code_reader_num.mono _ _ _)
      | (with_reducible exact code_reader_wide.mono _ _ _ _)
      | (with_reducible exact LeO.refl _)
      | (with_reducible exact LeO.none _)
      | (with_reducible refine LeO.ite ?_ ?_)
      | (with_reducible refine LeO.bind ?_ (fun _ => ?_))
      | exact ih0 _ _ _ _ _ _
      | exact ih1 _ _ _ _ _ _ _
      | exact ih2 _ _ _ _ _ _ _ _
      | exact ih3 _ _ _ _ _ _ _ _ _ _ _
      | exact code_reader_many.mono _ _ _ _
      | exact code_reader_num.mono _ _ _
      | exact code_reader_wide.mono _ _ _ _
      | exact LeO.none _
      | refine LeO.ite ?_ ?_
      | refine LeO.bind ?_ (fun _ => ?_)
    · intro y0 y1 y2 y3 y4 y5 y6 y7 y8 y9 y10
      unfold code_reader_session.l3
      repeat' first
      | (with_reducible exact ih0 _ _ _ _ _ _)
      | (with_reducible exact ih1 _ _ _ _ _ _ _)
      | (with_reducible exact ih2 _ _ _ _ _ _ _ _)
      | (with_reducible exact ih3 _ _ _ _ _ _ _ _ _ _ _)
      | (with_reducible exact code_reader_many.mono _ _ _ _)
      | (with_reducible exact code_reader_num.mono _ _ _)
      | (with_reducible exact code_reader_wide.mono _ _ _ _)
      | (with_reducible exact LeO.refl _)
      | (with_reducible exact LeO.none _)
      | (with_reducible refine LeO.ite ?_ ?_)
      | (with_reducible refine LeO.bind ?_ (fun _ => ?_))
      | exact ih0 _ _ _ _ _ _
      | exact ih1 _ _ _ _ _ _ _
      | exact ih2 _ _ _ _ _ _ _ _
      | exact ih3 _ _ _ _ _ _ _ _ _ _ _
      | exact code_reader_many.mono _ _ _ _
      | exact code_reader_num.mono _ _ _
      | exact code_reader_wide.mono _ _ _ _
      | exact LeO.none _
      | refine LeO.ite ?_ ?_
      | refine LeO.bind ?_ (fun _ => ?_)
theorem code_reader_session.mono : ∀ a0 a1 k, LeO (code_reader_session.f k a0 a1) (code_reader_session.f (k + 1) a0 a1) := by
  intro a0 a1 k
  obtain ⟨ih0, ih1, ih2, ih3⟩ := code_reader_session.mono_l k
  unfold code_reader_session.f
  repeat' first
      | (with_reducible exact ih0 _ _ _ _ _ _)
      | (with_reducible exact ih1 _ _ _ _ _ _ _)
      | (with_reducible exact ih2 _ _ _ _ _ _ _ _)
      | (with_reducible exact ih3 _ _ _ _ _ _ _ _ _ _ _)
      | (with_reducible exact code_reader_many.mono _ _ _ _)
      | (with_reducible exact code_reader_num.mono _ _ _)
      | (with_reducible exact code_reader_wide.mono _ _ _ _)
      | (with_reducible exact LeO.refl _)
      | (with_reducible exact LeO.none _)
      | (with_reducible refine LeO.ite ?_ ?_)
      | (with_reducible refine LeO.bind ?_ (fun _ => ?_))
      | exact ih0 _ _ _ _ _ _
      | exact ih1 _ _ _ _ _ _ _
      | exact ih2 _ _ _ _ _ _ _ _
      | exact ih3 _ _ _ _ _ _ _ _ _ _ _
      | exact code_reader_many.mono _ _ _ _
      | exact code_reader_num.mono _ _ _
      | exact code_reader_wide.mono _ _ _ _
      | exact LeO.none _
      | refine LeO.ite ?_ ?_
      | refine LeO.bind ?_ (fun _ => ?_)
def code_reader_session.T5 : Bool × List (List Nat × List Nat) := (true, [([], []), ([0], [0]), ([], []), ([], []), ([3], [3]), ([2, 4], [2, 4]), ([5], [5]), ([1, 6, 4], [1, 6]), ([0, 1, 2, 3, 4, 5, 6, 7], []), ([8, 7, 7, 0, 1, 2, 3, 4, 5, 6, 7], [7, 8])])
def code_reader_session.B5 : List Nat := [0, 1, 0, 0, 8, 28, 60, 127, 255, 511]
theorem code_reader_session.tab5 : rtab .any (opsOf Try.f21 5) = code_reader_session.T5 := by kernel_rfl
theorem code_reader_session.bits5 : waitsOk code_reader_session.T5.2 code_reader_session.B5 = true := by kernel_rfl
def code_reader_session.T10 : Bool × List (List Nat × List Nat) := (true, [([], []), ([0], [0]), ([], []), ([2], [2]), ([3], [3]), ([4], [4]), ([1, 5, 3], [1, 5]), ([0, 1, 2, 3, 4, 5, 6], []), ([7, 6, 6, 0, 1, 2, 3, 4, 5, 6], [6, 7])])
def code_reader_session.B10 : List Nat := [0, 1, 0, 4, 12, 28, 63, 127, 255]
theorem code_reader_session.tab10 : rtab .any (opsOf Try.f21 10) = code_reader_session.T10 := by kernel_rfl
theorem code_reader_session.bits10 : waitsOk code_reader_session.T10.2 code_reader_session.B10 = true := by kernel_rfl
set_option maxHeartbeats 8000000 in
set_option maxRecDepth 100000 in
theorem code_reader_session.calls (k : Nat) (g : Nat) (s0_0 : List Int) (s0_1 : RSt) (r1 : List (S24)) (r2 : Int) (r3 : List Bool) (r4 : List (List Int)) (r5 : RSt) (w0 w : World) (hI : IsS51 w0 w g s0_0 s0_1) (hB : Below w0.heap.size w0 w) (h : code_reader_session.f k s0_0 s0_1 = some (r1, r2, r3, r4, r5)) :
    Calls Try.prog 21 #[.pointer (some ⟨g, 0, none⟩)] w fun e w' => ∃ v0_ v2_ v3_ : Value, e = .returned (.agg #[v0_, .int .i64 r2, v2_, v3_]) ∧ Kd.R k24 24 w' w.heap.size (fun _ => True) v0_ r1 ∧ Kd.R Kd.bool 4 w' w.heap.size (fun _ => True) v2_ r3 ∧ Kd.S (Kd.slice 3 (Kd.int .i64)) 45 w' w.heap.size (fun _ => True) v3_ r4 ∧ IsS51 w0 w' g s0_0 r5 ∧ Below w0.heap.size w0 w' ∧ KeepBut w w' g none := by
  have hu29 := Try.underlying29
  have hu24 := Try.underlying24
  have HI0 := Aside0.mk hI
  have HK := Aside0.mk (KeepBut.refl w g none)
  have HL := Aside0.mk hB.size
  clear hI
  have HW0 := Aside0.mk hB.size
  have HB := Aside0.mk hB
  clear hB
  have H : ((code_reader_many.f k s0_0 s0_1 12).bind fun bt173 => (code_reader_session.l0 k bt173.1 0 s0_0 bt173.2 ([] : List (S24)) 0)) = some (r1, r2, r3, r4, r5) := h
  clear h
  replace H := Option.bind_eq_some_iff.mp H
  obtain ⟨⟨t173, t174⟩, A20, H⟩ := H
  replace H : (code_reader_session.l0 k t173 0 s0_0 t174 ([] : List (S24)) 0) = some (r1, r2, r3, r4, r5) := H
  have A2 := Aside0.mk A20
  clear A20
  have H' := Aside0.mk H
  clear H
  go_enter Try.func21, Try.ntmps21
  go_wp2_with (first | ((with_reducible refine gate_dst (N := 2) rfl ?_); refine box_event ?hg (N := 2) ?hd (cs := #[.slice none 0 0, .int .i64 0, .slice none 0 0, .slice none 0 0]) (t := 29) ?hr ?_; (case hd => rfl); (case hg => rfl); (case hr => first | (go_simp; done) | (go_simp; rfl)); intro gb171 hg w3 hbox hb; have n0_ := Aside0.mk (IsS51.below (by repeat (first | (with_reducible first | exact HI0.out | apply IsS51.alloc | apply IsS51.drewN | apply IsS51.drew | apply IsS51.set_1) | exact HI0.out)) hb); have n1_ := Aside0.mk (KeepBut.trans (by repeat (first | (with_reducible first | exact HK.out | apply KeepBut.set_ | apply keep_drewN | apply keep_drew | apply keep_alloc) | exact HK.out)) (KeepBut.of_below hb g none) (.inl rfl)); have n2_ := Aside0.mk (below_step (by repeat (first | (with_reducible first | exact HB.out | apply below_alloc | apply pw_below_drewN | apply below_drew1 | refine below_set ?_ (IsS51.ge HI0.out)) | exact HB.out)) hb); have n3_ := Aside0.mk (hbox); have n4_ := Aside0.mk ((by rw [hg]; exact (keep_size (w := w) (g := g) (row := none) (by repeat (first | (with_reducible first | exact HK.out | apply KeepBut.set_ | apply keep_drewN | apply keep_drew | apply keep_alloc) | exact HK.out))) : w.heap.size ≤ gb171)); have n5_ := Aside0.mk ((Nat.le_trans HW0.out (by rw [hg]; exact (keep_size (w := w) (g := g) (row := none) (by repeat (first | (with_reducible first | exact HK.out | apply KeepBut.set_ | apply keep_drewN | apply keep_drew | apply keep_alloc) | exact HK.out))) : w.heap.size ≤ gb171) : w0.heap.size ≤ gb171)); have n6_ := Aside0.mk ((by rw [hg]; exact Nat.ne_of_lt (IsS51.lt (show IsS51 w0 _ g s0_0 s0_1 from by repeat (first | (with_reducible first | exact HI0.out | apply IsS51.alloc | apply IsS51.drewN | apply IsS51.drew | apply IsS51.set_1) | exact HI0.out))) : g ≠ gb171)); have n7_ := Aside0.mk ((by rw [hg]; exact Nat.ne_of_gt (IsS51.lt (show IsS51 w0 _ g s0_0 s0_1 from by repeat (first | (with_reducible first | exact HI0.out | apply IsS51.alloc | apply IsS51.drewN | apply IsS51.drew | apply IsS51.set_1) | exact HI0.out))) : gb171 ≠ g)); clear HI0; clear HK; clear HB; have HI0 := n0_; have HK := n1_; have HB := n2_; have BK171 := n3_; have GW171 := n4_; have GE171 := n5_; have NB0_171 := n6_; have NB171_0 := n7_; clear n0_ n1_ n2_ n3_ n4_ n5_ n6_ n7_; clear hb hbox hg) | ((with_reducible refine gate_dst (N := 3) rfl ?_); refine box_event ?hg (N := 3) ?hd (cs := #[.slice none 0 0, .int .i64 0, .slice none 0 0, .slice none 0 0]) (t := 29) ?hr ?_; (case hd => rfl); (case hg => rfl); (case hr => first | (go_simp; done) | (go_simp; rfl)); intro gb172 hg w4 hbox hb; have n0_ := Aside0.mk (IsS51.below (by repeat (first | (with_reducible first | exact HI0.out | apply IsS51.alloc | apply IsS51.drewN | apply IsS51.drew | apply IsS51.set_1 | refine IsS51.far ?_ NB0_171.out _) | exact HI0.out)) hb); have n1_ := Aside0.mk (blk_below (g := gb171) (o := .cells #[.slice none 0 0, .int .i64 0, .slice none 0 0, .slice none 0 0] 29 (0, 0)) (by (with_reducible repeat (first | refine blk_drewN ?_ _ | refine blk_drew ?_ | refine blk_alloc ?_ _)); exact BK171.out) hb); have n2_ := Aside0.mk (KeepBut.trans (by repeat (first | (with_reducible first | exact HK.out | apply KeepBut.set_ | apply keep_drewN | apply keep_drew | apply keep_alloc | refine keep_far ?_ GW171.out _) | exact HK.out)) (KeepBut.of_below hb g none) (.inl rfl)); have n3_ := Aside0.mk (below_step (by repeat (first | (with_reducible first | exact HB.out | apply below_alloc | apply pw_below_drewN | apply below_drew1 | refine below_set ?_ (IsS51.ge HI0.out) | refine below_set ?_ GE171.out) | exact HB.out)) hb); have n4_ := Aside0.mk (hbox); have n5_ := Aside0.mk ((by rw [hg]; exact (keep_size (w := w) (g := g) (row := none) (by repeat (first | (with_reducible first | exact HK.out | apply KeepBut.set_ | apply keep_drewN | apply keep_drew | apply keep_alloc | refine keep_far ?_ GW171.out _) | exact HK.out))) : w.heap.size ≤ gb172)); have n6_ := Aside0.mk ((Nat.le_trans HW0.out (by rw [hg]; exact (keep_size (w := w) (g := g) (row := none) (by repeat (first | (with_reducible first | exact HK.out | apply KeepBut.set_ | apply keep_drewN | apply keep_drew | apply keep_alloc | refine keep_far ?_ GW171.out _) | exact HK.out))) : w.heap.size ≤ gb172) : w0.heap.size ≤ gb172)); have n7_ := Aside0.mk ((by rw [hg]; exact Nat.ne_of_lt (blk_lt (g := gb171) (o := .cells #[.slice none 0 0, .int .i64 0, .slice none 0 0, .slice none 0 0] 29 (0, 0)) (by (with_reducible repeat (first | refine blk_drewN ?_ _ | refine blk_drew ?_ | refine blk_alloc ?_ _)); exact BK171.out)) : gb171 ≠ gb172)); have n8_ := Aside0.mk ((by rw [hg]; exact Nat.ne_of_gt (blk_lt (g := gb171) (o := .cells #[.slice none 0 0, .int .i64 0, .slice none 0 0, .slice none 0 0] 29 (0, 0)) (by (with_reducible repeat (first | refine blk_drewN ?_ _ | refine blk_drew ?_ | refine blk_alloc ?_ _)); exact BK171.out)) : gb172 ≠ gb171)); have n9_ := Aside0.mk ((by rw [hg]; exact Nat.ne_of_lt (IsS51.lt (show IsS51 w0 _ g s0_0 s0_1 from by repeat (first | (with_reducible first | exact HI0.out | apply IsS51.alloc | apply IsS51.drewN | apply IsS51.drew | apply IsS51.set_1 | refine IsS51.far ?_ NB0_171.out _) | exact HI0.out))) : g ≠ gb172)); have n10_ := Aside0.mk ((by rw [hg]; exact Nat.ne_of_gt (IsS51.lt (show IsS51 w0 _ g s0_0 s0_1 from by repeat (first | (with_reducible first | exact HI0.out | apply IsS51.alloc | apply IsS51.drewN | apply IsS51.drew | apply IsS51.set_1 | refine IsS51.far ?_ NB0_171.out _) | exact HI0.out))) : gb172 ≠ g)); clear HI0; clear BK171; clear HK; clear HB; have HI0 := n0_; have BK171 := n1_; have HK := n2_; have HB := n3_; have BK172 := n4_; have GW172 := n5_; have GE172 := n6_; have NB171_172 := n7_; have NB172_171 := n8_; have NB0_172 := n9_; have NB172_0 := n10_; clear n0_ n1_ n2_ n3_ n4_ n5_ n6_ n7_ n8_ n9_ n10_; clear hb hbox hg) | ((with_reducible refine gate_callee (f := 30) rfl ?_); refine goesL_ (some 7) rfl rfl Try.func30 (by kernel_rfl) rfl #[.pointer (some ⟨g, 0, none⟩), .int .i64 12] rfl (by (try simp only [List.map_toArray, List.map_cons, List.map_nil]); first | done | rfl | (simp only [List.length_drop, List.length_take]; rfl)) ?_; (with_reducible refine (code_reader_many.calls k g s0_0 s0_1 12 t173 t174 w0 _ ?side1 ?side2 A2.out).mono ?_); (case side1 => repeat (first | (with_reducible first | exact HI0.out | apply IsS51.alloc | apply IsS51.drewN | apply IsS51.drew | apply IsS51.set_1 | refine IsS51.far ?_ NB0_171.out _ | refine IsS51.far ?_ NB0_172.out _) | exact HI0.out)); (case side2 => repeat (first | (with_reducible first | exact HB.out | apply below_alloc | apply pw_below_drewN | apply below_drew1 | refine below_set ?_ (IsS51.ge HI0.out) | refine below_set ?_ GE171.out | refine below_set ?_ GE172.out) | exact HB.out)); rintro e w5 ⟨rfl, hi, hb, hk⟩; refine ⟨_, rfl, ?_⟩; have n0_ := Aside0.mk (KeepBut.blk hk (g' := gb171) (o := .cells #[.slice none 0 0, .int .i64 0, .slice none 0 0, .slice none 0 0] 29 (0, 0)) (by (with_reducible repeat (first | refine blk_drewN ?_ _ | refine blk_drew ?_ | refine blk_alloc ?_ _)); exact BK171.out) NB171_0.out (by simp)); have n1_ := Aside0.mk (KeepBut.blk hk (g' := gb172) (o := .cells #[.slice none 0 0, .int .i64 0, .slice none 0 0, .slice none 0 0] 29 (0, 0)) (by (with_reducible repeat (first | refine blk_drewN ?_ _ | refine blk_drew ?_ | refine blk_alloc ?_ _)); exact BK172.out) NB172_0.out (by simp)); have n2_ := Aside0.mk (KeepBut.trans (by repeat (first | (with_reducible first | exact HK.out | apply KeepBut.set_ | apply keep_drewN | apply keep_drew | apply keep_alloc | refine keep_far ?_ GW171.out _ | refine keep_far ?_ GW172.out _) | exact HK.out)) hk (.inl rfl)); have n3_ := Aside0.mk (hb); have n4_ := Aside0.mk (hi); clear BK171; clear BK172; clear HK; clear HB; clear HI0; have BK171 := n0_; have BK172 := n1_; have HK := n2_; have HB := n3_; have HI0 := n4_; clear n0_ n1_ n2_ n3_ n4_; (try clear hb); (try clear hb2); (try clear hk); (try clear hi)))
  go_loopg [8] k (fun kq v8 w' => ∃ (x8_1 : Int) (x1001_1 : RSt) (x173000_1 : List (S24)) (u173000 : Value), v8 = .int .i64 x8_1 ∧ Aside0 (code_reader_session.l0 kq t173 x8_1 s0_0 x1001_1 x173000_1 0 = some (r1, r2, r3, r4, r5)) ∧ Aside0 (kq ≤ k) ∧ Aside0 (Kd.R k24 24 w' w.heap.size (fun _ => True) u173000 x173000_1) ∧ Aside0 (w'.heap[gb171]? = some (.cells #[(.slice none 0 0), .int .i64 0, (.slice none 0 0), (.slice none 0 0)] 29 (0, 0))) ∧ Aside0 (w'.heap[gb172]? = some (.cells #[u173000, .int .i64 0, (.slice none 0 0), (.slice none 0 0)] 29 (0, 0))) ∧ Aside0 (IsS51 w0 w' g s0_0 x1001_1) ∧ Aside0 (KeepBut w w' g none) ∧ Aside0 (Below w0.heap.size w0 w'))
  case atStart => exact ⟨(0), (t174), (([] : List (S24))), (.slice none 0 0), (by first | rfl | (simp; done) | (simp [*]; done)), H', ⟨Nat.le_refl _⟩, ⟨by first | exact Kd.R_nil _ _ _ _ _ | exact Kd.N_nil _ _ _ _ _ | exact Kd.V_nil _ _ _ _ _ | exact Kd.Q_nil _ _ _ _ _ | exact Kd.S_nil _ _ _ _ _⟩, ⟨by (with_reducible repeat (first | refine blk_drewN ?_ _ | refine blk_drew ?_ | refine blk_alloc ?_ _)); exact BK171.out⟩, ⟨by (with_reducible repeat (first | refine blk_drewN ?_ _ | refine blk_drew ?_ | refine blk_alloc ?_ _)); exact BK172.out⟩, ⟨by repeat (first | (with_reducible first | exact HI0.out | apply IsS51.alloc | apply IsS51.drewN | apply IsS51.drew | apply IsS51.set_1 | refine IsS51.far ?_ NB0_171.out _ | refine IsS51.far ?_ NB0_172.out _) | exact HI0.out)⟩, ⟨by repeat (first | (with_reducible first | exact HK.out | apply KeepBut.set_ | apply keep_drewN | apply keep_drew | apply keep_alloc | refine keep_far ?_ GW171.out _ | refine keep_far ?_ GW172.out _) | exact HK.out)⟩, ⟨by repeat (first | (with_reducible first | exact HB.out | apply below_alloc | apply pw_below_drewN | apply below_drew1 | refine below_set ?_ (IsS51.ge HI0.out) | refine below_set ?_ GE171.out | refine below_set ?_ GE172.out) | exact HB.out)⟩⟩
  case round =>
    clear H'
    try clear c2
    try clear p2
    try clear c3
    obtain ⟨x8_1, x1001_1, x173000_1, u173000, rfl, HA, HK1, HO_173000, BK171, BK172, HI0, HK, HB⟩ := hrel
    cases gk with
    | zero => exact absurd HA.out (by simp [code_reader_session.l0])
    | succ k1 =>
      have H := HA.out
      clear HA
      simp only [code_reader_session.l0] at H
      by_cases c6 : x8_1 < t173
      · rw [if_pos c6] at H
        have c6b0 : decide (x8_1 < t173) = true := decide_eq_true c6
        clear c6
        replace H := Option.bind_eq_some_iff.mp H
        obtain ⟨⟨t175, t176⟩, A70, H⟩ := H
        replace H : ((reader_take.f s0_0 t176 t175).bind fun bt177 => ((code_reader_wide.f k1 s0_0 bt177.2 8).bind fun bt181 => (if x173000_1.length < 5864062014805 then (code_reader_session.l0 k1 t173 (wrap64 (x8_1 + 1)) s0_0 bt181.2 (x173000_1 ++ [(⟨strOfNums bt177.1, bt181.1⟩ : S24)]) 0) else (none)))) = some (r1, r2, r3, r4, r5) := H
        have A7 := Aside0.mk A70
        clear A70
        replace H := Option.bind_eq_some_iff.mp H
        obtain ⟨⟨t177, t180⟩, A80, H⟩ := H
        replace H : ((code_reader_wide.f k1 s0_0 t180 8).bind fun bt181 => (if x173000_1.length < 5864062014805 then (code_reader_session.l0 k1 t173 (wrap64 (x8_1 + 1)) s0_0 bt181.2 (x173000_1 ++ [(⟨strOfNums t177, bt181.1⟩ : S24)]) 0) else (none))) = some (r1, r2, r3, r4, r5) := H
        have A8 := Aside0.mk A80
        clear A80
        replace H := Option.bind_eq_some_iff.mp H
        obtain ⟨⟨t181, t182⟩, A90, H⟩ := H
        replace H : (if x173000_1.length < 5864062014805 then (code_reader_session.l0 k1 t173 (wrap64 (x8_1 + 1)) s0_0 t182 (x173000_1 ++ [(⟨strOfNums t177, t181⟩ : S24)]) 0) else (none)) = some (r1, r2, r3, r4, r5) := H
        have A9 := Aside0.mk A90
        clear A90
        by_cases c10 : x173000_1.length < 5864062014805
        · rw [if_pos c10] at H
          have LMc10 := Aside0.mk c10
          clear c10
          obtain ⟨y183, hy183⟩ : ∃ y_ : List (S24), y_ = (x173000_1 ++ [(⟨strOfNums t177, t181⟩ : S24)]) := ⟨_, rfl⟩
          replace H : (code_reader_session.l0 k1 t173 (wrap64 (x8_1 + 1)) s0_0 t182 y183 0) = some (r1, r2, r3, r4, r5) := by first | (rw [hy183]; with_reducible exact H) | (have H2_ := (Option.bind_some _ _).symm.trans H; rw [hy183]; with_reducible exact H2_) | (have H2_ := (Option.bind_some _ _).symm.trans H; with_reducible exact H2_) | with_reducible exact H | (rw [hy183]; exact H) | exact H
          have Ny183 := Aside0.mk hy183
          clear hy183
          have H' := Aside0.mk H
          clear H
          try go_wp2_with (first | ((with_reducible refine gate_callee (f := 30) rfl ?_); refine goesL_ (some 12) rfl rfl Try.func30 (by kernel_rfl) rfl #[.pointer (some ⟨g, 0, none⟩), .int .i64 1000] rfl (by (try simp only [List.map_toArray, List.map_cons, List.map_nil]); first | done | rfl | (simp only [List.length_drop, List.length_take]; rfl)) ?_; (with_reducible refine (code_reader_many.calls k1 g s0_0 x1001_1 1000 t175 t176 w0 _ ?side1 ?side2 A7.out).mono ?_); (case side1 => repeat (first | (with_reducible first | exact HI0.out | apply IsS51.alloc | apply IsS51.drewN | apply IsS51.drew | apply IsS51.set_1 | refine IsS51.far ?_ NB0_171.out _ | refine IsS51.far ?_ NB0_172.out _) | exact HI0.out)); (case side2 => repeat (first | (with_reducible first | exact HB.out | apply below_alloc | apply pw_below_drewN | apply below_drew1 | refine below_set ?_ (IsS51.ge HI0.out) | refine below_set ?_ GE171.out | refine below_set ?_ GE172.out) | exact HB.out)); rintro e w11 ⟨rfl, hi, hb, hk⟩; refine ⟨_, rfl, ?_⟩; have n0_ := Aside0.mk (Kd.R_mono (Kd.R_keep (IsS51.apart (show IsS51 w0 _ g s0_0 x1001_1 from by repeat (first | (with_reducible first | exact HI0.out | apply IsS51.alloc | apply IsS51.drewN | apply IsS51.drew | apply IsS51.set_1 | refine IsS51.far ?_ NB0_171.out _ | refine IsS51.far ?_ NB0_172.out _) | exact HI0.out)) (by (with_reducible repeat (first | apply Kd.R_alloc | apply Kd.R_drewN | apply Kd.R_drew)); exact HO_173000.out) (by decide)) hk (fun _ h => h.2)) (fun _ h => h.1)); have n1_ := Aside0.mk (KeepBut.blk hk (g' := gb171) (o := .cells #[.slice none 0 0, .int .i64 0, .slice none 0 0, .slice none 0 0] 29 (0, 0)) (by (with_reducible repeat (first | refine blk_drewN ?_ _ | refine blk_drew ?_ | refine blk_alloc ?_ _)); exact BK171.out) NB171_0.out (by simp)); have n2_ := Aside0.mk (KeepBut.blk hk (g' := gb172) (o := .cells #[u173000, .int .i64 0, .slice none 0 0, .slice none 0 0] 29 (0, 0)) (by (with_reducible repeat (first | refine blk_drewN ?_ _ | refine blk_drew ?_ | refine blk_alloc ?_ _)); exact BK172.out) NB172_0.out (by simp)); have n3_ := Aside0.mk (KeepBut.trans (by repeat (first | (with_reducible first | exact HK.out | apply KeepBut.set_ | apply keep_drewN | apply keep_drew | apply keep_alloc | refine keep_far ?_ GW171.out _ | refine keep_far ?_ GW172.out _) | exact HK.out)) hk (.inl rfl)); have n4_ := Aside0.mk (hb); have n5_ := Aside0.mk (hi); clear HO_173000; clear BK171; clear BK172; clear HK; clear HB; clear HI0; have HO_173000 := n0_; have BK171 := n1_; have BK172 := n2_; have HK := n3_; have HB := n4_; have HI0 := n5_; clear n0_ n1_ n2_ n3_ n4_ n5_; (try clear hb); (try clear hb2); (try clear hk); (try clear hi)) | ((with_reducible refine gate_callee (f := 20) rfl ?_); refine goesL_ (some 13) rfl rfl Try.func20 (by kernel_rfl) rfl #[.pointer (some ⟨g, 0, none⟩), .int .i64 t175] rfl (by (try simp only [List.map_toArray, List.map_cons, List.map_nil]); first | done | rfl | (simp only [List.length_drop, List.length_take]; rfl)) ?_; (with_reducible refine (reader_take.calls g s0_0 t176 t175 t177 t180 w0 _ ?side1 ?side2 A8.out).mono ?_); (case side1 => repeat (first | (with_reducible first | exact HI0.out | apply IsS51.alloc | apply IsS51.drewN | apply IsS51.drew | apply IsS51.set_1 | refine IsS51.far ?_ NB0_171.out _ | refine IsS51.far ?_ NB0_172.out _) | exact HI0.out)); (case side2 => repeat (first | (with_reducible first | exact HB.out | apply below_alloc | apply pw_below_drewN | apply below_drew1 | refine below_set ?_ (IsS51.ge HI0.out) | refine below_set ?_ GE171.out | refine below_set ?_ GE172.out) | exact HB.out)); rintro e w12 ⟨v178, rfl, ho0, hi, hb, hk⟩; refine ⟨_, rfl, ?_⟩; have n0_ := Aside0.mk (Kd.R_mono (Kd.R_keep (IsS51.apart (show IsS51 w0 _ g s0_0 t176 from by repeat (first | (with_reducible first | exact HI0.out | apply IsS51.alloc | apply IsS51.drewN | apply IsS51.drew | apply IsS51.set_1 | refine IsS51.far ?_ NB0_171.out _ | refine IsS51.far ?_ NB0_172.out _) | exact HI0.out)) (by (with_reducible repeat (first | apply Kd.R_alloc | apply Kd.R_drewN | apply Kd.R_drew)); exact HO_173000.out) (by decide)) hk (fun _ h => h.2)) (fun _ h => h.1)); have n1_ := Aside0.mk (KeepBut.blk hk (g' := gb171) (o := .cells #[.slice none 0 0, .int .i64 0, .slice none 0 0, .slice none 0 0] 29 (0, 0)) (by (with_reducible repeat (first | refine blk_drewN ?_ _ | refine blk_drew ?_ | refine blk_alloc ?_ _)); exact BK171.out) NB171_0.out (by simp)); have n2_ := Aside0.mk (KeepBut.blk hk (g' := gb172) (o := .cells #[u173000, .int .i64 0, .slice none 0 0, .slice none 0 0] 29 (0, 0)) (by (with_reducible repeat (first | refine blk_drewN ?_ _ | refine blk_drew ?_ | refine blk_alloc ?_ _)); exact BK172.out) NB172_0.out (by simp)); have n3_ := Aside0.mk (ho0); have n4_ := Aside0.mk (KeepBut.trans (by repeat (first | (with_reducible first | exact HK.out | apply KeepBut.set_ | apply keep_drewN | apply keep_drew | apply keep_alloc | refine keep_far ?_ GW171.out _ | refine keep_far ?_ GW172.out _) | exact HK.out)) hk (.inl rfl)); have n5_ := Aside0.mk (hb); have n6_ := Aside0.mk (hi); clear HO_173000; clear BK171; clear BK172; clear HK; clear HB; clear HI0; have HO_173000 := n0_; have BK171 := n1_; have BK172 := n2_; have HO179 := n3_; have HK := n4_; have HB := n5_; have HI0 := n6_; clear n0_ n1_ n2_ n3_ n4_ n5_ n6_; (try clear hb); (try clear hb2); (try clear hk); (try clear hi); (try clear ho0); have hcv13 := VR.string HO179.out))
          have n0_ := Aside0.mk (Kd.R_drew HO_173000.out)
          have n1_ := Aside0.mk True.intro
          have n2_ := Aside0.mk (blk_drew BK171.out)
          have n3_ := Aside0.mk (blk_drew BK172.out)
          have n4_ := Aside0.mk (IsS51.drew HI0.out)
          have n5_ := Aside0.mk (keep_drew HK.out)
          have n6_ := Aside0.mk (below_drew1 HB.out)
          clear HO_173000
          clear HO179
          clear BK171
          clear BK172
          clear HI0
          clear HK
          clear HB
          have HO_173000 := n0_
          have HO179 := n1_
          have BK171 := n2_
          have BK172 := n3_
          have HI0 := n4_
          have HK := n5_
          have HB := n6_
          clear n0_ n1_ n2_ n3_ n4_ n5_ n6_
          refine start_ (n := 10) (S := fun w' => w'.cell? ⟨gb172, 0, none⟩ = some (u173000) ∧ w'.cell? ⟨gb172, 1, none⟩ = some (.int .i64 0) ∧ w'.cell? ⟨gb172, 2, none⟩ = some (.slice none 0 0) ∧ w'.cell? ⟨gb172, 3, none⟩ = some (.slice none 0 0)) (ds := [9]) #[false, false, false, false, false, false, false, false, false, false] (by kernel_rfl) rfl rfl ⟨(blk_cell BK172.out 0).trans rfl, (blk_cell BK172.out 1).trans rfl, (blk_cell BK172.out 2).trans rfl, (blk_cell BK172.out 3).trans rfl⟩ (fun hHeld => ?_); refine with_tabW code_reader_session.tab5 code_reader_session.bits5 (fun HT_ HW_ => ?_)
          generalize w12.drew = w14 at HO_173000 HO179 BK171 BK172 HI0 HK HB hHeld ⊢
          refine pure_ (i := 0) (N := some 15) (v := ?_) (a' := ?_) #[true, false, false, false, false, false, false, false, false, false] rfl rfl (any_of HT_.out (by kernel_rfl)) (fun _ _ _ h => h) (Or.inl ⟨by rfl, ?_⟩) ?_ ?_
          rotate_left
          · intro w'
            go_simp
            with_reducible rfl
          rotate_left
          · simp only [Act.put, List.setIfInBounds_toArray, List.set_cons_zero, List.set_cons_succ, i64_w, i32_w]
            rfl
          refine pure_ (i := 2) (N := some 17) (v := ?_) (a' := ?_) #[true, false, true, false, false, false, false, false, false, false] rfl rfl (any_of HT_.out (by kernel_rfl)) (fun _ _ _ h => h) (Or.inl ⟨by rfl, ?_⟩) ?_ ?_
          rotate_left
          · intro w'
            go_simp
            with_reducible rfl
          rotate_left
          · simp only [Act.put, List.setIfInBounds_toArray, List.set_cons_zero, List.set_cons_succ, i64_w, i32_w]
            rfl
          refine pure_ (i := 3) (N := some 18) (v := ?_) (a' := ?_) #[true, false, true, true, false, false, false, false, false, false] rfl rfl (any_of HT_.out (by kernel_rfl)) (fun _ _ _ h => h) (Or.inl ⟨by rfl, ?_⟩) ?_ ?_
          rotate_left
          · intro w'
            go_simp
            with_reducible rfl
          rotate_left
          · simp only [Act.put, List.setIfInBounds_toArray, List.set_cons_zero, List.set_cons_succ, i64_w, i32_w]
            rfl
          refine take_ (i := 1) (N := some 16) (v := ?_) (a' := ?_) #[true, true, true, true, false, false, false, false, false, false] rfl rfl (take_ofW HT_.out HW_.out (by kernel_rfl)) (fun _ _ _ h => h) (Or.inl ⟨by rfl, ?_⟩) hHeld ?_ ?_
          rotate_left
          · rintro w' ⟨s0, s1, s2, s3⟩
            go_simp
            with_reducible rfl
          rotate_left
          · simp only [Act.put, List.setIfInBounds_toArray, List.set_cons_zero, List.set_cons_succ, i64_w, i32_w]
            rfl
          refine one_ (i := 4) (N := some 19) #[true, true, true, true, true, false, false, false, false, false] rfl rfl (one_of HT_.out (by kernel_rfl)) (by decide) (fun K hK => ?_)
          refine goes_ Try.func31 (by kernel_rfl) rfl #[.pointer (some ⟨g, 0, none⟩), .int .i64 8] (by rfl) rfl rfl (by (try simp only [List.map_toArray, List.map_cons, List.map_nil]); first | done | rfl | (simp only [List.length_drop, List.length_take]; rfl)) ?_
          with_reducible refine (code_reader_wide.calls k1 g s0_0 t180 8 t181 t182 w0 _ ?side1 ?side2 A9.out).mono ?_
          (case side1 => repeat (first | (with_reducible first | exact HI0.out | apply IsS51.alloc | apply IsS51.drewN | apply IsS51.drew | apply IsS51.set_1 | refine IsS51.far ?_ NB0_171.out _ | refine IsS51.far ?_ NB0_172.out _) | exact HI0.out))
          (case side2 => repeat (first | (with_reducible first | exact HB.out | apply below_alloc | apply pw_below_drewN | apply below_drew1 | refine below_set ?_ (IsS51.ge HI0.out) | refine below_set ?_ GE171.out | refine below_set ?_ GE172.out) | exact HB.out))
          rintro e w15 ⟨rfl, hi, hb, hk⟩
          refine ⟨_, rfl, ?_⟩
          have n0_ := Aside0.mk (Kd.R_mono (Kd.R_keep (IsS51.apart (show IsS51 w0 _ g s0_0 t180 from by repeat (first | (with_reducible first | exact HI0.out | apply IsS51.alloc | apply IsS51.drewN | apply IsS51.drew | apply IsS51.set_1 | refine IsS51.far ?_ NB0_171.out _ | refine IsS51.far ?_ NB0_172.out _) | exact HI0.out)) (by (with_reducible repeat (first | apply Kd.R_alloc | apply Kd.R_drewN | apply Kd.R_drew)); exact HO_173000.out) (by decide)) hk (fun _ h => h.2)) (fun _ h => h.1))
          have n1_ := Aside0.mk (KeepBut.blk hk (g' := gb171) (o := .cells #[.slice none 0 0, .int .i64 0, .slice none 0 0, .slice none 0 0] 29 (0, 0)) (by (with_reducible repeat (first | refine blk_drewN ?_ _ | refine blk_drew ?_ | refine blk_alloc ?_ _)); exact BK171.out) NB171_0.out (by simp))
          have n2_ := Aside0.mk (KeepBut.blk hk (g' := gb172) (o := .cells #[u173000, .int .i64 0, .slice none 0 0, .slice none 0 0] 29 (0, 0)) (by (with_reducible repeat (first | refine blk_drewN ?_ _ | refine blk_drew ?_ | refine blk_alloc ?_ _)); exact BK172.out) NB172_0.out (by simp))
          have n3_ := Aside0.mk True.intro
          have n4_ := Aside0.mk (KeepBut.trans (by repeat (first | (with_reducible first | exact HK.out | apply KeepBut.set_ | apply keep_drewN | apply keep_drew | apply keep_alloc | refine keep_far ?_ GW171.out _ | refine keep_far ?_ GW172.out _) | exact HK.out)) hk (.inl rfl))
          have n5_ := Aside0.mk (hb)
          have n6_ := Aside0.mk (hi)
          clear HO_173000
          clear BK171
          clear BK172
          clear HO179
          clear HK
          clear HB
          clear HI0
          have HO_173000 := n0_
          have BK171 := n1_
          have BK172 := n2_
          have HO179 := n3_
          have HK := n4_
          have HB := n5_
          have HI0 := n6_
          clear n0_ n1_ n2_ n3_ n4_ n5_ n6_
          (try clear hb)
          (try clear hb2)
          (try clear hk)
          (try clear hi)
          refine hK.out _ _ ⟨(blk_cell BK172.out 0).trans rfl, (blk_cell BK172.out 1).trans rfl, (blk_cell BK172.out 2).trans rfl, (blk_cell BK172.out 3).trans rfl⟩ (fun hHeld => ?_)
          clear hK K
          refine norm_ (a' := ?_) ?_ ?_
          rotate_left
          · show Act.put _ (some 19) _ = _
            simp only [Act.put, List.setIfInBounds_toArray, List.set_cons_zero, List.set_cons_succ, i64_w, i32_w]
            rfl
          refine pure_ (i := 5) (N := some 20) (v := ?_) (a' := ?_) #[true, true, true, true, true, true, false, false, false, false] rfl rfl (any_of HT_.out (by kernel_rfl)) (fun _ _ _ h => h) (Or.inl ⟨by rfl, ?_⟩) ?_ ?_
          rotate_left
          · intro w'
            go_simp
            with_reducible rfl
          rotate_left
          · simp only [Act.put, List.setIfInBounds_toArray, List.set_cons_zero, List.set_cons_succ, i64_w, i32_w]
            rfl
          refine one_ (i := 6) (N := some 21) #[true, true, true, true, true, true, true, false, false, false] rfl rfl (one_of HT_.out (by kernel_rfl)) (by decide) (fun K hK => ?_)
          refine value_ (w1 := ?_) (v := ?_) (by rfl) rfl ?_ ?_
          rotate_left 2
          · go_simp
            constructor
            · rfl
            · rfl
          refine hK.out _ _ ⟨(blk_cell (blk_alloc BK172.out _) 0).trans rfl, (blk_cell (blk_alloc BK172.out _) 1).trans rfl, (blk_cell (blk_alloc BK172.out _) 2).trans rfl, (blk_cell (blk_alloc BK172.out _) 3).trans rfl⟩ (fun hHeld => ?_)
          clear hK K
          refine norm_ (a' := ?_) ?_ ?_
          rotate_left
          · show Act.put _ (some 21) _ = _
            simp only [Act.put, List.setIfInBounds_toArray, List.set_cons_zero, List.set_cons_succ, i64_w, i32_w]
            rfl
          refine one_ (i := 7) (N := some 22) #[true, true, true, true, true, true, true, true, false, false] rfl rfl (one_of HT_.out (by kernel_rfl)) (by decide) (fun K hK => ?_)
          refine Kd.R_append_step k24 w.heap.size (by rfl) (.tmp 16) (.tmp 21) 25 24 (.agg #[(.string ⟨#[]⟩), (.int .u64 0)]) 24 rfl Try.underlying25 info24 rfl (by decide) (by omega) u173000 x173000_1 (⟨strOfNums t177, t181⟩ : S24) [.string (strOfNums t177), .int .u64 t181] (fun _ => True) (fun _ => False) rfl rfl ?aP (fun _ hk => hk.elim) ?aF ?aO (Below.refl _ _) ?aS ?aL ?_
          (case aP => exact k24_mkM _ _ _ (⟨strOfNums t177, t181⟩ : S24))
          (case aF => exact (fun _ _ => trivial))
          (case aO => exact (by (with_reducible repeat (first | apply Kd.R_alloc | apply Kd.R_drewN | apply Kd.R_drew)); exact HO_173000.out))
          (case aS => exact (keep_size (w := w) (g := g) (row := none) (by repeat (first | (with_reducible first | exact HK.out | apply KeepBut.set_ | apply keep_drewN | apply keep_drew | apply keep_alloc | refine keep_far ?_ GW171.out _ | refine keep_far ?_ GW172.out _) | exact HK.out))))
          (case aL => have := LMc10.out; omega)
          intro v184 w16 ho hb hg hat
          rw [← Ny183.out] at ho
          have n0_ := Aside0.mk (blk_grown (g := gb171) (o := .cells #[.slice none 0 0, .int .i64 0, .slice none 0 0, .slice none 0 0] 29 (0, 0)) (by (with_reducible repeat (first | refine blk_drewN ?_ _ | refine blk_drew ?_ | refine blk_alloc ?_ _)); exact BK171.out) hg (Kd.R_ne HO_173000.out BK171.out (by decide)))
          have n1_ := Aside0.mk (blk_grown (g := gb172) (o := .cells #[u173000, .int .i64 0, .slice none 0 0, .slice none 0 0] 29 (0, 0)) (by (with_reducible repeat (first | refine blk_drewN ?_ _ | refine blk_drew ?_ | refine blk_alloc ?_ _)); exact BK172.out) hg (Kd.R_ne HO_173000.out BK172.out (by decide)))
          have n2_ := Aside0.mk (IsS51.grown (by repeat (first | (with_reducible first | exact HI0.out | apply IsS51.alloc | apply IsS51.drewN | apply IsS51.drew | apply IsS51.set_1 | refine IsS51.far ?_ NB0_171.out _ | refine IsS51.far ?_ NB0_172.out _) | exact HI0.out)) hg (IsS51.own_ne HI0.out HO_173000.out (by decide)))
          have n3_ := Aside0.mk True.intro
          have n4_ := Aside0.mk (below_weaken (by repeat (first | (with_reducible first | exact HB.out | apply below_alloc | apply pw_below_drewN | apply below_drew1 | refine below_set ?_ (IsS51.ge HI0.out) | refine below_set ?_ GE171.out | refine below_set ?_ GE172.out) | exact HB.out)) HL.out hb)
          have n5_ := Aside0.mk (KeepBut.trans (by repeat (first | (with_reducible first | exact HK.out | apply KeepBut.set_ | apply keep_drewN | apply keep_drew | apply keep_alloc | refine keep_far ?_ GW171.out _ | refine keep_far ?_ GW172.out _) | exact HK.out)) (KeepBut.of_grown hg g) (Kd.R_base2 HO_173000.out))
          have n6_ := Aside0.mk (ho)
          clear BK171
          clear BK172
          clear HI0
          clear HO179
          clear HB
          clear HK
          clear HO_173000
          have BK171 := n0_
          have BK172 := n1_
          have HI0 := n2_
          have HO179 := n3_
          have HB := n4_
          have HK := n5_
          have HO185 := n6_
          clear n0_ n1_ n2_ n3_ n4_ n5_ n6_
          clear ho hb hg hat
          obtain ⟨Ao17, co17, eo17⟩ := Kd.R_slice HO185.out
          (first | subst eo17 | (injection eo17 with f1_ f2_ f3_; have f4_ := f1_.symm; have f5_ := f3_.symm; clear f1_ f2_ f3_; subst f4_; subst f5_))
          refine hK.out _ _ ⟨(blk_cell BK172.out 0).trans rfl, (blk_cell BK172.out 1).trans rfl, (blk_cell BK172.out 2).trans rfl, (blk_cell BK172.out 3).trans rfl⟩ (fun hHeld => ?_)
          clear hK K
          refine norm_ (a' := ?_) ?_ ?_
          rotate_left
          · show Act.put _ (some 22) _ = _
            simp only [Act.put, List.setIfInBounds_toArray, List.set_cons_zero, List.set_cons_succ, i64_w, i32_w]
            rfl
          refine pure_ (i := 8) (N := some 23) (v := ?_) (a' := ?_) #[true, true, true, true, true, true, true, true, true, false] rfl rfl (any_of HT_.out (by kernel_rfl)) (fun _ _ _ h => h) (Or.inl ⟨by rfl, ?_⟩) ?_ ?_
          rotate_left
          · intro w'
            go_simp
            with_reducible rfl
          rotate_left
          · simp only [Act.put, List.setIfInBounds_toArray, List.set_cons_zero, List.set_cons_succ, i64_w, i32_w]
            rfl
          refine last_ (i := 9) (N := none) #[true, true, true, true, true, true, true, true, true, true] rfl rfl (one_of HT_.out (by kernel_rfl)) (by decide) (fun K hK => ?_)
          have hs18 : w16.cell? ⟨gb172, 0, none⟩ = some (u173000) := (blk_cell BK172.out 0).trans rfl
          have hfs18 := blk_frozen BK172.out 0
          have hns18_0 := NB171_172.out
          have hms18_0 := NB172_171.out
          refine skip_ (w1 := ?_) (by rfl) rfl ?_ ?_
          rotate_left
          · go_simp
            rfl
          refine hK.out _ _ ?_
          clear hK K
          refine done_ (done_of HT_.out (by kernel_rfl)) ?_
          try go_wp2
          go_roundg k1
          case measure => have := HK1.out; omega
          case rel => exact ⟨(wrap64 (x8_1 + 1)), (t182), (y183), (.slice Ao17 y183.length co17), (by first | rfl | (simp; done) | (simp [*]; done)), H', ⟨by have := HK1.out; omega⟩, ⟨by (with_reducible repeat (first | apply Kd.R_alloc | apply Kd.R_drewN | apply Kd.R_drew)); exact Kd.R_mono (Kd.R_far (p := ⟨gb172, 0, none⟩) (Kd.R_types HO185.out BK172.out (by decide)) (fun _ hk => hk.2) (.slice Ao17 y183.length co17)) (fun _ hk => trivial)⟩, ⟨by (with_reducible repeat (first | refine blk_drewN ?_ _ | refine blk_drew ?_ | refine blk_alloc ?_ _)); refine blk_far ?_ NB171_172.out _; (with_reducible repeat (first | refine blk_drewN ?_ _ | refine blk_drew ?_ | refine blk_alloc ?_ _)); exact BK171.out⟩, ⟨by (with_reducible repeat (first | refine blk_drewN ?_ _ | refine blk_drew ?_ | refine blk_alloc ?_ _)); refine blk_put (cs := #[u173000, .int .i64 0, .slice none 0 0, .slice none 0 0]) ?_ 0 _ rfl; (with_reducible repeat (first | refine blk_drewN ?_ _ | refine blk_drew ?_ | refine blk_alloc ?_ _)); exact BK172.out⟩, ⟨by repeat (first | (with_reducible first | exact HI0.out | apply IsS51.alloc | apply IsS51.drewN | apply IsS51.drew | apply IsS51.set_1 | refine IsS51.far ?_ NB0_171.out _ | refine IsS51.far ?_ NB0_172.out _) | exact HI0.out)⟩, ⟨by repeat (first | (with_reducible first | exact HK.out | apply KeepBut.set_ | apply keep_drewN | apply keep_drew | apply keep_alloc | refine keep_far ?_ GW171.out _ | refine keep_far ?_ GW172.out _) | exact HK.out)⟩, ⟨by repeat (first | (with_reducible first | exact HB.out | apply below_alloc | apply pw_below_drewN | apply below_drew1 | refine below_set ?_ (IsS51.ge HI0.out) | refine below_set ?_ GE171.out | refine below_set ?_ GE172.out) | exact HB.out)⟩⟩
        · rw [if_neg c10] at H
          exact absurd H (by simp)
      · rw [if_neg c6] at H
        have c6b0 : decide (x8_1 < t173) = false := decide_eq_false c6
        clear c6
        replace H := Option.bind_eq_some_iff.mp H
        obtain ⟨⟨t186, t187⟩, A190, H⟩ := H
        replace H : ((code_reader_many.f k1 s0_0 t187 8).bind fun bt188 => (code_reader_session.l1 k1 bt188.1 0 s0_0 bt188.2 x173000_1 t186 ([] : List Bool))) = some (r1, r2, r3, r4, r5) := H
        have A19 := Aside0.mk A190
        clear A190
        replace H := Option.bind_eq_some_iff.mp H
        obtain ⟨⟨t188, t189⟩, A200, H⟩ := H
        replace H : (code_reader_session.l1 k1 t188 0 s0_0 t189 x173000_1 t186 ([] : List Bool)) = some (r1, r2, r3, r4, r5) := H
        have A20 := Aside0.mk A200
        clear A200
        have H' := Aside0.mk H
        clear H
        go_wp2_with (first | ((with_reducible refine gate_callee (f := 32) rfl ?_); refine goesL_ (some 26) rfl rfl Try.func32 (by kernel_rfl) rfl #[.pointer (some ⟨g, 0, none⟩)] rfl (by (try simp only [List.map_toArray, List.map_cons, List.map_nil]); first | done | rfl | (simp only [List.length_drop, List.length_take]; rfl)) ?_; (with_reducible refine (code_reader_num.calls k1 g s0_0 x1001_1 t186 t187 w0 _ ?side1 ?side2 A19.out).mono ?_); (case side1 => repeat (first | (with_reducible first | exact HI0.out | apply IsS51.alloc | apply IsS51.drewN | apply IsS51.drew | apply IsS51.set_1 | refine IsS51.far ?_ NB0_171.out _ | refine IsS51.far ?_ NB0_172.out _) | exact HI0.out)); (case side2 => repeat (first | (with_reducible first | exact HB.out | apply below_alloc | apply pw_below_drewN | apply below_drew1 | refine below_set ?_ (IsS51.ge HI0.out) | refine below_set ?_ GE171.out | refine below_set ?_ GE172.out) | exact HB.out)); rintro e w21 ⟨rfl, hi, hb, hk⟩; refine ⟨_, rfl, ?_⟩; have n0_ := Aside0.mk (Kd.R_mono (Kd.R_keep (IsS51.apart (show IsS51 w0 _ g s0_0 x1001_1 from by repeat (first | (with_reducible first | exact HI0.out | apply IsS51.alloc | apply IsS51.drewN | apply IsS51.drew | apply IsS51.set_1 | refine IsS51.far ?_ NB0_171.out _ | refine IsS51.far ?_ NB0_172.out _) | exact HI0.out)) (by (with_reducible repeat (first | apply Kd.R_alloc | apply Kd.R_drewN | apply Kd.R_drew)); exact HO_173000.out) (by decide)) hk (fun _ h => h.2)) (fun _ h => h.1)); have n1_ := Aside0.mk (KeepBut.blk hk (g' := gb171) (o := .cells #[.slice none 0 0, .int .i64 0, .slice none 0 0, .slice none 0 0] 29 (0, 0)) (by (with_reducible repeat (first | refine blk_drewN ?_ _ | refine blk_drew ?_ | refine blk_alloc ?_ _)); exact BK171.out) NB171_0.out (by simp)); have n2_ := Aside0.mk (KeepBut.blk hk (g' := gb172) (o := .cells #[u173000, .int .i64 0, .slice none 0 0, .slice none 0 0] 29 (0, 0)) (by (with_reducible repeat (first | refine blk_drewN ?_ _ | refine blk_drew ?_ | refine blk_alloc ?_ _)); exact BK172.out) NB172_0.out (by simp)); have n3_ := Aside0.mk (KeepBut.trans (by repeat (first | (with_reducible first | exact HK.out | apply KeepBut.set_ | apply keep_drewN | apply keep_drew | apply keep_alloc | refine keep_far ?_ GW171.out _ | refine keep_far ?_ GW172.out _) | exact HK.out)) hk (.inl rfl)); have n4_ := Aside0.mk (hb); have n5_ := Aside0.mk (hi); clear HO_173000; clear BK171; clear BK172; clear HK; clear HB; clear HI0; have HO_173000 := n0_; have BK171 := n1_; have BK172 := n2_; have HK := n3_; have HB := n4_; have HI0 := n5_; clear n0_ n1_ n2_ n3_ n4_ n5_; (try clear hb); (try clear hb2); (try clear hk); (try clear hi); have hnb22 := NB172_171.out; have hnc22 := NB171_172.out; have hnb23 := NB172_0.out; have hnc23 := NB0_172.out; have hcz24_0 : w21.cell? ⟨gb172, 0, none⟩ = some (u173000) := (blk_cell BK172.out 0).trans rfl; have hcz24_1 : w21.cell? ⟨gb172, 1, none⟩ = some (.int .i64 0) := (blk_cell BK172.out 1).trans rfl; have hcz24_2 : w21.cell? ⟨gb172, 2, none⟩ = some (.slice none 0 0) := (blk_cell BK172.out 2).trans rfl; have hcz24_3 : w21.cell? ⟨gb172, 3, none⟩ = some (.slice none 0 0) := (blk_cell BK172.out 3).trans rfl; have hfz24_0 := blk_frozen BK172.out 0; have hfz24_1 := blk_frozen BK172.out 1; have hfz24_2 := blk_frozen BK172.out 2; have hfz24_3 := blk_frozen BK172.out 3) | ((with_reducible refine gate_callee (f := 30) rfl ?_); refine goesL_ (some 29) rfl rfl Try.func30 (by kernel_rfl) rfl #[.pointer (some ⟨g, 0, none⟩), .int .i64 8] rfl (by (try simp only [List.map_toArray, List.map_cons, List.map_nil]); first | done | rfl | (simp only [List.length_drop, List.length_take]; rfl)) ?_; (with_reducible refine (code_reader_many.calls k1 g s0_0 t187 8 t188 t189 w0 _ ?side1 ?side2 A20.out).mono ?_); (case side1 => repeat (first | (with_reducible first | exact HI0.out | apply IsS51.alloc | apply IsS51.drewN | apply IsS51.drew | apply IsS51.set_1 | refine IsS51.far ?_ NB0_171.out _ | refine IsS51.far ?_ NB0_172.out _) | exact HI0.out)); (case side2 => repeat (first | (with_reducible first | exact HB.out | apply below_alloc | apply pw_below_drewN | apply below_drew1 | refine below_set ?_ (IsS51.ge HI0.out) | refine below_set ?_ GE171.out | refine below_set ?_ GE172.out) | exact HB.out)); rintro e w25 ⟨rfl, hi, hb, hk⟩; refine ⟨_, rfl, ?_⟩; have n0_ := Aside0.mk (Kd.R_mono (Kd.R_keep (IsS51.apart (show IsS51 w0 _ g s0_0 t187 from by repeat (first | (with_reducible first | exact HI0.out | apply IsS51.alloc | apply IsS51.drewN | apply IsS51.drew | apply IsS51.set_1 | refine IsS51.far ?_ NB0_171.out _ | refine IsS51.far ?_ NB0_172.out _) | exact HI0.out)) (by (with_reducible repeat (first | apply Kd.R_alloc | apply Kd.R_drewN | apply Kd.R_drew)); exact (Kd.R_mono (Kd.R_far (p := ⟨gb172, 1, none⟩) (Kd.R_types HO_173000.out BK172.out (by decide)) (fun _ hk => hk.2) (.int .i64 t186)) (fun _ h_ => h_.1))) (by decide)) hk (fun _ h => h.2)) (fun _ h => h.1)); have n1_ := Aside0.mk (KeepBut.blk hk (g' := gb171) (o := .cells #[.slice none 0 0, .int .i64 0, .slice none 0 0, .slice none 0 0] 29 (0, 0)) (by (with_reducible repeat (first | refine blk_drewN ?_ _ | refine blk_drew ?_ | refine blk_alloc ?_ _)); refine blk_far ?_ NB171_172.out _; (with_reducible repeat (first | refine blk_drewN ?_ _ | refine blk_drew ?_ | refine blk_alloc ?_ _)); exact BK171.out) NB171_0.out (by simp)); have n2_ := Aside0.mk (KeepBut.blk hk (g' := gb172) (o := .cells #[u173000, .int .i64 t186, .slice none 0 0, .slice none 0 0] 29 (0, 0)) (by (with_reducible repeat (first | refine blk_drewN ?_ _ | refine blk_drew ?_ | refine blk_alloc ?_ _)); refine blk_put (cs := #[u173000, .int .i64 0, .slice none 0 0, .slice none 0 0]) ?_ 1 _ rfl; (with_reducible repeat (first | refine blk_drewN ?_ _ | refine blk_drew ?_ | refine blk_alloc ?_ _)); exact BK172.out) NB172_0.out (by simp)); have n3_ := Aside0.mk (KeepBut.trans (by repeat (first | (with_reducible first | exact HK.out | apply KeepBut.set_ | apply keep_drewN | apply keep_drew | apply keep_alloc | refine keep_far ?_ GW171.out _ | refine keep_far ?_ GW172.out _) | exact HK.out)) hk (.inl rfl)); have n4_ := Aside0.mk (hb); have n5_ := Aside0.mk (hi); clear HO_173000; clear BK171; clear BK172; clear HK; clear HB; clear HI0; have HO_173000 := n0_; have BK171 := n1_; have BK172 := n2_; have HK := n3_; have HB := n4_; have HI0 := n5_; clear n0_ n1_ n2_ n3_ n4_ n5_; (try clear hb); (try clear hb2); (try clear hk); (try clear hi)))
        go_loopg [30] k1 (fun kq v30 w' => ∃ (x30_2 : Int) (x1001_2 : RSt) (x173002_2 : List Bool) (u173002 : Value), v30 = .int .i64 x30_2 ∧ Aside0 (code_reader_session.l1 kq t188 x30_2 s0_0 x1001_2 x173000_1 t186 x173002_2 = some (r1, r2, r3, r4, r5)) ∧ Aside0 (kq ≤ k1) ∧ Aside0 (Kd.R k24 24 w' w.heap.size (fun _ => True) u173000 x173000_1) ∧ Aside0 (Kd.R Kd.bool 4 w' w.heap.size (fun _ => True) u173002 x173002_2) ∧ Aside0 (w'.heap[gb171]? = some (.cells #[(.slice none 0 0), .int .i64 0, (.slice none 0 0), (.slice none 0 0)] 29 (0, 0))) ∧ Aside0 (w'.heap[gb172]? = some (.cells #[u173000, .int .i64 t186, u173002, (.slice none 0 0)] 29 (0, 0))) ∧ Aside0 (IsS51 w0 w' g s0_0 x1001_2) ∧ Aside0 (KeepBut w w' g none) ∧ Aside0 (Below w0.heap.size w0 w'))
        case atStart => exact ⟨(0), (t189), (([] : List Bool)), (.slice none 0 0), (by first | rfl | (simp; done) | (simp [*]; done)), H', ⟨Nat.le_refl _⟩, ⟨by (with_reducible repeat (first | apply Kd.R_alloc | apply Kd.R_drewN | apply Kd.R_drew)); exact HO_173000.out⟩, ⟨by first | exact Kd.R_nil _ _ _ _ _ | exact Kd.N_nil _ _ _ _ _ | exact Kd.V_nil _ _ _ _ _ | exact Kd.Q_nil _ _ _ _ _ | exact Kd.S_nil _ _ _ _ _⟩, ⟨by (with_reducible repeat (first | refine blk_drewN ?_ _ | refine blk_drew ?_ | refine blk_alloc ?_ _)); exact BK171.out⟩, ⟨by (with_reducible repeat (first | refine blk_drewN ?_ _ | refine blk_drew ?_ | refine blk_alloc ?_ _)); exact BK172.out⟩, ⟨by repeat (first | (with_reducible first | exact HI0.out | apply IsS51.alloc | apply IsS51.drewN | apply IsS51.drew | apply IsS51.set_1 | refine IsS51.far ?_ NB0_171.out _ | refine IsS51.far ?_ NB0_172.out _) | exact HI0.out)⟩, ⟨by repeat (first | (with_reducible first | exact HK.out | apply KeepBut.set_ | apply keep_drewN | apply keep_drew | apply keep_alloc | refine keep_far ?_ GW171.out _ | refine keep_far ?_ GW172.out _) | exact HK.out)⟩, ⟨by repeat (first | (with_reducible first | exact HB.out | apply below_alloc | apply pw_below_drewN | apply below_drew1 | refine below_set ?_ (IsS51.ge HI0.out) | refine below_set ?_ GE171.out | refine below_set ?_ GE172.out) | exact HB.out)⟩⟩
        case round =>
          clear H'
          try clear c1
          try clear hcv1
          try clear c2
          try clear p2
          try clear c3
          try clear c6
          try clear c6b0
          try clear p6
          try clear c10
          try clear hcv13
          try clear c20
          try clear c21
          try clear c22
          try clear c23
          try clear hcz24_0
          try clear hcz24_1
          try clear hcz24_2
          try clear hcz24_3
          try clear hfz24_0
          try clear hfz24_1
          try clear hfz24_2
          try clear hfz24_3
          try clear p2
          obtain ⟨x30_2, x1001_2, x173002_2, u173002, rfl, HA, HK2, HO_173000, HO_173002, BK171, BK172, HI0, HK, HB⟩ := hrel
          cases gk with
          | zero => exact absurd HA.out (by simp [code_reader_session.l1])
          | succ k2 =>
            have H := HA.out
            clear HA
            simp only [code_reader_session.l1] at H
            by_cases c26 : x30_2 < t188
            · rw [if_pos c26] at H
              have c26b0 : decide (x30_2 < t188) = true := decide_eq_true c26
              clear c26
              replace H := Option.bind_eq_some_iff.mp H
              obtain ⟨⟨t190, t191⟩, A270, H⟩ := H
              replace H : (if x173002_2.length < 140737488355328 then (code_reader_session.l1 k2 t188 (wrap64 (x30_2 + 1)) s0_0 t191 x173000_1 t186 (x173002_2 ++ [(t190 == 1)])) else (none)) = some (r1, r2, r3, r4, r5) := H
              have A27 := Aside0.mk A270
              clear A270
              by_cases c28 : x173002_2.length < 140737488355328
              · rw [if_pos c28] at H
                have LMc28 := Aside0.mk c28
                clear c28
                obtain ⟨y192, hy192⟩ : ∃ y_ : List Bool, y_ = (x173002_2 ++ [(t190 == 1)]) := ⟨_, rfl⟩
                replace H : (code_reader_session.l1 k2 t188 (wrap64 (x30_2 + 1)) s0_0 t191 x173000_1 t186 y192) = some (r1, r2, r3, r4, r5) := by first | (rw [hy192]; with_reducible exact H) | (have H2_ := (Option.bind_some _ _).symm.trans H; rw [hy192]; with_reducible exact H2_) | (have H2_ := (Option.bind_some _ _).symm.trans H; with_reducible exact H2_) | with_reducible exact H | (rw [hy192]; exact H) | exact H
                have Ny192 := Aside0.mk hy192
                clear hy192
                have H' := Aside0.mk H
                clear H
                try go_wp2
                have n0_ := Aside0.mk (Kd.R_drew HO_173000.out)
                have n1_ := Aside0.mk (Kd.R_drew HO_173002.out)
                have n2_ := Aside0.mk (blk_drew BK171.out)
                have n3_ := Aside0.mk (blk_drew BK172.out)
                have n4_ := Aside0.mk (IsS51.drew HI0.out)
                have n5_ := Aside0.mk (keep_drew HK.out)
                have n6_ := Aside0.mk (below_drew1 HB.out)
                clear HO_173000
                clear HO_173002
                clear BK171
                clear BK172
                clear HI0
                clear HK
                clear HB
                have HO_173000 := n0_
                have HO_173002 := n1_
                have BK171 := n2_
                have BK172 := n3_
                have HI0 := n4_
                have HK := n5_
                have HB := n6_
                clear n0_ n1_ n2_ n3_ n4_ n5_ n6_
                refine start_ (n := 9) (S := fun w' => w'.cell? ⟨gb172, 0, none⟩ = some (u173000) ∧ w'.cell? ⟨gb172, 1, none⟩ = some (.int .i64 t186) ∧ w'.cell? ⟨gb172, 2, none⟩ = some (u173002) ∧ w'.cell? ⟨gb172, 3, none⟩ = some (.slice none 0 0)) (ds := [8]) #[false, false, false, false, false, false, false, false, false] (by kernel_rfl) rfl rfl ⟨(blk_cell BK172.out 0).trans rfl, (blk_cell BK172.out 1).trans rfl, (blk_cell BK172.out 2).trans rfl, (blk_cell BK172.out 3).trans rfl⟩ (fun hHeld => ?_); refine with_tabW code_reader_session.tab10 code_reader_session.bits10 (fun HT_ HW_ => ?_)
                generalize wr.drew = w29 at HO_173000 HO_173002 BK171 BK172 HI0 HK HB hHeld ⊢
                refine pure_ (i := 0) (N := some 32) (v := ?_) (a' := ?_) #[true, false, false, false, false, false, false, false, false] rfl rfl (any_of HT_.out (by kernel_rfl)) (fun _ _ _ h => h) (Or.inl ⟨by rfl, ?_⟩) ?_ ?_
                rotate_left
                · intro w'
                  go_simp
                  with_reducible rfl
                rotate_left
                · simp only [Act.put, List.setIfInBounds_toArray, List.set_cons_zero, List.set_cons_succ, i64_w, i32_w]
                  rfl
                refine pure_ (i := 2) (N := some 34) (v := ?_) (a' := ?_) #[true, false, true, false, false, false, false, false, false] rfl rfl (any_of HT_.out (by kernel_rfl)) (fun _ _ _ h => h) (Or.inl ⟨by rfl, ?_⟩) ?_ ?_
                rotate_left
                · intro w'
                  go_simp
                  with_reducible rfl
                rotate_left
                · simp only [Act.put, List.setIfInBounds_toArray, List.set_cons_zero, List.set_cons_succ, i64_w, i32_w]
                  rfl
                refine take_ (i := 1) (N := some 33) (v := ?_) (a' := ?_) #[true, true, true, false, false, false, false, false, false] rfl rfl (take_ofW HT_.out HW_.out (by kernel_rfl)) (fun _ _ _ h => h) (Or.inl ⟨by rfl, ?_⟩) hHeld ?_ ?_
                rotate_left
                · rintro w' ⟨s0, s1, s2, s3⟩
                  go_simp
                  with_reducible rfl
                rotate_left
                · simp only [Act.put, List.setIfInBounds_toArray, List.set_cons_zero, List.set_cons_succ, i64_w, i32_w]
                  rfl
                refine one_ (i := 3) (N := some 35) #[true, true, true, true, false, false, false, false, false] rfl rfl (one_of HT_.out (by kernel_rfl)) (by decide) (fun K hK => ?_)
                refine goes_ Try.func30 (by kernel_rfl) rfl #[.pointer (some ⟨g, 0, none⟩), .int .i64 1] (by rfl) rfl rfl (by (try simp only [List.map_toArray, List.map_cons, List.map_nil]); first | done | rfl | (simp only [List.length_drop, List.length_take]; rfl)) ?_
                with_reducible refine (code_reader_many.calls k2 g s0_0 x1001_2 1 t190 t191 w0 _ ?side1 ?side2 A27.out).mono ?_
                (case side1 => repeat (first | (with_reducible first | exact HI0.out | apply IsS51.alloc | apply IsS51.drewN | apply IsS51.drew | apply IsS51.set_1 | refine IsS51.far ?_ NB0_171.out _ | refine IsS51.far ?_ NB0_172.out _) | exact HI0.out))
                (case side2 => repeat (first | (with_reducible first | exact HB.out | apply below_alloc | apply pw_below_drewN | apply below_drew1 | refine below_set ?_ (IsS51.ge HI0.out) | refine below_set ?_ GE171.out | refine below_set ?_ GE172.out) | exact HB.out))
                rintro e w30 ⟨rfl, hi, hb, hk⟩
                refine ⟨_, rfl, ?_⟩
                have n0_ := Aside0.mk (Kd.R_mono (Kd.R_keep (IsS51.apart (show IsS51 w0 _ g s0_0 x1001_2 from by repeat (first | (with_reducible first | exact HI0.out | apply IsS51.alloc | apply IsS51.drewN | apply IsS51.drew | apply IsS51.set_1 | refine IsS51.far ?_ NB0_171.out _ | refine IsS51.far ?_ NB0_172.out _) | exact HI0.out)) (by (with_reducible repeat (first | apply Kd.R_alloc | apply Kd.R_drewN | apply Kd.R_drew)); exact HO_173000.out) (by decide)) hk (fun _ h => h.2)) (fun _ h => h.1))
                have n1_ := Aside0.mk (Kd.R_mono (Kd.R_keep (IsS51.apart (show IsS51 w0 _ g s0_0 x1001_2 from by repeat (first | (with_reducible first | exact HI0.out | apply IsS51.alloc | apply IsS51.drewN | apply IsS51.drew | apply IsS51.set_1 | refine IsS51.far ?_ NB0_171.out _ | refine IsS51.far ?_ NB0_172.out _) | exact HI0.out)) (by (with_reducible repeat (first | apply Kd.R_alloc | apply Kd.R_drewN | apply Kd.R_drew)); exact HO_173002.out) (by decide)) hk (fun _ h => h.2)) (fun _ h => h.1))
                have n2_ := Aside0.mk (KeepBut.blk hk (g' := gb171) (o := .cells #[.slice none 0 0, .int .i64 0, .slice none 0 0, .slice none 0 0] 29 (0, 0)) (by (with_reducible repeat (first | refine blk_drewN ?_ _ | refine blk_drew ?_ | refine blk_alloc ?_ _)); exact BK171.out) NB171_0.out (by simp))
                have n3_ := Aside0.mk (KeepBut.blk hk (g' := gb172) (o := .cells #[u173000, .int .i64 t186, u173002, .slice none 0 0] 29 (0, 0)) (by (with_reducible repeat (first | refine blk_drewN ?_ _ | refine blk_drew ?_ | refine blk_alloc ?_ _)); exact BK172.out) NB172_0.out (by simp))
                have n4_ := Aside0.mk (KeepBut.trans (by repeat (first | (with_reducible first | exact HK.out | apply KeepBut.set_ | apply keep_drewN | apply keep_drew | apply keep_alloc | refine keep_far ?_ GW171.out _ | refine keep_far ?_ GW172.out _) | exact HK.out)) hk (.inl rfl))
                have n5_ := Aside0.mk (hb)
                have n6_ := Aside0.mk (hi)
                clear HO_173000
                clear HO_173002
                clear BK171
                clear BK172
                clear HK
                clear HB
                clear HI0
                have HO_173000 := n0_
                have HO_173002 := n1_
                have BK171 := n2_
                have BK172 := n3_
                have HK := n4_
                have HB := n5_
                have HI0 := n6_
                clear n0_ n1_ n2_ n3_ n4_ n5_ n6_
                (try clear hb)
                (try clear hb2)
                (try clear hk)
                (try clear hi)
                refine hK.out _ _ ⟨(blk_cell BK172.out 0).trans rfl, (blk_cell BK172.out 1).trans rfl, (blk_cell BK172.out 2).trans rfl, (blk_cell BK172.out 3).trans rfl⟩ (fun hHeld => ?_)
                clear hK K
                refine norm_ (a' := ?_) ?_ ?_
                rotate_left
                · show Act.put _ (some 35) _ = _
                  simp only [Act.put, List.setIfInBounds_toArray, List.set_cons_zero, List.set_cons_succ, i64_w, i32_w]
                  rfl
                refine pure_ (i := 4) (N := some 36) (v := ?_) (a' := ?_) #[true, true, true, true, true, false, false, false, false] rfl rfl (any_of HT_.out (by kernel_rfl)) (fun _ _ _ h => h) (Or.inl ⟨by rfl, ?_⟩) ?_ ?_
                rotate_left
                · intro w'
                  go_simp
                  with_reducible rfl
                rotate_left
                · simp only [Act.put, List.setIfInBounds_toArray, List.set_cons_zero, List.set_cons_succ, i64_w, i32_w]
                  rfl
                refine one_ (i := 5) (N := some 37) #[true, true, true, true, true, true, false, false, false] rfl rfl (one_of HT_.out (by kernel_rfl)) (by decide) (fun K hK => ?_)
                refine value_ (w1 := ?_) (v := ?_) (by rfl) rfl ?_ ?_
                rotate_left 2
                · go_simp
                  constructor
                  · rfl
                  · rfl
                refine hK.out _ _ ⟨(blk_cell (blk_alloc BK172.out _) 0).trans rfl, (blk_cell (blk_alloc BK172.out _) 1).trans rfl, (blk_cell (blk_alloc BK172.out _) 2).trans rfl, (blk_cell (blk_alloc BK172.out _) 3).trans rfl⟩ (fun hHeld => ?_)
                clear hK K
                refine norm_ (a' := ?_) ?_ ?_
                rotate_left
                · show Act.put _ (some 37) _ = _
                  simp only [Act.put, List.setIfInBounds_toArray, List.set_cons_zero, List.set_cons_succ, i64_w, i32_w]
                  rfl
                refine one_ (i := 6) (N := some 38) #[true, true, true, true, true, true, true, false, false] rfl rfl (one_of HT_.out (by kernel_rfl)) (by decide) (fun K hK => ?_)
                refine Kd.R_append_step Kd.bool w.heap.size (by rfl) (.tmp 33) (.tmp 37) 26 4 (.bool false) 1 rfl Try.underlying26 info4 rfl (by decide) (by omega) u173002 x173002_2 (t190 == 1) [.bool (t190 == 1)] (fun _ => True) (fun _ => False) rfl rfl ?aP (fun _ hk => hk.elim) ?aF ?aO (Below.refl _ _) ?aS ?aL ?_
                (case aP => exact rfl)
                (case aF => exact (fun _ _ => trivial))
                (case aO => exact (by (with_reducible repeat (first | apply Kd.R_alloc | apply Kd.R_drewN | apply Kd.R_drew)); exact HO_173002.out))
                (case aS => exact (keep_size (w := w) (g := g) (row := none) (by repeat (first | (with_reducible first | exact HK.out | apply KeepBut.set_ | apply keep_drewN | apply keep_drew | apply keep_alloc | refine keep_far ?_ GW171.out _ | refine keep_far ?_ GW172.out _) | exact HK.out))))
                (case aL => have := LMc28.out; omega)
                intro v193 w31 ho hb hg hat
                rw [← Ny192.out] at ho
                have n0_ := Aside0.mk (Kd.R_over' (by (with_reducible repeat (first | apply Kd.R_alloc | apply Kd.R_drewN | apply Kd.R_drew)); exact HO_173000.out) (Kd.R_typed (by (with_reducible repeat (first | apply Kd.R_alloc | apply Kd.R_drewN | apply Kd.R_drew)); exact HO_173002.out)) (by decide) hg)
                have n1_ := Aside0.mk (blk_grown (g := gb171) (o := .cells #[.slice none 0 0, .int .i64 0, .slice none 0 0, .slice none 0 0] 29 (0, 0)) (by (with_reducible repeat (first | refine blk_drewN ?_ _ | refine blk_drew ?_ | refine blk_alloc ?_ _)); exact BK171.out) hg (Kd.R_ne HO_173002.out BK171.out (by decide)))
                have n2_ := Aside0.mk (blk_grown (g := gb172) (o := .cells #[u173000, .int .i64 t186, u173002, .slice none 0 0] 29 (0, 0)) (by (with_reducible repeat (first | refine blk_drewN ?_ _ | refine blk_drew ?_ | refine blk_alloc ?_ _)); exact BK172.out) hg (Kd.R_ne HO_173002.out BK172.out (by decide)))
                have n3_ := Aside0.mk (IsS51.grown (by repeat (first | (with_reducible first | exact HI0.out | apply IsS51.alloc | apply IsS51.drewN | apply IsS51.drew | apply IsS51.set_1 | refine IsS51.far ?_ NB0_171.out _ | refine IsS51.far ?_ NB0_172.out _) | exact HI0.out)) hg (IsS51.own_ne HI0.out HO_173002.out (by decide)))
                have n4_ := Aside0.mk (below_weaken (by repeat (first | (with_reducible first | exact HB.out | apply below_alloc | apply pw_below_drewN | apply below_drew1 | refine below_set ?_ (IsS51.ge HI0.out) | refine below_set ?_ GE171.out | refine below_set ?_ GE172.out) | exact HB.out)) HL.out hb)
                have n5_ := Aside0.mk (KeepBut.trans (by repeat (first | (with_reducible first | exact HK.out | apply KeepBut.set_ | apply keep_drewN | apply keep_drew | apply keep_alloc | refine keep_far ?_ GW171.out _ | refine keep_far ?_ GW172.out _) | exact HK.out)) (KeepBut.of_grown hg g) (Kd.R_base2 HO_173002.out))
                have n6_ := Aside0.mk (ho)
                clear HO_173000
                clear BK171
                clear BK172
                clear HI0
                clear HB
                clear HK
                clear HO_173002
                have HO_173000 := n0_
                have BK171 := n1_
                have BK172 := n2_
                have HI0 := n3_
                have HB := n4_
                have HK := n5_
                have HO194 := n6_
                clear n0_ n1_ n2_ n3_ n4_ n5_ n6_
                clear ho hb hg hat
                obtain ⟨Ao32, co32, eo32⟩ := Kd.R_slice HO194.out
                (first | subst eo32 | (injection eo32 with f1_ f2_ f3_; have f4_ := f1_.symm; have f5_ := f3_.symm; clear f1_ f2_ f3_; subst f4_; subst f5_))
                refine hK.out _ _ ⟨(blk_cell BK172.out 0).trans rfl, (blk_cell BK172.out 1).trans rfl, (blk_cell BK172.out 2).trans rfl, (blk_cell BK172.out 3).trans rfl⟩ (fun hHeld => ?_)
                clear hK K
                refine norm_ (a' := ?_) ?_ ?_
                rotate_left
                · show Act.put _ (some 38) _ = _
                  simp only [Act.put, List.setIfInBounds_toArray, List.set_cons_zero, List.set_cons_succ, i64_w, i32_w]
                  rfl
                refine pure_ (i := 7) (N := some 39) (v := ?_) (a' := ?_) #[true, true, true, true, true, true, true, true, false] rfl rfl (any_of HT_.out (by kernel_rfl)) (fun _ _ _ h => h) (Or.inl ⟨by rfl, ?_⟩) ?_ ?_
                rotate_left
                · intro w'
                  go_simp
                  with_reducible rfl
                rotate_left
                · simp only [Act.put, List.setIfInBounds_toArray, List.set_cons_zero, List.set_cons_succ, i64_w, i32_w]
                  rfl
                refine last_ (i := 8) (N := none) #[true, true, true, true, true, true, true, true, true] rfl rfl (one_of HT_.out (by kernel_rfl)) (by decide) (fun K hK => ?_)
                have hs33 : w31.cell? ⟨gb172, 2, none⟩ = some (u173002) := (blk_cell BK172.out 2).trans rfl
                have hfs33 := blk_frozen BK172.out 2
                have hns33_0 := NB171_172.out
                have hms33_0 := NB172_171.out
                refine skip_ (w1 := ?_) (by rfl) rfl ?_ ?_
                rotate_left
                · go_simp
                  rfl
                refine hK.out _ _ ?_
                clear hK K
                refine done_ (done_of HT_.out (by kernel_rfl)) ?_
                try go_wp2
                go_roundg k2
                case measure => have := HK1.out; have := HK2.out; omega
                case rel => exact ⟨(wrap64 (x30_2 + 1)), (t191), (y192), (.slice Ao32 y192.length co32), (by first | rfl | (simp; done) | (simp [*]; done)), H', ⟨by have := HK1.out; have := HK2.out; omega⟩, ⟨by (with_reducible repeat (first | apply Kd.R_alloc | apply Kd.R_drewN | apply Kd.R_drew)); exact Kd.R_mono (Kd.R_far (p := ⟨gb172, 2, none⟩) (Kd.R_types HO_173000.out BK172.out (by decide)) (fun _ hk => hk.2) (.slice Ao32 y192.length co32)) (fun _ hk => trivial)⟩, ⟨by (with_reducible repeat (first | apply Kd.R_alloc | apply Kd.R_drewN | apply Kd.R_drew)); exact Kd.R_mono (Kd.R_far (p := ⟨gb172, 2, none⟩) (Kd.R_types HO194.out BK172.out (by decide)) (fun _ hk => hk.2) (.slice Ao32 y192.length co32)) (fun _ hk => trivial)⟩, ⟨by (with_reducible repeat (first | refine blk_drewN ?_ _ | refine blk_drew ?_ | refine blk_alloc ?_ _)); refine blk_far ?_ NB171_172.out _; (with_reducible repeat (first | refine blk_drewN ?_ _ | refine blk_drew ?_ | refine blk_alloc ?_ _)); exact BK171.out⟩, ⟨by (with_reducible repeat (first | refine blk_drewN ?_ _ | refine blk_drew ?_ | refine blk_alloc ?_ _)); refine blk_put (cs := #[u173000, .int .i64 t186, u173002, .slice none 0 0]) ?_ 2 _ rfl; (with_reducible repeat (first | refine blk_drewN ?_ _ | refine blk_drew ?_ | refine blk_alloc ?_ _)); exact BK172.out⟩, ⟨by repeat (first | (with_reducible first | exact HI0.out | apply IsS51.alloc | apply IsS51.drewN | apply IsS51.drew | apply IsS51.set_1 | refine IsS51.far ?_ NB0_171.out _ | refine IsS51.far ?_ NB0_172.out _) | exact HI0.out)⟩, ⟨by repeat (first | (with_reducible first | exact HK.out | apply KeepBut.set_ | apply keep_drewN | apply keep_drew | apply keep_alloc | refine keep_far ?_ GW171.out _ | refine keep_far ?_ GW172.out _) | exact HK.out)⟩, ⟨by repeat (first | (with_reducible first | exact HB.out | apply below_alloc | apply pw_below_drewN | apply below_drew1 | refine below_set ?_ (IsS51.ge HI0.out) | refine below_set ?_ GE171.out | refine below_set ?_ GE172.out) | exact HB.out)⟩⟩
              · rw [if_neg c28] at H
                exact absurd H (by simp)
            · rw [if_neg c26] at H
              have c26b0 : decide (x30_2 < t188) = false := decide_eq_false c26
              clear c26
              replace H := Option.bind_eq_some_iff.mp H
              obtain ⟨⟨t195, t196⟩, A340, H⟩ := H
              replace H : (code_reader_session.l2 k2 t195 0 s0_0 t196 x173000_1 t186 x173002_2 ([] : List (List Int))) = some (r1, r2, r3, r4, r5) := H
              have A34 := Aside0.mk A340
              clear A340
              have H' := Aside0.mk H
              clear H
              go_wp2_with (first | ((with_reducible refine gate_callee (f := 30) rfl ?_); refine goesL_ (some 42) rfl rfl Try.func30 (by kernel_rfl) rfl #[.pointer (some ⟨g, 0, none⟩), .int .i64 16] rfl (by (try simp only [List.map_toArray, List.map_cons, List.map_nil]); first | done | rfl | (simp only [List.length_drop, List.length_take]; rfl)) ?_; (with_reducible refine (code_reader_many.calls k2 g s0_0 x1001_2 16 t195 t196 w0 _ ?side1 ?side2 A34.out).mono ?_); (case side1 => repeat (first | (with_reducible first | exact HI0.out | apply IsS51.alloc | apply IsS51.drewN | apply IsS51.drew | apply IsS51.set_1 | refine IsS51.far ?_ NB0_171.out _ | refine IsS51.far ?_ NB0_172.out _) | exact HI0.out)); (case side2 => repeat (first | (with_reducible first | exact HB.out | apply below_alloc | apply pw_below_drewN | apply below_drew1 | refine below_set ?_ (IsS51.ge HI0.out) | refine below_set ?_ GE171.out | refine below_set ?_ GE172.out) | exact HB.out)); rintro e w35 ⟨rfl, hi, hb, hk⟩; refine ⟨_, rfl, ?_⟩; have n0_ := Aside0.mk (Kd.R_mono (Kd.R_keep (IsS51.apart (show IsS51 w0 _ g s0_0 x1001_2 from by repeat (first | (with_reducible first | exact HI0.out | apply IsS51.alloc | apply IsS51.drewN | apply IsS51.drew | apply IsS51.set_1 | refine IsS51.far ?_ NB0_171.out _ | refine IsS51.far ?_ NB0_172.out _) | exact HI0.out)) (by (with_reducible repeat (first | apply Kd.R_alloc | apply Kd.R_drewN | apply Kd.R_drew)); exact HO_173000.out) (by decide)) hk (fun _ h => h.2)) (fun _ h => h.1)); have n1_ := Aside0.mk (Kd.R_mono (Kd.R_keep (IsS51.apart (show IsS51 w0 _ g s0_0 x1001_2 from by repeat (first | (with_reducible first | exact HI0.out | apply IsS51.alloc | apply IsS51.drewN | apply IsS51.drew | apply IsS51.set_1 | refine IsS51.far ?_ NB0_171.out _ | refine IsS51.far ?_ NB0_172.out _) | exact HI0.out)) (by (with_reducible repeat (first | apply Kd.R_alloc | apply Kd.R_drewN | apply Kd.R_drew)); exact HO_173002.out) (by decide)) hk (fun _ h => h.2)) (fun _ h => h.1)); have n2_ := Aside0.mk (KeepBut.blk hk (g' := gb171) (o := .cells #[.slice none 0 0, .int .i64 0, .slice none 0 0, .slice none 0 0] 29 (0, 0)) (by (with_reducible repeat (first | refine blk_drewN ?_ _ | refine blk_drew ?_ | refine blk_alloc ?_ _)); exact BK171.out) NB171_0.out (by simp)); have n3_ := Aside0.mk (KeepBut.blk hk (g' := gb172) (o := .cells #[u173000, .int .i64 t186, u173002, .slice none 0 0] 29 (0, 0)) (by (with_reducible repeat (first | refine blk_drewN ?_ _ | refine blk_drew ?_ | refine blk_alloc ?_ _)); exact BK172.out) NB172_0.out (by simp)); have n4_ := Aside0.mk (KeepBut.trans (by repeat (first | (with_reducible first | exact HK.out | apply KeepBut.set_ | apply keep_drewN | apply keep_drew | apply keep_alloc | refine keep_far ?_ GW171.out _ | refine keep_far ?_ GW172.out _) | exact HK.out)) hk (.inl rfl)); have n5_ := Aside0.mk (hb); have n6_ := Aside0.mk (hi); clear HO_173000; clear HO_173002; clear BK171; clear BK172; clear HK; clear HB; clear HI0; have HO_173000 := n0_; have HO_173002 := n1_; have BK171 := n2_; have BK172 := n3_; have HK := n4_; have HB := n5_; have HI0 := n6_; clear n0_ n1_ n2_ n3_ n4_ n5_ n6_; (try clear hb); (try clear hb2); (try clear hk); (try clear hi)))
              go_loopg [43] k2 (fun kq v43 w' => ∃ (x43_3 : Int) (x1001_3 : RSt) (x173003_3 : List (List Int)) (u173003 : Value), v43 = .int .i64 x43_3 ∧ Aside0 (code_reader_session.l2 kq t195 x43_3 s0_0 x1001_3 x173000_1 t186 x173002_2 x173003_3 = some (r1, r2, r3, r4, r5)) ∧ Aside0 (kq ≤ k2) ∧ Aside0 (Kd.R k24 24 w' w.heap.size (fun _ => True) u173000 x173000_1) ∧ Aside0 (Kd.R Kd.bool 4 w' w.heap.size (fun _ => True) u173002 x173002_2) ∧ Aside0 (Kd.S (Kd.slice 3 (Kd.int .i64)) 45 w' w.heap.size (fun _ => True) u173003 x173003_3) ∧ Aside0 (w'.heap[gb171]? = some (.cells #[(.slice none 0 0), .int .i64 0, (.slice none 0 0), (.slice none 0 0)] 29 (0, 0))) ∧ Aside0 (w'.heap[gb172]? = some (.cells #[u173000, .int .i64 t186, u173002, u173003] 29 (0, 0))) ∧ Aside0 (IsS51 w0 w' g s0_0 x1001_3) ∧ Aside0 (KeepBut w w' g none) ∧ Aside0 (Below w0.heap.size w0 w'))
              case atStart => exact ⟨(0), (t196), (([] : List (List Int))), (.slice none 0 0), (by first | rfl | (simp; done) | (simp [*]; done)), H', ⟨Nat.le_refl _⟩, ⟨by (with_reducible repeat (first | apply Kd.R_alloc | apply Kd.R_drewN | apply Kd.R_drew)); exact HO_173000.out⟩, ⟨by (with_reducible repeat (first | apply Kd.R_alloc | apply Kd.R_drewN | apply Kd.R_drew)); exact HO_173002.out⟩, ⟨by first | exact Kd.S_nil _ _ _ _ _ | exact Kd.N_nil _ _ _ _ _ | exact Kd.V_nil _ _ _ _ _ | exact Kd.Q_nil _ _ _ _ _ | exact Kd.R_nil _ _ _ _ _⟩, ⟨by (with_reducible repeat (first | refine blk_drewN ?_ _ | refine blk_drew ?_ | refine blk_alloc ?_ _)); exact BK171.out⟩, ⟨by (with_reducible repeat (first | refine blk_drewN ?_ _ | refine blk_drew ?_ | refine blk_alloc ?_ _)); exact BK172.out⟩, ⟨by repeat (first | (with_reducible first | exact HI0.out | apply IsS51.alloc | apply IsS51.drewN | apply IsS51.drew | apply IsS51.set_1 | refine IsS51.far ?_ NB0_171.out _ | refine IsS51.far ?_ NB0_172.out _) | exact HI0.out)⟩, ⟨by repeat (first | (with_reducible first | exact HK.out | apply KeepBut.set_ | apply keep_drewN | apply keep_drew | apply keep_alloc | refine keep_far ?_ GW171.out _ | refine keep_far ?_ GW172.out _) | exact HK.out)⟩, ⟨by repeat (first | (with_reducible first | exact HB.out | apply below_alloc | apply pw_below_drewN | apply below_drew1 | refine below_set ?_ (IsS51.ge HI0.out) | refine below_set ?_ GE171.out | refine below_set ?_ GE172.out) | exact HB.out)⟩⟩
              case round =>
                clear H'
                try clear c1
                try clear hcv1
                try clear c2
                try clear p2
                try clear c3
                try clear c6
                try clear c6b0
                try clear p6
                try clear c10
                try clear hcv13
                try clear c20
                try clear c21
                try clear c22
                try clear c23
                try clear c26
                try clear c26b0
                try clear c28
                try clear c30
                try clear c31
                try clear c32
                try clear hcz24_0
                try clear hcz24_1
                try clear hcz24_2
                try clear hcz24_3
                try clear hfz24_0
                try clear hfz24_1
                try clear hfz24_2
                try clear hfz24_3
                try clear p2
                try clear p6
                obtain ⟨x43_3, x1001_3, x173003_3, u173003, rfl, HA, HK3, HO_173000, HO_173002, HO_173003, BK171, BK172, HI0, HK, HB⟩ := hrel
                cases gk with
                | zero => exact absurd HA.out (by simp [code_reader_session.l2])
                | succ k3 =>
                  have H := HA.out
                  clear HA
                  simp only [code_reader_session.l2] at H
                  by_cases c36 : x43_3 < t195
                  · rw [if_pos c36] at H
                    have c36b0 : decide (x43_3 < t195) = true := decide_eq_true c36
                    clear c36
                    replace H := Option.bind_eq_some_iff.mp H
                    obtain ⟨⟨t197, t198⟩, A370, H⟩ := H
                    replace H : (code_reader_session.l3 k3 ([] : List Int) t195 x43_3 t197 0 s0_0 t198 x173000_1 t186 x173002_2 x173003_3) = some (r1, r2, r3, r4, r5) := H
                    have A37 := Aside0.mk A370
                    clear A370
                    have H' := Aside0.mk H
                    clear H
                    go_wp2_with (first | ((with_reducible refine gate_callee (f := 30) rfl ?_); refine goesL_ (some 46) rfl rfl Try.func30 (by kernel_rfl) rfl #[.pointer (some ⟨g, 0, none⟩), .int .i64 6] rfl (by (try simp only [List.map_toArray, List.map_cons, List.map_nil]); first | done | rfl | (simp only [List.length_drop, List.length_take]; rfl)) ?_; (with_reducible refine (code_reader_many.calls k3 g s0_0 x1001_3 6 t197 t198 w0 _ ?side1 ?side2 A37.out).mono ?_); (case side1 => repeat (first | (with_reducible first | exact HI0.out | apply IsS51.alloc | apply IsS51.drewN | apply IsS51.drew | apply IsS51.set_1 | refine IsS51.far ?_ NB0_171.out _ | refine IsS51.far ?_ NB0_172.out _) | exact HI0.out)); (case side2 => repeat (first | (with_reducible first | exact HB.out | apply below_alloc | apply pw_below_drewN | apply below_drew1 | refine below_set ?_ (IsS51.ge HI0.out) | refine below_set ?_ GE171.out | refine below_set ?_ GE172.out) | exact HB.out)); rintro e w38 ⟨rfl, hi, hb, hk⟩; refine ⟨_, rfl, ?_⟩; have n0_ := Aside0.mk (Kd.R_mono (Kd.R_keep (IsS51.apart (show IsS51 w0 _ g s0_0 x1001_3 from by repeat (first | (with_reducible first | exact HI0.out | apply IsS51.alloc | apply IsS51.drewN | apply IsS51.drew | apply IsS51.set_1 | refine IsS51.far ?_ NB0_171.out _ | refine IsS51.far ?_ NB0_172.out _) | exact HI0.out)) (by (with_reducible repeat (first | apply Kd.R_alloc | apply Kd.R_drewN | apply Kd.R_drew)); exact HO_173000.out) (by decide)) hk (fun _ h => h.2)) (fun _ h => h.1)); have n1_ := Aside0.mk (Kd.R_mono (Kd.R_keep (IsS51.apart (show IsS51 w0 _ g s0_0 x1001_3 from by repeat (first | (with_reducible first | exact HI0.out | apply IsS51.alloc | apply IsS51.drewN | apply IsS51.drew | apply IsS51.set_1 | refine IsS51.far ?_ NB0_171.out _ | refine IsS51.far ?_ NB0_172.out _) | exact HI0.out)) (by (with_reducible repeat (first | apply Kd.R_alloc | apply Kd.R_drewN | apply Kd.R_drew)); exact HO_173002.out) (by decide)) hk (fun _ h => h.2)) (fun _ h => h.1)); have n2_ := Aside0.mk (Kd.S_mono (Kd.S_keep (IsS51.apartS (show IsS51 w0 _ g s0_0 x1001_3 from by repeat (first | (with_reducible first | exact HI0.out | apply IsS51.alloc | apply IsS51.drewN | apply IsS51.drew | apply IsS51.set_1 | refine IsS51.far ?_ NB0_171.out _ | refine IsS51.far ?_ NB0_172.out _) | exact HI0.out)) (by (with_reducible repeat (first | apply Kd.S_alloc | apply Kd.S_drewN | apply Kd.S_drew)); exact HO_173003.out) (by decide)) hk (fun _ h => h.2)) (fun _ h => h.1)); have n3_ := Aside0.mk (KeepBut.blk hk (g' := gb171) (o := .cells #[.slice none 0 0, .int .i64 0, .slice none 0 0, .slice none 0 0] 29 (0, 0)) (by (with_reducible repeat (first | refine blk_drewN ?_ _ | refine blk_drew ?_ | refine blk_alloc ?_ _)); exact BK171.out) NB171_0.out (by simp)); have n4_ := Aside0.mk (KeepBut.blk hk (g' := gb172) (o := .cells #[u173000, .int .i64 t186, u173002, u173003] 29 (0, 0)) (by (with_reducible repeat (first | refine blk_drewN ?_ _ | refine blk_drew ?_ | refine blk_alloc ?_ _)); exact BK172.out) NB172_0.out (by simp)); have n5_ := Aside0.mk (KeepBut.trans (by repeat (first | (with_reducible first | exact HK.out | apply KeepBut.set_ | apply keep_drewN | apply keep_drew | apply keep_alloc | refine keep_far ?_ GW171.out _ | refine keep_far ?_ GW172.out _) | exact HK.out)) hk (.inl rfl)); have n6_ := Aside0.mk (hb); have n7_ := Aside0.mk (hi); clear HO_173000; clear HO_173002; clear HO_173003; clear BK171; clear BK172; clear HK; clear HB; clear HI0; have HO_173000 := n0_; have HO_173002 := n1_; have HO_173003 := n2_; have BK171 := n3_; have BK172 := n4_; have HK := n5_; have HB := n6_; have HI0 := n7_; clear n0_ n1_ n2_ n3_ n4_ n5_ n6_ n7_; (try clear hb); (try clear hb2); (try clear hk); (try clear hi)))
                    go_loopg [5, 47] k3 (fun kq v5 v47 w' => ∃ (x5_4 : List Int) (x47_4 : Int) (x1001_4 : RSt), v47 = .int .i64 x47_4 ∧ Aside0 (code_reader_session.l3 kq x5_4 t195 x43_3 t197 x47_4 s0_0 x1001_4 x173000_1 t186 x173002_2 x173003_3 = some (r1, r2, r3, r4, r5)) ∧ Aside0 (kq ≤ k3) ∧ Aside0 (Kd.R (Kd.int .i64) 3 w' w.heap.size (fun _ => True) v5 x5_4) ∧ Aside0 (Kd.R k24 24 w' w.heap.size (fun _ => True) u173000 x173000_1) ∧ Aside0 (Kd.R Kd.bool 4 w' w.heap.size (fun _ => True) u173002 x173002_2) ∧ Aside0 (Kd.S (Kd.slice 3 (Kd.int .i64)) 45 w' w.heap.size (fun k_ => some k_ ≠ (v5 : Value).ownBlock) u173003 x173003_3) ∧ Aside0 (w'.heap[gb171]? = some (.cells #[(.slice none 0 0), .int .i64 0, (.slice none 0 0), (.slice none 0 0)] 29 (0, 0))) ∧ Aside0 (w'.heap[gb172]? = some (.cells #[u173000, .int .i64 t186, u173002, u173003] 29 (0, 0))) ∧ Aside0 (IsS51 w0 w' g s0_0 x1001_4) ∧ Aside0 (KeepBut w w' g none) ∧ Aside0 (Below w0.heap.size w0 w'))
                    case atStart => exact ⟨(([] : List Int)), (0), (t198), (by first | rfl | (simp; done) | (simp [*]; done)), H', ⟨Nat.le_refl _⟩, ⟨by first | exact Kd.R_nil _ _ _ _ _ | exact Kd.N_nil _ _ _ _ _ | exact Kd.V_nil _ _ _ _ _ | exact Kd.Q_nil _ _ _ _ _ | exact Kd.S_nil _ _ _ _ _⟩, ⟨by (with_reducible repeat (first | apply Kd.R_alloc | apply Kd.R_drewN | apply Kd.R_drew)); exact HO_173000.out⟩, ⟨by (with_reducible repeat (first | apply Kd.R_alloc | apply Kd.R_drewN | apply Kd.R_drew)); exact HO_173002.out⟩, ⟨by (with_reducible repeat (first | apply Kd.S_alloc | apply Kd.S_drewN | apply Kd.S_drew)); exact Kd.S_mono HO_173003.out (fun _ hk => (by simp [Value.ownBlock]))⟩, ⟨by (with_reducible repeat (first | refine blk_drewN ?_ _ | refine blk_drew ?_ | refine blk_alloc ?_ _)); exact BK171.out⟩, ⟨by (with_reducible repeat (first | refine blk_drewN ?_ _ | refine blk_drew ?_ | refine blk_alloc ?_ _)); exact BK172.out⟩, ⟨by repeat (first | (with_reducible first | exact HI0.out | apply IsS51.alloc | apply IsS51.drewN | apply IsS51.drew | apply IsS51.set_1 | refine IsS51.far ?_ NB0_171.out _ | refine IsS51.far ?_ NB0_172.out _) | exact HI0.out)⟩, ⟨by repeat (first | (with_reducible first | exact HK.out | apply KeepBut.set_ | apply keep_drewN | apply keep_drew | apply keep_alloc | refine keep_far ?_ GW171.out _ | refine keep_far ?_ GW172.out _) | exact HK.out)⟩, ⟨by repeat (first | (with_reducible first | exact HB.out | apply below_alloc | apply pw_below_drewN | apply below_drew1 | refine below_set ?_ (IsS51.ge HI0.out) | refine below_set ?_ GE171.out | refine below_set ?_ GE172.out) | exact HB.out)⟩⟩
                    case round =>
                      clear H'
                      try clear c1
                      try clear hcv1
                      try clear c2
                      try clear p2
                      try clear c3
                      try clear c6
                      try clear c6b0
                      try clear p6
                      try clear c10
                      try clear hcv13
                      try clear c20
                      try clear c21
                      try clear c22
                      try clear c23
                      try clear c26
                      try clear c26b0
                      try clear c28
                      try clear c30
                      try clear c31
                      try clear c32
                      try clear c36
                      try clear c36b0
                      try clear hcz24_0
                      try clear hcz24_1
                      try clear hcz24_2
                      try clear hcz24_3
                      try clear hfz24_0
                      try clear hfz24_1
                      try clear hfz24_2
                      try clear hfz24_3
                      try clear p2
                      try clear p6
                      obtain ⟨x5_4, x47_4, x1001_4, rfl, HA, HK4, HO_5, HO_173000, HO_173002, HO_173003, BK171, BK172, HI0, HK, HB⟩ := hrel
                      cases gk with
                      | zero => exact absurd HA.out (by simp [code_reader_session.l3])
                      | succ k4 =>
                        have H := HA.out
                        clear HA
                        simp only [code_reader_session.l3] at H
                        by_cases c39 : x47_4 < t197
                        · rw [if_pos c39] at H
                          have c39b0 : decide (x47_4 < t197) = true := decide_eq_true c39
                          clear c39
                          replace H := Option.bind_eq_some_iff.mp H
                          obtain ⟨⟨t199, t200⟩, A400, H⟩ := H
                          replace H : (if x5_4.length < 17592186044416 then (code_reader_session.l3 k4 (x5_4 ++ [t199]) t195 x43_3 t197 (wrap64 (x47_4 + 1)) s0_0 t200 x173000_1 t186 x173002_2 x173003_3) else (none)) = some (r1, r2, r3, r4, r5) := H
                          have A40 := Aside0.mk A400
                          clear A400
                          by_cases c41 : x5_4.length < 17592186044416
                          · rw [if_pos c41] at H
                            have LMc41 := Aside0.mk c41
                            clear c41
                            obtain ⟨y201, hy201⟩ : ∃ y_ : List Int, y_ = (x5_4 ++ [t199]) := ⟨_, rfl⟩
                            replace H : (code_reader_session.l3 k4 y201 t195 x43_3 t197 (wrap64 (x47_4 + 1)) s0_0 t200 x173000_1 t186 x173002_2 x173003_3) = some (r1, r2, r3, r4, r5) := by first | (rw [hy201]; with_reducible exact H) | (have H2_ := (Option.bind_some _ _).symm.trans H; rw [hy201]; with_reducible exact H2_) | (have H2_ := (Option.bind_some _ _).symm.trans H; with_reducible exact H2_) | with_reducible exact H | (rw [hy201]; exact H) | exact H
                            have Ny201 := Aside0.mk hy201
                            clear hy201
                            have H' := Aside0.mk H
                            clear H
                            go_wp2_with (first | ((with_reducible refine gate_callee (f := 32) rfl ?_); refine goesL_ (some 51) rfl rfl Try.func32 (by kernel_rfl) rfl #[.pointer (some ⟨g, 0, none⟩)] rfl (by (try simp only [List.map_toArray, List.map_cons, List.map_nil]); first | done | rfl | (simp only [List.length_drop, List.length_take]; rfl)) ?_; (with_reducible refine (code_reader_num.calls k4 g s0_0 x1001_4 t199 t200 w0 _ ?side1 ?side2 A40.out).mono ?_); (case side1 => repeat (first | (with_reducible first | exact HI0.out | apply IsS51.alloc | apply IsS51.drewN | apply IsS51.drew | apply IsS51.set_1 | refine IsS51.far ?_ NB0_171.out _ | refine IsS51.far ?_ NB0_172.out _) | exact HI0.out)); (case side2 => repeat (first | (with_reducible first | exact HB.out | apply below_alloc | apply pw_below_drewN | apply below_drew1 | refine below_set ?_ (IsS51.ge HI0.out) | refine below_set ?_ GE171.out | refine below_set ?_ GE172.out) | exact HB.out)); rintro e w42 ⟨rfl, hi, hb, hk⟩; refine ⟨_, rfl, ?_⟩; have n0_ := Aside0.mk (Kd.R_mono (Kd.R_keep (IsS51.apart (show IsS51 w0 _ g s0_0 x1001_4 from by repeat (first | (with_reducible first | exact HI0.out | apply IsS51.alloc | apply IsS51.drewN | apply IsS51.drew | apply IsS51.set_1 | refine IsS51.far ?_ NB0_171.out _ | refine IsS51.far ?_ NB0_172.out _) | exact HI0.out)) (by (with_reducible repeat (first | apply Kd.R_alloc | apply Kd.R_drewN | apply Kd.R_drew)); exact HO_5.out) (by decide)) hk (fun _ h => h.2)) (fun _ h => h.1)); have n1_ := Aside0.mk (Kd.R_mono (Kd.R_keep (IsS51.apart (show IsS51 w0 _ g s0_0 x1001_4 from by repeat (first | (with_reducible first | exact HI0.out | apply IsS51.alloc | apply IsS51.drewN | apply IsS51.drew | apply IsS51.set_1 | refine IsS51.far ?_ NB0_171.out _ | refine IsS51.far ?_ NB0_172.out _) | exact HI0.out)) (by (with_reducible repeat (first | apply Kd.R_alloc | apply Kd.R_drewN | apply Kd.R_drew)); exact HO_173000.out) (by decide)) hk (fun _ h => h.2)) (fun _ h => h.1)); have n2_ := Aside0.mk (Kd.R_mono (Kd.R_keep (IsS51.apart (show IsS51 w0 _ g s0_0 x1001_4 from by repeat (first | (with_reducible first | exact HI0.out | apply IsS51.alloc | apply IsS51.drewN | apply IsS51.drew | apply IsS51.set_1 | refine IsS51.far ?_ NB0_171.out _ | refine IsS51.far ?_ NB0_172.out _) | exact HI0.out)) (by (with_reducible repeat (first | apply Kd.R_alloc | apply Kd.R_drewN | apply Kd.R_drew)); exact HO_173002.out) (by decide)) hk (fun _ h => h.2)) (fun _ h => h.1)); have n3_ := Aside0.mk (Kd.S_mono (Kd.S_keep (IsS51.apartS (show IsS51 w0 _ g s0_0 x1001_4 from by repeat (first | (with_reducible first | exact HI0.out | apply IsS51.alloc | apply IsS51.drewN | apply IsS51.drew | apply IsS51.set_1 | refine IsS51.far ?_ NB0_171.out _ | refine IsS51.far ?_ NB0_172.out _) | exact HI0.out)) (by (with_reducible repeat (first | apply Kd.S_alloc | apply Kd.S_drewN | apply Kd.S_drew)); exact HO_173003.out) (by decide)) hk (fun _ h => h.2)) (fun _ h => h.1)); have n4_ := Aside0.mk (KeepBut.blk hk (g' := gb171) (o := .cells #[.slice none 0 0, .int .i64 0, .slice none 0 0, .slice none 0 0] 29 (0, 0)) (by (with_reducible repeat (first | refine blk_drewN ?_ _ | refine blk_drew ?_ | refine blk_alloc ?_ _)); exact BK171.out) NB171_0.out (by simp)); have n5_ := Aside0.mk (KeepBut.blk hk (g' := gb172) (o := .cells #[u173000, .int .i64 t186, u173002, u173003] 29 (0, 0)) (by (with_reducible repeat (first | refine blk_drewN ?_ _ | refine blk_drew ?_ | refine blk_alloc ?_ _)); exact BK172.out) NB172_0.out (by simp)); have n6_ := Aside0.mk (KeepBut.trans (by repeat (first | (with_reducible first | exact HK.out | apply KeepBut.set_ | apply keep_drewN | apply keep_drew | apply keep_alloc | refine keep_far ?_ GW171.out _ | refine keep_far ?_ GW172.out _) | exact HK.out)) hk (.inl rfl)); have n7_ := Aside0.mk (hb); have n8_ := Aside0.mk (hi); clear HO_5; clear HO_173000; clear HO_173002; clear HO_173003; clear BK171; clear BK172; clear HK; clear HB; clear HI0; have HO_5 := n0_; have HO_173000 := n1_; have HO_173002 := n2_; have HO_173003 := n3_; have BK171 := n4_; have BK172 := n5_; have HK := n6_; have HB := n7_; have HI0 := n8_; clear n0_ n1_ n2_ n3_ n4_ n5_ n6_ n7_ n8_; (try clear hb); (try clear hb2); (try clear hk); (try clear hi)) | ((with_reducible refine gate_builtin (b := .append) (xs := #[.tmp 49, .tmp 52]) rfl ?_); at_builtin; refine Kd.R_append (Kd.int .i64) w.heap.size rfl (.tmp 49) (.tmp 52) 45 3 (.int .i64 0) 8 rfl Try.underlying45 info3 rfl (by decide) (by omega) u5 x5_4 t199 [.int .i64 t199] (fun _ => True) (fun _ => False) rfl rfl ?aP (fun _ hk => hk.elim) ?aF ?aO (Below.refl _ _) ?aS ?aL ?_; (case aP => exact rfl); (case aF => exact (fun _ _ => trivial)); (case aO => exact (by (with_reducible repeat (first | apply Kd.R_alloc | apply Kd.R_drewN | apply Kd.R_drew)); exact HO_5.out)); (case aS => exact (keep_size (w := w) (g := g) (row := none) (by repeat (first | (with_reducible first | exact HK.out | apply KeepBut.set_ | apply keep_drewN | apply keep_drew | apply keep_alloc | refine keep_far ?_ GW171.out _ | refine keep_far ?_ GW172.out _) | exact HK.out)))); (case aL => have := LMc41.out; omega); intro v202 w43 ho hb hg hat; rw [← Ny201.out] at ho; have n0_ := Aside0.mk (Kd.R_over' (by (with_reducible repeat (first | apply Kd.R_alloc | apply Kd.R_drewN | apply Kd.R_drew)); exact HO_173000.out) (Kd.R_typed (by (with_reducible repeat (first | apply Kd.R_alloc | apply Kd.R_drewN | apply Kd.R_drew)); exact HO_5.out)) (by decide) hg); have n1_ := Aside0.mk (Kd.R_over' (by (with_reducible repeat (first | apply Kd.R_alloc | apply Kd.R_drewN | apply Kd.R_drew)); exact HO_173002.out) (Kd.R_typed (by (with_reducible repeat (first | apply Kd.R_alloc | apply Kd.R_drewN | apply Kd.R_drew)); exact HO_5.out)) (by decide) hg); have n2_ := Aside0.mk (Kd.S_after (ok := (fun _ => True)) (by (with_reducible repeat (first | apply Kd.S_alloc | apply Kd.S_drewN | apply Kd.S_drew)); exact Kd.S_mono HO_173003.out (fun _ hk => by first | exact ⟨trivial, hk⟩ | simp_all)) hg hat); have n3_ := Aside0.mk (blk_grown (g := gb171) (o := .cells #[.slice none 0 0, .int .i64 0, .slice none 0 0, .slice none 0 0] 29 (0, 0)) (by (with_reducible repeat (first | refine blk_drewN ?_ _ | refine blk_drew ?_ | refine blk_alloc ?_ _)); exact BK171.out) hg (Kd.R_ne HO_5.out BK171.out (by decide))); have n4_ := Aside0.mk (blk_grown (g := gb172) (o := .cells #[u173000, .int .i64 t186, u173002, u173003] 29 (0, 0)) (by (with_reducible repeat (first | refine blk_drewN ?_ _ | refine blk_drew ?_ | refine blk_alloc ?_ _)); exact BK172.out) hg (Kd.R_ne HO_5.out BK172.out (by decide))); have n5_ := Aside0.mk (IsS51.grown (by repeat (first | (with_reducible first | exact HI0.out | apply IsS51.alloc | apply IsS51.drewN | apply IsS51.drew | apply IsS51.set_1 | refine IsS51.far ?_ NB0_171.out _ | refine IsS51.far ?_ NB0_172.out _) | exact HI0.out)) hg (IsS51.own_ne HI0.out HO_5.out (by decide))); have n6_ := Aside0.mk (below_weaken (by repeat (first | (with_reducible first | exact HB.out | apply below_alloc | apply pw_below_drewN | apply below_drew1 | refine below_set ?_ (IsS51.ge HI0.out) | refine below_set ?_ GE171.out | refine below_set ?_ GE172.out) | exact HB.out)) HL.out hb); have n7_ := Aside0.mk (KeepBut.trans (by repeat (first | (with_reducible first | exact HK.out | apply KeepBut.set_ | apply keep_drewN | apply keep_drew | apply keep_alloc | refine keep_far ?_ GW171.out _ | refine keep_far ?_ GW172.out _) | exact HK.out)) (KeepBut.of_grown hg g) (Kd.R_base2 HO_5.out)); have n8_ := Aside0.mk (ho); clear HO_173000; clear HO_173002; clear HO_173003; clear BK171; clear BK172; clear HI0; clear HB; clear HK; clear HO_5; have HO_173000 := n0_; have HO_173002 := n1_; have HO_173003 := n2_; have BK171 := n3_; have BK172 := n4_; have HI0 := n5_; have HB := n6_; have HK := n7_; have HO203 := n8_; clear n0_ n1_ n2_ n3_ n4_ n5_ n6_ n7_ n8_; clear ho hb hg hat))
                            go_roundg k4
                            case measure => have := HK1.out; have := HK2.out; have := HK3.out; have := HK4.out; omega
                            case rel => exact ⟨(y201), (wrap64 (x47_4 + 1)), (t200), (by first | rfl | (simp; done) | (simp [*]; done)), H', ⟨by have := HK1.out; have := HK2.out; have := HK3.out; have := HK4.out; omega⟩, ⟨by (with_reducible repeat (first | apply Kd.R_alloc | apply Kd.R_drewN | apply Kd.R_drew)); exact HO203.out⟩, ⟨by (with_reducible repeat (first | apply Kd.R_alloc | apply Kd.R_drewN | apply Kd.R_drew)); exact HO_173000.out⟩, ⟨by (with_reducible repeat (first | apply Kd.R_alloc | apply Kd.R_drewN | apply Kd.R_drew)); exact HO_173002.out⟩, ⟨by (with_reducible repeat (first | apply Kd.S_alloc | apply Kd.S_drewN | apply Kd.S_drew)); exact Kd.S_mono HO_173003.out (fun _ hk => hk.2)⟩, ⟨by (with_reducible repeat (first | refine blk_drewN ?_ _ | refine blk_drew ?_ | refine blk_alloc ?_ _)); exact BK171.out⟩, ⟨by (with_reducible repeat (first | refine blk_drewN ?_ _ | refine blk_drew ?_ | refine blk_alloc ?_ _)); exact BK172.out⟩, ⟨by repeat (first | (with_reducible first | exact HI0.out | apply IsS51.alloc | apply IsS51.drewN | apply IsS51.drew | apply IsS51.set_1 | refine IsS51.far ?_ NB0_171.out _ | refine IsS51.far ?_ NB0_172.out _) | exact HI0.out)⟩, ⟨by repeat (first | (with_reducible first | exact HK.out | apply KeepBut.set_ | apply keep_drewN | apply keep_drew | apply keep_alloc | refine keep_far ?_ GW171.out _ | refine keep_far ?_ GW172.out _) | exact HK.out)⟩, ⟨by repeat (first | (with_reducible first | exact HB.out | apply below_alloc | apply pw_below_drewN | apply below_drew1 | refine below_set ?_ (IsS51.ge HI0.out) | refine below_set ?_ GE171.out | refine below_set ?_ GE172.out) | exact HB.out)⟩⟩
                          · rw [if_neg c41] at H
                            exact absurd H (by simp)
                        · rw [if_neg c39] at H
                          have c39b0 : decide (x47_4 < t197) = false := decide_eq_false c39
                          clear c39
                          by_cases c44 : x173003_3.length < 5864062014805
                          · rw [if_pos c44] at H
                            have LMc44 := Aside0.mk c44
                            clear c44
                            obtain ⟨y204, hy204⟩ : ∃ y_ : List (List Int), y_ = (x173003_3 ++ [x5_4]) := ⟨_, rfl⟩
                            replace H : (code_reader_session.l2 k4 t195 (wrap64 (x43_3 + 1)) s0_0 x1001_4 x173000_1 t186 x173002_2 y204) = some (r1, r2, r3, r4, r5) := by first | (rw [hy204]; with_reducible exact H) | (have H2_ := (Option.bind_some _ _).symm.trans H; rw [hy204]; with_reducible exact H2_) | (have H2_ := (Option.bind_some _ _).symm.trans H; with_reducible exact H2_) | with_reducible exact H | (rw [hy204]; exact H) | exact H
                            have Ny204 := Aside0.mk hy204
                            clear hy204
                            have H' := Aside0.mk H
                            clear H
                            have hnb45 := NB172_171.out
                            have hnc45 := NB171_172.out
                            have hnb46 := NB172_0.out
                            have hnc46 := NB0_172.out
                            have hcz47_0 : wr.cell? ⟨gb172, 0, none⟩ = some (u173000) := (blk_cell BK172.out 0).trans rfl
                            have hcz47_1 : wr.cell? ⟨gb172, 1, none⟩ = some (.int .i64 t186) := (blk_cell BK172.out 1).trans rfl
                            have hcz47_2 : wr.cell? ⟨gb172, 2, none⟩ = some (u173002) := (blk_cell BK172.out 2).trans rfl
                            have hcz47_3 : wr.cell? ⟨gb172, 3, none⟩ = some (u173003) := (blk_cell BK172.out 3).trans rfl
                            have hfz47_0 := blk_frozen BK172.out 0
                            have hfz47_1 := blk_frozen BK172.out 1
                            have hfz47_2 := blk_frozen BK172.out 2
                            have hfz47_3 := blk_frozen BK172.out 3
                            obtain ⟨Ao49, co49, eo49⟩ := Kd.R_slice HO_5.out
                            subst eo49
                            go_wp2_with (first | ((with_reducible refine gate_builtin (b := .append) (xs := #[.tmp 56, .tmp 58]) rfl ?_); at_builtin; refine Kd.S_append (Kd.slice 3 (Kd.int .i64)) w.heap.size rfl (.tmp 56) (.tmp 58) 27 45 (.slice none 0 0) 24 rfl Try.underlying27 info45 rfl (by decide) (by omega) u173003 x173003_3 x5_4 [.slice Ao49 x5_4.length co49] (fun _ => True) (fun k_ => some k_ = (.slice Ao49 x5_4.length co49 : Value).ownBlock) rfl rfl ?aP (fun k_ hk_ => ((Kd.R_mono (ok' := fun k_ => ((fun _ => True)) k_ ∧ some k_ ≠ (u173003 : Value).ownBlock) (Kd.R_apart' (HO_5.out) (Kd.S_typed HO_173003.out) (by decide)) (fun k_ hk => ⟨trivial, hk.2⟩))).1 k_ hk_.symm) ?aF ?aO (Below.refl _ _) ?aS ?aL ?_; (case aP => exact Kd.M_row (Kd.R_mono (Kd.R_tight rfl (Kd.R_mono (ok' := fun k_ => ((fun _ => True)) k_ ∧ some k_ ≠ (u173003 : Value).ownBlock) (Kd.R_apart' (HO_5.out) (Kd.S_typed HO_173003.out) (by decide)) (fun k_ hk => ⟨trivial, hk.2⟩))) (fun _ h_ => h_))); (case aF => exact (fun _ _ => trivial)); (case aO => exact (by (with_reducible repeat (first | apply Kd.S_alloc | apply Kd.S_drewN | apply Kd.S_drew)); exact Kd.S_mono HO_173003.out (fun k_ hk => ⟨trivial, fun e_ => hk e_⟩))); (case aS => exact (keep_size (w := w) (g := g) (row := none) (by repeat (first | (with_reducible first | exact HK.out | apply KeepBut.set_ | apply keep_drewN | apply keep_drew | apply keep_alloc | refine keep_far ?_ GW171.out _ | refine keep_far ?_ GW172.out _) | exact HK.out)))); (case aL => have := LMc44.out; omega); intro v205 w48 ho hb hg hat; rw [← Ny204.out] at ho; have n0_ := Aside0.mk (Kd.R_over' (by (with_reducible repeat (first | apply Kd.R_alloc | apply Kd.R_drewN | apply Kd.R_drew)); exact HO_173000.out) (Kd.S_typed (by (with_reducible repeat (first | apply Kd.S_alloc | apply Kd.S_drewN | apply Kd.S_drew)); exact HO_173003.out)) (by decide) hg); have n1_ := Aside0.mk (Kd.R_over' (by (with_reducible repeat (first | apply Kd.R_alloc | apply Kd.R_drewN | apply Kd.R_drew)); exact HO_173002.out) (Kd.S_typed (by (with_reducible repeat (first | apply Kd.S_alloc | apply Kd.S_drewN | apply Kd.S_drew)); exact HO_173003.out)) (by decide) hg); have n2_ := Aside0.mk (blk_grown (g := gb171) (o := .cells #[.slice none 0 0, .int .i64 0, .slice none 0 0, .slice none 0 0] 29 (0, 0)) (by (with_reducible repeat (first | refine blk_drewN ?_ _ | refine blk_drew ?_ | refine blk_alloc ?_ _)); exact BK171.out) hg (Kd.S_ne HO_173003.out BK171.out (by decide))); have n3_ := Aside0.mk (blk_grown (g := gb172) (o := .cells #[u173000, .int .i64 t186, u173002, u173003] 29 (0, 0)) (by (with_reducible repeat (first | refine blk_drewN ?_ _ | refine blk_drew ?_ | refine blk_alloc ?_ _)); exact BK172.out) hg (Kd.S_ne HO_173003.out BK172.out (by decide))); have n4_ := Aside0.mk (IsS51.grown (by repeat (first | (with_reducible first | exact HI0.out | apply IsS51.alloc | apply IsS51.drewN | apply IsS51.drew | apply IsS51.set_1 | refine IsS51.far ?_ NB0_171.out _ | refine IsS51.far ?_ NB0_172.out _) | exact HI0.out)) hg (IsS51.own_neS HI0.out HO_173003.out (by decide))); have n5_ := Aside0.mk (below_weaken (by repeat (first | (with_reducible first | exact HB.out | apply below_alloc | apply pw_below_drewN | apply below_drew1 | refine below_set ?_ (IsS51.ge HI0.out) | refine below_set ?_ GE171.out | refine below_set ?_ GE172.out) | exact HB.out)) HL.out hb); have n6_ := Aside0.mk (KeepBut.trans (by repeat (first | (with_reducible first | exact HK.out | apply KeepBut.set_ | apply keep_drewN | apply keep_drew | apply keep_alloc | refine keep_far ?_ GW171.out _ | refine keep_far ?_ GW172.out _) | exact HK.out)) (KeepBut.of_grown hg g) (Kd.S_base2 HO_173003.out)); have n7_ := Aside0.mk (ho); clear HO_173000; clear HO_173002; clear BK171; clear BK172; clear HI0; clear HB; clear HK; clear HO_173003; clear HO_5; have HO_173000 := n0_; have HO_173002 := n1_; have BK171 := n2_; have BK172 := n3_; have HI0 := n4_; have HB := n5_; have HK := n6_; have HO206 := n7_; clear n0_ n1_ n2_ n3_ n4_ n5_ n6_ n7_; clear ho hb hg hat; obtain ⟨Ao50, co50, eo50⟩ := Kd.S_slice HO206.out; subst eo50; have hcz51_0 : w48.cell? ⟨gb172, 0, none⟩ = some (u173000) := (blk_cell BK172.out 0).trans rfl; have hcz51_1 : w48.cell? ⟨gb172, 1, none⟩ = some (.int .i64 t186) := (blk_cell BK172.out 1).trans rfl; have hcz51_2 : w48.cell? ⟨gb172, 2, none⟩ = some (u173002) := (blk_cell BK172.out 2).trans rfl; have hcz51_3 : w48.cell? ⟨gb172, 3, none⟩ = some (u173003) := (blk_cell BK172.out 3).trans rfl; have hfz51_0 := blk_frozen BK172.out 0; have hfz51_1 := blk_frozen BK172.out 1; have hfz51_2 := blk_frozen BK172.out 2; have hfz51_3 := blk_frozen BK172.out 3))
                            go_roundg k4
                            case measure => have := HK1.out; have := HK2.out; have := HK3.out; have := HK4.out; omega
                            case rel => exact ⟨(wrap64 (x43_3 + 1)), (x1001_4), (y204), (.slice Ao50 y204.length co50), (by first | rfl | (simp; done) | (simp [*]; done)), H', ⟨by have := HK1.out; have := HK2.out; have := HK3.out; have := HK4.out; omega⟩, ⟨by (with_reducible repeat (first | apply Kd.R_alloc | apply Kd.R_drewN | apply Kd.R_drew)); exact Kd.R_mono (Kd.R_far (p := ⟨gb172, 3, none⟩) (Kd.R_types HO_173000.out BK172.out (by decide)) (fun _ hk => hk.2) (.slice Ao50 y204.length co50)) (fun _ hk => trivial)⟩, ⟨by (with_reducible repeat (first | apply Kd.R_alloc | apply Kd.R_drewN | apply Kd.R_drew)); exact Kd.R_mono (Kd.R_far (p := ⟨gb172, 3, none⟩) (Kd.R_types HO_173002.out BK172.out (by decide)) (fun _ hk => hk.2) (.slice Ao50 y204.length co50)) (fun _ hk => trivial)⟩, ⟨by (with_reducible repeat (first | apply Kd.S_alloc | apply Kd.S_drewN | apply Kd.S_drew)); exact Kd.S_mono (Kd.S_far (p := ⟨gb172, 3, none⟩) (Kd.S_types HO206.out BK172.out (by decide)) (fun _ hk => hk.2) (.slice Ao50 y204.length co50)) (fun _ hk => trivial)⟩, ⟨by (with_reducible repeat (first | refine blk_drewN ?_ _ | refine blk_drew ?_ | refine blk_alloc ?_ _)); refine blk_far ?_ NB171_172.out _; (with_reducible repeat (first | refine blk_drewN ?_ _ | refine blk_drew ?_ | refine blk_alloc ?_ _)); exact BK171.out⟩, ⟨by (with_reducible repeat (first | refine blk_drewN ?_ _ | refine blk_drew ?_ | refine blk_alloc ?_ _)); refine blk_put (cs := #[u173000, .int .i64 t186, u173002, u173003]) ?_ 3 _ rfl; (with_reducible repeat (first | refine blk_drewN ?_ _ | refine blk_drew ?_ | refine blk_alloc ?_ _)); exact BK172.out⟩, ⟨by repeat (first | (with_reducible first | exact HI0.out | apply IsS51.alloc | apply IsS51.drewN | apply IsS51.drew | apply IsS51.set_1 | refine IsS51.far ?_ NB0_171.out _ | refine IsS51.far ?_ NB0_172.out _) | exact HI0.out)⟩, ⟨by repeat (first | (with_reducible first | exact HK.out | apply KeepBut.set_ | apply keep_drewN | apply keep_drew | apply keep_alloc | refine keep_far ?_ GW171.out _ | refine keep_far ?_ GW172.out _) | exact HK.out)⟩, ⟨by repeat (first | (with_reducible first | exact HB.out | apply below_alloc | apply pw_below_drewN | apply below_drew1 | refine below_set ?_ (IsS51.ge HI0.out) | refine below_set ?_ GE171.out | refine below_set ?_ GE172.out) | exact HB.out)⟩⟩
                          · rw [if_neg c44] at H
                            exact absurd H (by simp)
                  · rw [if_neg c36] at H
                    have c36b0 : decide (x43_3 < t195) = false := decide_eq_false c36
                    clear c36
                    simp only [Option.some.injEq, Prod.mk.injEq] at H
                    obtain ⟨rfl, rfl, rfl, rfl, rfl⟩ := H
                    have hnb52 := NB172_171.out
                    have hnc52 := NB171_172.out
                    have hnb53 := NB172_0.out
                    have hnc53 := NB0_172.out
                    have hcz54_0 : wr.cell? ⟨gb172, 0, none⟩ = some (u173000) := (blk_cell BK172.out 0).trans rfl
                    have hcz54_1 : wr.cell? ⟨gb172, 1, none⟩ = some (.int .i64 t186) := (blk_cell BK172.out 1).trans rfl
                    have hcz54_2 : wr.cell? ⟨gb172, 2, none⟩ = some (u173002) := (blk_cell BK172.out 2).trans rfl
                    have hcz54_3 : wr.cell? ⟨gb172, 3, none⟩ = some (u173003) := (blk_cell BK172.out 3).trans rfl
                    have hfz54_0 := blk_frozen BK172.out 0
                    have hfz54_1 := blk_frozen BK172.out 1
                    have hfz54_2 := blk_frozen BK172.out 2
                    have hfz54_3 := blk_frozen BK172.out 3
                    obtain ⟨Ao55, co55, eo55⟩ := Kd.R_slice HO_173000.out
                    subst eo55
                    have hnb56 := NB171_0.out
                    have hnc56 := NB0_171.out
                    have hcz57_0 : wr.cell? ⟨gb171, 0, none⟩ = some (.slice none 0 0) := (blk_cell BK171.out 0).trans rfl
                    have hcz57_1 : wr.cell? ⟨gb171, 1, none⟩ = some (.int .i64 0) := (blk_cell BK171.out 1).trans rfl
                    have hcz57_2 : wr.cell? ⟨gb171, 2, none⟩ = some (.slice none 0 0) := (blk_cell BK171.out 2).trans rfl
                    have hcz57_3 : wr.cell? ⟨gb171, 3, none⟩ = some (.slice none 0 0) := (blk_cell BK171.out 3).trans rfl
                    have hfz57_0 := blk_frozen BK171.out 0
                    have hfz57_1 := blk_frozen BK171.out 1
                    have hfz57_2 := blk_frozen BK171.out 2
                    have hfz57_3 := blk_frozen BK171.out 3
                    obtain ⟨Ao58, co58, eo58⟩ := Kd.R_slice HO_173002.out
                    subst eo58
                    obtain ⟨Ao59, co59, eo59⟩ := Kd.S_slice HO_173003.out
                    subst eo59
                    go_wp2
                    refine bodyPost_ret (results_cell_row rfl _ _ gb171 29 #[.slice Ao55 x173000_1.length co55, .int .i64 t186, .slice Ao58 x173002_2.length co58, .slice Ao59 x173003_3.length co59] (0, 0) _ rfl (by (with_reducible repeat (first | refine blk_drewN ?_ _ | refine blk_drew ?_ | refine blk_alloc ?_ _)); refine blk_put (cs := #[.slice Ao55 x173000_1.length co55, .int .i64 t186, .slice Ao58 x173002_2.length co58, .slice none 0 0]) ?_ 3 _ rfl; (with_reducible repeat (first | refine blk_drewN ?_ _ | refine blk_drew ?_ | refine blk_alloc ?_ _)); refine blk_put (cs := #[.slice Ao55 x173000_1.length co55, .int .i64 t186, .slice none 0 0, .slice none 0 0]) ?_ 2 _ rfl; (with_reducible repeat (first | refine blk_drewN ?_ _ | refine blk_drew ?_ | refine blk_alloc ?_ _)); refine blk_put (cs := #[.slice Ao55 x173000_1.length co55, .int .i64 0, .slice none 0 0, .slice none 0 0]) ?_ 1 _ rfl; (with_reducible repeat (first | refine blk_drewN ?_ _ | refine blk_drew ?_ | refine blk_alloc ?_ _)); refine blk_put (cs := #[.slice none 0 0, .int .i64 0, .slice none 0 0, .slice none 0 0]) ?_ 0 _ rfl; (with_reducible repeat (first | refine blk_drewN ?_ _ | refine blk_drew ?_ | refine blk_alloc ?_ _)); exact BK171.out) Try.underlying29 rfl (by kernel_rfl)) rfl ?_
                    exact ⟨_, _, _, by first | rfl | (simp [errW_none, errW_some] <;> rfl) | (simp [*, errW_none, errW_some] <;> rfl), by (with_reducible repeat (first | apply Kd.R_alloc | apply Kd.R_drewN | apply Kd.R_drew)); exact Kd.R_mono (Kd.R_far (p := ⟨gb171, 3, none⟩) (Kd.R_far (p := ⟨gb171, 2, none⟩) (Kd.R_far (p := ⟨gb171, 1, none⟩) (Kd.R_far (p := ⟨gb171, 0, none⟩) (Kd.R_types HO_173000.out BK171.out (by decide)) (fun _ hk => hk.2) (.slice Ao55 x173000_1.length co55)) (fun _ hk => hk.2) (.int .i64 t186)) (fun _ hk => hk.2) (.slice Ao58 x173002_2.length co58)) (fun _ hk => hk.2) (.slice Ao59 x173003_3.length co59)) (fun _ hk => trivial), by (with_reducible repeat (first | apply Kd.R_alloc | apply Kd.R_drewN | apply Kd.R_drew)); exact Kd.R_mono (Kd.R_far (p := ⟨gb171, 3, none⟩) (Kd.R_far (p := ⟨gb171, 2, none⟩) (Kd.R_far (p := ⟨gb171, 1, none⟩) (Kd.R_far (p := ⟨gb171, 0, none⟩) (Kd.R_types HO_173002.out BK171.out (by decide)) (fun _ hk => hk.2) (.slice Ao55 x173000_1.length co55)) (fun _ hk => hk.2) (.int .i64 t186)) (fun _ hk => hk.2) (.slice Ao58 x173002_2.length co58)) (fun _ hk => hk.2) (.slice Ao59 x173003_3.length co59)) (fun _ hk => trivial), by (with_reducible repeat (first | apply Kd.S_alloc | apply Kd.S_drewN | apply Kd.S_drew)); exact Kd.S_mono (Kd.S_far (p := ⟨gb171, 3, none⟩) (Kd.S_far (p := ⟨gb171, 2, none⟩) (Kd.S_far (p := ⟨gb171, 1, none⟩) (Kd.S_far (p := ⟨gb171, 0, none⟩) (Kd.S_types HO_173003.out BK171.out (by decide)) (fun _ hk => hk.2) (.slice Ao55 x173000_1.length co55)) (fun _ hk => hk.2) (.int .i64 t186)) (fun _ hk => hk.2) (.slice Ao58 x173002_2.length co58)) (fun _ hk => hk.2) (.slice Ao59 x173003_3.length co59)) (fun _ hk => trivial), by repeat (first | (with_reducible first | exact HI0.out | apply IsS51.alloc | apply IsS51.drewN | apply IsS51.drew | apply IsS51.set_1 | refine IsS51.far ?_ NB0_171.out _ | refine IsS51.far ?_ NB0_172.out _) | exact HI0.out), by repeat (first | (with_reducible first | exact HB.out | apply below_alloc | apply pw_below_drewN | apply below_drew1 | refine below_set ?_ (IsS51.ge HI0.out) | refine below_set ?_ GE171.out | refine below_set ?_ GE172.out) | exact HB.out), by repeat (first | (with_reducible first | exact HK.out | apply KeepBut.set_ | apply keep_drewN | apply keep_drew | apply keep_alloc | refine keep_far ?_ GW171.out _ | refine keep_far ?_ GW172.out _) | exact HK.out)⟩

end Go.Proofs.Ytgbhejkgnfkfgaa.PCodeRuns
