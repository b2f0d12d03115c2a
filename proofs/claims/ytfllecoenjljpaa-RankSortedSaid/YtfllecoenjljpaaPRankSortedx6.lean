-- Printed by a program of this session's own (wip/tools: a turned copy of the kit's print).
import Derived.Test.YtfllecoenjljpaaPRankSortedx0
import Derived.Test.YtfllecoenjljpaaSortRankSorted
import Derived.Test.YtfllecoenjljpaaPRankSortedx1
import Derived.Test.YtfllecoenjljpaaPRankSortedx2
import Derived.Test.YtfllecoenjljpaaPRankSortedx3
import Derived.Test.YtfllecoenjljpaaPRankSortedx4
import Derived.Test.YtfllecoenjljpaaPRankSortedx5
namespace Go.Proofs.Ytfllecoenjljpaa.PRankSorted
open Go.Proofs.Ytfllecoenjljpaa.Given
open Go.RowKit Go.Proofs.YtfllecoenjljpaaW.PrintWords Go.Proofs.YtfllecoenjljpaaW.PrintLast Go.Proofs.YtfllecoenjljpaaW.PrintMore
attribute [local go_sem] max2_int min2_int max_two min_two max_three min_three max_four min_four   -- for this text's walks alone
set_option linter.unusedVariables false
set_option linter.unusedSimpArgs false

/-! ### porticolaw6_RankSorted: function 6 -/
mutual
noncomputable def porticolaw6_RankSorted.j0 : Nat → List (List (S23)) → List (List (S23)) → List Int → List Int → List Int → Bool → Option (Bool)
 | 0, _, _, _, _, _, _ => none
 | k + 1, x7, x9, x10, x11, x12, x63 => if x63 = true then (none) else (porticolaw6_RankSorted.l0 k x7 x9 x10 x11 ([] : List Int) x12 (x12.length : Int) 0)
noncomputable def porticolaw6_RankSorted.l0 : Nat → List (List (S23)) → List (List (S23)) → List Int → List Int → List Int → List Int → Int → Int → Option (Bool)
 | 0, _, _, _, _, _, _, _, _ => none
 | k + 1, x7, x9, x10, x11, x13, x64, x65, x66 => if x66 < x65 then (if 0 ≤ x66 then (if x66 < (x64.length : Int) then (if (rd x64 x66) = (x7.length : Int) then (porticolaw6_RankSorted.l0 k x7 x9 x10 x11 x13 x64 x65 (wrap64 (x66 + 1))) else (if x13.length < 17592186044416 then (porticolaw6_RankSorted.l0 k x7 x9 x10 x11 (x13 ++ [rd x64 x66]) x64 x65 (wrap64 (x66 + 1))) else (none))) else (none)) else (none)) else (porticolaw6_RankSorted.l1 k x7 x9 x10 x11 x13 (x10.length : Int) 0)
noncomputable def porticolaw6_RankSorted.l1 : Nat → List (List (S23)) → List (List (S23)) → List Int → List Int → List Int → Int → Int → Option (Bool)
 | 0, _, _, _, _, _, _, _ => none
 | k + 1, x7, x9, x10, x11, x13, x80, x81 => if x81 < x80 then (if 0 ≤ x81 then (if x81 < (x10.length : Int) then (if (rd x10 x81) < 0 then (none) else (if (rd x10 x81) ≥ (x7.length : Int) then (none) else (if x81 < (x11.length : Int) then (if (rd x11 x81) < 0 then (none) else (if (rd x11 x81) ≥ (x7.length : Int) then (none) else (if 0 ≤ (rd x10 x81) then (if (rd x10 x81) < (x7.length : Int) then (if 0 ≤ (rd x11 x81) then (if (rd x11 x81) < (x9.length : Int) then ((rank_Compare.f k (rd_L3 x7 (rd x10 x81)) (rd_L3 x9 (rd x11 x81))).bind fun t277 => (if t277 = 0 then (porticolaw6_RankSorted.l1 k x7 x9 x10 x11 x13 x80 (wrap64 (x81 + 1))) else (none))) else (none)) else (none)) else (none)) else (none)))) else (none)))) else (none)) else (none)) else ((porticobook_Same_int.f k x13 x10).bind fun t278 => (if t278 = true then (if (x7.length : Int) = 0 then ((porticolaw6_RankRuns.f k).bind fun t279 => (some t279)) else ((rank_First.f k x7).bind fun t280 => (if 0 < (x10.length : Int) then (if t280 = (rd x10 0) then ((porticolaw6_RankRuns.f k).bind fun t282 => (some t282)) else (none)) else (none)))) else (none)))
end
noncomputable def porticolaw6_RankSorted.f (k : Nat) (l0 : List (S31)) (a1 : Int) (l2_0 : List Int) (l2_1 : List Int) (a2_2 : Int) : Option (Bool) := (porticolaw6_some.f k l0 ([] : List (List (S23)))).bind fun t221 => ((porticobook_Within.f a1 0 (t221.length : Int)).bind fun t224 => ((some (([] : List (List (S23))) : List (List (S23)))).bind fun y225 => (if 0 ≤ t224 then (if t224 ≤ (t221.length : Int) then ((some (t221.drop (t224 : Int).toNat : List (List (S23)))).bind fun y228 => (if y225.length + y228.length < 5864062014805 then ((some (y225 ++ y228 : List (List (S23)))).bind fun y233 => ((some (t221.take (t224 : Int).toNat : List (List (S23)))).bind fun y236 => (if y233.length + y236.length < 5864062014805 then ((some (y233 ++ y236 : List (List (S23)))).bind fun y241 => ((rank_Sorted.f t221).bind fun t244 => ((rank_Sorted.f y241).bind fun t247 => ((some (([] : List (List (S23))) : List (List (S23)))).bind fun y250 => (if y250.length + t221.length < 5864062014805 then ((some (y250 ++ t221 : List (List (S23)))).bind fun y253 => ((porticokeep_Pattern_Segs.f k l2_0 l2_1 a2_2).bind fun t256 => (if y253.length < 5864062014805 then ((rank_Sorted.f (y253 ++ [t256])).bind fun t262 => (if (t244.length : Int) = (t221.length : Int) then (if (t247.length : Int) = (t221.length : Int) then (porticolaw6_RankSorted.j0 k t221 y241 t244 t247 t262 ((t262.length : Int) != (wrap64 ((t221.length : Int) + 1)))) else (porticolaw6_RankSorted.j0 k t221 y241 t244 t247 t262 true)) else (porticolaw6_RankSorted.j0 k t221 y241 t244 t247 t262 true))) else (none)))) else (none)))))) else (none)))) else (none))) else (none)) else (none))))
theorem porticolaw6_RankSorted.mono_l : ∀ k, (∀ y0 y1 y2 y3 y4 y5, LeO (porticolaw6_RankSorted.j0 k y0 y1 y2 y3 y4 y5) (porticolaw6_RankSorted.j0 (k + 1) y0 y1 y2 y3 y4 y5)) ∧ (∀ y0 y1 y2 y3 y4 y5 y6 y7, LeO (porticolaw6_RankSorted.l0 k y0 y1 y2 y3 y4 y5 y6 y7) (porticolaw6_RankSorted.l0 (k + 1) y0 y1 y2 y3 y4 y5 y6 y7)) ∧ (∀ y0 y1 y2 y3 y4 y5 y6, LeO (porticolaw6_RankSorted.l1 k y0 y1 y2 y3 y4 y5 y6) (porticolaw6_RankSorted.l1 (k + 1) y0 y1 y2 y3 y4 y5 y6))
 | 0 => ⟨fun _ _ _ _ _ _ r h => by simp [porticolaw6_RankSorted.j0] at h, fun _ _ _ _ _ _ _ _ r h => by simp [porticolaw6_RankSorted.l0] at h, fun _ _ _ _ _ _ _ r h => by simp [porticolaw6_RankSorted.l1] at h⟩
 | k + 1 => by
  obtain ⟨ih0, ih1, ih2⟩ := porticolaw6_RankSorted.mono_l k
  refine ⟨?_, ?_, ?_⟩
  ·
   intro y0 y1 y2 y3 y4 y5
   unfold porticolaw6_RankSorted.j0
   repeat' first
   | (with_reducible exact ih0 _ _ _ _ _ _)
   | (with_reducible exact ih1 _ _ _ _ _ _ _ _)
   | (with_reducible exact ih2 _ _ _ _ _ _ _)
   | (with_reducible exact porticobook_Same_int.mono _ _ _)
   | (with_reducible exact porticokeep_Pattern_Segs.mono _ _ _ _)
   | (with_reducible exact porticolaw6_RankRuns.mono _)
   | (with_reducible exact porticolaw6_some.mono _ _ _)
   | (with_reducible exact rank_Compare.mono _ _ _)
   | (with_reducible exact rank_First.mono _ _)
   | (with_reducible exact LeO.refl _)
   | (with_reducible exact LeO.none _)
   | (with_reducible refine LeO.ite ?_ ?_)
   | (with_reducible refine LeO.bind ?_ (fun _ => ?_))
   | exact ih0 _ _ _ _ _ _
   | exact ih1 _ _ _ _ _ _ _ _
   | exact ih2 _ _ _ _ _ _ _
   | exact porticobook_Same_int.mono _ _ _
   | exact porticokeep_Pattern_Segs.mono _ _ _ _
   | exact porticolaw6_RankRuns.mono _
   | exact porticolaw6_some.mono _ _ _
   | exact rank_Compare.mono _ _ _
   | exact rank_First.mono _ _
   | exact LeO.none _
   | refine LeO.ite ?_ ?_
   | refine LeO.bind ?_ (fun _ => ?_)
  ·
   intro y0 y1 y2 y3 y4 y5 y6 y7
   unfold porticolaw6_RankSorted.l0
   repeat' first
   | (with_reducible exact ih0 _ _ _ _ _ _)
   | (with_reducible exact ih1 _ _ _ _ _ _ _ _)
   | (with_reducible exact ih2 _ _ _ _ _ _ _)
   | (with_reducible exact porticobook_Same_int.mono _ _ _)
   | (with_reducible exact porticokeep_Pattern_Segs.mono _ _ _ _)
   | (with_reducible exact porticolaw6_RankRuns.mono _)
   | (with_reducible exact porticolaw6_some.mono _ _ _)
   | (with_reducible exact rank_Compare.mono _ _ _)
   | (with_reducible exact rank_First.mono _ _)
   | (with_reducible exact LeO.refl _)
   | (with_reducible exact LeO.none _)
   | (with_reducible refine LeO.ite ?_ ?_)
   | (with_reducible refine LeO.bind ?_ (fun _ => ?_))
   | exact ih0 _ _ _ _ _ _
   | exact ih1 _ _ _ _ _ _ _ _
   | exact ih2 _ _ _ _ _ _ _
   | exact porticobook_Same_int.mono _ _ _
   | exact porticokeep_Pattern_Segs.mono _ _ _ _
   | exact porticolaw6_RankRuns.mono _
   | exact porticolaw6_some.mono _ _ _
   | exact rank_Compare.mono _ _ _
   | exact rank_First.mono _ _
   | exact LeO.none _
   | refine LeO.ite ?_ ?_
   | refine LeO.bind ?_ (fun _ => ?_)
  ·
   intro y0 y1 y2 y3 y4 y5 y6
   unfold porticolaw6_RankSorted.l1
   repeat' first
   | (with_reducible exact ih0 _ _ _ _ _ _)
   | (with_reducible exact ih1 _ _ _ _ _ _ _ _)
   | (with_reducible exact ih2 _ _ _ _ _ _ _)
   | (with_reducible exact porticobook_Same_int.mono _ _ _)
   | (with_reducible exact porticokeep_Pattern_Segs.mono _ _ _ _)
   | (with_reducible exact porticolaw6_RankRuns.mono _)
   | (with_reducible exact porticolaw6_some.mono _ _ _)
   | (with_reducible exact rank_Compare.mono _ _ _)
   | (with_reducible exact rank_First.mono _ _)
   | (with_reducible exact LeO.refl _)
   | (with_reducible exact LeO.none _)
   | (with_reducible refine LeO.ite ?_ ?_)
   | (with_reducible refine LeO.bind ?_ (fun _ => ?_))
   | exact ih0 _ _ _ _ _ _
   | exact ih1 _ _ _ _ _ _ _ _
   | exact ih2 _ _ _ _ _ _ _
   | exact porticobook_Same_int.mono _ _ _
   | exact porticokeep_Pattern_Segs.mono _ _ _ _
   | exact porticolaw6_RankRuns.mono _
   | exact porticolaw6_some.mono _ _ _
   | exact rank_Compare.mono _ _ _
   | exact rank_First.mono _ _
   | exact LeO.none _
   | refine LeO.ite ?_ ?_
   | refine LeO.bind ?_ (fun _ => ?_)
theorem porticolaw6_RankSorted.mono : ∀ a0 a1 a2 a3 a4 k, LeO (porticolaw6_RankSorted.f k a0 a1 a2 a3 a4) (porticolaw6_RankSorted.f (k + 1) a0 a1 a2 a3 a4) := by
 intro a0 a1 a2 a3 a4 k
 obtain ⟨ih0, ih1, ih2⟩ := porticolaw6_RankSorted.mono_l k
 unfold porticolaw6_RankSorted.f
 repeat' first
   | (with_reducible exact ih0 _ _ _ _ _ _)
   | (with_reducible exact ih1 _ _ _ _ _ _ _ _)
   | (with_reducible exact ih2 _ _ _ _ _ _ _)
   | (with_reducible exact porticobook_Same_int.mono _ _ _)
   | (with_reducible exact porticokeep_Pattern_Segs.mono _ _ _ _)
   | (with_reducible exact porticolaw6_RankRuns.mono _)
   | (with_reducible exact porticolaw6_some.mono _ _ _)
   | (with_reducible exact rank_Compare.mono _ _ _)
   | (with_reducible exact rank_First.mono _ _)
   | (with_reducible exact LeO.refl _)
   | (with_reducible exact LeO.none _)
   | (with_reducible refine LeO.ite ?_ ?_)
   | (with_reducible refine LeO.bind ?_ (fun _ => ?_))
   | exact ih0 _ _ _ _ _ _
   | exact ih1 _ _ _ _ _ _ _ _
   | exact ih2 _ _ _ _ _ _ _
   | exact porticobook_Same_int.mono _ _ _
   | exact porticokeep_Pattern_Segs.mono _ _ _ _
   | exact porticolaw6_RankRuns.mono _
   | exact porticolaw6_some.mono _ _ _
   | exact rank_Compare.mono _ _ _
   | exact rank_First.mono _ _
   | exact LeO.none _
   | refine LeO.ite ?_ ?_
   | refine LeO.bind ?_ (fun _ => ?_)
def porticolaw6_RankSorted.T3 : Bool × List (List Nat × List Nat) := (true, [([], []), ([], []), ([], []), ([1, 2], [1, 2]), ([0, 3], [0, 3]), ([], []), ([], []), ([5, 6], [5, 6]), ([4, 7, 4], [4, 7]), ([8, 8, 0, 1, 2, 3, 4, 5, 6, 7, 8], [8])])
def porticolaw6_RankSorted.B3 : List Nat := [0, 0, 0, 6, 15, 0, 0, 96, 255, 511]
theorem porticolaw6_RankSorted.tab3 : rtab .any (opsOf Try.f6 3) = porticolaw6_RankSorted.T3 := by kernel_rfl
theorem porticolaw6_RankSorted.bits3 : waitsOk porticolaw6_RankSorted.T3.2 porticolaw6_RankSorted.B3 = true := by kernel_rfl
def porticolaw6_RankSorted.T5 : Bool × List (List Nat × List Nat) := (true, [([], []), ([], []), ([0, 1], [0, 1]), ([], []), ([3, 2], [3]), ([4], [4]), ([2, 5, 4], [2, 5]), ([6, 6], [6]), ([7, 7, 0, 1, 2, 3, 4, 5, 6, 7], [7])])
def porticolaw6_RankSorted.B5 : List Nat := [0, 0, 3, 0, 15, 31, 63, 127, 255]
theorem porticolaw6_RankSorted.tab5 : rtab .any (opsOf Try.f6 5) = porticolaw6_RankSorted.T5 := by kernel_rfl
theorem porticolaw6_RankSorted.bits5 : waitsOk porticolaw6_RankSorted.T5.2 porticolaw6_RankSorted.B5 = true := by kernel_rfl
def porticolaw6_RankSorted.T18 : Bool × List (List Nat × List Nat) := (true, [([], []), ([], []), ([0, 1], [0, 1]), ([2], [2]), ([3], [3]), ([4], [4]), ([5], [5]), ([5], [5]), ([6, 7, 5], [5, 6, 7]), ([8, 5], [5, 8]), ([5], [5]), ([10, 5], [5, 10]), ([9, 11, 5], [5, 9, 11]), ([5, 12], [5, 12]), ([13, 5], [13]), ([14], [14]), ([14], [14]), ([15, 16, 14], [14, 15, 16]), ([17, 14], [14, 17]), ([18, 14], [14, 18]), ([14, 19], [14, 19]), ([20, 14], [20]), ([21], [21]), ([21], [21]), ([22, 23, 21], [21, 22, 23]), ([24, 21], [21, 24]), ([21], [21]), ([26, 21], [21, 26]), ([25, 27, 21], [21, 25, 27]), ([21, 28], [21, 28]), ([29, 21], [29]), ([30], [30]), ([30], [30]), ([30], [30]), ([32, 33, 30], [30, 32, 33]), ([34, 30], [30, 34]), ([31, 35, 30], [30, 31, 35]), ([36, 30], [30, 36]), ([30], [30]), ([30], [30]), ([30], [30]), ([39, 40, 30], [30, 39, 40]), ([41, 30], [30, 41]), ([38, 42, 30], [30, 38, 42]), ([43, 30], [30, 43]), ([37, 44, 30, 30], [30, 37, 44]), ([45, 30], [30, 45]), ([30, 46], [30, 46])])
def porticolaw6_RankSorted.B18 : List Nat := [0, 0, 3, 7, 15, 31, 63, 63, 255, 511, 63, 1087, 4095, 8191, 16383, 32767, 32767, 131071, 262143, 524287, 1048575, 2097151, 4194303, 4194303, 16777215, 33554431, 4194303, 71303167, 268435455, 536870911, 1073741823, 2147483647, 2147483647, 2147483647, 15032385535, 32212254719, 68719476735, 137438953471, 2147483647, 2147483647, 2147483647, 1651414925311, 3850438180863, 8523362598911, 17319455621119, 35184372088831, 70368744177663, 140737488355327]
theorem porticolaw6_RankSorted.tab18 : rtab .any (opsOf Try.f6 18) = porticolaw6_RankSorted.T18 := by kernel_rfl
theorem porticolaw6_RankSorted.bits18 : waitsOk porticolaw6_RankSorted.T18.2 porticolaw6_RankSorted.B18 = true := by kernel_rfl
def porticolaw6_RankSorted.T21 : Bool × List (List Nat × List Nat) := (true, [([], []), ([], []), ([0, 1], [0, 1]), ([2, 2], [2]), ([3], [3]), ([4, 3], [3, 4]), ([5, 3], [3, 5]), ([6, 3, 3], [3, 6]), ([7], [7]), ([8, 7, 7], [7, 8]), ([7], [7]), ([10, 7], [7, 10]), ([11, 7], [7, 11]), ([9, 12, 7], [7, 9, 12]), ([7, 13, 3], [3, 7, 13]), ([3, 14], [3, 14]), ([15, 9], [15]), ([16, 16], [16]), ([16, 17], [16, 17]), ([18, 17, 0, 1, 2, 3, 4, 5, 6, 7, 8, 9, 10, 11, 12, 13, 14, 15, 16, 17, 18], [18])])
def porticolaw6_RankSorted.B21 : List Nat := [0, 0, 3, 7, 15, 31, 63, 127, 255, 511, 255, 1279, 3327, 8191, 16383, 32767, 65535, 131071, 262143, 524287]
theorem porticolaw6_RankSorted.tab21 : rtab .any (opsOf Try.f6 21) = porticolaw6_RankSorted.T21 := by kernel_rfl
theorem porticolaw6_RankSorted.bits21 : waitsOk porticolaw6_RankSorted.T21.2 porticolaw6_RankSorted.B21 = true := by kernel_rfl
set_option maxHeartbeats 8000000 in
set_option maxRecDepth 100000 in
theorem porticolaw6_RankSorted.calls (k : Nat) (A0 : Option Addr) (c0 : Nat) (l0 : List (S31)) (a1 : Int) (A2_0 : Option Addr) (c2_0 : Nat) (l2_0 : List Int) (A2_1 : Option Addr) (c2_1 : Nat) (l2_1 : List Int) (a2_2 : Int) (r : Bool) (w : World) (hr0 : Kd.C k31 w A0 l0.length l0) (hc0 : l0.length ≤ c0) (hr2_0 : Kd.C (Kd.int .i64) w A2_0 l2_0.length l2_0) (hc2_0 : l2_0.length ≤ c2_0) (hr2_1 : Kd.C (Kd.int .i64) w A2_1 l2_1.length l2_1) (hc2_1 : l2_1.length ≤ c2_1) (h : porticolaw6_RankSorted.f k l0 a1 l2_0 l2_1 a2_2 = some r) :
  Calls Try.prog 6 #[.slice A0 l0.length c0, .int .i64 a1, .agg #[.slice A2_0 l2_0.length c2_0, .slice A2_1 l2_1.length c2_1, .int .i64 a2_2]] w fun e w' => e = .returned (.bool r) ∧ Below w.heap.size w w' := by
 have hu31 := Try.underlying31
 have HR0 := Aside0.mk hr0
 have HC0 := Aside0.mk hc0
 clear hr0 hc0
 have HR2_0 := Aside0.mk hr2_0
 have HC2_0 := Aside0.mk hc2_0
 clear hr2_0 hc2_0
 have HR2_1 := Aside0.mk hr2_1
 have HC2_1 := Aside0.mk hc2_1
 clear hr2_1 hc2_1
 have HB := Aside0.mk (Below.refl w.heap.size w)
 have H : ((porticolaw6_some.f k l0 ([] : List (List (S23)))).bind fun t221 => ((porticobook_Within.f a1 0 (t221.length : Int)).bind fun t224 => ((some (([] : List (List (S23))) : List (List (S23)))).bind fun y225 => (if 0 ≤ t224 then (if t224 ≤ (t221.length : Int) then ((some (t221.drop (t224 : Int).toNat : List (List (S23)))).bind fun y228 => (if y225.length + y228.length < 5864062014805 then ((some (y225 ++ y228 : List (List (S23)))).bind fun y233 => ((some (t221.take (t224 : Int).toNat : List (List (S23)))).bind fun y236 => (if y233.length + y236.length < 5864062014805 then ((some (y233 ++ y236 : List (List (S23)))).bind fun y241 => ((rank_Sorted.f t221).bind fun t244 => ((rank_Sorted.f y241).bind fun t247 => ((some (([] : List (List (S23))) : List (List (S23)))).bind fun y250 => (if y250.length + t221.length < 5864062014805 then ((some (y250 ++ t221 : List (List (S23)))).bind fun y253 => ((porticokeep_Pattern_Segs.f k l2_0 l2_1 a2_2).bind fun t256 => (if y253.length < 5864062014805 then ((rank_Sorted.f (y253 ++ [t256])).bind fun t262 => (if (t244.length : Int) = (t221.length : Int) then (if (t247.length : Int) = (t221.length : Int) then (porticolaw6_RankSorted.j0 k t221 y241 t244 t247 t262 ((t262.length : Int) != (wrap64 ((t221.length : Int) + 1)))) else (porticolaw6_RankSorted.j0 k t221 y241 t244 t247 t262 true)) else (porticolaw6_RankSorted.j0 k t221 y241 t244 t247 t262 true))) else (none)))) else (none)))))) else (none)))) else (none))) else (none)) else (none))))) = some r := h
 clear h
 replace H := Option.bind_eq_some_iff.mp H
 obtain ⟨t221, A40, H⟩ := H
 replace H : ((porticobook_Within.f a1 0 (t221.length : Int)).bind fun t224 => ((some (([] : List (List (S23))) : List (List (S23)))).bind fun y225 => (if 0 ≤ t224 then (if t224 ≤ (t221.length : Int) then ((some (t221.drop (t224 : Int).toNat : List (List (S23)))).bind fun y228 => (if y225.length + y228.length < 5864062014805 then ((some (y225 ++ y228 : List (List (S23)))).bind fun y233 => ((some (t221.take (t224 : Int).toNat : List (List (S23)))).bind fun y236 => (if y233.length + y236.length < 5864062014805 then ((some (y233 ++ y236 : List (List (S23)))).bind fun y241 => ((rank_Sorted.f t221).bind fun t244 => ((rank_Sorted.f y241).bind fun t247 => ((some (([] : List (List (S23))) : List (List (S23)))).bind fun y250 => (if y250.length + t221.length < 5864062014805 then ((some (y250 ++ t221 : List (List (S23)))).bind fun y253 => ((porticokeep_Pattern_Segs.f k l2_0 l2_1 a2_2).bind fun t256 => (if y253.length < 5864062014805 then ((rank_Sorted.f (y253 ++ [t256])).bind fun t262 => (if (t244.length : Int) = (t221.length : Int) then (if (t247.length : Int) = (t221.length : Int) then (porticolaw6_RankSorted.j0 k t221 y241 t244 t247 t262 ((t262.length : Int) != (wrap64 ((t221.length : Int) + 1)))) else (porticolaw6_RankSorted.j0 k t221 y241 t244 t247 t262 true)) else (porticolaw6_RankSorted.j0 k t221 y241 t244 t247 t262 true))) else (none)))) else (none)))))) else (none)))) else (none))) else (none)) else (none)))) = some r := H
 have A4 := Aside0.mk A40
 clear A40
 replace H := Option.bind_eq_some_iff.mp H
 obtain ⟨t224, A50, H⟩ := H
 replace H : ((some (([] : List (List (S23))) : List (List (S23)))).bind fun y225 => (if 0 ≤ t224 then (if t224 ≤ (t221.length : Int) then ((some (t221.drop (t224 : Int).toNat : List (List (S23)))).bind fun y228 => (if y225.length + y228.length < 5864062014805 then ((some (y225 ++ y228 : List (List (S23)))).bind fun y233 => ((some (t221.take (t224 : Int).toNat : List (List (S23)))).bind fun y236 => (if y233.length + y236.length < 5864062014805 then ((some (y233 ++ y236 : List (List (S23)))).bind fun y241 => ((rank_Sorted.f t221).bind fun t244 => ((rank_Sorted.f y241).bind fun t247 => ((some (([] : List (List (S23))) : List (List (S23)))).bind fun y250 => (if y250.length + t221.length < 5864062014805 then ((some (y250 ++ t221 : List (List (S23)))).bind fun y253 => ((porticokeep_Pattern_Segs.f k l2_0 l2_1 a2_2).bind fun t256 => (if y253.length < 5864062014805 then ((rank_Sorted.f (y253 ++ [t256])).bind fun t262 => (if (t244.length : Int) = (t221.length : Int) then (if (t247.length : Int) = (t221.length : Int) then (porticolaw6_RankSorted.j0 k t221 y241 t244 t247 t262 ((t262.length : Int) != (wrap64 ((t221.length : Int) + 1)))) else (porticolaw6_RankSorted.j0 k t221 y241 t244 t247 t262 true)) else (porticolaw6_RankSorted.j0 k t221 y241 t244 t247 t262 true))) else (none)))) else (none)))))) else (none)))) else (none))) else (none)) else (none))) = some r := H
 have A5 := Aside0.mk A50
 clear A50
 obtain ⟨y225, hy225⟩ : ∃ y_ : List (List (S23)), y_ = (([] : List (List (S23)))) := ⟨_, rfl⟩
 replace H : (if 0 ≤ t224 then (if t224 ≤ (t221.length : Int) then ((some (t221.drop (t224 : Int).toNat : List (List (S23)))).bind fun y228 => (if y225.length + y228.length < 5864062014805 then ((some (y225 ++ y228 : List (List (S23)))).bind fun y233 => ((some (t221.take (t224 : Int).toNat : List (List (S23)))).bind fun y236 => (if y233.length + y236.length < 5864062014805 then ((some (y233 ++ y236 : List (List (S23)))).bind fun y241 => ((rank_Sorted.f t221).bind fun t244 => ((rank_Sorted.f y241).bind fun t247 => ((some (([] : List (List (S23))) : List (List (S23)))).bind fun y250 => (if y250.length + t221.length < 5864062014805 then ((some (y250 ++ t221 : List (List (S23)))).bind fun y253 => ((porticokeep_Pattern_Segs.f k l2_0 l2_1 a2_2).bind fun t256 => (if y253.length < 5864062014805 then ((rank_Sorted.f (y253 ++ [t256])).bind fun t262 => (if (t244.length : Int) = (t221.length : Int) then (if (t247.length : Int) = (t221.length : Int) then (porticolaw6_RankSorted.j0 k t221 y241 t244 t247 t262 ((t262.length : Int) != (wrap64 ((t221.length : Int) + 1)))) else (porticolaw6_RankSorted.j0 k t221 y241 t244 t247 t262 true)) else (porticolaw6_RankSorted.j0 k t221 y241 t244 t247 t262 true))) else (none)))) else (none)))))) else (none)))) else (none))) else (none)) else (none)) = some r := by first | (rw [hy225]; with_reducible exact H) | (have H2_ := (Option.bind_some _ _).symm.trans H; rw [hy225]; with_reducible exact H2_) | (have H2_ := (Option.bind_some _ _).symm.trans H; with_reducible exact H2_) | with_reducible exact H | (rw [hy225]; exact H) | exact H
 have Ny225 := Aside0.mk hy225
 clear hy225
 by_cases c6 : 0 ≤ t224
 ·
  rw [if_pos c6] at H
  have c6b0 := eq_true c6
  have c6b1 : decide (0 ≤ t224) = true := decide_eq_true c6
  clear c6
  by_cases c7 : t224 ≤ (t221.length : Int)
  ·
   rw [if_pos c7] at H
   have c7b0 := eq_true c7
   have c7b1 : decide (t224 ≤ (t221.length : Int)) = true := decide_eq_true c7
   clear c7
   obtain ⟨y228, hy228⟩ : ∃ y_ : List (List (S23)), y_ = (t221.drop (t224 : Int).toNat) := ⟨_, rfl⟩
   replace H : (if y225.length + y228.length < 5864062014805 then ((some (y225 ++ y228 : List (List (S23)))).bind fun y233 => ((some (t221.take (t224 : Int).toNat : List (List (S23)))).bind fun y236 => (if y233.length + y236.length < 5864062014805 then ((some (y233 ++ y236 : List (List (S23)))).bind fun y241 => ((rank_Sorted.f t221).bind fun t244 => ((rank_Sorted.f y241).bind fun t247 => ((some (([] : List (List (S23))) : List (List (S23)))).bind fun y250 => (if y250.length + t221.length < 5864062014805 then ((some (y250 ++ t221 : List (List (S23)))).bind fun y253 => ((porticokeep_Pattern_Segs.f k l2_0 l2_1 a2_2).bind fun t256 => (if y253.length < 5864062014805 then ((rank_Sorted.f (y253 ++ [t256])).bind fun t262 => (if (t244.length : Int) = (t221.length : Int) then (if (t247.length : Int) = (t221.length : Int) then (porticolaw6_RankSorted.j0 k t221 y241 t244 t247 t262 ((t262.length : Int) != (wrap64 ((t221.length : Int) + 1)))) else (porticolaw6_RankSorted.j0 k t221 y241 t244 t247 t262 true)) else (porticolaw6_RankSorted.j0 k t221 y241 t244 t247 t262 true))) else (none)))) else (none)))))) else (none)))) else (none)) = some r := by first | (rw [hy228]; with_reducible exact H) | (have H2_ := (Option.bind_some _ _).symm.trans H; rw [hy228]; with_reducible exact H2_) | (have H2_ := (Option.bind_some _ _).symm.trans H; with_reducible exact H2_) | with_reducible exact H | (rw [hy228]; exact H) | exact H
   have Ny228 := Aside0.mk hy228
   clear hy228
   by_cases c8 : y225.length + y228.length < 5864062014805
   ·
    rw [if_pos c8] at H
    have LMc8 := Aside0.mk c8
    clear c8
    obtain ⟨y233, hy233⟩ : ∃ y_ : List (List (S23)), y_ = (y225 ++ y228) := ⟨_, rfl⟩
    replace H : ((some (t221.take (t224 : Int).toNat : List (List (S23)))).bind fun y236 => (if y233.length + y236.length < 5864062014805 then ((some (y233 ++ y236 : List (List (S23)))).bind fun y241 => ((rank_Sorted.f t221).bind fun t244 => ((rank_Sorted.f y241).bind fun t247 => ((some (([] : List (List (S23))) : List (List (S23)))).bind fun y250 => (if y250.length + t221.length < 5864062014805 then ((some (y250 ++ t221 : List (List (S23)))).bind fun y253 => ((porticokeep_Pattern_Segs.f k l2_0 l2_1 a2_2).bind fun t256 => (if y253.length < 5864062014805 then ((rank_Sorted.f (y253 ++ [t256])).bind fun t262 => (if (t244.length : Int) = (t221.length : Int) then (if (t247.length : Int) = (t221.length : Int) then (porticolaw6_RankSorted.j0 k t221 y241 t244 t247 t262 ((t262.length : Int) != (wrap64 ((t221.length : Int) + 1)))) else (porticolaw6_RankSorted.j0 k t221 y241 t244 t247 t262 true)) else (porticolaw6_RankSorted.j0 k t221 y241 t244 t247 t262 true))) else (none)))) else (none)))))) else (none))) = some r := by first | (rw [hy233]; with_reducible exact H) | (have H2_ := (Option.bind_some _ _).symm.trans H; rw [hy233]; with_reducible exact H2_) | (have H2_ := (Option.bind_some _ _).symm.trans H; with_reducible exact H2_) | with_reducible exact H | (rw [hy233]; exact H) | exact H
    have Ny233 := Aside0.mk hy233
    clear hy233
    have c9b0 := eq_true (of_decide_eq_true (by first | (with_reducible assumption) | assumption) : 0 ≤ t224)
    have c10b0 := eq_true (of_decide_eq_true (by first | (with_reducible assumption) | assumption) : t224 ≤ (t221.length : Int))
    obtain ⟨y236, hy236⟩ : ∃ y_ : List (List (S23)), y_ = (t221.take (t224 : Int).toNat) := ⟨_, rfl⟩
    replace H : (if y233.length + y236.length < 5864062014805 then ((some (y233 ++ y236 : List (List (S23)))).bind fun y241 => ((rank_Sorted.f t221).bind fun t244 => ((rank_Sorted.f y241).bind fun t247 => ((some (([] : List (List (S23))) : List (List (S23)))).bind fun y250 => (if y250.length + t221.length < 5864062014805 then ((some (y250 ++ t221 : List (List (S23)))).bind fun y253 => ((porticokeep_Pattern_Segs.f k l2_0 l2_1 a2_2).bind fun t256 => (if y253.length < 5864062014805 then ((rank_Sorted.f (y253 ++ [t256])).bind fun t262 => (if (t244.length : Int) = (t221.length : Int) then (if (t247.length : Int) = (t221.length : Int) then (porticolaw6_RankSorted.j0 k t221 y241 t244 t247 t262 ((t262.length : Int) != (wrap64 ((t221.length : Int) + 1)))) else (porticolaw6_RankSorted.j0 k t221 y241 t244 t247 t262 true)) else (porticolaw6_RankSorted.j0 k t221 y241 t244 t247 t262 true))) else (none)))) else (none)))))) else (none)) = some r := by first | (rw [hy236]; with_reducible exact H) | (have H2_ := (Option.bind_some _ _).symm.trans H; rw [hy236]; with_reducible exact H2_) | (have H2_ := (Option.bind_some _ _).symm.trans H; with_reducible exact H2_) | with_reducible exact H | (rw [hy236]; exact H) | exact H
    have Ny236 := Aside0.mk hy236
    clear hy236
    by_cases c11 : y233.length + y236.length < 5864062014805
    ·
     rw [if_pos c11] at H
     have LMc11 := Aside0.mk c11
     clear c11
     obtain ⟨y241, hy241⟩ : ∃ y_ : List (List (S23)), y_ = (y233 ++ y236) := ⟨_, rfl⟩
     replace H : ((rank_Sorted.f t221).bind fun t244 => ((rank_Sorted.f y241).bind fun t247 => ((some (([] : List (List (S23))) : List (List (S23)))).bind fun y250 => (if y250.length + t221.length < 5864062014805 then ((some (y250 ++ t221 : List (List (S23)))).bind fun y253 => ((porticokeep_Pattern_Segs.f k l2_0 l2_1 a2_2).bind fun t256 => (if y253.length < 5864062014805 then ((rank_Sorted.f (y253 ++ [t256])).bind fun t262 => (if (t244.length : Int) = (t221.length : Int) then (if (t247.length : Int) = (t221.length : Int) then (porticolaw6_RankSorted.j0 k t221 y241 t244 t247 t262 ((t262.length : Int) != (wrap64 ((t221.length : Int) + 1)))) else (porticolaw6_RankSorted.j0 k t221 y241 t244 t247 t262 true)) else (porticolaw6_RankSorted.j0 k t221 y241 t244 t247 t262 true))) else (none)))) else (none))))) = some r := by first | (rw [hy241]; with_reducible exact H) | (have H2_ := (Option.bind_some _ _).symm.trans H; rw [hy241]; with_reducible exact H2_) | (have H2_ := (Option.bind_some _ _).symm.trans H; with_reducible exact H2_) | with_reducible exact H | (rw [hy241]; exact H) | exact H
     have Ny241 := Aside0.mk hy241
     clear hy241
     replace H := Option.bind_eq_some_iff.mp H
     obtain ⟨t244, A120, H⟩ := H
     replace H : ((rank_Sorted.f y241).bind fun t247 => ((some (([] : List (List (S23))) : List (List (S23)))).bind fun y250 => (if y250.length + t221.length < 5864062014805 then ((some (y250 ++ t221 : List (List (S23)))).bind fun y253 => ((porticokeep_Pattern_Segs.f k l2_0 l2_1 a2_2).bind fun t256 => (if y253.length < 5864062014805 then ((rank_Sorted.f (y253 ++ [t256])).bind fun t262 => (if (t244.length : Int) = (t221.length : Int) then (if (t247.length : Int) = (t221.length : Int) then (porticolaw6_RankSorted.j0 k t221 y241 t244 t247 t262 ((t262.length : Int) != (wrap64 ((t221.length : Int) + 1)))) else (porticolaw6_RankSorted.j0 k t221 y241 t244 t247 t262 true)) else (porticolaw6_RankSorted.j0 k t221 y241 t244 t247 t262 true))) else (none)))) else (none)))) = some r := H
     have A12 := Aside0.mk A120
     clear A120
     replace H := Option.bind_eq_some_iff.mp H
     obtain ⟨t247, A130, H⟩ := H
     replace H : ((some (([] : List (List (S23))) : List (List (S23)))).bind fun y250 => (if y250.length + t221.length < 5864062014805 then ((some (y250 ++ t221 : List (List (S23)))).bind fun y253 => ((porticokeep_Pattern_Segs.f k l2_0 l2_1 a2_2).bind fun t256 => (if y253.length < 5864062014805 then ((rank_Sorted.f (y253 ++ [t256])).bind fun t262 => (if (t244.length : Int) = (t221.length : Int) then (if (t247.length : Int) = (t221.length : Int) then (porticolaw6_RankSorted.j0 k t221 y241 t244 t247 t262 ((t262.length : Int) != (wrap64 ((t221.length : Int) + 1)))) else (porticolaw6_RankSorted.j0 k t221 y241 t244 t247 t262 true)) else (porticolaw6_RankSorted.j0 k t221 y241 t244 t247 t262 true))) else (none)))) else (none))) = some r := H
     have A13 := Aside0.mk A130
     clear A130
     obtain ⟨y250, hy250⟩ : ∃ y_ : List (List (S23)), y_ = (([] : List (List (S23)))) := ⟨_, rfl⟩
     replace H : (if y250.length + t221.length < 5864062014805 then ((some (y250 ++ t221 : List (List (S23)))).bind fun y253 => ((porticokeep_Pattern_Segs.f k l2_0 l2_1 a2_2).bind fun t256 => (if y253.length < 5864062014805 then ((rank_Sorted.f (y253 ++ [t256])).bind fun t262 => (if (t244.length : Int) = (t221.length : Int) then (if (t247.length : Int) = (t221.length : Int) then (porticolaw6_RankSorted.j0 k t221 y241 t244 t247 t262 ((t262.length : Int) != (wrap64 ((t221.length : Int) + 1)))) else (porticolaw6_RankSorted.j0 k t221 y241 t244 t247 t262 true)) else (porticolaw6_RankSorted.j0 k t221 y241 t244 t247 t262 true))) else (none)))) else (none)) = some r := by first | (rw [hy250]; with_reducible exact H) | (have H2_ := (Option.bind_some _ _).symm.trans H; rw [hy250]; with_reducible exact H2_) | (have H2_ := (Option.bind_some _ _).symm.trans H; with_reducible exact H2_) | with_reducible exact H | (rw [hy250]; exact H) | exact H
     have Ny250 := Aside0.mk hy250
     clear hy250
     by_cases c14 : y250.length + t221.length < 5864062014805
     ·
      rw [if_pos c14] at H
      have LMc14 := Aside0.mk c14
      clear c14
      obtain ⟨y253, hy253⟩ : ∃ y_ : List (List (S23)), y_ = (y250 ++ t221) := ⟨_, rfl⟩
      replace H : ((porticokeep_Pattern_Segs.f k l2_0 l2_1 a2_2).bind fun t256 => (if y253.length < 5864062014805 then ((rank_Sorted.f (y253 ++ [t256])).bind fun t262 => (if (t244.length : Int) = (t221.length : Int) then (if (t247.length : Int) = (t221.length : Int) then (porticolaw6_RankSorted.j0 k t221 y241 t244 t247 t262 ((t262.length : Int) != (wrap64 ((t221.length : Int) + 1)))) else (porticolaw6_RankSorted.j0 k t221 y241 t244 t247 t262 true)) else (porticolaw6_RankSorted.j0 k t221 y241 t244 t247 t262 true))) else (none))) = some r := by first | (rw [hy253]; with_reducible exact H) | (have H2_ := (Option.bind_some _ _).symm.trans H; rw [hy253]; with_reducible exact H2_) | (have H2_ := (Option.bind_some _ _).symm.trans H; with_reducible exact H2_) | with_reducible exact H | (rw [hy253]; exact H) | exact H
      have Ny253 := Aside0.mk hy253
      clear hy253
      replace H := Option.bind_eq_some_iff.mp H
      obtain ⟨t256, A150, H⟩ := H
      replace H : (if y253.length < 5864062014805 then ((rank_Sorted.f (y253 ++ [t256])).bind fun t262 => (if (t244.length : Int) = (t221.length : Int) then (if (t247.length : Int) = (t221.length : Int) then (porticolaw6_RankSorted.j0 k t221 y241 t244 t247 t262 ((t262.length : Int) != (wrap64 ((t221.length : Int) + 1)))) else (porticolaw6_RankSorted.j0 k t221 y241 t244 t247 t262 true)) else (porticolaw6_RankSorted.j0 k t221 y241 t244 t247 t262 true))) else (none)) = some r := H
      have A15 := Aside0.mk A150
      clear A150
      by_cases c16 : y253.length < 5864062014805
      ·
       rw [if_pos c16] at H
       have LMc16 := Aside0.mk c16
       clear c16
       obtain ⟨y259, hy259⟩ : ∃ y_ : List (List (S23)), y_ = (y253 ++ [t256]) := ⟨_, rfl⟩
       replace H : ((rank_Sorted.f y259).bind fun t262 => (if (t244.length : Int) = (t221.length : Int) then (if (t247.length : Int) = (t221.length : Int) then (porticolaw6_RankSorted.j0 k t221 y241 t244 t247 t262 ((t262.length : Int) != (wrap64 ((t221.length : Int) + 1)))) else (porticolaw6_RankSorted.j0 k t221 y241 t244 t247 t262 true)) else (porticolaw6_RankSorted.j0 k t221 y241 t244 t247 t262 true))) = some r := by first | (rw [hy259]; with_reducible exact H) | (have H2_ := (Option.bind_some _ _).symm.trans H; rw [hy259]; with_reducible exact H2_) | (have H2_ := (Option.bind_some _ _).symm.trans H; with_reducible exact H2_) | with_reducible exact H | (rw [hy259]; exact H) | exact H
       have Ny259 := Aside0.mk hy259
       clear hy259
       replace H := Option.bind_eq_some_iff.mp H
       obtain ⟨t262, A170, H⟩ := H
       replace H : (if (t244.length : Int) = (t221.length : Int) then (if (t247.length : Int) = (t221.length : Int) then (porticolaw6_RankSorted.j0 k t221 y241 t244 t247 t262 ((t262.length : Int) != (wrap64 ((t221.length : Int) + 1)))) else (porticolaw6_RankSorted.j0 k t221 y241 t244 t247 t262 true)) else (porticolaw6_RankSorted.j0 k t221 y241 t244 t247 t262 true)) = some r := H
       have A17 := Aside0.mk A170
       clear A170
       have HC18 := Aside0.mk H
       clear H
       go_enter Try.func6, Try.ntmps6
       try go_wp2_with (first | ((with_reducible refine gate_dst (N := 5) rfl ?_); (try (refine gate_guard (by rfl) ?_; dsimp only)); refine box_event ?hg (N := 5) ?hd (cs := #[.slice A2_0 l2_0.length c2_0, .slice A2_1 l2_1.length c2_1, .int .i64 a2_2]) (t := 31) ?hr ?_; (case hd => rfl); (case hg => rfl); (case hr => first | (go_simp; done) | (go_simp; rfl)); intro gb220 hg w19 hbox hb; have n0_ := Aside0.mk (below_step (by repeat (first | (with_reducible first | exact HB.out | apply below_alloc | apply pw_below_drewN | apply below_drew1) | exact HB.out)) hb); have n1_ := Aside0.mk (hbox); have n2_ := Aside0.mk ((by rw [hg]; exact (below_size (by repeat (first | (with_reducible first | exact HB.out | apply below_alloc | apply pw_below_drewN | apply below_drew1) | exact HB.out))) : w.heap.size ≤ gb220)); have n3_ := Aside0.mk ((by rw [hg]; exact (below_size (by repeat (first | (with_reducible first | exact HB.out | apply below_alloc | apply pw_below_drewN | apply below_drew1) | exact HB.out))) : w.heap.size ≤ gb220)); clear HB; have HB := n0_; have BK220 := n1_; have GW220 := n2_; have GE220 := n3_; clear n0_ n1_ n2_ n3_; clear hb hbox hg) | ((with_reducible refine gate_callee (f := 13) rfl ?_); refine goesL_ (some 18) rfl rfl Try.func13 (by kernel_rfl) rfl #[.slice A0 l0.length c0, .slice none 0 0] rfl (by (try simp only [List.map_toArray, List.map_cons, List.map_nil]); first | done | rfl | (simp only [List.length_drop, List.length_take]; rfl)) ?_; (refine (porticolaw6_some.calls k _ _ l0 _ _ ([] : List (List (S23))) t221 _ ?side1 ?side2 ?side3 ?side4 A4.out).mono ?_); (case side1 => repeat (first | exact (Kd.C_below HR0.out HB.out) | (with_reducible refine Kd.C_alloc ?_ _) | (with_reducible refine Kd.C_drewN ?_ _) | (with_reducible refine Kd.C_drew ?_))); (case side2 => exact HC0.out); (case side3 => exact Kd.C_nil _ _); (case side4 => exact Nat.le_refl _); rintro e w20 ⟨v222, rfl, ho0, hb⟩; refine ⟨_, rfl, ?_⟩; have n0_ := Aside0.mk (Kd.N_lower (Kd.N_mono (ok' := fun k_ => k_ ≠ gb220) (Kd.S_N (Kd.S_bound ho0)) (fun k_ hk_ => (Kd.freshB (g := gb220) (o := .cells #[.slice A2_0 l2_0.length c2_0, .slice A2_1 l2_1.length c2_1, .int .i64 a2_2] 31 (0, 0)) (by (with_reducible repeat (first | refine blk_drewN ?_ _ | refine blk_drew ?_ | refine blk_alloc ?_ _)); exact BK220.out) k_ hk_.2.1))) (below_size (by repeat (first | (with_reducible first | exact HB.out | apply below_alloc | apply pw_below_drewN | apply below_drew1 | refine below_set ?_ GE220.out) | exact HB.out)))); have n1_ := Aside0.mk (blk_below (g := gb220) (o := .cells #[.slice A2_0 l2_0.length c2_0, .slice A2_1 l2_1.length c2_1, .int .i64 a2_2] 31 (0, 0)) (by (with_reducible repeat (first | refine blk_drewN ?_ _ | refine blk_drew ?_ | refine blk_alloc ?_ _)); exact BK220.out) hb); have n2_ := Aside0.mk (below_step (by repeat (first | (with_reducible first | exact HB.out | apply below_alloc | apply pw_below_drewN | apply below_drew1 | refine below_set ?_ GE220.out) | exact HB.out)) hb); clear BK220; clear HB; have HO223 := n0_; have BK220 := n1_; have HB := n2_; clear n0_ n1_ n2_; (try clear hb); (try clear hb2); (try clear hk); (try clear hi); (try clear ho0); obtain ⟨Ao21, co21, eo21⟩ := Kd.N_slice HO223.out; subst eo21) | ((with_reducible refine gate_callee (f := 12) rfl ?_); refine goesL_ (some 22) rfl rfl Try.func12 (by kernel_rfl) rfl #[.int .i64 a1, .int .i64 0, .int .i64 (t221.length : Int)] rfl (by (try simp only [List.map_toArray, List.map_cons, List.map_nil]); first | done | rfl | (simp only [List.length_drop, List.length_take]; rfl)) ?_; (with_reducible refine (porticobook_Within.calls a1 0 (t221.length : Int) t224 _ A5.out).mono ?_); rintro e w' ⟨rfl, ⟨nd, rfl⟩⟩; refine ⟨_, rfl, ?_⟩))
       (try (rw [drewN_self w20]; generalize hq_ : World.drewN w20 _ = w20; have n0_ := Aside0.mk (Kd.N_at hq_ HO223.out); have n1_ := Aside0.mk (blk_at hq_ BK220.out); have n2_ := Aside0.mk (below_at hq_ HB.out); clear hq_ HO223 BK220 HB; have HO223 := n0_; have BK220 := n1_; have HB := n2_; clear n0_ n1_ n2_))
       have n0_ := Aside0.mk (Kd.N_drew HO223.out)
       have n1_ := Aside0.mk (blk_drew BK220.out)
       have n2_ := Aside0.mk (below_drew1 HB.out)
       clear HO223
       clear BK220
       clear HB
       have HO223 := n0_
       have BK220 := n1_
       have HB := n2_
       clear n0_ n1_ n2_
       have q23 : (t224 : Int) ≤ ((t221.length : Int) : Int) := of_decide_eq_true (by first | (with_reducible assumption) | assumption)
       obtain ⟨i023, hi023, _, hsz23, _⟩ := info_parts info26
       have hroom23 : t221.length ≤ co21 := (Kd.N_reads' HO223.out).2.1
       have hC23 : Kd.F (Kd.slice 23 k23) _ _ Ao21 t221.length t221 := (Kd.V_at (base := w.heap.size) (Kd.N_V HO223.out)).2.2
       have q023 : (0 : Int) ≤ (t224 : Int) := of_decide_eq_true (by first | (with_reducible assumption) | assumption)
       have hcut23 := cut_from (P := Try.prog) 37 26 .i64 Try.underlying37 hi023 1 hsz23 Ao21 t221.length co21 t224 q023 q23
       have hr23 := Kd.F_cut (m := (t224 : Int).toNat) (c := co21) hC23 (by omega) hroom23
       obtain ⟨A23, hA23⟩ : ∃ A1, A1 = (if co21 = (t224 : Int).toNat then Ao21 else (Ao21 : Option Addr).map (·.add ((t224 : Int).toNat * 1))) := ⟨_, rfl⟩
       obtain ⟨c23, hc23⟩ : ∃ c1, c1 = co21 - (t224 : Int).toNat := ⟨_, rfl⟩
       have hy23 : y228.length = t221.length - (t224 : Int).toNat := (by rw [Ny228.out, List.length_drop] <;> omega)
       rw [show (t221).drop (t224 : Int).toNat = y228 from Ny228.out.symm] at hr23
       replace hr23 : Kd.F (Kd.slice 23 k23) _ _ A23 y228.length y228 := (by rw [hA23]; exact hr23)
       rw [← hy23, ← hA23, ← hc23] at hcut23
       have HO232 := Aside0.mk (show Kd.V (Kd.slice 23 k23) 26 _ w.heap.size _ (.slice A23 y228.length c23) y228 from Kd.V_mk (by rw [hy23, hc23]; exact Nat.sub_le_sub_right hroom23 _) hr23)
       have HC232 := Aside0.mk (show y228.length ≤ c23 from by rw [hy23, hc23]; exact Nat.sub_le_sub_right hroom23 _)
       clear hr23 hC23 hroom23 hi023 hsz23 hc23
       have KY23 := Aside0.mk hy23
       have KA23 := Aside0.mk hA23
       clear hy23 hA23
       replace q23 := eq_true q23
       have q24 : (t224 : Int) ≤ ((t221.length : Int) : Int) := of_decide_eq_true (by first | (with_reducible assumption) | assumption)
       obtain ⟨i024, hi024, _, hsz24, _⟩ := info_parts info26
       have hroom24 : t221.length ≤ co21 := (Kd.N_reads' HO223.out).2.1
       have hC24 : Kd.F (Kd.slice 23 k23) _ _ Ao21 t221.length t221 := (Kd.V_at (base := w.heap.size) (Kd.N_V HO223.out)).2.2
       have hcut24 := cut_to (P := Try.prog) 37 26 .i64 Try.underlying37 hi024 Ao21 t221.length co21 t224 (of_decide_eq_true (by first | (with_reducible assumption) | assumption)) q24 hroom24
       have hr24 := Kd.F_take (m := (t224 : Int).toNat) hC24 (by omega)
       have hy24 : y236.length = (t224 : Int).toNat := (by rw [Ny236.out, List.length_take]; omega)
       rw [← Ny236.out] at hr24
       rw [← hy24] at hcut24
       have HO240 := Aside0.mk (show Kd.V (Kd.slice 23 k23) 26 _ w.heap.size _ (.slice Ao21 y236.length co21) y236 from Kd.V_mk (by omega) hr24)
       have HC240 := Aside0.mk (show y236.length ≤ co21 from by omega)
       clear hr24 hC24 hroom24 hi024 hsz24
       have KY24 := Aside0.mk hy24
       clear hy24
       replace q24 := eq_true q24
       refine start_ (n := 10) (S := fun w' => True) (ds := []) #[false, false, false, false, false, false, false, false, false, false] (by kernel_rfl) rfl rfl trivial (fun hHeld => ?_); refine with_tabW porticolaw6_RankSorted.tab3 porticolaw6_RankSorted.bits3 (fun HT_ HW_ => ?_)
       generalize w20.drew = w22 at HO223 BK220 HB HO232 HO240 hHeld ⊢
       refine pure_ (i := 1) (N := some 24) (v := ?_) (a' := ?_) #[false, true, false, false, false, false, false, false, false, false] rfl rfl (any_of HT_.out (by kernel_rfl)) (fun _ _ _ h => h) (Or.inl ⟨by rfl, ?_⟩) ?_ ?_
       rotate_left
       ·
        intro w'
        go_simp
        with_reducible rfl
       rotate_left
       ·
        simp only [Act.put, List.setIfInBounds_toArray, List.set_cons_zero, List.set_cons_succ, i64_w, i32_w]
        rfl
       refine pure_ (i := 2) (N := some 25) (v := ?_) (a' := ?_) #[false, true, true, false, false, false, false, false, false, false] rfl rfl (any_of HT_.out (by kernel_rfl)) (fun _ _ _ h => h) (Or.inl ⟨by rfl, ?_⟩) ?_ ?_
       rotate_left
       ·
        intro w'
        go_simp
        with_reducible rfl
       rotate_left
       ·
        simp only [Act.put, List.setIfInBounds_toArray, List.set_cons_zero, List.set_cons_succ, i64_w, i32_w]
        rfl
       refine pure_ (i := 3) (N := some 26) (v := ?_) (a' := ?_) #[false, true, true, true, false, false, false, false, false, false] rfl rfl (any_of HT_.out (by kernel_rfl)) (fun _ _ _ h => h) (Or.inl ⟨by rfl, ?_⟩) ?_ ?_
       rotate_left
       ·
        intro w'
        go_simp
        with_reducible rfl
       rotate_left
       ·
        simp only [Act.put, List.setIfInBounds_toArray, List.set_cons_zero, List.set_cons_succ, i64_w, i32_w]
        rfl
       refine pure_ (i := 5) (N := some 28) (v := ?_) (a' := ?_) #[false, true, true, true, false, true, false, false, false, false] rfl rfl (any_of HT_.out (by kernel_rfl)) (fun _ _ _ h => h) (Or.inl ⟨by rfl, ?_⟩) ?_ ?_
       rotate_left
       ·
        intro w'
        go_simp
        with_reducible rfl
       rotate_left
       ·
        simp only [Act.put, List.setIfInBounds_toArray, List.set_cons_zero, List.set_cons_succ, i64_w, i32_w]
        rfl
       refine pure_ (i := 6) (N := some 29) (v := ?_) (a' := ?_) #[false, true, true, true, false, true, true, false, false, false] rfl rfl (any_of HT_.out (by kernel_rfl)) (fun _ _ _ h => h) (Or.inl ⟨by rfl, ?_⟩) ?_ ?_
       rotate_left
       ·
        intro w'
        go_simp
        with_reducible rfl
       rotate_left
       ·
        simp only [Act.put, List.setIfInBounds_toArray, List.set_cons_zero, List.set_cons_succ, i64_w, i32_w]
        rfl
       refine pure_ (i := 7) (N := some 30) (v := ?_) (a' := ?_) #[false, true, true, true, false, true, true, true, false, false] rfl rfl (any_of HT_.out (by kernel_rfl)) (fun _ _ _ h => h) (Or.inl ⟨by rfl, ?_⟩) ?_ ?_
       rotate_left
       ·
        intro w'
        go_simp
        with_reducible rfl
       rotate_left
       ·
        simp only [Act.put, List.setIfInBounds_toArray, List.set_cons_zero, List.set_cons_succ, i64_w, i32_w]
        rfl
       refine one_ (i := 0) (N := some 23) #[true, true, true, true, false, true, true, true, false, false] rfl rfl (one_of HT_.out (by kernel_rfl)) (by decide) (fun K hK => ?_)
       refine Kd.N_lit_step (Kd.slice 23 k23) _ 26 ?hg (N' := 23) ?hd (xs := ([] : List (List (S23)))) (inner := []) (ok := (fun k_ => some k_ ≠ (.slice Ao21 t221.length co21 : Value).ownBlock ∧ k_ ≠ gb220)) (okp := (fun k_ => some k_ ≠ (.slice Ao21 t221.length co21 : Value).ownBlock ∧ k_ ≠ gb220)) ?hr ?hp (fun _ hk => hk) ((show ∀ k_, w22.heap.size ≤ k_ → (fun k_ => some k_ ≠ (.slice Ao21 t221.length co21 : Value).ownBlock ∧ k_ ≠ gb220) k_ from fun k_ hk => ⟨Kd.fresh' (Kd.N_lt (by (with_reducible repeat (first | apply Kd.N_alloc | apply Kd.N_drewN | apply Kd.N_drew)); exact HO223.out)) k_ hk, Kd.freshB (g := gb220) (o := .cells #[.slice A2_0 l2_0.length c2_0, .slice A2_1 l2_1.length c2_1, .int .i64 a2_2] 31 (0, 0)) (by (with_reducible repeat (first | refine blk_drewN ?_ _ | refine blk_drew ?_ | refine blk_alloc ?_ _)); exact BK220.out) k_ hk⟩) _ (Nat.le_refl _)) (Below.refl _ _) (Nat.le_refl _) (by simp) ?_; (case hd => rfl); (case hg => rfl); (case hr => first | (go_simp; done) | (go_simp; rfl)); (case hp => exact (Reps.none _ _))
       intro v226 w25 ho26 hb hg_ hnew_
       clear hg_ hnew_
       (first | rw [← Ny225.out] at ho26 | (simp only [Int.reduceToNat] at ho26; rw [← Ny225.out] at ho26))
       have n0_ := Aside0.mk (Kd.N_elder' (by (with_reducible repeat (first | apply Kd.N_alloc | apply Kd.N_drewN | apply Kd.N_drew)); exact HO223.out) (Kd.N_base ho26) hb)
       have n1_ := Aside0.mk (Kd.V_elder' (by (with_reducible repeat (first | apply Kd.V_alloc | apply Kd.V_drewN | apply Kd.V_drew)); exact HO232.out) (Kd.N_base ho26) hb)
       have n2_ := Aside0.mk (Kd.V_elder' (by (with_reducible repeat (first | apply Kd.V_alloc | apply Kd.V_drewN | apply Kd.V_drew)); exact HO240.out) (Kd.N_base ho26) hb)
       have n3_ := Aside0.mk (Kd.N_lower ho26 (below_size (by repeat (first | (with_reducible first | exact HB.out | apply below_alloc | apply pw_below_drewN | apply below_drew1 | refine below_set ?_ GE220.out) | exact HB.out))))
       have n4_ := Aside0.mk (blk_below (g := gb220) (o := .cells #[.slice A2_0 l2_0.length c2_0, .slice A2_1 l2_1.length c2_1, .int .i64 a2_2] 31 (0, 0)) (by (with_reducible repeat (first | refine blk_drewN ?_ _ | refine blk_drew ?_ | refine blk_alloc ?_ _)); exact BK220.out) hb)
       have n5_ := Aside0.mk (below_step (by repeat (first | (with_reducible first | exact HB.out | apply below_alloc | apply pw_below_drewN | apply below_drew1 | refine below_set ?_ GE220.out) | exact HB.out)) hb)
       clear HO223
       clear HO232
       clear HO240
       clear BK220
       clear HB
       have HO223 := n0_
       have HO232 := n1_
       have HO240 := n2_
       have HO227 := n3_
       have BK220 := n4_
       have HB := n5_
       clear n0_ n1_ n2_ n3_ n4_ n5_
       clear hb ho26
       refine hK.out _ _ trivial (fun hHeld => ?_)
       clear hK K
       refine norm_ (a' := ?_) ?_ ?_
       rotate_left
       ·
        show Act.put _ (some 23) _ = _
        simp only [Act.put, List.setIfInBounds_toArray, List.set_cons_zero, List.set_cons_succ, i64_w, i32_w]
        rfl
       refine one_ (i := 4) (N := some 27) #[true, true, true, true, true, true, true, true, false, false] rfl rfl (one_of HT_.out (by kernel_rfl)) (by decide) (fun K hK => ?_)
       refine Kd.N_append_rows_step (Kd.slice 23 k23) (w0 := w) w.heap.size (by rfl) (.tmp 23) (.tmp 26) 37 26 (.slice none 0 0) 24 rfl Try.underlying37 info26 rfl (by decide) (by omega) v226 y225 y228 _ _ _ (fun k_ => k_ ≠ gb220) (fun k_ => ((fun k_ => k_ ≠ gb220)) k_ ∧ some k_ ≠ (v226 : Value).ownBlock) rfl rfl ?aO ?aR (fun _ hk => hk) ?aF ?aB ?aS ?aL ?_
       (case aR => exact (by skip; exact Kd.V_F (Kd.V_mono (ok' := (fun k_ => ((fun k_ => k_ ≠ gb220)) k_ ∧ some k_ ≠ (v226 : Value).ownBlock)) (HO232.out) (fun k_ hk => ⟨hk.1, hk.2⟩))))
       (case aB => exact (by repeat (first | (with_reducible first | exact HB.out | apply below_alloc | apply pw_below_drewN | apply below_drew1 | refine below_set ?_ GE220.out) | exact HB.out)))
       (case aF => exact (fun k_ hk => Kd.freshB (g := gb220) (o := .cells #[.slice A2_0 l2_0.length c2_0, .slice A2_1 l2_1.length c2_1, .int .i64 a2_2] 31 (0, 0)) (by (with_reducible repeat (first | refine blk_drewN ?_ _ | refine blk_drew ?_ | refine blk_alloc ?_ _)); exact BK220.out) k_ hk))
       (case aO => exact (by (with_reducible repeat (first | apply Kd.N_alloc | apply Kd.N_drewN | apply Kd.N_drew)); exact Kd.N_mono HO227.out (fun _ hk => hk.2)))
       (case aS => exact (below_size (by repeat (first | (with_reducible first | exact HB.out | apply below_alloc | apply pw_below_drewN | apply below_drew1 | refine below_set ?_ GE220.out) | exact HB.out))))
       (case aL => have := LMc8.out; omega)
       intro v234 w27 ho hb hg hat
       rw [← Ny233.out] at ho
       have n0_ := Aside0.mk (blk_grown (g := gb220) (o := .cells #[.slice A2_0 l2_0.length c2_0, .slice A2_1 l2_1.length c2_1, .int .i64 a2_2] 31 (0, 0)) (by (with_reducible repeat (first | refine blk_drewN ?_ _ | refine blk_drew ?_ | refine blk_alloc ?_ _)); exact BK220.out) hg (Kd.N_ne HO227.out BK220.out (by decide)))
       have n1_ := Aside0.mk (Kd.N_afterv (ok := (fun k_ => k_ ≠ gb220)) (by (with_reducible repeat (first | apply Kd.N_alloc | apply Kd.N_drewN | apply Kd.N_drew)); exact HO223.out) hg hat)
       have n2_ := Aside0.mk (Kd.V_afterv (ok := (fun k_ => k_ ≠ gb220)) (by (with_reducible repeat (first | apply Kd.V_alloc | apply Kd.V_drewN | apply Kd.V_drew)); exact HO232.out) hg hat)
       have n3_ := Aside0.mk (Kd.V_afterv (ok := (fun k_ => k_ ≠ gb220)) (by (with_reducible repeat (first | apply Kd.V_alloc | apply Kd.V_drewN | apply Kd.V_drew)); exact HO240.out) hg hat)
       have n4_ := Aside0.mk (hb)
       have n5_ := Aside0.mk (ho)
       clear BK220
       clear HO223
       clear HO232
       clear HO240
       clear HB
       clear HO227
       have BK220 := n0_
       have HO223 := n1_
       have HO232 := n2_
       have HO240 := n3_
       have HB := n4_
       have HO235 := n5_
       clear n0_ n1_ n2_ n3_ n4_ n5_
       clear ho hb hg hat
       refine hK.out _ _ trivial (fun hHeld => ?_)
       clear hK K
       refine norm_ (a' := ?_) ?_ ?_
       rotate_left
       ·
        show Act.put _ (some 27) _ = _
        simp only [Act.put, List.setIfInBounds_toArray, List.set_cons_zero, List.set_cons_succ, i64_w, i32_w]
        rfl
       refine one_ (i := 8) (N := some 31) #[true, true, true, true, true, true, true, true, true, false] rfl rfl (one_of HT_.out (by kernel_rfl)) (by decide) (fun K hK => ?_)
       refine Kd.N_append_rows_step (Kd.slice 23 k23) (w0 := w) w.heap.size (by rfl) (.tmp 27) (.tmp 30) 37 26 (.slice none 0 0) 24 rfl Try.underlying37 info26 rfl (by decide) (by omega) v234 y233 y236 _ _ _ (fun k_ => k_ ≠ gb220) (fun k_ => ((fun k_ => k_ ≠ gb220)) k_ ∧ some k_ ≠ (v234 : Value).ownBlock) rfl rfl ?aO ?aR (fun _ hk => hk) ?aF ?aB ?aS ?aL ?_
       (case aR => exact (by skip; exact Kd.V_F (Kd.V_mono (ok' := (fun k_ => ((fun k_ => k_ ≠ gb220)) k_ ∧ some k_ ≠ (v234 : Value).ownBlock)) (HO240.out) (fun k_ hk => ⟨hk.1, hk.2⟩))))
       (case aB => exact (by repeat (first | (with_reducible first | exact HB.out | apply below_alloc | apply pw_below_drewN | apply below_drew1 | refine below_set ?_ GE220.out) | exact HB.out)))
       (case aF => exact (fun k_ hk => Kd.freshB (g := gb220) (o := .cells #[.slice A2_0 l2_0.length c2_0, .slice A2_1 l2_1.length c2_1, .int .i64 a2_2] 31 (0, 0)) (by (with_reducible repeat (first | refine blk_drewN ?_ _ | refine blk_drew ?_ | refine blk_alloc ?_ _)); exact BK220.out) k_ hk))
       (case aO => exact (by (with_reducible repeat (first | apply Kd.N_alloc | apply Kd.N_drewN | apply Kd.N_drew)); exact HO235.out))
       (case aS => exact (below_size (by repeat (first | (with_reducible first | exact HB.out | apply below_alloc | apply pw_below_drewN | apply below_drew1 | refine below_set ?_ GE220.out) | exact HB.out))))
       (case aL => have := LMc11.out; omega)
       intro v242 w28 ho hb hg hat
       rw [← Ny241.out] at ho
       have n0_ := Aside0.mk (blk_grown (g := gb220) (o := .cells #[.slice A2_0 l2_0.length c2_0, .slice A2_1 l2_1.length c2_1, .int .i64 a2_2] 31 (0, 0)) (by (with_reducible repeat (first | refine blk_drewN ?_ _ | refine blk_drew ?_ | refine blk_alloc ?_ _)); exact BK220.out) hg (Kd.N_ne HO235.out BK220.out (by decide)))
       have n1_ := Aside0.mk (Kd.N_afterv (ok := (fun k_ => k_ ≠ gb220)) (by (with_reducible repeat (first | apply Kd.N_alloc | apply Kd.N_drewN | apply Kd.N_drew)); exact HO223.out) hg hat)
       have n2_ := Aside0.mk (Kd.V_afterv (ok := (fun k_ => k_ ≠ gb220)) (by (with_reducible repeat (first | apply Kd.V_alloc | apply Kd.V_drewN | apply Kd.V_drew)); exact HO232.out) hg hat)
       have n3_ := Aside0.mk (Kd.V_afterv (ok := (fun k_ => k_ ≠ gb220)) (by (with_reducible repeat (first | apply Kd.V_alloc | apply Kd.V_drewN | apply Kd.V_drew)); exact HO240.out) hg hat)
       have n4_ := Aside0.mk (hb)
       have n5_ := Aside0.mk (ho)
       clear BK220
       clear HO223
       clear HO232
       clear HO240
       clear HB
       clear HO235
       have BK220 := n0_
       have HO223 := n1_
       have HO232 := n2_
       have HO240 := n3_
       have HB := n4_
       have HO243 := n5_
       clear n0_ n1_ n2_ n3_ n4_ n5_
       clear ho hb hg hat
       refine hK.out _ _ trivial (fun hHeld => ?_)
       clear hK K
       refine norm_ (a' := ?_) ?_ ?_
       rotate_left
       ·
        show Act.put _ (some 31) _ = _
        simp only [Act.put, List.setIfInBounds_toArray, List.set_cons_zero, List.set_cons_succ, i64_w, i32_w]
        rfl
       refine pure_ (i := 9) (N := some 9) (v := ?_) (a' := ?_) #[true, true, true, true, true, true, true, true, true, true] rfl rfl (any_of HT_.out (by kernel_rfl)) (fun _ _ _ h => h) (Or.inl ⟨by rfl, ?_⟩) ?_ ?_
       rotate_left
       ·
        intro w'
        go_simp
        with_reducible rfl
       rotate_left
       ·
        simp only [Act.put, List.setIfInBounds_toArray, List.set_cons_zero, List.set_cons_succ, i64_w, i32_w]
        rfl
       refine done_ (done_of HT_.out (by kernel_rfl)) ?_
       try go_wp2_with (first | ((with_reducible refine gate_callee (f := 14) rfl ?_); refine goesL_ (some 33) rfl rfl Try.func14 (by kernel_rfl) rfl #[.slice Ao21 t221.length co21] rfl (by (try simp only [List.map_toArray, List.map_cons, List.map_nil]); first | done | rfl | (simp only [List.length_drop, List.length_take]; rfl)) ?_; (with_reducible refine (rank_Sorted.calls _ _ t221 t244 _ ?side1 ?side2 A12.out).mono ?_); (case side1 => repeat (first | exact (Kd.N_reads' HO223.out).2.2 | (with_reducible refine Kd.C_alloc ?_ _) | (with_reducible refine Kd.C_drewN ?_ _) | (with_reducible refine Kd.C_drew ?_))); (case side2 => exact (Kd.N_reads' HO223.out).2.1); rintro e w29 ⟨v245, rfl, ho0, hb⟩; refine ⟨_, rfl, ?_⟩; have n0_ := Aside0.mk (Kd.N_elder' (by (with_reducible repeat (first | apply Kd.N_alloc | apply Kd.N_drewN | apply Kd.N_drew)); exact HO223.out) (Kd.R_base ho0) hb); have n1_ := Aside0.mk (Kd.V_elder' (by (with_reducible repeat (first | apply Kd.V_alloc | apply Kd.V_drewN | apply Kd.V_drew)); exact HO232.out) (Kd.R_base ho0) hb); have n2_ := Aside0.mk (Kd.V_elder' (by (with_reducible repeat (first | apply Kd.V_alloc | apply Kd.V_drewN | apply Kd.V_drew)); exact HO240.out) (Kd.R_base ho0) hb); have n3_ := Aside0.mk (Kd.N_elder' (by (with_reducible repeat (first | apply Kd.N_alloc | apply Kd.N_drewN | apply Kd.N_drew)); exact HO243.out) (Kd.R_base ho0) hb); have n4_ := Aside0.mk (Kd.R_lower ho0 (below_size (by repeat (first | (with_reducible first | exact HB.out | apply below_alloc | apply pw_below_drewN | apply below_drew1 | refine below_set ?_ GE220.out) | exact HB.out)))); have n5_ := Aside0.mk (blk_below (g := gb220) (o := .cells #[.slice A2_0 l2_0.length c2_0, .slice A2_1 l2_1.length c2_1, .int .i64 a2_2] 31 (0, 0)) (by (with_reducible repeat (first | refine blk_drewN ?_ _ | refine blk_drew ?_ | refine blk_alloc ?_ _)); exact BK220.out) hb); have n6_ := Aside0.mk (below_step (by repeat (first | (with_reducible first | exact HB.out | apply below_alloc | apply pw_below_drewN | apply below_drew1 | refine below_set ?_ GE220.out) | exact HB.out)) hb); clear HO223; clear HO232; clear HO240; clear HO243; clear BK220; clear HB; have HO223 := n0_; have HO232 := n1_; have HO240 := n2_; have HO243 := n3_; have HO246 := n4_; have BK220 := n5_; have HB := n6_; clear n0_ n1_ n2_ n3_ n4_ n5_ n6_; (try clear hb); (try clear hb2); (try clear hk); (try clear hi); (try clear ho0); obtain ⟨Ao30, co30, eo30⟩ := Kd.N_slice HO243.out; subst eo30) | ((with_reducible refine gate_callee (f := 14) rfl ?_); refine goesL_ (some 35) rfl rfl Try.func14 (by kernel_rfl) rfl #[.slice Ao30 y241.length co30] rfl (by (try simp only [List.map_toArray, List.map_cons, List.map_nil]); first | done | rfl | (simp only [List.length_drop, List.length_take]; rfl)) ?_; (with_reducible refine (rank_Sorted.calls _ _ y241 t247 _ ?side1 ?side2 A13.out).mono ?_); (case side1 => repeat (first | exact (Kd.N_reads' HO243.out).2.2 | (with_reducible refine Kd.C_alloc ?_ _) | (with_reducible refine Kd.C_drewN ?_ _) | (with_reducible refine Kd.C_drew ?_))); (case side2 => exact (Kd.N_reads' HO243.out).2.1); rintro e w31 ⟨v248, rfl, ho0, hb⟩; refine ⟨_, rfl, ?_⟩; have n0_ := Aside0.mk (Kd.N_elder' (by (with_reducible repeat (first | apply Kd.N_alloc | apply Kd.N_drewN | apply Kd.N_drew)); exact HO223.out) (Kd.R_base ho0) hb); have n1_ := Aside0.mk (Kd.V_elder' (by (with_reducible repeat (first | apply Kd.V_alloc | apply Kd.V_drewN | apply Kd.V_drew)); exact HO232.out) (Kd.R_base ho0) hb); have n2_ := Aside0.mk (Kd.V_elder' (by (with_reducible repeat (first | apply Kd.V_alloc | apply Kd.V_drewN | apply Kd.V_drew)); exact HO240.out) (Kd.R_base ho0) hb); have n3_ := Aside0.mk (Kd.N_elder' (by (with_reducible repeat (first | apply Kd.N_alloc | apply Kd.N_drewN | apply Kd.N_drew)); exact HO243.out) (Kd.R_base ho0) hb); have n4_ := Aside0.mk (Kd.R_elder' (by (with_reducible repeat (first | apply Kd.R_alloc | apply Kd.R_drewN | apply Kd.R_drew)); exact HO246.out) (Kd.R_base ho0) hb); have n5_ := Aside0.mk (Kd.R_lower (Kd.R_new' ho0 (Kd.R_lt (by (with_reducible repeat (first | apply Kd.R_alloc | apply Kd.R_drewN | apply Kd.R_drew)); exact HO246.out))) (below_size (by repeat (first | (with_reducible first | exact HB.out | apply below_alloc | apply pw_below_drewN | apply below_drew1 | refine below_set ?_ GE220.out) | exact HB.out)))); have n6_ := Aside0.mk (blk_below (g := gb220) (o := .cells #[.slice A2_0 l2_0.length c2_0, .slice A2_1 l2_1.length c2_1, .int .i64 a2_2] 31 (0, 0)) (by (with_reducible repeat (first | refine blk_drewN ?_ _ | refine blk_drew ?_ | refine blk_alloc ?_ _)); exact BK220.out) hb); have n7_ := Aside0.mk (below_step (by repeat (first | (with_reducible first | exact HB.out | apply below_alloc | apply pw_below_drewN | apply below_drew1 | refine below_set ?_ GE220.out) | exact HB.out)) hb); clear HO223; clear HO232; clear HO240; clear HO243; clear HO246; clear BK220; clear HB; have HO223 := n0_; have HO232 := n1_; have HO240 := n2_; have HO243 := n3_; have HO246 := n4_; have HO249 := n5_; have BK220 := n6_; have HB := n7_; clear n0_ n1_ n2_ n3_ n4_ n5_ n6_ n7_; (try clear hb); (try clear hb2); (try clear hk); (try clear hi); (try clear ho0)))
       have n0_ := Aside0.mk (Kd.N_drew HO223.out)
       have n1_ := Aside0.mk (Kd.V_drew HO232.out)
       have n2_ := Aside0.mk (Kd.V_drew HO240.out)
       have n3_ := Aside0.mk (Kd.N_drew HO243.out)
       have n4_ := Aside0.mk (Kd.R_drew HO246.out)
       have n5_ := Aside0.mk (Kd.R_drew HO249.out)
       have n6_ := Aside0.mk (blk_drew BK220.out)
       have n7_ := Aside0.mk (below_drew1 HB.out)
       clear HO223
       clear HO232
       clear HO240
       clear HO243
       clear HO246
       clear HO249
       clear BK220
       clear HB
       have HO223 := n0_
       have HO232 := n1_
       have HO240 := n2_
       have HO243 := n3_
       have HO246 := n4_
       have HO249 := n5_
       have BK220 := n6_
       have HB := n7_
       clear n0_ n1_ n2_ n3_ n4_ n5_ n6_ n7_
       refine start_ (n := 9) (S := fun w' => w'.cell? ⟨gb220, 0, none⟩ = some (.slice A2_0 l2_0.length c2_0) ∧ w'.cell? ⟨gb220, 1, none⟩ = some (.slice A2_1 l2_1.length c2_1) ∧ w'.cell? ⟨gb220, 2, none⟩ = some (.int .i64 a2_2)) (ds := []) #[false, false, false, false, false, false, false, false, false] (by kernel_rfl) rfl rfl ⟨(blk_cell BK220.out 0).trans rfl, (blk_cell BK220.out 1).trans rfl, (blk_cell BK220.out 2).trans rfl⟩ (fun hHeld => ?_); refine with_tabW porticolaw6_RankSorted.tab5 porticolaw6_RankSorted.bits5 (fun HT_ HW_ => ?_)
       generalize w31.drew = w32 at HO223 HO232 HO240 HO243 HO246 HO249 BK220 HB hHeld ⊢
       refine pure_ (i := 1) (N := some 37) (v := ?_) (a' := ?_) #[false, true, false, false, false, false, false, false, false] rfl rfl (any_of HT_.out (by kernel_rfl)) (fun _ _ _ h => h) (Or.inl ⟨by rfl, ?_⟩) ?_ ?_
       rotate_left
       ·
        intro w'
        go_simp
        with_reducible rfl
       rotate_left
       ·
        simp only [Act.put, List.setIfInBounds_toArray, List.set_cons_zero, List.set_cons_succ, i64_w, i32_w]
        rfl
       refine take_ (i := 3) (N := some 39) (v := ?_) (a' := ?_) #[false, true, false, true, false, false, false, false, false] rfl rfl (take_ofW HT_.out HW_.out (by kernel_rfl)) (fun _ _ _ h => h) (Or.inl ⟨by rfl, ?_⟩) hHeld ?_ ?_
       rotate_left
       ·
        rintro w' ⟨s0, s1, s2⟩
        go_simp
        with_reducible rfl
       rotate_left
       ·
        simp only [Act.put, List.setIfInBounds_toArray, List.set_cons_zero, List.set_cons_succ, i64_w, i32_w]
        rfl
       refine one_ (i := 0) (N := some 36) #[true, true, false, true, false, false, false, false, false] rfl rfl (one_of HT_.out (by kernel_rfl)) (by decide) (fun K hK => ?_)
       refine Kd.N_lit_step (Kd.slice 23 k23) _ 26 ?hg (N' := 36) ?hd (xs := ([] : List (List (S23)))) (inner := []) (ok := (fun k_ => some k_ ≠ (.slice Ao21 t221.length co21 : Value).ownBlock ∧ some k_ ≠ (.slice Ao30 y241.length co30 : Value).ownBlock ∧ some k_ ≠ (v245 : Value).ownBlock ∧ some k_ ≠ (v248 : Value).ownBlock ∧ k_ ≠ gb220)) (okp := (fun k_ => some k_ ≠ (.slice Ao21 t221.length co21 : Value).ownBlock ∧ some k_ ≠ (.slice Ao30 y241.length co30 : Value).ownBlock ∧ some k_ ≠ (v245 : Value).ownBlock ∧ some k_ ≠ (v248 : Value).ownBlock ∧ k_ ≠ gb220)) ?hr ?hp (fun _ hk => hk) ((show ∀ k_, w32.heap.size ≤ k_ → (fun k_ => some k_ ≠ (.slice Ao21 t221.length co21 : Value).ownBlock ∧ some k_ ≠ (.slice Ao30 y241.length co30 : Value).ownBlock ∧ some k_ ≠ (v245 : Value).ownBlock ∧ some k_ ≠ (v248 : Value).ownBlock ∧ k_ ≠ gb220) k_ from fun k_ hk => ⟨Kd.fresh' (Kd.N_lt (by (with_reducible repeat (first | apply Kd.N_alloc | apply Kd.N_drewN | apply Kd.N_drew)); exact HO223.out)) k_ hk, Kd.fresh' (Kd.N_lt (by (with_reducible repeat (first | apply Kd.N_alloc | apply Kd.N_drewN | apply Kd.N_drew)); exact HO243.out)) k_ hk, Kd.fresh' (Kd.R_lt (by (with_reducible repeat (first | apply Kd.R_alloc | apply Kd.R_drewN | apply Kd.R_drew)); exact HO246.out)) k_ hk, Kd.fresh' (Kd.R_lt (by (with_reducible repeat (first | apply Kd.R_alloc | apply Kd.R_drewN | apply Kd.R_drew)); exact HO249.out)) k_ hk, Kd.freshB (g := gb220) (o := .cells #[.slice A2_0 l2_0.length c2_0, .slice A2_1 l2_1.length c2_1, .int .i64 a2_2] 31 (0, 0)) (by (with_reducible repeat (first | refine blk_drewN ?_ _ | refine blk_drew ?_ | refine blk_alloc ?_ _)); exact BK220.out) k_ hk⟩) _ (Nat.le_refl _)) (Below.refl _ _) (Nat.le_refl _) (by simp) ?_; (case hd => rfl); (case hg => rfl); (case hr => first | (go_simp; done) | (go_simp; rfl)); (case hp => exact (Reps.none _ _))
       intro v251 w33 ho34 hb hg_ hnew_
       clear hg_ hnew_
       (first | rw [← Ny250.out] at ho34 | (simp only [Int.reduceToNat] at ho34; rw [← Ny250.out] at ho34))
       have n0_ := Aside0.mk (Kd.N_elder' (by (with_reducible repeat (first | apply Kd.N_alloc | apply Kd.N_drewN | apply Kd.N_drew)); exact HO223.out) (Kd.N_base ho34) hb)
       have n1_ := Aside0.mk (Kd.V_elder' (by (with_reducible repeat (first | apply Kd.V_alloc | apply Kd.V_drewN | apply Kd.V_drew)); exact HO232.out) (Kd.N_base ho34) hb)
       have n2_ := Aside0.mk (Kd.V_elder' (by (with_reducible repeat (first | apply Kd.V_alloc | apply Kd.V_drewN | apply Kd.V_drew)); exact HO240.out) (Kd.N_base ho34) hb)
       have n3_ := Aside0.mk (Kd.N_elder' (by (with_reducible repeat (first | apply Kd.N_alloc | apply Kd.N_drewN | apply Kd.N_drew)); exact HO243.out) (Kd.N_base ho34) hb)
       have n4_ := Aside0.mk (Kd.R_below (by (with_reducible repeat (first | apply Kd.R_alloc | apply Kd.R_drewN | apply Kd.R_drew)); exact HO246.out) hb)
       have n5_ := Aside0.mk (Kd.R_below (by (with_reducible repeat (first | apply Kd.R_alloc | apply Kd.R_drewN | apply Kd.R_drew)); exact HO249.out) hb)
       have n6_ := Aside0.mk (Kd.N_lower ho34 (below_size (by repeat (first | (with_reducible first | exact HB.out | apply below_alloc | apply pw_below_drewN | apply below_drew1 | refine below_set ?_ GE220.out) | exact HB.out))))
       have n7_ := Aside0.mk (blk_below (g := gb220) (o := .cells #[.slice A2_0 l2_0.length c2_0, .slice A2_1 l2_1.length c2_1, .int .i64 a2_2] 31 (0, 0)) (by (with_reducible repeat (first | refine blk_drewN ?_ _ | refine blk_drew ?_ | refine blk_alloc ?_ _)); exact BK220.out) hb)
       have n8_ := Aside0.mk (below_step (by repeat (first | (with_reducible first | exact HB.out | apply below_alloc | apply pw_below_drewN | apply below_drew1 | refine below_set ?_ GE220.out) | exact HB.out)) hb)
       clear HO223
       clear HO232
       clear HO240
       clear HO243
       clear HO246
       clear HO249
       clear BK220
       clear HB
       have HO223 := n0_
       have HO232 := n1_
       have HO240 := n2_
       have HO243 := n3_
       have HO246 := n4_
       have HO249 := n5_
       have HO252 := n6_
       have BK220 := n7_
       have HB := n8_
       clear n0_ n1_ n2_ n3_ n4_ n5_ n6_ n7_ n8_
       clear hb ho34
       refine hK.out _ _ ⟨(blk_cell BK220.out 0).trans rfl, (blk_cell BK220.out 1).trans rfl, (blk_cell BK220.out 2).trans rfl⟩ (fun hHeld => ?_)
       clear hK K
       refine norm_ (a' := ?_) ?_ ?_
       rotate_left
       ·
        show Act.put _ (some 36) _ = _
        simp only [Act.put, List.setIfInBounds_toArray, List.set_cons_zero, List.set_cons_succ, i64_w, i32_w]
        rfl
       refine one_ (i := 2) (N := some 38) #[true, true, true, true, false, false, false, false, false] rfl rfl (one_of HT_.out (by kernel_rfl)) (by decide) (fun K hK => ?_)
       refine Kd.N_append_rows_step (Kd.slice 23 k23) (w0 := w) w.heap.size (by rfl) (.tmp 36) (.tmp 37) 37 26 (.slice none 0 0) 24 rfl Try.underlying37 info26 rfl (by decide) (by omega) v251 y250 t221 _ _ _ (fun k_ => some k_ ≠ (.slice Ao30 y241.length co30 : Value).ownBlock ∧ some k_ ≠ (v245 : Value).ownBlock ∧ some k_ ≠ (v248 : Value).ownBlock ∧ k_ ≠ gb220) (fun k_ => ((fun k_ => some k_ ≠ (.slice Ao30 y241.length co30 : Value).ownBlock ∧ some k_ ≠ (v245 : Value).ownBlock ∧ some k_ ≠ (v248 : Value).ownBlock ∧ k_ ≠ gb220)) k_ ∧ some k_ ≠ (v251 : Value).ownBlock) rfl rfl ?aO ?aR (fun _ hk => hk) ?aF ?aB ?aS ?aL ?_
       (case aR => exact (by skip; exact Kd.N_F (Kd.N_mono (ok' := (fun k_ => ((fun k_ => some k_ ≠ (.slice Ao30 y241.length co30 : Value).ownBlock ∧ some k_ ≠ (v245 : Value).ownBlock ∧ some k_ ≠ (v248 : Value).ownBlock ∧ k_ ≠ gb220)) k_ ∧ some k_ ≠ (v251 : Value).ownBlock)) (HO223.out) (fun k_ hk => ⟨⟨hk.1.1.1.2, ⟨hk.1.1.2, ⟨hk.1.2, hk.1.1.1.1⟩⟩⟩, hk.2⟩))))
       (case aB => exact (by repeat (first | (with_reducible first | exact HB.out | apply below_alloc | apply pw_below_drewN | apply below_drew1 | refine below_set ?_ GE220.out) | exact HB.out)))
       (case aF => exact (fun k_ hk => ⟨Kd.fresh' (Kd.N_lt (by (with_reducible repeat (first | apply Kd.N_alloc | apply Kd.N_drewN | apply Kd.N_drew)); exact HO243.out)) k_ hk, Kd.fresh' (Kd.R_lt (by (with_reducible repeat (first | apply Kd.R_alloc | apply Kd.R_drewN | apply Kd.R_drew)); exact HO246.out)) k_ hk, Kd.fresh' (Kd.R_lt (by (with_reducible repeat (first | apply Kd.R_alloc | apply Kd.R_drewN | apply Kd.R_drew)); exact HO249.out)) k_ hk, Kd.freshB (g := gb220) (o := .cells #[.slice A2_0 l2_0.length c2_0, .slice A2_1 l2_1.length c2_1, .int .i64 a2_2] 31 (0, 0)) (by (with_reducible repeat (first | refine blk_drewN ?_ _ | refine blk_drew ?_ | refine blk_alloc ?_ _)); exact BK220.out) k_ hk⟩))
       (case aO => exact (by (with_reducible repeat (first | apply Kd.N_alloc | apply Kd.N_drewN | apply Kd.N_drew)); exact Kd.N_mono HO252.out (fun _ hk => by first | exact ⟨hk.2.1, ⟨hk.2.2.1, ⟨hk.2.2.2.1, hk.2.2.2.2⟩⟩⟩ | simp_all)))
       (case aS => exact (below_size (by repeat (first | (with_reducible first | exact HB.out | apply below_alloc | apply pw_below_drewN | apply below_drew1 | refine below_set ?_ GE220.out) | exact HB.out))))
       (case aL => have := LMc14.out; omega)
       intro v254 w35 ho hb hg hat
       rw [← Ny253.out] at ho
       have n0_ := Aside0.mk (blk_grown (g := gb220) (o := .cells #[.slice A2_0 l2_0.length c2_0, .slice A2_1 l2_1.length c2_1, .int .i64 a2_2] 31 (0, 0)) (by (with_reducible repeat (first | refine blk_drewN ?_ _ | refine blk_drew ?_ | refine blk_alloc ?_ _)); exact BK220.out) hg (Kd.N_ne HO252.out BK220.out (by decide)))
       have n1_ := Aside0.mk (Kd.N_afterv (ok := (fun k_ => some k_ ≠ (.slice Ao30 y241.length co30 : Value).ownBlock ∧ some k_ ≠ (v245 : Value).ownBlock ∧ some k_ ≠ (v248 : Value).ownBlock ∧ k_ ≠ gb220)) (by (with_reducible repeat (first | apply Kd.N_alloc | apply Kd.N_drewN | apply Kd.N_drew)); exact Kd.N_mono HO223.out (fun _ hk => by first | exact ⟨⟨hk.1.1.1.2, ⟨hk.1.1.2, ⟨hk.1.2, hk.1.1.1.1⟩⟩⟩, hk.2⟩ | simp_all)) hg hat)
       have n2_ := Aside0.mk (Kd.V_afterv (ok := (fun k_ => some k_ ≠ (.slice Ao30 y241.length co30 : Value).ownBlock ∧ some k_ ≠ (v245 : Value).ownBlock ∧ some k_ ≠ (v248 : Value).ownBlock ∧ k_ ≠ gb220)) (by (with_reducible repeat (first | apply Kd.V_alloc | apply Kd.V_drewN | apply Kd.V_drew)); exact Kd.V_mono HO232.out (fun _ hk => by first | exact ⟨⟨hk.1.1.1.2, ⟨hk.1.1.2, ⟨hk.1.2, hk.1.1.1.1⟩⟩⟩, hk.2⟩ | simp_all)) hg hat)
       have n3_ := Aside0.mk (Kd.V_afterv (ok := (fun k_ => some k_ ≠ (.slice Ao30 y241.length co30 : Value).ownBlock ∧ some k_ ≠ (v245 : Value).ownBlock ∧ some k_ ≠ (v248 : Value).ownBlock ∧ k_ ≠ gb220)) (by (with_reducible repeat (first | apply Kd.V_alloc | apply Kd.V_drewN | apply Kd.V_drew)); exact Kd.V_mono HO240.out (fun _ hk => by first | exact ⟨⟨hk.1.1.1.2, ⟨hk.1.1.2, ⟨hk.1.2, hk.1.1.1.1⟩⟩⟩, hk.2⟩ | simp_all)) hg hat)
       have n4_ := Aside0.mk (Kd.N_afterv (ok := (fun k_ => some k_ ≠ (v245 : Value).ownBlock ∧ some k_ ≠ (v248 : Value).ownBlock ∧ k_ ≠ gb220)) (by (with_reducible repeat (first | apply Kd.N_alloc | apply Kd.N_drewN | apply Kd.N_drew)); exact Kd.N_mono HO243.out (fun _ hk => by first | exact ⟨⟨hk.1.1.2, ⟨hk.1.2, hk.1.1.1⟩⟩, hk.2⟩ | simp_all)) hg hat)
       have n5_ := Aside0.mk (Kd.R_over' (by (with_reducible repeat (first | apply Kd.R_alloc | apply Kd.R_drewN | apply Kd.R_drew)); exact HO246.out) (Kd.N_typed (by (with_reducible repeat (first | apply Kd.N_alloc | apply Kd.N_drewN | apply Kd.N_drew)); exact HO252.out)) (by decide) hg)
       have n6_ := Aside0.mk (Kd.R_over' (by (with_reducible repeat (first | apply Kd.R_alloc | apply Kd.R_drewN | apply Kd.R_drew)); exact HO249.out) (Kd.N_typed (by (with_reducible repeat (first | apply Kd.N_alloc | apply Kd.N_drewN | apply Kd.N_drew)); exact HO252.out)) (by decide) hg)
       have n7_ := Aside0.mk (hb)
       have n8_ := Aside0.mk (ho)
       clear BK220
       clear HO223
       clear HO232
       clear HO240
       clear HO243
       clear HO246
       clear HO249
       clear HB
       clear HO252
       have BK220 := n0_
       have HO223 := n1_
       have HO232 := n2_
       have HO240 := n3_
       have HO243 := n4_
       have HO246 := n5_
       have HO249 := n6_
       have HB := n7_
       have HO255 := n8_
       clear n0_ n1_ n2_ n3_ n4_ n5_ n6_ n7_ n8_
       clear ho hb hg hat
       refine hK.out _ _ ⟨(blk_cell BK220.out 0).trans rfl, (blk_cell BK220.out 1).trans rfl, (blk_cell BK220.out 2).trans rfl⟩ (fun hHeld => ?_)
       clear hK K
       refine norm_ (a' := ?_) ?_ ?_
       rotate_left
       ·
        show Act.put _ (some 38) _ = _
        simp only [Act.put, List.setIfInBounds_toArray, List.set_cons_zero, List.set_cons_succ, i64_w, i32_w]
        rfl
       refine one_ (i := 4) (N := some 40) #[true, true, true, true, true, false, false, false, false] rfl rfl (one_of HT_.out (by kernel_rfl)) (by decide) (fun K hK => ?_)
       refine goes_ Try.func10 (by kernel_rfl) rfl #[.agg #[.slice A2_0 l2_0.length c2_0, .slice A2_1 l2_1.length c2_1, .int .i64 a2_2]] (by rfl) rfl rfl (by (try simp only [List.map_toArray, List.map_cons, List.map_nil]); first | done | rfl | (simp only [List.length_drop, List.length_take]; rfl)) ?_
       with_reducible refine (porticokeep_Pattern_Segs.calls k _ _ l2_0 _ _ l2_1 a2_2 t256 _ ?side1 ?side2 ?side3 ?side4 A15.out).mono ?_
       (case side1 => repeat (first | exact (Kd.C_below HR2_0.out HB.out) | (with_reducible refine Kd.C_alloc ?_ _) | (with_reducible refine Kd.C_drewN ?_ _) | (with_reducible refine Kd.C_drew ?_)))
       (case side2 => exact HC2_0.out)
       (case side3 => repeat (first | exact (Kd.C_below HR2_1.out HB.out) | (with_reducible refine Kd.C_alloc ?_ _) | (with_reducible refine Kd.C_drewN ?_ _) | (with_reducible refine Kd.C_drew ?_)))
       (case side4 => exact HC2_1.out)
       rintro e w36 ⟨v257, rfl, ho0, hb⟩
       refine ⟨_, rfl, ?_⟩
       have n0_ := Aside0.mk (Kd.N_elder' (by (with_reducible repeat (first | apply Kd.N_alloc | apply Kd.N_drewN | apply Kd.N_drew)); exact HO223.out) (Kd.R_base ho0) hb)
       have n1_ := Aside0.mk (Kd.V_elder' (by (with_reducible repeat (first | apply Kd.V_alloc | apply Kd.V_drewN | apply Kd.V_drew)); exact HO232.out) (Kd.R_base ho0) hb)
       have n2_ := Aside0.mk (Kd.V_elder' (by (with_reducible repeat (first | apply Kd.V_alloc | apply Kd.V_drewN | apply Kd.V_drew)); exact HO240.out) (Kd.R_base ho0) hb)
       have n3_ := Aside0.mk (Kd.N_elder' (by (with_reducible repeat (first | apply Kd.N_alloc | apply Kd.N_drewN | apply Kd.N_drew)); exact HO243.out) (Kd.R_base ho0) hb)
       have n4_ := Aside0.mk (Kd.R_below (by (with_reducible repeat (first | apply Kd.R_alloc | apply Kd.R_drewN | apply Kd.R_drew)); exact HO246.out) hb)
       have n5_ := Aside0.mk (Kd.R_below (by (with_reducible repeat (first | apply Kd.R_alloc | apply Kd.R_drewN | apply Kd.R_drew)); exact HO249.out) hb)
       have n6_ := Aside0.mk (Kd.N_elder' (by (with_reducible repeat (first | apply Kd.N_alloc | apply Kd.N_drewN | apply Kd.N_drew)); exact HO255.out) (Kd.R_base ho0) hb)
       have n7_ := Aside0.mk (Kd.R_lower ho0 (below_size (by repeat (first | (with_reducible first | exact HB.out | apply below_alloc | apply pw_below_drewN | apply below_drew1 | refine below_set ?_ GE220.out) | exact HB.out))))
       have n8_ := Aside0.mk (blk_below (g := gb220) (o := .cells #[.slice A2_0 l2_0.length c2_0, .slice A2_1 l2_1.length c2_1, .int .i64 a2_2] 31 (0, 0)) (by (with_reducible repeat (first | refine blk_drewN ?_ _ | refine blk_drew ?_ | refine blk_alloc ?_ _)); exact BK220.out) hb)
       have n9_ := Aside0.mk (below_step (by repeat (first | (with_reducible first | exact HB.out | apply below_alloc | apply pw_below_drewN | apply below_drew1 | refine below_set ?_ GE220.out) | exact HB.out)) hb)
       clear HO223
       clear HO232
       clear HO240
       clear HO243
       clear HO246
       clear HO249
       clear HO255
       clear BK220
       clear HB
       have HO223 := n0_
       have HO232 := n1_
       have HO240 := n2_
       have HO243 := n3_
       have HO246 := n4_
       have HO249 := n5_
       have HO255 := n6_
       have HO258 := n7_
       have BK220 := n8_
       have HB := n9_
       clear n0_ n1_ n2_ n3_ n4_ n5_ n6_ n7_ n8_ n9_
       (try clear hb)
       (try clear hb2)
       (try clear hk)
       (try clear hi)
       (try clear ho0)
       obtain ⟨Ao38, co38, eo38⟩ := Kd.R_slice HO258.out
       (first | subst eo38 | (injection eo38 with f1_ f2_ f3_; have f4_ := f1_.symm; have f5_ := f3_.symm; clear f1_ f2_ f3_; subst f4_; subst f5_))
       refine hK.out _ _ ⟨(blk_cell BK220.out 0).trans rfl, (blk_cell BK220.out 1).trans rfl, (blk_cell BK220.out 2).trans rfl⟩ (fun hHeld => ?_)
       clear hK K
       refine norm_ (a' := ?_) ?_ ?_
       rotate_left
       ·
        show Act.put _ (some 40) _ = _
        simp only [Act.put, List.setIfInBounds_toArray, List.set_cons_zero, List.set_cons_succ, i64_w, i32_w]
        rfl
       refine one_ (i := 5) (N := some 41) #[true, true, true, true, true, true, false, false, false] rfl rfl (one_of HT_.out (by kernel_rfl)) (by decide) (fun K hK => ?_)
       refine value_ (w1 := ?_) (v := ?_) (by rfl) rfl ?_ ?_
       rotate_left 2
       ·
        go_simp
        constructor
        ·
         rfl
        ·
         rfl
       refine hK.out _ _ ⟨(blk_cell (blk_alloc BK220.out _) 0).trans rfl, (blk_cell (blk_alloc BK220.out _) 1).trans rfl, (blk_cell (blk_alloc BK220.out _) 2).trans rfl⟩ (fun hHeld => ?_)
       clear hK K
       refine norm_ (a' := ?_) ?_ ?_
       rotate_left
       ·
        show Act.put _ (some 41) _ = _
        simp only [Act.put, List.setIfInBounds_toArray, List.set_cons_zero, List.set_cons_succ, i64_w, i32_w]
        rfl
       refine one_ (i := 6) (N := some 42) #[true, true, true, true, true, true, true, false, false] rfl rfl (one_of HT_.out (by kernel_rfl)) (by decide) (fun K hK => ?_)
       refine Kd.N_append_step (Kd.slice 23 k23) (w0 := w) w.heap.size (by rfl) (.tmp 38) (.tmp 41) 37 26 (.slice none 0 0) 24 rfl Try.underlying37 info26 rfl (by decide) (by omega) v254 y253 t256 [.slice Ao38 t256.length co38] (fun k_ => some k_ ≠ (.slice Ao30 y241.length co30 : Value).ownBlock ∧ some k_ ≠ (v245 : Value).ownBlock ∧ some k_ ≠ (v248 : Value).ownBlock ∧ k_ ≠ gb220) (fun k_ => ((fun k_ => some k_ ≠ (.slice Ao30 y241.length co30 : Value).ownBlock ∧ some k_ ≠ (v245 : Value).ownBlock ∧ some k_ ≠ (v248 : Value).ownBlock ∧ k_ ≠ gb220)) k_ ∧ some k_ ≠ (v254 : Value).ownBlock) rfl rfl ?aP (fun _ hk => hk) ?aF ?aO ?aB ?aS ?aL ?_
       (case aP => exact (Kd.FK_slice_mk (Kd.R_reads' (Kd.R_mono (ok' := (fun k_ => ((fun k_ => some k_ ≠ (.slice Ao30 y241.length co30 : Value).ownBlock ∧ some k_ ≠ (v245 : Value).ownBlock ∧ some k_ ≠ (v248 : Value).ownBlock ∧ k_ ≠ gb220)) k_ ∧ some k_ ≠ (v254 : Value).ownBlock)) (Kd.R_types (Kd.R_apart' (Kd.R_apart' (Kd.R_apart' (Kd.R_apart' (HO258.out) (Kd.N_typed HO243.out) (by decide)) (Kd.R_typed HO246.out) (by decide)) (Kd.R_typed HO249.out) (by decide)) (Kd.N_typed HO255.out) (by decide)) BK220.out (by decide)) (fun k_ hk => ⟨⟨hk.1.1.1.1.2, ⟨hk.1.1.1.2, ⟨hk.1.1.2, hk.2⟩⟩⟩, hk.1.2⟩))).2.1 (Kd.R_F (Kd.R_mono (ok' := (fun k_ => ((fun k_ => some k_ ≠ (.slice Ao30 y241.length co30 : Value).ownBlock ∧ some k_ ≠ (v245 : Value).ownBlock ∧ some k_ ≠ (v248 : Value).ownBlock ∧ k_ ≠ gb220)) k_ ∧ some k_ ≠ (v254 : Value).ownBlock)) (Kd.R_types (Kd.R_apart' (Kd.R_apart' (Kd.R_apart' (Kd.R_apart' (HO258.out) (Kd.N_typed HO243.out) (by decide)) (Kd.R_typed HO246.out) (by decide)) (Kd.R_typed HO249.out) (by decide)) (Kd.N_typed HO255.out) (by decide)) BK220.out (by decide)) (fun k_ hk => ⟨⟨hk.1.1.1.1.2, ⟨hk.1.1.1.2, ⟨hk.1.1.2, hk.2⟩⟩⟩, hk.1.2⟩)))))
       (case aB => exact (by repeat (first | (with_reducible first | exact HB.out | apply below_alloc | apply pw_below_drewN | apply below_drew1 | refine below_set ?_ GE220.out) | exact HB.out)))
       (case aF => exact (fun k_ hk => ⟨Kd.fresh' (Kd.N_lt (by (with_reducible repeat (first | apply Kd.N_alloc | apply Kd.N_drewN | apply Kd.N_drew)); exact HO243.out)) k_ hk, Kd.fresh' (Kd.R_lt (by (with_reducible repeat (first | apply Kd.R_alloc | apply Kd.R_drewN | apply Kd.R_drew)); exact HO246.out)) k_ hk, Kd.fresh' (Kd.R_lt (by (with_reducible repeat (first | apply Kd.R_alloc | apply Kd.R_drewN | apply Kd.R_drew)); exact HO249.out)) k_ hk, Kd.freshB (g := gb220) (o := .cells #[.slice A2_0 l2_0.length c2_0, .slice A2_1 l2_1.length c2_1, .int .i64 a2_2] 31 (0, 0)) (by (with_reducible repeat (first | refine blk_drewN ?_ _ | refine blk_drew ?_ | refine blk_alloc ?_ _)); exact BK220.out) k_ hk⟩))
       (case aO => exact (by (with_reducible repeat (first | apply Kd.N_alloc | apply Kd.N_drewN | apply Kd.N_drew)); exact Kd.N_mono HO255.out (fun _ hk => by first | exact ⟨hk.1.1, ⟨hk.1.2.1, ⟨hk.1.2.2.1, hk.1.2.2.2⟩⟩⟩ | simp_all)))
       (case aS => exact (below_size (by repeat (first | (with_reducible first | exact HB.out | apply below_alloc | apply pw_below_drewN | apply below_drew1 | refine below_set ?_ GE220.out) | exact HB.out))))
       (case aL => have := LMc16.out; omega)
       intro v260 w37 ho hb hg hat
       rw [← Ny259.out] at ho
       have n0_ := Aside0.mk (blk_grown (g := gb220) (o := .cells #[.slice A2_0 l2_0.length c2_0, .slice A2_1 l2_1.length c2_1, .int .i64 a2_2] 31 (0, 0)) (by (with_reducible repeat (first | refine blk_drewN ?_ _ | refine blk_drew ?_ | refine blk_alloc ?_ _)); exact BK220.out) hg (Kd.N_ne HO255.out BK220.out (by decide)))
       have n1_ := Aside0.mk (Kd.N_afterv (ok := (fun k_ => some k_ ≠ (.slice Ao30 y241.length co30 : Value).ownBlock ∧ some k_ ≠ (v245 : Value).ownBlock ∧ some k_ ≠ (v248 : Value).ownBlock ∧ some k_ ≠ (.slice Ao38 t256.length co38 : Value).ownBlock ∧ k_ ≠ gb220)) (by (with_reducible repeat (first | apply Kd.N_alloc | apply Kd.N_drewN | apply Kd.N_drew)); exact Kd.N_mono HO223.out (fun _ hk => by first | exact ⟨⟨hk.1.1.1, ⟨hk.1.1.2.1, ⟨hk.1.1.2.2.1, ⟨hk.2, hk.1.1.2.2.2⟩⟩⟩⟩, hk.1.2⟩ | simp_all)) hg hat)
       have n2_ := Aside0.mk (Kd.V_afterv (ok := (fun k_ => some k_ ≠ (.slice Ao30 y241.length co30 : Value).ownBlock ∧ some k_ ≠ (v245 : Value).ownBlock ∧ some k_ ≠ (v248 : Value).ownBlock ∧ some k_ ≠ (.slice Ao38 t256.length co38 : Value).ownBlock ∧ k_ ≠ gb220)) (by (with_reducible repeat (first | apply Kd.V_alloc | apply Kd.V_drewN | apply Kd.V_drew)); exact Kd.V_mono HO232.out (fun _ hk => by first | exact ⟨⟨hk.1.1.1, ⟨hk.1.1.2.1, ⟨hk.1.1.2.2.1, ⟨hk.2, hk.1.1.2.2.2⟩⟩⟩⟩, hk.1.2⟩ | simp_all)) hg hat)
       have n3_ := Aside0.mk (Kd.V_afterv (ok := (fun k_ => some k_ ≠ (.slice Ao30 y241.length co30 : Value).ownBlock ∧ some k_ ≠ (v245 : Value).ownBlock ∧ some k_ ≠ (v248 : Value).ownBlock ∧ some k_ ≠ (.slice Ao38 t256.length co38 : Value).ownBlock ∧ k_ ≠ gb220)) (by (with_reducible repeat (first | apply Kd.V_alloc | apply Kd.V_drewN | apply Kd.V_drew)); exact Kd.V_mono HO240.out (fun _ hk => by first | exact ⟨⟨hk.1.1.1, ⟨hk.1.1.2.1, ⟨hk.1.1.2.2.1, ⟨hk.2, hk.1.1.2.2.2⟩⟩⟩⟩, hk.1.2⟩ | simp_all)) hg hat)
       have n4_ := Aside0.mk (Kd.N_afterv (ok := (fun k_ => some k_ ≠ (v245 : Value).ownBlock ∧ some k_ ≠ (v248 : Value).ownBlock ∧ some k_ ≠ (.slice Ao38 t256.length co38 : Value).ownBlock ∧ k_ ≠ gb220)) (by (with_reducible repeat (first | apply Kd.N_alloc | apply Kd.N_drewN | apply Kd.N_drew)); exact Kd.N_mono HO243.out (fun _ hk => by first | exact ⟨⟨hk.1.1.1, ⟨hk.1.1.2.1, ⟨hk.2, hk.1.1.2.2⟩⟩⟩, hk.1.2⟩ | simp_all)) hg hat)
       have n5_ := Aside0.mk (Kd.R_over' (by (with_reducible repeat (first | apply Kd.R_alloc | apply Kd.R_drewN | apply Kd.R_drew)); exact HO246.out) (Kd.N_typed (by (with_reducible repeat (first | apply Kd.N_alloc | apply Kd.N_drewN | apply Kd.N_drew)); exact HO255.out)) (by decide) hg)
       have n6_ := Aside0.mk (Kd.R_over' (by (with_reducible repeat (first | apply Kd.R_alloc | apply Kd.R_drewN | apply Kd.R_drew)); exact HO249.out) (Kd.N_typed (by (with_reducible repeat (first | apply Kd.N_alloc | apply Kd.N_drewN | apply Kd.N_drew)); exact HO255.out)) (by decide) hg)
       have n7_ := Aside0.mk (hb)
       have n8_ := Aside0.mk (ho)
       clear BK220
       clear HO223
       clear HO232
       clear HO240
       clear HO243
       clear HO246
       clear HO249
       clear HB
       clear HO255
       clear HO258
       have BK220 := n0_
       have HO223 := n1_
       have HO232 := n2_
       have HO240 := n3_
       have HO243 := n4_
       have HO246 := n5_
       have HO249 := n6_
       have HB := n7_
       have HO261 := n8_
       clear n0_ n1_ n2_ n3_ n4_ n5_ n6_ n7_ n8_
       clear ho hb hg hat
       obtain ⟨Ao39, co39, eo39⟩ := Kd.N_slice HO261.out
       (first | subst eo39 | (injection eo39 with f1_ f2_ f3_; have f4_ := f1_.symm; have f5_ := f3_.symm; clear f1_ f2_ f3_; subst f4_; subst f5_))
       refine hK.out _ _ ⟨(blk_cell BK220.out 0).trans rfl, (blk_cell BK220.out 1).trans rfl, (blk_cell BK220.out 2).trans rfl⟩ (fun hHeld => ?_)
       clear hK K
       refine norm_ (a' := ?_) ?_ ?_
       rotate_left
       ·
        show Act.put _ (some 42) _ = _
        simp only [Act.put, List.setIfInBounds_toArray, List.set_cons_zero, List.set_cons_succ, i64_w, i32_w]
        rfl
       refine one_ (i := 7) (N := some 43) #[true, true, true, true, true, true, true, true, false] rfl rfl (one_of HT_.out (by kernel_rfl)) (by decide) (fun K hK => ?_)
       refine goes_ Try.func14 (by kernel_rfl) rfl #[.slice Ao39 y259.length co39] (by rfl) rfl rfl (by (try simp only [List.map_toArray, List.map_cons, List.map_nil]); first | done | rfl | (simp only [List.length_drop, List.length_take]; rfl)) ?_
       with_reducible refine (rank_Sorted.calls _ _ y259 t262 _ ?side1 ?side2 A17.out).mono ?_
       (case side1 => repeat (first | exact (Kd.N_reads' HO261.out).2.2 | (with_reducible refine Kd.C_alloc ?_ _) | (with_reducible refine Kd.C_drewN ?_ _) | (with_reducible refine Kd.C_drew ?_)))
       (case side2 => exact (Kd.N_reads' HO261.out).2.1)
       rintro e w40 ⟨v263, rfl, ho0, hb⟩
       refine ⟨_, rfl, ?_⟩
       have n0_ := Aside0.mk (Kd.N_elder' (by (with_reducible repeat (first | apply Kd.N_alloc | apply Kd.N_drewN | apply Kd.N_drew)); exact HO223.out) (Kd.R_base ho0) hb)
       have n1_ := Aside0.mk (Kd.V_elder' (by (with_reducible repeat (first | apply Kd.V_alloc | apply Kd.V_drewN | apply Kd.V_drew)); exact HO232.out) (Kd.R_base ho0) hb)
       have n2_ := Aside0.mk (Kd.V_elder' (by (with_reducible repeat (first | apply Kd.V_alloc | apply Kd.V_drewN | apply Kd.V_drew)); exact HO240.out) (Kd.R_base ho0) hb)
       have n3_ := Aside0.mk (Kd.N_elder' (by (with_reducible repeat (first | apply Kd.N_alloc | apply Kd.N_drewN | apply Kd.N_drew)); exact HO243.out) (Kd.R_base ho0) hb)
       have n4_ := Aside0.mk (Kd.R_elder' (by (with_reducible repeat (first | apply Kd.R_alloc | apply Kd.R_drewN | apply Kd.R_drew)); exact HO246.out) (Kd.R_base ho0) hb)
       have n5_ := Aside0.mk (Kd.R_elder' (by (with_reducible repeat (first | apply Kd.R_alloc | apply Kd.R_drewN | apply Kd.R_drew)); exact HO249.out) (Kd.R_base ho0) hb)
       have n6_ := Aside0.mk (Kd.N_elder' (by (with_reducible repeat (first | apply Kd.N_alloc | apply Kd.N_drewN | apply Kd.N_drew)); exact HO261.out) (Kd.R_base ho0) hb)
       have n7_ := Aside0.mk (Kd.R_lower (Kd.R_new' (Kd.R_new' ho0 (Kd.R_lt (by (with_reducible repeat (first | apply Kd.R_alloc | apply Kd.R_drewN | apply Kd.R_drew)); exact HO246.out))) (Kd.R_lt (by (with_reducible repeat (first | apply Kd.R_alloc | apply Kd.R_drewN | apply Kd.R_drew)); exact HO249.out))) (below_size (by repeat (first | (with_reducible first | exact HB.out | apply below_alloc | apply pw_below_drewN | apply below_drew1 | refine below_set ?_ GE220.out) | exact HB.out))))
       have n8_ := Aside0.mk (blk_below (g := gb220) (o := .cells #[.slice A2_0 l2_0.length c2_0, .slice A2_1 l2_1.length c2_1, .int .i64 a2_2] 31 (0, 0)) (by (with_reducible repeat (first | refine blk_drewN ?_ _ | refine blk_drew ?_ | refine blk_alloc ?_ _)); exact BK220.out) hb)
       have n9_ := Aside0.mk (below_step (by repeat (first | (with_reducible first | exact HB.out | apply below_alloc | apply pw_below_drewN | apply below_drew1 | refine below_set ?_ GE220.out) | exact HB.out)) hb)
       clear HO223
       clear HO232
       clear HO240
       clear HO243
       clear HO246
       clear HO249
       clear HO261
       clear BK220
       clear HB
       have HO223 := n0_
       have HO232 := n1_
       have HO240 := n2_
       have HO243 := n3_
       have HO246 := n4_
       have HO249 := n5_
       have HO261 := n6_
       have HO264 := n7_
       have BK220 := n8_
       have HB := n9_
       clear n0_ n1_ n2_ n3_ n4_ n5_ n6_ n7_ n8_ n9_
       (try clear hb)
       (try clear hb2)
       (try clear hk)
       (try clear hi)
       (try clear ho0)
       refine hK.out _ _ ⟨(blk_cell BK220.out 0).trans rfl, (blk_cell BK220.out 1).trans rfl, (blk_cell BK220.out 2).trans rfl⟩ (fun hHeld => ?_)
       clear hK K
       refine norm_ (a' := ?_) ?_ ?_
       rotate_left
       ·
        show Act.put _ (some 43) _ = _
        simp only [Act.put, List.setIfInBounds_toArray, List.set_cons_zero, List.set_cons_succ, i64_w, i32_w]
        rfl
       refine pure_ (i := 8) (N := some 12) (v := ?_) (a' := ?_) #[true, true, true, true, true, true, true, true, true] rfl rfl (any_of HT_.out (by kernel_rfl)) (fun _ _ _ h => h) (Or.inl ⟨by rfl, ?_⟩) ?_ ?_
       rotate_left
       ·
        intro w'
        go_simp
        with_reducible rfl
       rotate_left
       ·
        simp only [Act.put, List.setIfInBounds_toArray, List.set_cons_zero, List.set_cons_succ, i64_w, i32_w]
        rfl
       refine done_ (done_of HT_.out (by kernel_rfl)) ?_
       go_upto_region 6 with (fail)
       go_cut [63] (fun v63 wc => ∃ (kq : Nat) (x63_17 : Bool), v63 = .bool x63_17 ∧ Aside0 (porticolaw6_RankSorted.j0 kq t221 y241 t244 t247 t262 x63_17 = some r) ∧ Aside0 (kq ≤ k) ∧ Aside0 (Kd.N (Kd.slice 23 k23) 26 wc w.heap.size (fun k_ => some k_ ≠ ((.slice Ao30 y241.length co30) : Value).ownBlock ∧ some k_ ≠ (v245 : Value).ownBlock ∧ some k_ ≠ (v248 : Value).ownBlock ∧ some k_ ≠ (v263 : Value).ownBlock ∧ k_ ≠ gb220) (.slice Ao21 t221.length co21) t221) ∧ Aside0 (Kd.N (Kd.slice 23 k23) 26 wc w.heap.size (fun k_ => some k_ ≠ (v245 : Value).ownBlock ∧ some k_ ≠ (v248 : Value).ownBlock ∧ some k_ ≠ (v263 : Value).ownBlock ∧ k_ ≠ gb220) (.slice Ao30 y241.length co30) y241) ∧ Aside0 (Kd.R (Kd.int .i64) 3 wc w.heap.size (fun k_ => some k_ ≠ (v248 : Value).ownBlock ∧ some k_ ≠ (v263 : Value).ownBlock) v245 t244) ∧ Aside0 (Kd.R (Kd.int .i64) 3 wc w.heap.size (fun k_ => some k_ ≠ (v245 : Value).ownBlock ∧ some k_ ≠ (v263 : Value).ownBlock) v248 t247) ∧ Aside0 (Kd.R (Kd.int .i64) 3 wc w.heap.size (fun k_ => some k_ ≠ (v245 : Value).ownBlock ∧ some k_ ≠ (v248 : Value).ownBlock) v263 t262) ∧ Aside0 (wc.heap[gb220]? = some (.cells #[(.slice A2_0 l2_0.length c2_0), (.slice A2_1 l2_1.length c2_1), .int .i64 a2_2] 31 (0, 0))) ∧ Aside0 (Below w.heap.size w wc))
       case first =>
        have H := HC18.out
        clear HC18
        by_cases c41 : (t244.length : Int) = (t221.length : Int)
        ·
         rw [if_pos c41] at H
         have c41b0 : ((t244.length : Int) == (t221.length : Int)) = true := beq_iff_eq.mpr c41
         have c41b1 : ((t244.length : Int) != (t221.length : Int)) = false := bne_eq_false_iff_eq.mpr c41
         have c41b2 : (t244.length == t221.length) = true := by first | simpa using c41 | (simp at c41 ⊢; omega)
         clear c41
         (first | rw [c41b0] | (simp only [i64_w, i32_w]; rw [c41b0]) | rw [c41b1] | rw [c41b2] | skip)
         by_cases c42 : (t247.length : Int) = (t221.length : Int)
         ·
          rw [if_pos c42] at H
          have c42b0 : ((t247.length : Int) == (t221.length : Int)) = true := beq_iff_eq.mpr c42
          have c42b1 : ((t247.length : Int) != (t221.length : Int)) = false := bne_eq_false_iff_eq.mpr c42
          have c42b2 : (t247.length == t221.length) = true := by first | simpa using c42 | (simp at c42 ⊢; omega)
          clear c42
          have H' := Aside0.mk H
          clear H
          obtain ⟨Ao43, co43, eo43⟩ := Kd.R_slice HO246.out
          subst eo43
          obtain ⟨Ao44, co44, eo44⟩ := Kd.R_slice HO249.out
          subst eo44
          obtain ⟨Ao45, co45, eo45⟩ := Kd.R_slice HO264.out
          subst eo45
          go_wp2
          go_meet
          case rel => exact ⟨_, (((t262.length : Int) != (wrap64 ((t221.length : Int) + 1)))), (by first | rfl | (simp; done) | (simp [*]; done)), H', ⟨by first | omega | exact Nat.le_refl _⟩, ⟨by (with_reducible repeat (first | apply Kd.N_alloc | apply Kd.N_drewN | apply Kd.N_drew)); exact Kd.N_mono HO223.out (fun _ hk => ⟨hk.1.1.1, ⟨hk.1.1.2.1, ⟨hk.1.1.2.2.1, ⟨hk.2, hk.1.1.2.2.2.2⟩⟩⟩⟩)⟩, ⟨by (with_reducible repeat (first | apply Kd.N_alloc | apply Kd.N_drewN | apply Kd.N_drew)); exact Kd.N_mono HO243.out (fun _ hk => ⟨hk.1.1.1, ⟨hk.1.1.2.1, ⟨hk.2, hk.1.1.2.2.2⟩⟩⟩)⟩, ⟨by (with_reducible repeat (first | apply Kd.R_alloc | apply Kd.R_drewN | apply Kd.R_drew)); exact Kd.R_mono HO246.out (fun _ hk => ⟨hk.1.2, hk.2⟩)⟩, ⟨by (with_reducible repeat (first | apply Kd.R_alloc | apply Kd.R_drewN | apply Kd.R_drew)); exact Kd.R_mono HO249.out (fun _ hk => ⟨hk.1.2, hk.2⟩)⟩, ⟨by (with_reducible repeat (first | apply Kd.R_alloc | apply Kd.R_drewN | apply Kd.R_drew)); exact Kd.R_mono HO264.out (fun _ hk => ⟨hk.1.2, hk.2⟩)⟩, ⟨by (with_reducible repeat (first | refine blk_drewN ?_ _ | refine blk_drew ?_ | refine blk_alloc ?_ _)); exact BK220.out⟩, ⟨by repeat (first | (with_reducible first | exact HB.out | apply below_alloc | apply pw_below_drewN | apply below_drew1 | refine below_set ?_ GE220.out) | exact HB.out)⟩⟩
         ·
          rw [if_neg c42] at H
          have c42b0 : ((t247.length : Int) == (t221.length : Int)) = false := beq_eq_false_iff_ne.mpr c42
          have c42b1 : ((t247.length : Int) != (t221.length : Int)) = true := bne_iff_ne.mpr c42
          have c42b2 : (t247.length == t221.length) = false := by first | simpa using c42 | (simp at c42 ⊢; omega)
          have H' := Aside0.mk H
          clear H
          obtain ⟨Ao46, co46, eo46⟩ := Kd.R_slice HO246.out
          subst eo46
          obtain ⟨Ao47, co47, eo47⟩ := Kd.R_slice HO249.out
          subst eo47
          go_wp2
          go_meet
          case rel => exact ⟨_, (true), (by first | rfl | (simp; done) | (simp [*]; done)), H', ⟨by first | omega | exact Nat.le_refl _⟩, ⟨by (with_reducible repeat (first | apply Kd.N_alloc | apply Kd.N_drewN | apply Kd.N_drew)); exact Kd.N_mono HO223.out (fun _ hk => ⟨hk.1.1.1, ⟨hk.1.1.2.1, ⟨hk.1.1.2.2.1, ⟨hk.2, hk.1.1.2.2.2.2⟩⟩⟩⟩)⟩, ⟨by (with_reducible repeat (first | apply Kd.N_alloc | apply Kd.N_drewN | apply Kd.N_drew)); exact Kd.N_mono HO243.out (fun _ hk => ⟨hk.1.1.1, ⟨hk.1.1.2.1, ⟨hk.2, hk.1.1.2.2.2⟩⟩⟩)⟩, ⟨by (with_reducible repeat (first | apply Kd.R_alloc | apply Kd.R_drewN | apply Kd.R_drew)); exact Kd.R_mono HO246.out (fun _ hk => ⟨hk.1.2, hk.2⟩)⟩, ⟨by (with_reducible repeat (first | apply Kd.R_alloc | apply Kd.R_drewN | apply Kd.R_drew)); exact Kd.R_mono HO249.out (fun _ hk => ⟨hk.1.2, hk.2⟩)⟩, ⟨by (with_reducible repeat (first | apply Kd.R_alloc | apply Kd.R_drewN | apply Kd.R_drew)); exact Kd.R_mono HO264.out (fun _ hk => ⟨hk.1.2, hk.2⟩)⟩, ⟨by (with_reducible repeat (first | refine blk_drewN ?_ _ | refine blk_drew ?_ | refine blk_alloc ?_ _)); exact BK220.out⟩, ⟨by repeat (first | (with_reducible first | exact HB.out | apply below_alloc | apply pw_below_drewN | apply below_drew1 | refine below_set ?_ GE220.out) | exact HB.out)⟩⟩
        ·
         rw [if_neg c41] at H
         have c41b0 : ((t244.length : Int) == (t221.length : Int)) = false := beq_eq_false_iff_ne.mpr c41
         have c41b1 : ((t244.length : Int) != (t221.length : Int)) = true := bne_iff_ne.mpr c41
         have c41b2 : (t244.length == t221.length) = false := by first | simpa using c41 | (simp at c41 ⊢; omega)
         (first | rw [c41b0] | (simp only [i64_w, i32_w]; rw [c41b0]) | rw [c41b1] | rw [c41b2] | skip)
         have H' := Aside0.mk H
         clear H
         obtain ⟨Ao48, co48, eo48⟩ := Kd.R_slice HO246.out
         subst eo48
         go_wp2
         go_meet
         case rel => exact ⟨_, (true), (by first | rfl | (simp; done) | (simp [*]; done)), H', ⟨by first | omega | exact Nat.le_refl _⟩, ⟨by (with_reducible repeat (first | apply Kd.N_alloc | apply Kd.N_drewN | apply Kd.N_drew)); exact Kd.N_mono HO223.out (fun _ hk => ⟨hk.1.1.1, ⟨hk.1.1.2.1, ⟨hk.1.1.2.2.1, ⟨hk.2, hk.1.1.2.2.2.2⟩⟩⟩⟩)⟩, ⟨by (with_reducible repeat (first | apply Kd.N_alloc | apply Kd.N_drewN | apply Kd.N_drew)); exact Kd.N_mono HO243.out (fun _ hk => ⟨hk.1.1.1, ⟨hk.1.1.2.1, ⟨hk.2, hk.1.1.2.2.2⟩⟩⟩)⟩, ⟨by (with_reducible repeat (first | apply Kd.R_alloc | apply Kd.R_drewN | apply Kd.R_drew)); exact Kd.R_mono HO246.out (fun _ hk => ⟨hk.1.2, hk.2⟩)⟩, ⟨by (with_reducible repeat (first | apply Kd.R_alloc | apply Kd.R_drewN | apply Kd.R_drew)); exact Kd.R_mono HO249.out (fun _ hk => ⟨hk.1.2, hk.2⟩)⟩, ⟨by (with_reducible repeat (first | apply Kd.R_alloc | apply Kd.R_drewN | apply Kd.R_drew)); exact Kd.R_mono HO264.out (fun _ hk => ⟨hk.1.2, hk.2⟩)⟩, ⟨by (with_reducible repeat (first | refine blk_drewN ?_ _ | refine blk_drew ?_ | refine blk_alloc ?_ _)); exact BK220.out⟩, ⟨by repeat (first | (with_reducible first | exact HB.out | apply below_alloc | apply pw_below_drewN | apply below_drew1 | refine below_set ?_ GE220.out) | exact HB.out)⟩⟩
       case rest =>
        clear HC18
        try clear c1
        try clear c2
        try clear p2
        try clear q2
        try clear c4
        try clear c6
        try clear p6
        try clear c8
        try clear c10
        try clear c11
        try clear c12
        try clear c13
        try clear c14
        try clear c16
        try clear c23
        try clear q23
        try clear q24
        try clear c41
        try clear c41b0
        try clear c41b1
        try clear c41b2
        try clear c42
        try clear c42b0
        try clear c42b1
        try clear c42b2
        try clear q023
        try clear q23
        try clear q24
        obtain ⟨kq, x63_17, rfl, HA, HJ17, HO_7, HO_9, HO_10, HO_11, HO_12, BK220, HB⟩ := hcut
        cases kq with
        | zero => exact absurd HA.out (by simp [porticolaw6_RankSorted.j0])
        | succ kj17 =>
         have H := HA.out
         clear HA
         simp only [porticolaw6_RankSorted.j0] at H
         by_cases c49 : x63_17 = true
         ·
          subst c49
          have H1 : (none) = some r := by rw [if_pos rfl] at H; exact H
          clear H
          have H := H1
          clear H1
          exact absurd H (by simp)
         ·
          replace c49 := Bool.eq_false_iff.mpr c49
          subst c49
          have H1 : (porticolaw6_RankSorted.l0 kj17 t221 y241 t244 t247 ([] : List Int) t262 (t262.length : Int) 0) = some r := by rw [if_neg (show ¬ (false = true) by decide)] at H; exact H
          clear H
          have H := H1
          clear H1
          have H' := Aside0.mk H
          clear H
          obtain ⟨Ao50, co50, eo50⟩ := Kd.R_slice HO_12.out
          subst eo50
          go_wp2
          go_loopg [13, 66] kj17 (fun kq v13 v66 w' => ∃ (x13_2 : List Int) (x66_2 : Int), v66 = .int .i64 x66_2 ∧ Aside0 (porticolaw6_RankSorted.l0 kq t221 y241 t244 t247 x13_2 t262 (t262.length : Int) x66_2 = some r) ∧ Aside0 (kq ≤ kj17) ∧ Aside0 (Kd.N (Kd.slice 23 k23) 26 w' w.heap.size (fun k_ => some k_ ≠ ((.slice Ao30 y241.length co30) : Value).ownBlock ∧ some k_ ≠ (v245 : Value).ownBlock ∧ some k_ ≠ (v248 : Value).ownBlock ∧ some k_ ≠ (v13 : Value).ownBlock ∧ some k_ ≠ ((.slice Ao50 t262.length co50) : Value).ownBlock ∧ k_ ≠ gb220) (.slice Ao21 t221.length co21) t221) ∧ Aside0 (Kd.N (Kd.slice 23 k23) 26 w' w.heap.size (fun k_ => some k_ ≠ (v245 : Value).ownBlock ∧ some k_ ≠ (v248 : Value).ownBlock ∧ some k_ ≠ (v13 : Value).ownBlock ∧ some k_ ≠ ((.slice Ao50 t262.length co50) : Value).ownBlock ∧ k_ ≠ gb220) (.slice Ao30 y241.length co30) y241) ∧ Aside0 (Kd.R (Kd.int .i64) 3 w' w.heap.size (fun k_ => some k_ ≠ (v248 : Value).ownBlock ∧ some k_ ≠ (v13 : Value).ownBlock ∧ some k_ ≠ ((.slice Ao50 t262.length co50) : Value).ownBlock) v245 t244) ∧ Aside0 (Kd.R (Kd.int .i64) 3 w' w.heap.size (fun k_ => some k_ ≠ (v245 : Value).ownBlock ∧ some k_ ≠ (v13 : Value).ownBlock ∧ some k_ ≠ ((.slice Ao50 t262.length co50) : Value).ownBlock) v248 t247) ∧ Aside0 (Kd.R (Kd.int .i64) 3 w' w.heap.size (fun k_ => some k_ ≠ (v245 : Value).ownBlock ∧ some k_ ≠ (v248 : Value).ownBlock ∧ some k_ ≠ ((.slice Ao50 t262.length co50) : Value).ownBlock) v13 x13_2) ∧ Aside0 (Kd.R (Kd.int .i64) 3 w' w.heap.size (fun k_ => some k_ ≠ (v245 : Value).ownBlock ∧ some k_ ≠ (v248 : Value).ownBlock ∧ some k_ ≠ (v13 : Value).ownBlock) (.slice Ao50 t262.length co50) t262) ∧ Aside0 (w'.heap[gb220]? = some (.cells #[(.slice A2_0 l2_0.length c2_0), (.slice A2_1 l2_1.length c2_1), .int .i64 a2_2] 31 (0, 0))) ∧ Aside0 (Below w.heap.size w w'))
          case atStart => exact ⟨(([] : List Int)), (0), (by first | rfl | (simp; done) | (simp [*]; done)), H', ⟨Nat.le_refl _⟩, ⟨by (with_reducible repeat (first | apply Kd.N_alloc | apply Kd.N_drewN | apply Kd.N_drew)); exact Kd.N_mono HO_7.out (fun _ hk => ⟨hk.1, ⟨hk.2.1, ⟨hk.2.2.1, ⟨(by simp [Value.ownBlock]), ⟨hk.2.2.2.1, hk.2.2.2.2⟩⟩⟩⟩⟩)⟩, ⟨by (with_reducible repeat (first | apply Kd.N_alloc | apply Kd.N_drewN | apply Kd.N_drew)); exact Kd.N_mono HO_9.out (fun _ hk => ⟨hk.1, ⟨hk.2.1, ⟨(by simp [Value.ownBlock]), ⟨hk.2.2.1, hk.2.2.2⟩⟩⟩⟩)⟩, ⟨by (with_reducible repeat (first | apply Kd.R_alloc | apply Kd.R_drewN | apply Kd.R_drew)); exact Kd.R_mono HO_10.out (fun _ hk => ⟨hk.1, ⟨(by simp [Value.ownBlock]), hk.2⟩⟩)⟩, ⟨by (with_reducible repeat (first | apply Kd.R_alloc | apply Kd.R_drewN | apply Kd.R_drew)); exact Kd.R_mono HO_11.out (fun _ hk => ⟨hk.1, ⟨(by simp [Value.ownBlock]), hk.2⟩⟩)⟩, ⟨by first | exact Kd.R_nil _ _ _ _ _ | exact Kd.N_nil _ _ _ _ _ | exact Kd.V_nil _ _ _ _ _ | exact Kd.Q_nil _ _ _ _ _ | exact Kd.S_nil _ _ _ _ _⟩, ⟨by (with_reducible repeat (first | apply Kd.R_alloc | apply Kd.R_drewN | apply Kd.R_drew)); exact Kd.R_mono HO_12.out (fun _ hk => ⟨hk.1, ⟨hk.2, (by simp [Value.ownBlock])⟩⟩)⟩, ⟨by (with_reducible repeat (first | refine blk_drewN ?_ _ | refine blk_drew ?_ | refine blk_alloc ?_ _)); exact BK220.out⟩, ⟨by repeat (first | (with_reducible first | exact HB.out | apply below_alloc | apply pw_below_drewN | apply below_drew1 | refine below_set ?_ GE220.out) | exact HB.out)⟩⟩
          case round =>
           clear H'
           try clear c1
           try clear c2
           try clear p2
           try clear q2
           try clear c4
           try clear c6
           try clear p6
           try clear c8
           try clear c10
           try clear c11
           try clear c12
           try clear c13
           try clear c14
           try clear c16
           try clear c23
           try clear q23
           try clear q24
           try clear c41
           try clear c41b0
           try clear c41b1
           try clear c41b2
           try clear c42
           try clear c42b0
           try clear c42b1
           try clear c42b2
           try clear c49
           try clear p2
           try clear p6
           try clear q023
           try clear q2
           try clear q23
           try clear q24
           obtain ⟨x13_2, x66_2, rfl, HA, HK2, HO_7, HO_9, HO_10, HO_11, HO_13, HO_64, BK220, HB⟩ := hrel
           cases gk with
           | zero => exact absurd HA.out (by simp [porticolaw6_RankSorted.l0])
           | succ k2 =>
            have H := HA.out
            clear HA
            simp only [porticolaw6_RankSorted.l0] at H
            by_cases c51 : x66_2 < (t262.length : Int)
            ·
             rw [if_pos c51] at H
             have c51b0 : decide (x66_2 < (t262.length : Int)) = true := decide_eq_true c51
             clear c51
             by_cases c52 : 0 ≤ x66_2
             ·
              rw [if_pos c52] at H
              have c52b0 : decide (0 ≤ x66_2) = true := decide_eq_true c52
              clear c52
              by_cases c53 : x66_2 < (t262.length : Int)
              ·
               rw [if_pos c53] at H
               have c53b0 : decide (x66_2 < (t262.length : Int)) = true := decide_eq_true c53
               clear c53
               by_cases c54 : (rd t262 x66_2) = (t221.length : Int)
               ·
                rw [if_pos c54] at H
                have c54b0 : ((rd t262 x66_2) == (t221.length : Int)) = true := beq_iff_eq.mpr c54
                have c54b1 : ((rd t262 x66_2) != (t221.length : Int)) = false := bne_eq_false_iff_eq.mpr c54
                clear c54
                have H' := Aside0.mk H
                clear H
                have p265 : 0 ≤ (x66_2 : Int) := of_decide_eq_true (by first | (with_reducible assumption) | assumption)
                have q265 : x66_2 < (t262.length : Int) := of_decide_eq_true (by first | (with_reducible assumption) | assumption)
                obtain ⟨ad265, e265, hx265_0⟩ := Kd.at_int (Kd.R_reads' HO_64.out).2.2 x66_2 p265 q265
                cases e265
                replace p265 := eq_true p265
                replace q265 := eq_true q265
                go_wp2
                go_roundg k2
                case measure => have := HJ17.out; have := HK2.out; omega
                case rel => exact ⟨(x13_2), (wrap64 (x66_2 + 1)), (by first | rfl | (simp; done) | (simp [*]; done)), H', ⟨by have := HJ17.out; have := HK2.out; omega⟩, ⟨by (with_reducible repeat (first | apply Kd.N_alloc | apply Kd.N_drewN | apply Kd.N_drew)); exact HO_7.out⟩, ⟨by (with_reducible repeat (first | apply Kd.N_alloc | apply Kd.N_drewN | apply Kd.N_drew)); exact HO_9.out⟩, ⟨by (with_reducible repeat (first | apply Kd.R_alloc | apply Kd.R_drewN | apply Kd.R_drew)); exact HO_10.out⟩, ⟨by (with_reducible repeat (first | apply Kd.R_alloc | apply Kd.R_drewN | apply Kd.R_drew)); exact HO_11.out⟩, ⟨by (with_reducible repeat (first | apply Kd.R_alloc | apply Kd.R_drewN | apply Kd.R_drew)); exact HO_13.out⟩, ⟨by (with_reducible repeat (first | apply Kd.R_alloc | apply Kd.R_drewN | apply Kd.R_drew)); exact HO_64.out⟩, ⟨by (with_reducible repeat (first | refine blk_drewN ?_ _ | refine blk_drew ?_ | refine blk_alloc ?_ _)); exact BK220.out⟩, ⟨by repeat (first | (with_reducible first | exact HB.out | apply below_alloc | apply pw_below_drewN | apply below_drew1 | refine below_set ?_ GE220.out) | exact HB.out)⟩⟩
               ·
                rw [if_neg c54] at H
                have c54b0 : ((rd t262 x66_2) == (t221.length : Int)) = false := beq_eq_false_iff_ne.mpr c54
                have c54b1 : ((rd t262 x66_2) != (t221.length : Int)) = true := bne_iff_ne.mpr c54
                by_cases c55 : x13_2.length < 17592186044416
                ·
                 rw [if_pos c55] at H
                 have LMc55 := Aside0.mk c55
                 clear c55
                 obtain ⟨y266, hy266⟩ : ∃ y_ : List Int, y_ = (x13_2 ++ [rd t262 x66_2]) := ⟨_, rfl⟩
                 replace H : (porticolaw6_RankSorted.l0 k2 t221 y241 t244 t247 y266 t262 (t262.length : Int) (wrap64 (x66_2 + 1))) = some r := by first | (rw [hy266]; with_reducible exact H) | (have H2_ := (Option.bind_some _ _).symm.trans H; rw [hy266]; with_reducible exact H2_) | (have H2_ := (Option.bind_some _ _).symm.trans H; with_reducible exact H2_) | with_reducible exact H | (rw [hy266]; exact H) | exact H
                 have Ny266 := Aside0.mk hy266
                 clear hy266
                 have H' := Aside0.mk H
                 clear H
                 have p265 : 0 ≤ (x66_2 : Int) := of_decide_eq_true (by first | (with_reducible assumption) | assumption)
                 have q265 : x66_2 < (t262.length : Int) := of_decide_eq_true (by first | (with_reducible assumption) | assumption)
                 obtain ⟨ad265, e265, hx265_0⟩ := Kd.at_int (Kd.R_reads' HO_64.out).2.2 x66_2 p265 q265
                 cases e265
                 replace p265 := eq_true p265
                 replace q265 := eq_true q265
                 go_wp2_with (first | ((with_reducible refine gate_builtin (b := .append) (xs := #[.tmp 74, .tmp 76]) rfl ?_); (try (refine gate_guard (by rfl) ?_; dsimp only)); at_builtin; refine Kd.R_append (Kd.int .i64) (w0 := w) w.heap.size rfl (.tmp 74) (.tmp 76) 29 3 (.int .i64 0) 8 rfl Try.underlying29 info3 rfl (by decide) (by omega) u13 x13_2 (rd t262 x66_2) [.int .i64 (rd t262 x66_2)] (fun k_ => some k_ ≠ (v245 : Value).ownBlock ∧ some k_ ≠ (v248 : Value).ownBlock ∧ some k_ ≠ (.slice (some ad265) t262.length co50 : Value).ownBlock) (fun _ => False) rfl rfl ?aP (fun _ hk => hk.elim) ?aF ?aO ?aB ?aS ?aL ?_; (case aP => exact rfl); (case aB => exact (by repeat (first | (with_reducible first | exact HB.out | apply below_alloc | apply pw_below_drewN | apply below_drew1 | refine below_set ?_ GE220.out) | exact HB.out))); (case aF => exact (fun k_ hk => ⟨Kd.fresh' (Kd.R_lt (by (with_reducible repeat (first | apply Kd.R_alloc | apply Kd.R_drewN | apply Kd.R_drew)); exact HO_10.out)) k_ hk, Kd.fresh' (Kd.R_lt (by (with_reducible repeat (first | apply Kd.R_alloc | apply Kd.R_drewN | apply Kd.R_drew)); exact HO_11.out)) k_ hk, Kd.fresh' (Kd.R_lt (by (with_reducible repeat (first | apply Kd.R_alloc | apply Kd.R_drewN | apply Kd.R_drew)); exact HO_64.out)) k_ hk⟩)); (case aO => exact (by (with_reducible repeat (first | apply Kd.R_alloc | apply Kd.R_drewN | apply Kd.R_drew)); exact HO_13.out)); (case aS => exact (below_size (by repeat (first | (with_reducible first | exact HB.out | apply below_alloc | apply pw_below_drewN | apply below_drew1 | refine below_set ?_ GE220.out) | exact HB.out)))); (case aL => have := LMc55.out; omega); intro v267 w56 ho hb hg hat; rw [← Ny266.out] at ho; have n0_ := Aside0.mk (Kd.N_afterv (ok := (fun k_ => some k_ ≠ (.slice Ao30 y241.length co30 : Value).ownBlock ∧ some k_ ≠ (v245 : Value).ownBlock ∧ some k_ ≠ (v248 : Value).ownBlock ∧ some k_ ≠ (.slice (some ad265) t262.length co50 : Value).ownBlock ∧ k_ ≠ gb220)) (by (with_reducible repeat (first | apply Kd.N_alloc | apply Kd.N_drewN | apply Kd.N_drew)); exact Kd.N_mono HO_7.out (fun _ hk => by first | exact ⟨⟨hk.1, ⟨hk.2.1, ⟨hk.2.2.1, ⟨hk.2.2.2.2.1, hk.2.2.2.2.2⟩⟩⟩⟩, hk.2.2.2.1⟩ | simp_all)) hg hat); have n1_ := Aside0.mk (Kd.N_afterv (ok := (fun k_ => some k_ ≠ (v245 : Value).ownBlock ∧ some k_ ≠ (v248 : Value).ownBlock ∧ some k_ ≠ (.slice (some ad265) t262.length co50 : Value).ownBlock ∧ k_ ≠ gb220)) (by (with_reducible repeat (first | apply Kd.N_alloc | apply Kd.N_drewN | apply Kd.N_drew)); exact Kd.N_mono HO_9.out (fun _ hk => by first | exact ⟨⟨hk.1, ⟨hk.2.1, ⟨hk.2.2.2.1, hk.2.2.2.2⟩⟩⟩, hk.2.2.1⟩ | simp_all)) hg hat); have n2_ := Aside0.mk (Kd.R_after (ok := (fun k_ => some k_ ≠ (v248 : Value).ownBlock ∧ some k_ ≠ (.slice (some ad265) t262.length co50 : Value).ownBlock)) (by (with_reducible repeat (first | apply Kd.R_alloc | apply Kd.R_drewN | apply Kd.R_drew)); exact Kd.R_mono HO_10.out (fun _ hk => by first | exact ⟨⟨hk.1, hk.2.2⟩, hk.2.1⟩ | simp_all)) hg hat); have n3_ := Aside0.mk (Kd.R_after (ok := (fun k_ => some k_ ≠ (v245 : Value).ownBlock ∧ some k_ ≠ (.slice (some ad265) t262.length co50 : Value).ownBlock)) (by (with_reducible repeat (first | apply Kd.R_alloc | apply Kd.R_drewN | apply Kd.R_drew)); exact Kd.R_mono HO_11.out (fun _ hk => by first | exact ⟨⟨hk.1, hk.2.2⟩, hk.2.1⟩ | simp_all)) hg hat); have n4_ := Aside0.mk (Kd.R_after (ok := (fun k_ => some k_ ≠ (v245 : Value).ownBlock ∧ some k_ ≠ (v248 : Value).ownBlock)) (by (with_reducible repeat (first | apply Kd.R_alloc | apply Kd.R_drewN | apply Kd.R_drew)); exact Kd.R_mono HO_64.out (fun _ hk => by first | exact ⟨⟨hk.1, hk.2.1⟩, hk.2.2⟩ | simp_all)) hg hat); have n5_ := Aside0.mk (blk_grown (g := gb220) (o := .cells #[.slice A2_0 l2_0.length c2_0, .slice A2_1 l2_1.length c2_1, .int .i64 a2_2] 31 (0, 0)) (by (with_reducible repeat (first | refine blk_drewN ?_ _ | refine blk_drew ?_ | refine blk_alloc ?_ _)); exact BK220.out) hg (Kd.R_ne HO_13.out BK220.out (by decide))); have n6_ := Aside0.mk (hb); have n7_ := Aside0.mk (ho); clear HO_7; clear HO_9; clear HO_10; clear HO_11; clear HO_64; clear BK220; clear HB; clear HO_13; have HO_7 := n0_; have HO_9 := n1_; have HO_10 := n2_; have HO_11 := n3_; have HO_64 := n4_; have BK220 := n5_; have HB := n6_; have HO268 := n7_; clear n0_ n1_ n2_ n3_ n4_ n5_ n6_ n7_; clear ho hb hg hat))
                 go_roundg k2
                 case measure => have := HJ17.out; have := HK2.out; omega
                 case rel => exact ⟨(y266), (wrap64 (x66_2 + 1)), (by first | rfl | (simp; done) | (simp [*]; done)), H', ⟨by have := HJ17.out; have := HK2.out; omega⟩, ⟨by (with_reducible repeat (first | apply Kd.N_alloc | apply Kd.N_drewN | apply Kd.N_drew)); exact Kd.N_mono HO_7.out (fun _ hk => ⟨hk.1.1, ⟨hk.1.2.1, ⟨hk.1.2.2.1, ⟨hk.2, ⟨hk.1.2.2.2.1, hk.1.2.2.2.2⟩⟩⟩⟩⟩)⟩, ⟨by (with_reducible repeat (first | apply Kd.N_alloc | apply Kd.N_drewN | apply Kd.N_drew)); exact Kd.N_mono HO_9.out (fun _ hk => ⟨hk.1.1, ⟨hk.1.2.1, ⟨hk.2, ⟨hk.1.2.2.1, hk.1.2.2.2⟩⟩⟩⟩)⟩, ⟨by (with_reducible repeat (first | apply Kd.R_alloc | apply Kd.R_drewN | apply Kd.R_drew)); exact Kd.R_mono HO_10.out (fun _ hk => ⟨hk.1.1, ⟨hk.2, hk.1.2⟩⟩)⟩, ⟨by (with_reducible repeat (first | apply Kd.R_alloc | apply Kd.R_drewN | apply Kd.R_drew)); exact Kd.R_mono HO_11.out (fun _ hk => ⟨hk.1.1, ⟨hk.2, hk.1.2⟩⟩)⟩, ⟨by (with_reducible repeat (first | apply Kd.R_alloc | apply Kd.R_drewN | apply Kd.R_drew)); exact HO268.out⟩, ⟨by (with_reducible repeat (first | apply Kd.R_alloc | apply Kd.R_drewN | apply Kd.R_drew)); exact Kd.R_mono HO_64.out (fun _ hk => ⟨hk.1.1, ⟨hk.1.2, hk.2⟩⟩)⟩, ⟨by (with_reducible repeat (first | refine blk_drewN ?_ _ | refine blk_drew ?_ | refine blk_alloc ?_ _)); exact BK220.out⟩, ⟨by repeat (first | (with_reducible first | exact HB.out | apply below_alloc | apply pw_below_drewN | apply below_drew1 | refine below_set ?_ GE220.out) | exact HB.out)⟩⟩
                ·
                 rw [if_neg c55] at H
                 exact absurd H (by simp)
              ·
               rw [if_neg c53] at H
               exact absurd H (by simp)
             ·
              rw [if_neg c52] at H
              exact absurd H (by simp)
            ·
             rw [if_neg c51] at H
             have c51b0 : decide (x66_2 < (t262.length : Int)) = false := decide_eq_false c51
             clear c51
             have H' := Aside0.mk H
             clear H
             obtain ⟨Ao57, co57, eo57⟩ := Kd.R_slice HO_10.out
             subst eo57
             go_wp2
             go_loopg [81] k2 (fun kq v81 w' => ∃ (x81_3 : Int), v81 = .int .i64 x81_3 ∧ Aside0 (porticolaw6_RankSorted.l1 kq t221 y241 t244 t247 x13_2 (t244.length : Int) x81_3 = some r) ∧ Aside0 (kq ≤ k2) ∧ Aside0 (Kd.N (Kd.slice 23 k23) 26 w' w.heap.size (fun k_ => some k_ ≠ ((.slice Ao30 y241.length co30) : Value).ownBlock ∧ some k_ ≠ ((.slice Ao57 t244.length co57) : Value).ownBlock ∧ some k_ ≠ (v248 : Value).ownBlock ∧ some k_ ≠ (u13 : Value).ownBlock ∧ k_ ≠ gb220) (.slice Ao21 t221.length co21) t221) ∧ Aside0 (Kd.N (Kd.slice 23 k23) 26 w' w.heap.size (fun k_ => some k_ ≠ ((.slice Ao57 t244.length co57) : Value).ownBlock ∧ some k_ ≠ (v248 : Value).ownBlock ∧ some k_ ≠ (u13 : Value).ownBlock ∧ k_ ≠ gb220) (.slice Ao30 y241.length co30) y241) ∧ Aside0 (Kd.R (Kd.int .i64) 3 w' w.heap.size (fun k_ => some k_ ≠ (v248 : Value).ownBlock ∧ some k_ ≠ (u13 : Value).ownBlock) (.slice Ao57 t244.length co57) t244) ∧ Aside0 (Kd.R (Kd.int .i64) 3 w' w.heap.size (fun k_ => some k_ ≠ ((.slice Ao57 t244.length co57) : Value).ownBlock ∧ some k_ ≠ (u13 : Value).ownBlock) v248 t247) ∧ Aside0 (Kd.R (Kd.int .i64) 3 w' w.heap.size (fun k_ => some k_ ≠ ((.slice Ao57 t244.length co57) : Value).ownBlock ∧ some k_ ≠ (v248 : Value).ownBlock) u13 x13_2) ∧ Aside0 (w'.heap[gb220]? = some (.cells #[(.slice A2_0 l2_0.length c2_0), (.slice A2_1 l2_1.length c2_1), .int .i64 a2_2] 31 (0, 0))) ∧ Aside0 (Below w.heap.size w w'))
             case atStart => exact ⟨(0), (by first | rfl | (simp; done) | (simp [*]; done)), H', ⟨Nat.le_refl _⟩, ⟨by (with_reducible repeat (first | apply Kd.N_alloc | apply Kd.N_drewN | apply Kd.N_drew)); exact Kd.N_mono HO_7.out (fun _ hk => ⟨hk.1, ⟨hk.2.1, ⟨hk.2.2.1, ⟨hk.2.2.2.1, hk.2.2.2.2.2⟩⟩⟩⟩)⟩, ⟨by (with_reducible repeat (first | apply Kd.N_alloc | apply Kd.N_drewN | apply Kd.N_drew)); exact Kd.N_mono HO_9.out (fun _ hk => ⟨hk.1, ⟨hk.2.1, ⟨hk.2.2.1, hk.2.2.2.2⟩⟩⟩)⟩, ⟨by (with_reducible repeat (first | apply Kd.R_alloc | apply Kd.R_drewN | apply Kd.R_drew)); exact Kd.R_mono HO_10.out (fun _ hk => ⟨hk.1, hk.2.1⟩)⟩, ⟨by (with_reducible repeat (first | apply Kd.R_alloc | apply Kd.R_drewN | apply Kd.R_drew)); exact Kd.R_mono HO_11.out (fun _ hk => ⟨hk.1, hk.2.1⟩)⟩, ⟨by (with_reducible repeat (first | apply Kd.R_alloc | apply Kd.R_drewN | apply Kd.R_drew)); exact Kd.R_mono HO_13.out (fun _ hk => ⟨hk.1, hk.2.1⟩)⟩, ⟨by (with_reducible repeat (first | refine blk_drewN ?_ _ | refine blk_drew ?_ | refine blk_alloc ?_ _)); exact BK220.out⟩, ⟨by repeat (first | (with_reducible first | exact HB.out | apply below_alloc | apply pw_below_drewN | apply below_drew1 | refine below_set ?_ GE220.out) | exact HB.out)⟩⟩
             case round =>
              clear H'
              try clear c1
              try clear c2
              try clear p2
              try clear q2
              try clear hx2
              try clear c4
              try clear c5
              try clear c6
              try clear p6
              try clear c8
              try clear c10
              try clear c11
              try clear c12
              try clear c13
              try clear c14
              try clear c16
              try clear c23
              try clear q23
              try clear q24
              try clear p26
              try clear q26
              try clear hx26
              try clear c41
              try clear c41b0
              try clear c41b1
              try clear c41b2
              try clear c42
              try clear c42b0
              try clear c42b1
              try clear c42b2
              try clear c49
              try clear c51
              try clear c51b0
              try clear c52
              try clear c52b0
              try clear c53
              try clear c53b0
              try clear c54
              try clear c54b0
              try clear c54b1
              try clear c55
              try clear hx265_0
              try clear p2
              try clear p265
              try clear p6
              try clear q023
              try clear q2
              try clear q23
              try clear q24
              try clear q265
              obtain ⟨x81_3, rfl, HA, HK3, HO_7, HO_9, HO_10, HO_11, HO_13, BK220, HB⟩ := hrel
              cases gk with
              | zero => exact absurd HA.out (by simp [porticolaw6_RankSorted.l1])
              | succ k3 =>
               have H := HA.out
               clear HA
               simp only [porticolaw6_RankSorted.l1] at H
               by_cases c58 : x81_3 < (t244.length : Int)
               ·
                rw [if_pos c58] at H
                have c58b0 : decide (x81_3 < (t244.length : Int)) = true := decide_eq_true c58
                clear c58
                by_cases c59 : 0 ≤ x81_3
                ·
                 rw [if_pos c59] at H
                 have c59b0 : decide (0 ≤ x81_3) = true := decide_eq_true c59
                 clear c59
                 by_cases c60 : x81_3 < (t244.length : Int)
                 ·
                  rw [if_pos c60] at H
                  have c60b0 : decide (x81_3 < (t244.length : Int)) = true := decide_eq_true c60
                  clear c60
                  by_cases c61 : (rd t244 x81_3) < 0
                  ·
                   rw [if_pos c61] at H
                   exact absurd H (by simp)
                  ·
                   rw [if_neg c61] at H
                   have c61b0 : decide ((rd t244 x81_3) < 0) = false := decide_eq_false c61
                   clear c61
                   by_cases c62 : (rd t244 x81_3) ≥ (t221.length : Int)
                   ·
                    rw [if_pos c62] at H
                    exact absurd H (by simp)
                   ·
                    rw [if_neg c62] at H
                    have c62b0 : decide ((t221.length : Int) ≤ (rd t244 x81_3)) = false := decide_eq_false c62
                    clear c62
                    by_cases c63 : x81_3 < (t247.length : Int)
                    ·
                     rw [if_pos c63] at H
                     have c63b0 : decide (x81_3 < (t247.length : Int)) = true := decide_eq_true c63
                     clear c63
                     by_cases c64 : (rd t247 x81_3) < 0
                     ·
                      rw [if_pos c64] at H
                      exact absurd H (by simp)
                     ·
                      rw [if_neg c64] at H
                      have c64b0 : decide ((rd t247 x81_3) < 0) = false := decide_eq_false c64
                      clear c64
                      by_cases c65 : (rd t247 x81_3) ≥ (t221.length : Int)
                      ·
                       rw [if_pos c65] at H
                       exact absurd H (by simp)
                      ·
                       rw [if_neg c65] at H
                       have c65b0 : decide ((t221.length : Int) ≤ (rd t247 x81_3)) = false := decide_eq_false c65
                       clear c65
                       by_cases c66 : 0 ≤ (rd t244 x81_3)
                       ·
                        rw [if_pos c66] at H
                        have c66b0 : decide (0 ≤ (rd t244 x81_3)) = true := decide_eq_true c66
                        clear c66
                        by_cases c67 : (rd t244 x81_3) < (t221.length : Int)
                        ·
                         rw [if_pos c67] at H
                         have c67b0 : decide ((rd t244 x81_3) < (t221.length : Int)) = true := decide_eq_true c67
                         clear c67
                         by_cases c68 : 0 ≤ (rd t247 x81_3)
                         ·
                          rw [if_pos c68] at H
                          have c68b0 : decide (0 ≤ (rd t247 x81_3)) = true := decide_eq_true c68
                          clear c68
                          by_cases c69 : (rd t247 x81_3) < (y241.length : Int)
                          ·
                           rw [if_pos c69] at H
                           have c69b0 : decide ((rd t247 x81_3) < (y241.length : Int)) = true := decide_eq_true c69
                           clear c69
                           replace H := Option.bind_eq_some_iff.mp H
                           obtain ⟨t277, A700, H⟩ := H
                           replace H : (if t277 = 0 then (porticolaw6_RankSorted.l1 k3 t221 y241 t244 t247 x13_2 (t244.length : Int) (wrap64 (x81_3 + 1))) else (none)) = some r := H
                           have A70 := Aside0.mk A700
                           clear A700
                           by_cases c71 : t277 = 0
                           ·
                            rw [if_pos c71] at H
                            have c71b0 : (t277 == 0) = true := beq_iff_eq.mpr c71
                            have c71b1 : (t277 != 0) = false := bne_eq_false_iff_eq.mpr c71
                            clear c71
                            have H' := Aside0.mk H
                            clear H
                            try go_wp2
                            have n0_ := Aside0.mk (Kd.N_drew HO_7.out)
                            have n1_ := Aside0.mk (Kd.N_drew HO_9.out)
                            have n2_ := Aside0.mk (Kd.R_drew HO_10.out)
                            have n3_ := Aside0.mk (Kd.R_drew HO_11.out)
                            have n4_ := Aside0.mk (Kd.R_drew HO_13.out)
                            have n5_ := Aside0.mk (blk_drew BK220.out)
                            have n6_ := Aside0.mk (below_drew1 HB.out)
                            clear HO_7
                            clear HO_9
                            clear HO_10
                            clear HO_11
                            clear HO_13
                            clear BK220
                            clear HB
                            have HO_7 := n0_
                            have HO_9 := n1_
                            have HO_10 := n2_
                            have HO_11 := n3_
                            have HO_13 := n4_
                            have BK220 := n5_
                            have HB := n6_
                            clear n0_ n1_ n2_ n3_ n4_ n5_ n6_
                            have p269 : 0 ≤ (x81_3 : Int) := of_decide_eq_true (by first | (with_reducible assumption) | assumption)
                            have q269 : x81_3 < (t244.length : Int) := of_decide_eq_true (by first | (with_reducible assumption) | assumption)
                            obtain ⟨ad269, e269, hx269_0⟩ := Kd.at_int (Kd.R_reads' HO_10.out).2.2 x81_3 p269 q269
                            cases e269
                            replace p269 := eq_true p269
                            replace q269 := eq_true q269
                            have p270 : 0 ≤ (x81_3 : Int) := of_decide_eq_true (by first | (with_reducible assumption) | assumption)
                            have q270 : x81_3 < (t244.length : Int) := of_decide_eq_true (by first | (with_reducible assumption) | assumption)
                            obtain ⟨ad270, e270, hx270_0⟩ := Kd.at_int (Kd.R_reads' HO_10.out).2.2 x81_3 p270 q270
                            obtain rfl : ad269 = ad270 := (by injection e270)
                            replace p270 := eq_true p270
                            replace q270 := eq_true q270
                            obtain ⟨Ao73, co73, eo73⟩ := Kd.R_slice HO_11.out
                            (first | subst eo73 | (injection eo73 with f1_ f2_ f3_; have f4_ := f1_.symm; have f5_ := f3_.symm; clear f1_ f2_ f3_; subst f4_; subst f5_))
                            have p271 : 0 ≤ (x81_3 : Int) := of_decide_eq_true (by first | (with_reducible assumption) | assumption)
                            have q271 : x81_3 < (t247.length : Int) := of_decide_eq_true (by first | (with_reducible assumption) | assumption)
                            obtain ⟨ad271, e271, hx271_0⟩ := Kd.at_int (Kd.R_reads' HO_11.out).2.2 x81_3 p271 q271
                            cases e271
                            replace p271 := eq_true p271
                            replace q271 := eq_true q271
                            have p272 : 0 ≤ (x81_3 : Int) := of_decide_eq_true (by first | (with_reducible assumption) | assumption)
                            have q272 : x81_3 < (t247.length : Int) := of_decide_eq_true (by first | (with_reducible assumption) | assumption)
                            obtain ⟨ad272, e272, hx272_0⟩ := Kd.at_int (Kd.R_reads' HO_11.out).2.2 x81_3 p272 q272
                            obtain rfl : ad271 = ad272 := (by injection e272)
                            replace p272 := eq_true p272
                            replace q272 := eq_true q272
                            have p273 : 0 ≤ (x81_3 : Int) := of_decide_eq_true (by first | (with_reducible assumption) | assumption)
                            have q273 : x81_3 < (t244.length : Int) := of_decide_eq_true (by first | (with_reducible assumption) | assumption)
                            obtain ⟨ad273, e273, hx273_0⟩ := Kd.at_int (Kd.R_reads' HO_10.out).2.2 x81_3 p273 q273
                            obtain rfl : ad269 = ad273 := (by injection e273)
                            replace p273 := eq_true p273
                            replace q273 := eq_true q273
                            have p274 : 0 ≤ ((rd t244 x81_3) : Int) := of_decide_eq_true (by first | (with_reducible assumption) | assumption)
                            have q274 : (rd t244 x81_3) < (t221.length : Int) := of_decide_eq_true (by first | (with_reducible assumption) | assumption)
                            obtain ⟨ad274, A274_0, c274_0, e274, hx274_0, hl274_0, hi274_0⟩ := at_L3 (Kd.N_reads' HO_7.out).2.2 (rd t244 x81_3) p274 q274
                            cases e274
                            obtain ⟨ce274, hce274, hMe274, hcc274⟩ := Kd.N_get HO_7.out [] (rd t244 x81_3) p274 (by first | exact q274 | exact of_decide_eq_true (by first | (with_reducible assumption) | assumption) | (have e_ := (Kd.N_reads' HO_7.out).1; omega))
                            obtain ⟨ua274_0, uc274_0, rfl, ul274_0, ge274_0⟩ := Kd.FK_slice_open hMe274
                            have hv274_0 := hcc274 0 _ rfl
                            rw [Nat.add_zero, show ((Kd.slice 23 k23)).sz = 1 from rfl, Nat.mul_one] at hv274_0
                            replace hv274_0 := Option.some.inj (hv274_0.symm.trans hx274_0)
                            injection hv274_0 with hva_ hvn_ hvc_
                            rw [hva_] at ge274_0
                            rw [hvc_] at ul274_0
                            have HL274_0 := Aside0.mk (show Kd.V k23 23 _ w.heap.size _ _ (rd_L3 t221 (rd t244 x81_3)) from Kd.V_mk ul274_0 ge274_0)
                            clear hva_ hvn_ hvc_ ge274_0 ul274_0
                            clear hcc274 hce274
                            have HR274_0 := Aside0.mk hi274_0
                            have HC274_0 := Aside0.mk hl274_0
                            clear hi274_0 hl274_0
                            replace p274 := eq_true p274
                            replace q274 := eq_true q274
                            have p275 : 0 ≤ (x81_3 : Int) := of_decide_eq_true (by first | (with_reducible assumption) | assumption)
                            have q275 : x81_3 < (t247.length : Int) := of_decide_eq_true (by first | (with_reducible assumption) | assumption)
                            obtain ⟨ad275, e275, hx275_0⟩ := Kd.at_int (Kd.R_reads' HO_11.out).2.2 x81_3 p275 q275
                            obtain rfl : ad271 = ad275 := (by injection e275)
                            replace p275 := eq_true p275
                            replace q275 := eq_true q275
                            have p276 : 0 ≤ ((rd t247 x81_3) : Int) := of_decide_eq_true (by first | (with_reducible assumption) | assumption)
                            have q276 : (rd t247 x81_3) < (y241.length : Int) := of_decide_eq_true (by first | (with_reducible assumption) | assumption)
                            obtain ⟨ad276, A276_0, c276_0, e276, hx276_0, hl276_0, hi276_0⟩ := at_L3 (Kd.N_reads' HO_9.out).2.2 (rd t247 x81_3) p276 q276
                            cases e276
                            obtain ⟨ce276, hce276, hMe276, hcc276⟩ := Kd.N_get HO_9.out [] (rd t247 x81_3) p276 (by first | exact q276 | exact of_decide_eq_true (by first | (with_reducible assumption) | assumption) | (have e_ := (Kd.N_reads' HO_9.out).1; omega))
                            obtain ⟨ua276_0, uc276_0, rfl, ul276_0, ge276_0⟩ := Kd.FK_slice_open hMe276
                            have hv276_0 := hcc276 0 _ rfl
                            rw [Nat.add_zero, show ((Kd.slice 23 k23)).sz = 1 from rfl, Nat.mul_one] at hv276_0
                            replace hv276_0 := Option.some.inj (hv276_0.symm.trans hx276_0)
                            injection hv276_0 with hva_ hvn_ hvc_
                            rw [hva_] at ge276_0
                            rw [hvc_] at ul276_0
                            have HL276_0 := Aside0.mk (show Kd.V k23 23 _ w.heap.size _ _ (rd_L3 y241 (rd t247 x81_3)) from Kd.V_mk ul276_0 ge276_0)
                            clear hva_ hvn_ hvc_ ge276_0 ul276_0
                            clear hcc276 hce276
                            have HR276_0 := Aside0.mk hi276_0
                            have HC276_0 := Aside0.mk hl276_0
                            clear hi276_0 hl276_0
                            replace p276 := eq_true p276
                            replace q276 := eq_true q276
                            refine start_ (n := 48) (S := fun w' => w'.cell? (ad269.add (x81_3).toNat) = some (.int .i64 (rd t244 x81_3)) ∧ w'.cell? (ad269.add (x81_3).toNat) = some (.int .i64 (rd t244 x81_3)) ∧ w'.cell? (ad271.add (x81_3).toNat) = some (.int .i64 (rd t247 x81_3)) ∧ w'.cell? (ad271.add (x81_3).toNat) = some (.int .i64 (rd t247 x81_3)) ∧ w'.cell? (ad269.add (x81_3).toNat) = some (.int .i64 (rd t244 x81_3)) ∧ w'.cell? (ad274.add ((rd t244 x81_3)).toNat) = some (.slice A274_0 (rd_L3 t221 (rd t244 x81_3)).length c274_0) ∧ w'.cell? (ad271.add (x81_3).toNat) = some (.int .i64 (rd t247 x81_3)) ∧ w'.cell? (ad276.add ((rd t247 x81_3)).toNat) = some (.slice A276_0 (rd_L3 y241 (rd t247 x81_3)).length c276_0)) (ds := []) #[false, false, false, false, false, false, false, false, false, false, false, false, false, false, false, false, false, false, false, false, false, false, false, false, false, false, false, false, false, false, false, false, false, false, false, false, false, false, false, false, false, false, false, false, false, false, false, false] (by kernel_rfl) rfl rfl ⟨hx269_0, hx270_0, hx271_0, hx272_0, hx273_0, hx274_0, hx275_0, hx276_0⟩ (fun hHeld => ?_); refine with_tabW porticolaw6_RankSorted.tab18 porticolaw6_RankSorted.bits18 (fun HT_ HW_ => ?_)
                            generalize wr.drew = w72 at HO_7 HO_9 HO_10 HO_11 HO_13 BK220 HB HL274_0 HL276_0 HR274_0 HR276_0 hx269_0 hx270_0 hx271_0 hx272_0 hx273_0 hx274_0 hx275_0 hx276_0 hHeld ⊢
                            refine pure_ (i := 0) (N := some 84) (v := ?_) (a' := ?_) #[true, false, false, false, false, false, false, false, false, false, false, false, false, false, false, false, false, false, false, false, false, false, false, false, false, false, false, false, false, false, false, false, false, false, false, false, false, false, false, false, false, false, false, false, false, false, false, false] rfl rfl (any_of HT_.out (by kernel_rfl)) (fun _ _ _ h => h) (Or.inl ⟨by rfl, ?_⟩) ?_ ?_
                            rotate_left
                            ·
                             intro w'
                             go_simp
                             with_reducible rfl
                            rotate_left
                            ·
                             simp only [Act.put, List.setIfInBounds_toArray, List.set_cons_zero, List.set_cons_succ, i64_w, i32_w]
                             rfl
                            refine pure_ (i := 1) (N := some 85) (v := ?_) (a' := ?_) #[true, true, false, false, false, false, false, false, false, false, false, false, false, false, false, false, false, false, false, false, false, false, false, false, false, false, false, false, false, false, false, false, false, false, false, false, false, false, false, false, false, false, false, false, false, false, false, false] rfl rfl (any_of HT_.out (by kernel_rfl)) (fun _ _ _ h => h) (Or.inl ⟨by rfl, ?_⟩) ?_ ?_
                            rotate_left
                            ·
                             intro w'
                             go_simp
                             with_reducible rfl
                            rotate_left
                            ·
                             simp only [Act.put, List.setIfInBounds_toArray, List.set_cons_zero, List.set_cons_succ, i64_w, i32_w]
                             rfl
                            refine pure_ (i := 2) (N := some 86) (v := ?_) (a' := ?_) #[true, true, true, false, false, false, false, false, false, false, false, false, false, false, false, false, false, false, false, false, false, false, false, false, false, false, false, false, false, false, false, false, false, false, false, false, false, false, false, false, false, false, false, false, false, false, false, false] rfl rfl (any_of HT_.out (by kernel_rfl)) (fun _ _ _ h => h) (Or.inl ⟨by rfl, ?_⟩) ?_ ?_
                            rotate_left
                            ·
                             intro w'
                             go_simp
                             with_reducible rfl
                            rotate_left
                            ·
                             simp only [Act.put, List.setIfInBounds_toArray, List.set_cons_zero, List.set_cons_succ, i64_w, i32_w]
                             rfl
                            refine take_ (i := 3) (N := some 87) (v := ?_) (a' := ?_) #[true, true, true, true, false, false, false, false, false, false, false, false, false, false, false, false, false, false, false, false, false, false, false, false, false, false, false, false, false, false, false, false, false, false, false, false, false, false, false, false, false, false, false, false, false, false, false, false] rfl rfl (take_ofW HT_.out HW_.out (by kernel_rfl)) (fun _ _ _ h => h) (Or.inl ⟨by rfl, ?_⟩) hHeld ?_ ?_
                            rotate_left
                            ·
                             rintro w' ⟨s0, s1, s2, s3, s4, s5, s6, s7⟩
                             go_simp
                             with_reducible rfl
                            rotate_left
                            ·
                             simp only [Act.put, List.setIfInBounds_toArray, List.set_cons_zero, List.set_cons_succ, i64_w, i32_w]
                             rfl
                            refine pure_ (i := 4) (N := some 88) (v := ?_) (a' := ?_) #[true, true, true, true, true, false, false, false, false, false, false, false, false, false, false, false, false, false, false, false, false, false, false, false, false, false, false, false, false, false, false, false, false, false, false, false, false, false, false, false, false, false, false, false, false, false, false, false] rfl rfl (any_of HT_.out (by kernel_rfl)) (fun _ _ _ h => h) (Or.inl ⟨by rfl, ?_⟩) ?_ ?_
                            rotate_left
                            ·
                             intro w'
                             go_simp
                             with_reducible rfl
                            rotate_left
                            ·
                             simp only [Act.put, List.setIfInBounds_toArray, List.set_cons_zero, List.set_cons_succ, i64_w, i32_w]
                             rfl
                            refine pure_ (i := 5) (N := some 89) (v := ?_) (a' := ?_) #[true, true, true, true, true, true, false, false, false, false, false, false, false, false, false, false, false, false, false, false, false, false, false, false, false, false, false, false, false, false, false, false, false, false, false, false, false, false, false, false, false, false, false, false, false, false, false, false] rfl rfl (any_of HT_.out (by kernel_rfl)) (fun _ _ _ h => h) (Or.inl ⟨by rfl, ?_⟩) ?_ ?_
                            rotate_left
                            ·
                             intro w'
                             go_simp
                             with_reducible rfl
                            rotate_left
                            ·
                             simp only [Act.put, List.setIfInBounds_toArray, List.set_cons_zero, List.set_cons_succ, i64_w, i32_w]
                             rfl
                            refine pure_ (i := 6) (N := some 90) (v := ?_) (a' := ?_) #[true, true, true, true, true, true, true, false, false, false, false, false, false, false, false, false, false, false, false, false, false, false, false, false, false, false, false, false, false, false, false, false, false, false, false, false, false, false, false, false, false, false, false, false, false, false, false, false] rfl rfl (any_of HT_.out (by kernel_rfl)) (fun _ _ _ h => h) (Or.inl ⟨by rfl, ?_⟩) ?_ ?_
                            rotate_left
                            ·
                             intro w'
                             go_simp
                             with_reducible rfl
                            rotate_left
                            ·
                             simp only [Act.put, List.setIfInBounds_toArray, List.set_cons_zero, List.set_cons_succ, i64_w, i32_w]
                             rfl
                            refine pure_ (i := 7) (N := some 91) (v := ?_) (a' := ?_) #[true, true, true, true, true, true, true, true, false, false, false, false, false, false, false, false, false, false, false, false, false, false, false, false, false, false, false, false, false, false, false, false, false, false, false, false, false, false, false, false, false, false, false, false, false, false, false, false] rfl rfl (any_of HT_.out (by kernel_rfl)) (fun _ _ _ h => h) (Or.inl ⟨by rfl, ?_⟩) ?_ ?_
                            rotate_left
                            ·
                             intro w'
                             go_simp
                             with_reducible rfl
                            rotate_left
                            ·
                             simp only [Act.put, List.setIfInBounds_toArray, List.set_cons_zero, List.set_cons_succ, i64_w, i32_w]
                             rfl
                            refine pure_ (i := 8) (N := some 92) (v := ?_) (a' := ?_) #[true, true, true, true, true, true, true, true, true, false, false, false, false, false, false, false, false, false, false, false, false, false, false, false, false, false, false, false, false, false, false, false, false, false, false, false, false, false, false, false, false, false, false, false, false, false, false, false] rfl rfl (any_of HT_.out (by kernel_rfl)) (fun _ _ _ h => h) (Or.inl ⟨by rfl, ?_⟩) ?_ ?_
                            rotate_left
                            ·
                             intro w'
                             go_simp
                             with_reducible rfl
                            rotate_left
                            ·
                             simp only [Act.put, List.setIfInBounds_toArray, List.set_cons_zero, List.set_cons_succ, i64_w, i32_w]
                             rfl
                            refine pure_ (i := 10) (N := some 94) (v := ?_) (a' := ?_) #[true, true, true, true, true, true, true, true, true, false, true, false, false, false, false, false, false, false, false, false, false, false, false, false, false, false, false, false, false, false, false, false, false, false, false, false, false, false, false, false, false, false, false, false, false, false, false, false] rfl rfl (any_of HT_.out (by kernel_rfl)) (fun _ _ _ h => h) (Or.inl ⟨by rfl, ?_⟩) ?_ ?_
                            rotate_left
                            ·
                             intro w'
                             go_simp
                             with_reducible rfl
                            rotate_left
                            ·
                             simp only [Act.put, List.setIfInBounds_toArray, List.set_cons_zero, List.set_cons_succ, i64_w, i32_w]
                             rfl
                            refine pure_ (i := 11) (N := some 95) (v := ?_) (a' := ?_) #[true, true, true, true, true, true, true, true, true, false, true, true, false, false, false, false, false, false, false, false, false, false, false, false, false, false, false, false, false, false, false, false, false, false, false, false, false, false, false, false, false, false, false, false, false, false, false, false] rfl rfl (any_of HT_.out (by kernel_rfl)) (fun _ _ _ h => h) (Or.inl ⟨by rfl, ?_⟩) ?_ ?_
                            rotate_left
                            ·
                             intro w'
                             go_simp
                             with_reducible rfl
                            rotate_left
                            ·
                             simp only [Act.put, List.setIfInBounds_toArray, List.set_cons_zero, List.set_cons_succ, i64_w, i32_w]
                             rfl
                            refine take_ (i := 9) (N := some 93) (v := ?_) (a' := ?_) #[true, true, true, true, true, true, true, true, true, true, true, true, false, false, false, false, false, false, false, false, false, false, false, false, false, false, false, false, false, false, false, false, false, false, false, false, false, false, false, false, false, false, false, false, false, false, false, false] rfl rfl (take_ofW HT_.out HW_.out (by kernel_rfl)) (fun _ _ _ h => h) (Or.inl ⟨by rfl, ?_⟩) hHeld ?_ ?_
                            rotate_left
                            ·
                             rintro w' ⟨s0, s1, s2, s3, s4, s5, s6, s7⟩
                             go_simp
                             with_reducible rfl
                            rotate_left
                            ·
                             simp only [Act.put, List.setIfInBounds_toArray, List.set_cons_zero, List.set_cons_succ, i64_w, i32_w]
                             rfl
                            refine pure_ (i := 12) (N := some 96) (v := ?_) (a' := ?_) #[true, true, true, true, true, true, true, true, true, true, true, true, true, false, false, false, false, false, false, false, false, false, false, false, false, false, false, false, false, false, false, false, false, false, false, false, false, false, false, false, false, false, false, false, false, false, false, false] rfl rfl (any_of HT_.out (by kernel_rfl)) (fun _ _ _ h => h) (Or.inl ⟨by rfl, ?_⟩) ?_ ?_
                            rotate_left
                            ·
                             intro w'
                             go_simp
                             with_reducible rfl
                            rotate_left
                            ·
                             simp only [Act.put, List.setIfInBounds_toArray, List.set_cons_zero, List.set_cons_succ, i64_w, i32_w]
                             rfl
                            refine pure_ (i := 13) (N := some 97) (v := ?_) (a' := ?_) #[true, true, true, true, true, true, true, true, true, true, true, true, true, true, false, false, false, false, false, false, false, false, false, false, false, false, false, false, false, false, false, false, false, false, false, false, false, false, false, false, false, false, false, false, false, false, false, false] rfl rfl (any_of HT_.out (by kernel_rfl)) (fun _ _ _ h => h) (Or.inl ⟨by rfl, ?_⟩) ?_ ?_
                            rotate_left
                            ·
                             intro w'
                             go_simp
                             with_reducible rfl
                            rotate_left
                            ·
                             simp only [Act.put, List.setIfInBounds_toArray, List.set_cons_zero, List.set_cons_succ, i64_w, i32_w]
                             rfl
                            refine pure_ (i := 14) (N := some 98) (v := ?_) (a' := ?_) #[true, true, true, true, true, true, true, true, true, true, true, true, true, true, true, false, false, false, false, false, false, false, false, false, false, false, false, false, false, false, false, false, false, false, false, false, false, false, false, false, false, false, false, false, false, false, false, false] rfl rfl (any_of HT_.out (by kernel_rfl)) (fun _ _ _ h => h) (Or.inl ⟨by rfl, ?_⟩) ?_ ?_
                            rotate_left
                            ·
                             intro w'
                             go_simp
                             with_reducible rfl
                            rotate_left
                            ·
                             simp only [Act.put, List.setIfInBounds_toArray, List.set_cons_zero, List.set_cons_succ, i64_w, i32_w]
                             rfl
                            refine pure_ (i := 15) (N := some 99) (v := ?_) (a' := ?_) #[true, true, true, true, true, true, true, true, true, true, true, true, true, true, true, true, false, false, false, false, false, false, false, false, false, false, false, false, false, false, false, false, false, false, false, false, false, false, false, false, false, false, false, false, false, false, false, false] rfl rfl (any_of HT_.out (by kernel_rfl)) (fun _ _ _ h => h) (Or.inl ⟨by rfl, ?_⟩) ?_ ?_
                            rotate_left
                            ·
                             intro w'
                             go_simp
                             with_reducible rfl
                            rotate_left
                            ·
                             simp only [Act.put, List.setIfInBounds_toArray, List.set_cons_zero, List.set_cons_succ, i64_w, i32_w]
                             rfl
                            refine pure_ (i := 16) (N := some 100) (v := ?_) (a' := ?_) #[true, true, true, true, true, true, true, true, true, true, true, true, true, true, true, true, true, false, false, false, false, false, false, false, false, false, false, false, false, false, false, false, false, false, false, false, false, false, false, false, false, false, false, false, false, false, false, false] rfl rfl (any_of HT_.out (by kernel_rfl)) (fun _ _ _ h => h) (Or.inl ⟨by rfl, ?_⟩) ?_ ?_
                            rotate_left
                            ·
                             intro w'
                             go_simp
                             with_reducible rfl
                            rotate_left
                            ·
                             simp only [Act.put, List.setIfInBounds_toArray, List.set_cons_zero, List.set_cons_succ, i64_w, i32_w]
                             rfl
                            refine pure_ (i := 17) (N := some 101) (v := ?_) (a' := ?_) #[true, true, true, true, true, true, true, true, true, true, true, true, true, true, true, true, true, true, false, false, false, false, false, false, false, false, false, false, false, false, false, false, false, false, false, false, false, false, false, false, false, false, false, false, false, false, false, false] rfl rfl (any_of HT_.out (by kernel_rfl)) (fun _ _ _ h => h) (Or.inl ⟨by rfl, ?_⟩) ?_ ?_
                            rotate_left
                            ·
                             intro w'
                             go_simp
                             with_reducible rfl
                            rotate_left
                            ·
                             simp only [Act.put, List.setIfInBounds_toArray, List.set_cons_zero, List.set_cons_succ, i64_w, i32_w]
                             rfl
                            refine take_ (i := 18) (N := some 102) (v := ?_) (a' := ?_) #[true, true, true, true, true, true, true, true, true, true, true, true, true, true, true, true, true, true, true, false, false, false, false, false, false, false, false, false, false, false, false, false, false, false, false, false, false, false, false, false, false, false, false, false, false, false, false, false] rfl rfl (take_ofW HT_.out HW_.out (by kernel_rfl)) (fun _ _ _ h => h) (Or.inl ⟨by rfl, ?_⟩) hHeld ?_ ?_
                            rotate_left
                            ·
                             rintro w' ⟨s0, s1, s2, s3, s4, s5, s6, s7⟩
                             go_simp
                             with_reducible rfl
                            rotate_left
                            ·
                             simp only [Act.put, List.setIfInBounds_toArray, List.set_cons_zero, List.set_cons_succ, i64_w, i32_w]
                             rfl
                            refine pure_ (i := 19) (N := some 103) (v := ?_) (a' := ?_) #[true, true, true, true, true, true, true, true, true, true, true, true, true, true, true, true, true, true, true, true, false, false, false, false, false, false, false, false, false, false, false, false, false, false, false, false, false, false, false, false, false, false, false, false, false, false, false, false] rfl rfl (any_of HT_.out (by kernel_rfl)) (fun _ _ _ h => h) (Or.inl ⟨by rfl, ?_⟩) ?_ ?_
                            rotate_left
                            ·
                             intro w'
                             go_simp
                             with_reducible rfl
                            rotate_left
                            ·
                             simp only [Act.put, List.setIfInBounds_toArray, List.set_cons_zero, List.set_cons_succ, i64_w, i32_w]
                             rfl
                            refine pure_ (i := 20) (N := some 104) (v := ?_) (a' := ?_) #[true, true, true, true, true, true, true, true, true, true, true, true, true, true, true, true, true, true, true, true, true, false, false, false, false, false, false, false, false, false, false, false, false, false, false, false, false, false, false, false, false, false, false, false, false, false, false, false] rfl rfl (any_of HT_.out (by kernel_rfl)) (fun _ _ _ h => h) (Or.inl ⟨by rfl, ?_⟩) ?_ ?_
                            rotate_left
                            ·
                             intro w'
                             go_simp
                             with_reducible rfl
                            rotate_left
                            ·
                             simp only [Act.put, List.setIfInBounds_toArray, List.set_cons_zero, List.set_cons_succ, i64_w, i32_w]
                             rfl
                            refine pure_ (i := 21) (N := some 105) (v := ?_) (a' := ?_) #[true, true, true, true, true, true, true, true, true, true, true, true, true, true, true, true, true, true, true, true, true, true, false, false, false, false, false, false, false, false, false, false, false, false, false, false, false, false, false, false, false, false, false, false, false, false, false, false] rfl rfl (any_of HT_.out (by kernel_rfl)) (fun _ _ _ h => h) (Or.inl ⟨by rfl, ?_⟩) ?_ ?_
                            rotate_left
                            ·
                             intro w'
                             go_simp
                             with_reducible rfl
                            rotate_left
                            ·
                             simp only [Act.put, List.setIfInBounds_toArray, List.set_cons_zero, List.set_cons_succ, i64_w, i32_w]
                             rfl
                            refine pure_ (i := 22) (N := some 106) (v := ?_) (a' := ?_) #[true, true, true, true, true, true, true, true, true, true, true, true, true, true, true, true, true, true, true, true, true, true, true, false, false, false, false, false, false, false, false, false, false, false, false, false, false, false, false, false, false, false, false, false, false, false, false, false] rfl rfl (any_of HT_.out (by kernel_rfl)) (fun _ _ _ h => h) (Or.inl ⟨by rfl, ?_⟩) ?_ ?_
                            rotate_left
                            ·
                             intro w'
                             go_simp
                             with_reducible rfl
                            rotate_left
                            ·
                             simp only [Act.put, List.setIfInBounds_toArray, List.set_cons_zero, List.set_cons_succ, i64_w, i32_w]
                             rfl
                            refine pure_ (i := 23) (N := some 107) (v := ?_) (a' := ?_) #[true, true, true, true, true, true, true, true, true, true, true, true, true, true, true, true, true, true, true, true, true, true, true, true, false, false, false, false, false, false, false, false, false, false, false, false, false, false, false, false, false, false, false, false, false, false, false, false] rfl rfl (any_of HT_.out (by kernel_rfl)) (fun _ _ _ h => h) (Or.inl ⟨by rfl, ?_⟩) ?_ ?_
                            rotate_left
                            ·
                             intro w'
                             go_simp
                             with_reducible rfl
                            rotate_left
                            ·
                             simp only [Act.put, List.setIfInBounds_toArray, List.set_cons_zero, List.set_cons_succ, i64_w, i32_w]
                             rfl
                            refine pure_ (i := 24) (N := some 108) (v := ?_) (a' := ?_) #[true, true, true, true, true, true, true, true, true, true, true, true, true, true, true, true, true, true, true, true, true, true, true, true, true, false, false, false, false, false, false, false, false, false, false, false, false, false, false, false, false, false, false, false, false, false, false, false] rfl rfl (any_of HT_.out (by kernel_rfl)) (fun _ _ _ h => h) (Or.inl ⟨by rfl, ?_⟩) ?_ ?_
                            rotate_left
                            ·
                             intro w'
                             go_simp
                             with_reducible rfl
                            rotate_left
                            ·
                             simp only [Act.put, List.setIfInBounds_toArray, List.set_cons_zero, List.set_cons_succ, i64_w, i32_w]
                             rfl
                            refine pure_ (i := 26) (N := some 110) (v := ?_) (a' := ?_) #[true, true, true, true, true, true, true, true, true, true, true, true, true, true, true, true, true, true, true, true, true, true, true, true, true, false, true, false, false, false, false, false, false, false, false, false, false, false, false, false, false, false, false, false, false, false, false, false] rfl rfl (any_of HT_.out (by kernel_rfl)) (fun _ _ _ h => h) (Or.inl ⟨by rfl, ?_⟩) ?_ ?_
                            rotate_left
                            ·
                             intro w'
                             go_simp
                             with_reducible rfl
                            rotate_left
                            ·
                             simp only [Act.put, List.setIfInBounds_toArray, List.set_cons_zero, List.set_cons_succ, i64_w, i32_w]
                             rfl
                            refine pure_ (i := 27) (N := some 111) (v := ?_) (a' := ?_) #[true, true, true, true, true, true, true, true, true, true, true, true, true, true, true, true, true, true, true, true, true, true, true, true, true, false, true, true, false, false, false, false, false, false, false, false, false, false, false, false, false, false, false, false, false, false, false, false] rfl rfl (any_of HT_.out (by kernel_rfl)) (fun _ _ _ h => h) (Or.inl ⟨by rfl, ?_⟩) ?_ ?_
                            rotate_left
                            ·
                             intro w'
                             go_simp
                             with_reducible rfl
                            rotate_left
                            ·
                             simp only [Act.put, List.setIfInBounds_toArray, List.set_cons_zero, List.set_cons_succ, i64_w, i32_w]
                             rfl
                            refine take_ (i := 25) (N := some 109) (v := ?_) (a' := ?_) #[true, true, true, true, true, true, true, true, true, true, true, true, true, true, true, true, true, true, true, true, true, true, true, true, true, true, true, true, false, false, false, false, false, false, false, false, false, false, false, false, false, false, false, false, false, false, false, false] rfl rfl (take_ofW HT_.out HW_.out (by kernel_rfl)) (fun _ _ _ h => h) (Or.inl ⟨by rfl, ?_⟩) hHeld ?_ ?_
                            rotate_left
                            ·
                             rintro w' ⟨s0, s1, s2, s3, s4, s5, s6, s7⟩
                             go_simp
                             with_reducible rfl
                            rotate_left
                            ·
                             simp only [Act.put, List.setIfInBounds_toArray, List.set_cons_zero, List.set_cons_succ, i64_w, i32_w]
                             rfl
                            refine pure_ (i := 28) (N := some 112) (v := ?_) (a' := ?_) #[true, true, true, true, true, true, true, true, true, true, true, true, true, true, true, true, true, true, true, true, true, true, true, true, true, true, true, true, true, false, false, false, false, false, false, false, false, false, false, false, false, false, false, false, false, false, false, false] rfl rfl (any_of HT_.out (by kernel_rfl)) (fun _ _ _ h => h) (Or.inl ⟨by rfl, ?_⟩) ?_ ?_
                            rotate_left
                            ·
                             intro w'
                             go_simp
                             with_reducible rfl
                            rotate_left
                            ·
                             simp only [Act.put, List.setIfInBounds_toArray, List.set_cons_zero, List.set_cons_succ, i64_w, i32_w]
                             rfl
                            refine pure_ (i := 29) (N := some 113) (v := ?_) (a' := ?_) #[true, true, true, true, true, true, true, true, true, true, true, true, true, true, true, true, true, true, true, true, true, true, true, true, true, true, true, true, true, true, false, false, false, false, false, false, false, false, false, false, false, false, false, false, false, false, false, false] rfl rfl (any_of HT_.out (by kernel_rfl)) (fun _ _ _ h => h) (Or.inl ⟨by rfl, ?_⟩) ?_ ?_
                            rotate_left
                            ·
                             intro w'
                             go_simp
                             with_reducible rfl
                            rotate_left
                            ·
                             simp only [Act.put, List.setIfInBounds_toArray, List.set_cons_zero, List.set_cons_succ, i64_w, i32_w]
                             rfl
                            refine pure_ (i := 30) (N := some 114) (v := ?_) (a' := ?_) #[true, true, true, true, true, true, true, true, true, true, true, true, true, true, true, true, true, true, true, true, true, true, true, true, true, true, true, true, true, true, true, false, false, false, false, false, false, false, false, false, false, false, false, false, false, false, false, false] rfl rfl (any_of HT_.out (by kernel_rfl)) (fun _ _ _ h => h) (Or.inl ⟨by rfl, ?_⟩) ?_ ?_
                            rotate_left
                            ·
                             intro w'
                             go_simp
                             with_reducible rfl
                            rotate_left
                            ·
                             simp only [Act.put, List.setIfInBounds_toArray, List.set_cons_zero, List.set_cons_succ, i64_w, i32_w]
                             rfl
                            refine pure_ (i := 31) (N := some 115) (v := ?_) (a' := ?_) #[true, true, true, true, true, true, true, true, true, true, true, true, true, true, true, true, true, true, true, true, true, true, true, true, true, true, true, true, true, true, true, true, false, false, false, false, false, false, false, false, false, false, false, false, false, false, false, false] rfl rfl (any_of HT_.out (by kernel_rfl)) (fun _ _ _ h => h) (Or.inl ⟨by rfl, ?_⟩) ?_ ?_
                            rotate_left
                            ·
                             intro w'
                             go_simp
                             with_reducible rfl
                            rotate_left
                            ·
                             simp only [Act.put, List.setIfInBounds_toArray, List.set_cons_zero, List.set_cons_succ, i64_w, i32_w]
                             rfl
                            refine pure_ (i := 32) (N := some 116) (v := ?_) (a' := ?_) #[true, true, true, true, true, true, true, true, true, true, true, true, true, true, true, true, true, true, true, true, true, true, true, true, true, true, true, true, true, true, true, true, true, false, false, false, false, false, false, false, false, false, false, false, false, false, false, false] rfl rfl (any_of HT_.out (by kernel_rfl)) (fun _ _ _ h => h) (Or.inl ⟨by rfl, ?_⟩) ?_ ?_
                            rotate_left
                            ·
                             intro w'
                             go_simp
                             with_reducible rfl
                            rotate_left
                            ·
                             simp only [Act.put, List.setIfInBounds_toArray, List.set_cons_zero, List.set_cons_succ, i64_w, i32_w]
                             rfl
                            refine pure_ (i := 33) (N := some 117) (v := ?_) (a' := ?_) #[true, true, true, true, true, true, true, true, true, true, true, true, true, true, true, true, true, true, true, true, true, true, true, true, true, true, true, true, true, true, true, true, true, true, false, false, false, false, false, false, false, false, false, false, false, false, false, false] rfl rfl (any_of HT_.out (by kernel_rfl)) (fun _ _ _ h => h) (Or.inl ⟨by rfl, ?_⟩) ?_ ?_
                            rotate_left
                            ·
                             intro w'
                             go_simp
                             with_reducible rfl
                            rotate_left
                            ·
                             simp only [Act.put, List.setIfInBounds_toArray, List.set_cons_zero, List.set_cons_succ, i64_w, i32_w]
                             rfl
                            refine pure_ (i := 34) (N := some 118) (v := ?_) (a' := ?_) #[true, true, true, true, true, true, true, true, true, true, true, true, true, true, true, true, true, true, true, true, true, true, true, true, true, true, true, true, true, true, true, true, true, true, true, false, false, false, false, false, false, false, false, false, false, false, false, false] rfl rfl (any_of HT_.out (by kernel_rfl)) (fun _ _ _ h => h) (Or.inl ⟨by rfl, ?_⟩) ?_ ?_
                            rotate_left
                            ·
                             intro w'
                             go_simp
                             with_reducible rfl
                            rotate_left
                            ·
                             simp only [Act.put, List.setIfInBounds_toArray, List.set_cons_zero, List.set_cons_succ, i64_w, i32_w]
                             rfl
                            refine pure_ (i := 38) (N := some 122) (v := ?_) (a' := ?_) #[true, true, true, true, true, true, true, true, true, true, true, true, true, true, true, true, true, true, true, true, true, true, true, true, true, true, true, true, true, true, true, true, true, true, true, false, false, false, true, false, false, false, false, false, false, false, false, false] rfl rfl (any_of HT_.out (by kernel_rfl)) (fun _ _ _ h => h) (Or.inl ⟨by rfl, ?_⟩) ?_ ?_
                            rotate_left
                            ·
                             intro w'
                             go_simp
                             with_reducible rfl
                            rotate_left
                            ·
                             simp only [Act.put, List.setIfInBounds_toArray, List.set_cons_zero, List.set_cons_succ, i64_w, i32_w]
                             rfl
                            refine pure_ (i := 39) (N := some 123) (v := ?_) (a' := ?_) #[true, true, true, true, true, true, true, true, true, true, true, true, true, true, true, true, true, true, true, true, true, true, true, true, true, true, true, true, true, true, true, true, true, true, true, false, false, false, true, true, false, false, false, false, false, false, false, false] rfl rfl (any_of HT_.out (by kernel_rfl)) (fun _ _ _ h => h) (Or.inl ⟨by rfl, ?_⟩) ?_ ?_
                            rotate_left
                            ·
                             intro w'
                             go_simp
                             with_reducible rfl
                            rotate_left
                            ·
                             simp only [Act.put, List.setIfInBounds_toArray, List.set_cons_zero, List.set_cons_succ, i64_w, i32_w]
                             rfl
                            refine pure_ (i := 40) (N := some 124) (v := ?_) (a' := ?_) #[true, true, true, true, true, true, true, true, true, true, true, true, true, true, true, true, true, true, true, true, true, true, true, true, true, true, true, true, true, true, true, true, true, true, true, false, false, false, true, true, true, false, false, false, false, false, false, false] rfl rfl (any_of HT_.out (by kernel_rfl)) (fun _ _ _ h => h) (Or.inl ⟨by rfl, ?_⟩) ?_ ?_
                            rotate_left
                            ·
                             intro w'
                             go_simp
                             with_reducible rfl
                            rotate_left
                            ·
                             simp only [Act.put, List.setIfInBounds_toArray, List.set_cons_zero, List.set_cons_succ, i64_w, i32_w]
                             rfl
                            refine pure_ (i := 41) (N := some 125) (v := ?_) (a' := ?_) #[true, true, true, true, true, true, true, true, true, true, true, true, true, true, true, true, true, true, true, true, true, true, true, true, true, true, true, true, true, true, true, true, true, true, true, false, false, false, true, true, true, true, false, false, false, false, false, false] rfl rfl (any_of HT_.out (by kernel_rfl)) (fun _ _ _ h => h) (Or.inl ⟨by rfl, ?_⟩) ?_ ?_
                            rotate_left
                            ·
                             intro w'
                             go_simp
                             with_reducible rfl
                            rotate_left
                            ·
                             simp only [Act.put, List.setIfInBounds_toArray, List.set_cons_zero, List.set_cons_succ, i64_w, i32_w]
                             rfl
                            refine take_ (i := 35) (N := some 119) (v := ?_) (a' := ?_) #[true, true, true, true, true, true, true, true, true, true, true, true, true, true, true, true, true, true, true, true, true, true, true, true, true, true, true, true, true, true, true, true, true, true, true, true, false, false, true, true, true, true, false, false, false, false, false, false] rfl rfl (take_ofW HT_.out HW_.out (by kernel_rfl)) (fun _ _ _ h => h) (Or.inl ⟨by rfl, ?_⟩) hHeld ?_ ?_
                            rotate_left
                            ·
                             rintro w' ⟨s0, s1, s2, s3, s4, s5, s6, s7⟩
                             go_simp
                             with_reducible rfl
                            rotate_left
                            ·
                             simp only [Act.put, List.setIfInBounds_toArray, List.set_cons_zero, List.set_cons_succ, i64_w, i32_w]
                             rfl
                            refine pure_ (i := 36) (N := some 120) (v := ?_) (a' := ?_) #[true, true, true, true, true, true, true, true, true, true, true, true, true, true, true, true, true, true, true, true, true, true, true, true, true, true, true, true, true, true, true, true, true, true, true, true, true, false, true, true, true, true, false, false, false, false, false, false] rfl rfl (any_of HT_.out (by kernel_rfl)) (fun _ _ _ h => h) (Or.inl ⟨by rfl, ?_⟩) ?_ ?_
                            rotate_left
                            ·
                             intro w'
                             go_simp
                             with_reducible rfl
                            rotate_left
                            ·
                             simp only [Act.put, List.setIfInBounds_toArray, List.set_cons_zero, List.set_cons_succ, i64_w, i32_w]
                             rfl
                            refine take_ (i := 37) (N := some 121) (v := ?_) (a' := ?_) #[true, true, true, true, true, true, true, true, true, true, true, true, true, true, true, true, true, true, true, true, true, true, true, true, true, true, true, true, true, true, true, true, true, true, true, true, true, true, true, true, true, true, false, false, false, false, false, false] rfl rfl (take_ofW HT_.out HW_.out (by kernel_rfl)) (fun _ _ _ h => h) (Or.inl ⟨by rfl, ?_⟩) hHeld ?_ ?_
                            rotate_left
                            ·
                             rintro w' ⟨s0, s1, s2, s3, s4, s5, s6, s7⟩
                             go_simp
                             with_reducible rfl
                            rotate_left
                            ·
                             simp only [Act.put, List.setIfInBounds_toArray, List.set_cons_zero, List.set_cons_succ, i64_w, i32_w]
                             rfl
                            refine take_ (i := 42) (N := some 126) (v := ?_) (a' := ?_) #[true, true, true, true, true, true, true, true, true, true, true, true, true, true, true, true, true, true, true, true, true, true, true, true, true, true, true, true, true, true, true, true, true, true, true, true, true, true, true, true, true, true, true, false, false, false, false, false] rfl rfl (take_ofW HT_.out HW_.out (by kernel_rfl)) (fun _ _ _ h => h) (Or.inl ⟨by rfl, ?_⟩) hHeld ?_ ?_
                            rotate_left
                            ·
                             rintro w' ⟨s0, s1, s2, s3, s4, s5, s6, s7⟩
                             go_simp
                             with_reducible rfl
                            rotate_left
                            ·
                             simp only [Act.put, List.setIfInBounds_toArray, List.set_cons_zero, List.set_cons_succ, i64_w, i32_w]
                             rfl
                            refine pure_ (i := 43) (N := some 127) (v := ?_) (a' := ?_) #[true, true, true, true, true, true, true, true, true, true, true, true, true, true, true, true, true, true, true, true, true, true, true, true, true, true, true, true, true, true, true, true, true, true, true, true, true, true, true, true, true, true, true, true, false, false, false, false] rfl rfl (any_of HT_.out (by kernel_rfl)) (fun _ _ _ h => h) (Or.inl ⟨by rfl, ?_⟩) ?_ ?_
                            rotate_left
                            ·
                             intro w'
                             go_simp
                             with_reducible rfl
                            rotate_left
                            ·
                             simp only [Act.put, List.setIfInBounds_toArray, List.set_cons_zero, List.set_cons_succ, i64_w, i32_w]
                             rfl
                            refine take_ (i := 44) (N := some 128) (v := ?_) (a' := ?_) #[true, true, true, true, true, true, true, true, true, true, true, true, true, true, true, true, true, true, true, true, true, true, true, true, true, true, true, true, true, true, true, true, true, true, true, true, true, true, true, true, true, true, true, true, true, false, false, false] rfl rfl (take_ofW HT_.out HW_.out (by kernel_rfl)) (fun _ _ _ h => h) (Or.inl ⟨by rfl, ?_⟩) hHeld ?_ ?_
                            rotate_left
                            ·
                             rintro w' ⟨s0, s1, s2, s3, s4, s5, s6, s7⟩
                             go_simp
                             with_reducible rfl
                            rotate_left
                            ·
                             simp only [Act.put, List.setIfInBounds_toArray, List.set_cons_zero, List.set_cons_succ, i64_w, i32_w]
                             rfl
                            refine one_ (i := 45) (N := some 129) #[true, true, true, true, true, true, true, true, true, true, true, true, true, true, true, true, true, true, true, true, true, true, true, true, true, true, true, true, true, true, true, true, true, true, true, true, true, true, true, true, true, true, true, true, true, true, false, false] rfl rfl (one_of HT_.out (by kernel_rfl)) (by decide) (fun K hK => ?_)
                            refine goes_ Try.func8 (by kernel_rfl) rfl #[.slice A274_0 (rd_L3 t221 (rd t244 x81_3)).length c274_0, .slice A276_0 (rd_L3 y241 (rd t247 x81_3)).length c276_0] (by rfl) rfl rfl (by (try simp only [List.map_toArray, List.map_cons, List.map_nil]); first | done | rfl | (simp only [List.length_drop, List.length_take]; rfl)) ?_
                            with_reducible refine (rank_Compare.calls k3 _ _ (rd_L3 t221 (rd t244 x81_3)) _ _ (rd_L3 y241 (rd t247 x81_3)) t277 _ ?side1 ?side2 ?side3 ?side4 A70.out).mono ?_
                            (case side1 => repeat (first | exact (by repeat (first | (with_reducible exact HR274_0.out) | (with_reducible refine Kd.C_alloc ?_ _) | (with_reducible refine Kd.C_drewN ?_ _) | (with_reducible refine Kd.C_drew ?_) | exact HR274_0.out)) | (with_reducible refine Kd.C_alloc ?_ _) | (with_reducible refine Kd.C_drewN ?_ _) | (with_reducible refine Kd.C_drew ?_)))
                            (case side2 => exact HC274_0.out)
                            (case side3 => repeat (first | exact (by repeat (first | (with_reducible exact HR276_0.out) | (with_reducible refine Kd.C_alloc ?_ _) | (with_reducible refine Kd.C_drewN ?_ _) | (with_reducible refine Kd.C_drew ?_) | exact HR276_0.out)) | (with_reducible refine Kd.C_alloc ?_ _) | (with_reducible refine Kd.C_drewN ?_ _) | (with_reducible refine Kd.C_drew ?_)))
                            (case side4 => exact HC276_0.out)
                            rintro e w74 ⟨rfl, hb⟩
                            have HS0_ := (hb.cell (World.block_lt_of_cell? _ _ (hHeld.1))).trans (hHeld.1)
                            have HS1_ := (hb.cell (World.block_lt_of_cell? _ _ (hHeld.2.1))).trans (hHeld.2.1)
                            have HS2_ := (hb.cell (World.block_lt_of_cell? _ _ (hHeld.2.2.1))).trans (hHeld.2.2.1)
                            have HS3_ := (hb.cell (World.block_lt_of_cell? _ _ (hHeld.2.2.2.1))).trans (hHeld.2.2.2.1)
                            have HS4_ := (hb.cell (World.block_lt_of_cell? _ _ (hHeld.2.2.2.2.1))).trans (hHeld.2.2.2.2.1)
                            have HS5_ := (hb.cell (World.block_lt_of_cell? _ _ (hHeld.2.2.2.2.2.1))).trans (hHeld.2.2.2.2.2.1)
                            have HS6_ := (hb.cell (World.block_lt_of_cell? _ _ (hHeld.2.2.2.2.2.2.1))).trans (hHeld.2.2.2.2.2.2.1)
                            have HS7_ := (hb.cell (World.block_lt_of_cell? _ _ (hHeld.2.2.2.2.2.2.2))).trans (hHeld.2.2.2.2.2.2.2)
                            refine ⟨_, rfl, ?_⟩
                            have n0_ := Aside0.mk (Kd.N_below (by (with_reducible repeat (first | apply Kd.N_alloc | apply Kd.N_drewN | apply Kd.N_drew)); exact HO_7.out) hb)
                            have n1_ := Aside0.mk (Kd.N_below (by (with_reducible repeat (first | apply Kd.N_alloc | apply Kd.N_drewN | apply Kd.N_drew)); exact HO_9.out) hb)
                            have n2_ := Aside0.mk (Kd.R_below (by (with_reducible repeat (first | apply Kd.R_alloc | apply Kd.R_drewN | apply Kd.R_drew)); exact HO_10.out) hb)
                            have n3_ := Aside0.mk (Kd.R_below (by (with_reducible repeat (first | apply Kd.R_alloc | apply Kd.R_drewN | apply Kd.R_drew)); exact HO_11.out) hb)
                            have n4_ := Aside0.mk (Kd.R_below (by (with_reducible repeat (first | apply Kd.R_alloc | apply Kd.R_drewN | apply Kd.R_drew)); exact HO_13.out) hb)
                            have n5_ := Aside0.mk (Kd.V_below (by (with_reducible repeat (first | apply Kd.V_alloc | apply Kd.V_drewN | apply Kd.V_drew)); exact HL274_0.out) hb)
                            have n6_ := Aside0.mk (Kd.V_below (by (with_reducible repeat (first | apply Kd.V_alloc | apply Kd.V_drewN | apply Kd.V_drew)); exact HL276_0.out) hb)
                            have n7_ := Aside0.mk (blk_below (g := gb220) (o := .cells #[.slice A2_0 l2_0.length c2_0, .slice A2_1 l2_1.length c2_1, .int .i64 a2_2] 31 (0, 0)) (by (with_reducible repeat (first | refine blk_drewN ?_ _ | refine blk_drew ?_ | refine blk_alloc ?_ _)); exact BK220.out) hb)
                            have n8_ := Aside0.mk (Kd.C_below (by repeat (first | (with_reducible exact HR274_0.out) | (with_reducible refine Kd.C_alloc ?_ _) | (with_reducible refine Kd.C_drewN ?_ _) | (with_reducible refine Kd.C_drew ?_) | exact HR274_0.out)) hb)
                            have n9_ := Aside0.mk (Kd.C_below (by repeat (first | (with_reducible exact HR276_0.out) | (with_reducible refine Kd.C_alloc ?_ _) | (with_reducible refine Kd.C_drewN ?_ _) | (with_reducible refine Kd.C_drew ?_) | exact HR276_0.out)) hb)
                            have n10_ := Aside0.mk (below_step (by repeat (first | (with_reducible first | exact HB.out | apply below_alloc | apply pw_below_drewN | apply below_drew1 | refine below_set ?_ GE220.out) | exact HB.out)) hb)
                            clear HO_7
                            clear HO_9
                            clear HO_10
                            clear HO_11
                            clear HO_13
                            clear HL274_0
                            clear HL276_0
                            clear BK220
                            clear HR274_0
                            clear HR276_0
                            clear HB
                            have HO_7 := n0_
                            have HO_9 := n1_
                            have HO_10 := n2_
                            have HO_11 := n3_
                            have HO_13 := n4_
                            have HL274_0 := n5_
                            have HL276_0 := n6_
                            have BK220 := n7_
                            have HR274_0 := n8_
                            have HR276_0 := n9_
                            have HB := n10_
                            clear n0_ n1_ n2_ n3_ n4_ n5_ n6_ n7_ n8_ n9_ n10_
                            (try clear hb)
                            (try clear hb2)
                            (try clear hk)
                            (try clear hi)
                            refine hK.out _ _ ⟨HS0_, HS1_, HS2_, HS3_, HS4_, HS5_, HS6_, HS7_⟩ (fun hHeld => ?_)
                            clear hK K
                            refine norm_ (a' := ?_) ?_ ?_
                            rotate_left
                            ·
                             show Act.put _ (some 129) _ = _
                             simp only [Act.put, List.setIfInBounds_toArray, List.set_cons_zero, List.set_cons_succ, i64_w, i32_w]
                             rfl
                            refine pure_ (i := 46) (N := some 130) (v := ?_) (a' := ?_) #[true, true, true, true, true, true, true, true, true, true, true, true, true, true, true, true, true, true, true, true, true, true, true, true, true, true, true, true, true, true, true, true, true, true, true, true, true, true, true, true, true, true, true, true, true, true, true, false] rfl rfl (any_of HT_.out (by kernel_rfl)) (fun _ _ _ h => h) (Or.inl ⟨by rfl, ?_⟩) ?_ ?_
                            rotate_left
                            ·
                             intro w'
                             go_simp
                             with_reducible rfl
                            rotate_left
                            ·
                             simp only [Act.put, List.setIfInBounds_toArray, List.set_cons_zero, List.set_cons_succ, i64_w, i32_w]
                             rfl
                            refine pure_ (i := 47) (N := some 131) (v := ?_) (a' := ?_) #[true, true, true, true, true, true, true, true, true, true, true, true, true, true, true, true, true, true, true, true, true, true, true, true, true, true, true, true, true, true, true, true, true, true, true, true, true, true, true, true, true, true, true, true, true, true, true, true] rfl rfl (any_of HT_.out (by kernel_rfl)) (fun _ _ _ h => h) (Or.inl ⟨by rfl, ?_⟩) ?_ ?_
                            rotate_left
                            ·
                             intro w'
                             go_simp
                             with_reducible rfl
                            rotate_left
                            ·
                             simp only [Act.put, List.setIfInBounds_toArray, List.set_cons_zero, List.set_cons_succ, i64_w, i32_w]
                             rfl
                            refine done_ (done_of HT_.out (by kernel_rfl)) ?_
                            try go_wp2
                            go_roundg k3
                            case measure => have := HJ17.out; have := HK2.out; have := HK3.out; omega
                            case rel => exact ⟨(wrap64 (x81_3 + 1)), (by first | rfl | (simp; done) | (simp [*]; done)), H', ⟨by have := HJ17.out; have := HK2.out; have := HK3.out; omega⟩, ⟨by (with_reducible repeat (first | apply Kd.N_alloc | apply Kd.N_drewN | apply Kd.N_drew)); exact HO_7.out⟩, ⟨by (with_reducible repeat (first | apply Kd.N_alloc | apply Kd.N_drewN | apply Kd.N_drew)); exact HO_9.out⟩, ⟨by (with_reducible repeat (first | apply Kd.R_alloc | apply Kd.R_drewN | apply Kd.R_drew)); exact HO_10.out⟩, ⟨by (with_reducible repeat (first | apply Kd.R_alloc | apply Kd.R_drewN | apply Kd.R_drew)); exact HO_11.out⟩, ⟨by (with_reducible repeat (first | apply Kd.R_alloc | apply Kd.R_drewN | apply Kd.R_drew)); exact HO_13.out⟩, ⟨by (with_reducible repeat (first | refine blk_drewN ?_ _ | refine blk_drew ?_ | refine blk_alloc ?_ _)); exact BK220.out⟩, ⟨by repeat (first | (with_reducible first | exact HB.out | apply below_alloc | apply pw_below_drewN | apply below_drew1 | refine below_set ?_ GE220.out) | exact HB.out)⟩⟩
                           ·
                            rw [if_neg c71] at H
                            exact absurd H (by simp)
                          ·
                           rw [if_neg c69] at H
                           exact absurd H (by simp)
                         ·
                          rw [if_neg c68] at H
                          exact absurd H (by simp)
                        ·
                         rw [if_neg c67] at H
                         exact absurd H (by simp)
                       ·
                        rw [if_neg c66] at H
                        exact absurd H (by simp)
                    ·
                     rw [if_neg c63] at H
                     exact absurd H (by simp)
                 ·
                  rw [if_neg c60] at H
                  exact absurd H (by simp)
                ·
                 rw [if_neg c59] at H
                 exact absurd H (by simp)
               ·
                rw [if_neg c58] at H
                have c58b0 : decide (x81_3 < (t244.length : Int)) = false := decide_eq_false c58
                clear c58
                replace H := Option.bind_eq_some_iff.mp H
                obtain ⟨t278, A750, H⟩ := H
                replace H : (if t278 = true then (if (t221.length : Int) = 0 then ((porticolaw6_RankRuns.f k3).bind fun t279 => (some t279)) else ((rank_First.f k3 t221).bind fun t280 => (if 0 < (t244.length : Int) then (if t280 = (rd t244 0) then ((porticolaw6_RankRuns.f k3).bind fun t282 => (some t282)) else (none)) else (none)))) else (none)) = some r := H
                have A75 := Aside0.mk A750
                clear A750
                by_cases c76 : t278 = true
                ·
                 subst c76
                 have H1 : (if (t221.length : Int) = 0 then ((porticolaw6_RankRuns.f k3).bind fun t279 => (some t279)) else ((rank_First.f k3 t221).bind fun t280 => (if 0 < (t244.length : Int) then (if t280 = (rd t244 0) then ((porticolaw6_RankRuns.f k3).bind fun t282 => (some t282)) else (none)) else (none)))) = some r := by rw [if_pos rfl] at H; exact H
                 clear H
                 have H := H1
                 clear H1
                 by_cases c77 : (t221.length : Int) = 0
                 ·
                  rw [if_pos c77] at H
                  have c77b0 : ((t221.length : Int) == 0) = true := beq_iff_eq.mpr c77
                  have c77b1 : ((t221.length : Int) != 0) = false := bne_eq_false_iff_eq.mpr c77
                  clear c77
                  replace H := Option.bind_eq_some_iff.mp H
                  obtain ⟨t279, A780, H⟩ := H
                  replace H : (some t279) = some r := H
                  have A78 := Aside0.mk A780
                  clear A780
                  obtain rfl := Option.some.inj H
                  try go_wp2
                  have n0_ := Aside0.mk (Kd.N_drew HO_7.out)
                  have n1_ := Aside0.mk (Kd.N_drew HO_9.out)
                  have n2_ := Aside0.mk (Kd.R_drew HO_10.out)
                  have n3_ := Aside0.mk (Kd.R_drew HO_11.out)
                  have n4_ := Aside0.mk (Kd.R_drew HO_13.out)
                  have n5_ := Aside0.mk (blk_drew BK220.out)
                  have n6_ := Aside0.mk (below_drew1 HB.out)
                  clear HO_7
                  clear HO_9
                  clear HO_10
                  clear HO_11
                  clear HO_13
                  clear BK220
                  clear HB
                  have HO_7 := n0_
                  have HO_9 := n1_
                  have HO_10 := n2_
                  have HO_11 := n3_
                  have HO_13 := n4_
                  have BK220 := n5_
                  have HB := n6_
                  clear n0_ n1_ n2_ n3_ n4_ n5_ n6_
                  obtain ⟨Ao80, co80, eo80⟩ := Kd.R_slice HO_13.out
                  (first | subst eo80 | (injection eo80 with f1_ f2_ f3_; have f4_ := f1_.symm; have f5_ := f3_.symm; clear f1_ f2_ f3_; subst f4_; subst f5_))
                  refine start_ (n := 20) (S := fun w' => True) (ds := []) #[false, false, false, false, false, false, false, false, false, false, false, false, false, false, false, false, false, false, false, false] (by kernel_rfl) rfl rfl trivial (fun hHeld => ?_); refine with_tabW porticolaw6_RankSorted.tab21 porticolaw6_RankSorted.bits21 (fun HT_ HW_ => ?_)
                  generalize wr.drew = w79 at HO_7 HO_9 HO_10 HO_11 HO_13 BK220 HB hHeld ⊢
                  refine pure_ (i := 0) (N := some 133) (v := ?_) (a' := ?_) #[true, false, false, false, false, false, false, false, false, false, false, false, false, false, false, false, false, false, false, false] rfl rfl (any_of HT_.out (by kernel_rfl)) (fun _ _ _ h => h) (Or.inl ⟨by rfl, ?_⟩) ?_ ?_
                  rotate_left
                  ·
                   intro w'
                   go_simp
                   with_reducible rfl
                  rotate_left
                  ·
                   simp only [Act.put, List.setIfInBounds_toArray, List.set_cons_zero, List.set_cons_succ, i64_w, i32_w]
                   rfl
                  refine pure_ (i := 1) (N := some 134) (v := ?_) (a' := ?_) #[true, true, false, false, false, false, false, false, false, false, false, false, false, false, false, false, false, false, false, false] rfl rfl (any_of HT_.out (by kernel_rfl)) (fun _ _ _ h => h) (Or.inl ⟨by rfl, ?_⟩) ?_ ?_
                  rotate_left
                  ·
                   intro w'
                   go_simp
                   with_reducible rfl
                  rotate_left
                  ·
                   simp only [Act.put, List.setIfInBounds_toArray, List.set_cons_zero, List.set_cons_succ, i64_w, i32_w]
                   rfl
                  refine one_ (i := 2) (N := some 135) #[true, true, true, false, false, false, false, false, false, false, false, false, false, false, false, false, false, false, false, false] rfl rfl (one_of HT_.out (by kernel_rfl)) (by decide) (fun K hK => ?_)
                  refine goes_ Try.func16 (by kernel_rfl) rfl #[.slice Ao80 x13_2.length co80, .slice Ao57 t244.length co57] (by rfl) rfl rfl (by (try simp only [List.map_toArray, List.map_cons, List.map_nil]); first | done | rfl | (simp only [List.length_drop, List.length_take]; rfl)) ?_
                  with_reducible refine (porticobook_Same_int.calls k3 _ _ x13_2 _ _ t244 true _ ?side1 ?side2 ?side3 ?side4 A75.out).mono ?_
                  (case side1 => repeat (first | exact (Kd.R_reads' HO_13.out).2.2 | (with_reducible refine Kd.C_alloc ?_ _) | (with_reducible refine Kd.C_drewN ?_ _) | (with_reducible refine Kd.C_drew ?_)))
                  (case side2 => exact (Kd.R_reads' HO_13.out).2.1)
                  (case side3 => repeat (first | exact (Kd.R_reads' HO_10.out).2.2 | (with_reducible refine Kd.C_alloc ?_ _) | (with_reducible refine Kd.C_drewN ?_ _) | (with_reducible refine Kd.C_drew ?_)))
                  (case side4 => exact (Kd.R_reads' HO_10.out).2.1)
                  rintro e w' ⟨rfl, ⟨nd, rfl⟩⟩
                  refine ⟨_, rfl, ?_⟩
                  refine hK.out _ _ trivial (fun hHeld => ?_)
                  clear hK K
                  refine norm_ (a' := ?_) ?_ ?_
                  rotate_left
                  ·
                   show Act.put _ (some 135) _ = _
                   simp only [Act.put, List.setIfInBounds_toArray, List.set_cons_zero, List.set_cons_succ, i64_w, i32_w]
                   rfl
                  refine pure_ (i := 3) (N := some 136) (v := ?_) (a' := ?_) #[true, true, true, true, false, false, false, false, false, false, false, false, false, false, false, false, false, false, false, false] rfl rfl (any_of HT_.out (by kernel_rfl)) (fun _ _ _ h => h) (Or.inl ⟨by rfl, ?_⟩) ?_ ?_
                  rotate_left
                  ·
                   intro w'
                   go_simp
                   with_reducible rfl
                  rotate_left
                  ·
                   simp only [Act.put, List.setIfInBounds_toArray, List.set_cons_zero, List.set_cons_succ, i64_w, i32_w]
                   rfl
                  refine pure_ (i := 4) (N := some 137) (v := ?_) (a' := ?_) #[true, true, true, true, true, false, false, false, false, false, false, false, false, false, false, false, false, false, false, false] rfl rfl (any_of HT_.out (by kernel_rfl)) (fun _ _ _ h => h) (Or.inl ⟨by rfl, ?_⟩) ?_ ?_
                  rotate_left
                  ·
                   intro w'
                   go_simp
                   with_reducible rfl
                  rotate_left
                  ·
                   simp only [Act.put, List.setIfInBounds_toArray, List.set_cons_zero, List.set_cons_succ, i64_w, i32_w]
                   rfl
                  refine pure_ (i := 5) (N := some 138) (v := ?_) (a' := ?_) #[true, true, true, true, true, true, false, false, false, false, false, false, false, false, false, false, false, false, false, false] rfl rfl (any_of HT_.out (by kernel_rfl)) (fun _ _ _ h => h) (Or.inl ⟨by rfl, ?_⟩) ?_ ?_
                  rotate_left
                  ·
                   intro w'
                   go_simp
                   with_reducible rfl
                  rotate_left
                  ·
                   simp only [Act.put, List.setIfInBounds_toArray, List.set_cons_zero, List.set_cons_succ, i64_w, i32_w]
                   rfl
                  refine pure_ (i := 6) (N := some 139) (v := ?_) (a' := ?_) #[true, true, true, true, true, true, true, false, false, false, false, false, false, false, false, false, false, false, false, false] rfl rfl (any_of HT_.out (by kernel_rfl)) (fun _ _ _ h => h) (Or.inl ⟨by rfl, ?_⟩) ?_ ?_
                  rotate_left
                  ·
                   intro w'
                   go_simp
                   with_reducible rfl
                  rotate_left
                  ·
                   simp only [Act.put, List.setIfInBounds_toArray, List.set_cons_zero, List.set_cons_succ, i64_w, i32_w]
                   rfl
                  refine pure_ (i := 7) (N := some 140) (v := ?_) (a' := ?_) #[true, true, true, true, true, true, true, true, false, false, false, false, false, false, false, false, false, false, false, false] rfl rfl (any_of HT_.out (by kernel_rfl)) (fun _ _ _ h => h) (Or.inl ⟨by rfl, ?_⟩) ?_ ?_
                  rotate_left
                  ·
                   intro w'
                   go_simp
                   with_reducible rfl
                  rotate_left
                  ·
                   simp only [Act.put, List.setIfInBounds_toArray, List.set_cons_zero, List.set_cons_succ, i64_w, i32_w]
                   rfl
                  refine pure_ (i := 8) (N := some 141) (v := undef) (a' := ?_) #[true, true, true, true, true, true, true, true, true, false, false, false, false, false, false, false, false, false, false, false] rfl rfl (any_of HT_.out (by kernel_rfl)) (fun _ _ _ h => h) (Or.inr ⟨by rfl, rfl⟩) ?_ ?_
                  rotate_left
                  ·
                   simp only [Act.put, List.setIfInBounds_toArray, List.set_cons_zero, List.set_cons_succ, i64_w, i32_w]
                   rfl
                  refine pure_ (i := 9) (N := some 142) (v := undef) (a' := ?_) #[true, true, true, true, true, true, true, true, true, true, false, false, false, false, false, false, false, false, false, false] rfl rfl (any_of HT_.out (by kernel_rfl)) (fun _ _ _ h => h) (Or.inr ⟨by rfl, rfl⟩) ?_ ?_
                  rotate_left
                  ·
                   simp only [Act.put, List.setIfInBounds_toArray, List.set_cons_zero, List.set_cons_succ, i64_w, i32_w]
                   rfl
                  refine pure_ (i := 10) (N := some 143) (v := undef) (a' := ?_) #[true, true, true, true, true, true, true, true, true, true, true, false, false, false, false, false, false, false, false, false] rfl rfl (any_of HT_.out (by kernel_rfl)) (fun _ _ _ h => h) (Or.inr ⟨by rfl, rfl⟩) ?_ ?_
                  rotate_left
                  ·
                   simp only [Act.put, List.setIfInBounds_toArray, List.set_cons_zero, List.set_cons_succ, i64_w, i32_w]
                   rfl
                  refine pure_ (i := 11) (N := some 144) (v := undef) (a' := ?_) #[true, true, true, true, true, true, true, true, true, true, true, true, false, false, false, false, false, false, false, false] rfl rfl (any_of HT_.out (by kernel_rfl)) (fun _ _ _ h => h) (Or.inr ⟨by rfl, rfl⟩) ?_ ?_
                  rotate_left
                  ·
                   simp only [Act.put, List.setIfInBounds_toArray, List.set_cons_zero, List.set_cons_succ, i64_w, i32_w]
                   rfl
                  refine pure_ (i := 12) (N := some 145) (v := undef) (a' := ?_) #[true, true, true, true, true, true, true, true, true, true, true, true, true, false, false, false, false, false, false, false] rfl rfl (any_of HT_.out (by kernel_rfl)) (fun _ _ _ h => h) (Or.inr ⟨by rfl, rfl⟩) ?_ ?_
                  rotate_left
                  ·
                   simp only [Act.put, List.setIfInBounds_toArray, List.set_cons_zero, List.set_cons_succ, i64_w, i32_w]
                   rfl
                  refine pure_ (i := 13) (N := some 146) (v := undef) (a' := ?_) #[true, true, true, true, true, true, true, true, true, true, true, true, true, true, false, false, false, false, false, false] rfl rfl (any_of HT_.out (by kernel_rfl)) (fun _ _ _ h => h) (Or.inr ⟨by rfl, rfl⟩) ?_ ?_
                  rotate_left
                  ·
                   simp only [Act.put, List.setIfInBounds_toArray, List.set_cons_zero, List.set_cons_succ, i64_w, i32_w]
                   rfl
                  refine pure_ (i := 14) (N := some 147) (v := ?_) (a' := ?_) #[true, true, true, true, true, true, true, true, true, true, true, true, true, true, true, false, false, false, false, false] rfl rfl (any_of HT_.out (by kernel_rfl)) (fun _ _ _ h => h) (Or.inl ⟨by rfl, ?_⟩) ?_ ?_
                  rotate_left
                  ·
                   intro w'
                   go_simp
                   with_reducible rfl
                  rotate_left
                  ·
                   simp only [Act.put, List.setIfInBounds_toArray, List.set_cons_zero, List.set_cons_succ, i64_w, i32_w]
                   rfl
                  refine pure_ (i := 15) (N := some 148) (v := ?_) (a' := ?_) #[true, true, true, true, true, true, true, true, true, true, true, true, true, true, true, true, false, false, false, false] rfl rfl (any_of HT_.out (by kernel_rfl)) (fun _ _ _ h => h) (Or.inl ⟨by rfl, ?_⟩) ?_ ?_
                  rotate_left
                  ·
                   intro w'
                   go_simp
                   with_reducible rfl
                  rotate_left
                  ·
                   simp only [Act.put, List.setIfInBounds_toArray, List.set_cons_zero, List.set_cons_succ, i64_w, i32_w]
                   rfl
                  refine pure_ (i := 16) (N := some 149) (v := ?_) (a' := ?_) #[true, true, true, true, true, true, true, true, true, true, true, true, true, true, true, true, true, false, false, false] rfl rfl (any_of HT_.out (by kernel_rfl)) (fun _ _ _ h => h) (Or.inl ⟨by rfl, ?_⟩) ?_ ?_
                  rotate_left
                  ·
                   intro w'
                   go_simp
                   with_reducible rfl
                  rotate_left
                  ·
                   simp only [Act.put, List.setIfInBounds_toArray, List.set_cons_zero, List.set_cons_succ, i64_w, i32_w]
                   rfl
                  refine one_ (i := 17) (N := some 150) #[true, true, true, true, true, true, true, true, true, true, true, true, true, true, true, true, true, true, false, false] rfl rfl (one_of HT_.out (by kernel_rfl)) (by decide) (fun K hK => ?_)
                  refine goes_ Try.func3 (by kernel_rfl) rfl #[] (by rfl) rfl rfl (by (try simp only [List.map_toArray, List.map_cons, List.map_nil]); first | done | rfl | (simp only [List.length_drop, List.length_take]; rfl)) ?_
                  with_reducible refine (porticolaw6_RankRuns.calls k3  t279 _ A78.out).mono ?_
                  rintro e w81 ⟨rfl, hb⟩
                  refine ⟨_, rfl, ?_⟩
                  have n0_ := Aside0.mk (Kd.N_below (by (with_reducible repeat (first | apply Kd.N_alloc | apply Kd.N_drewN | apply Kd.N_drew)); exact HO_7.out) hb)
                  have n1_ := Aside0.mk (Kd.N_below (by (with_reducible repeat (first | apply Kd.N_alloc | apply Kd.N_drewN | apply Kd.N_drew)); exact HO_9.out) hb)
                  have n2_ := Aside0.mk (Kd.R_below (by (with_reducible repeat (first | apply Kd.R_alloc | apply Kd.R_drewN | apply Kd.R_drew)); exact HO_10.out) hb)
                  have n3_ := Aside0.mk (Kd.R_below (by (with_reducible repeat (first | apply Kd.R_alloc | apply Kd.R_drewN | apply Kd.R_drew)); exact HO_11.out) hb)
                  have n4_ := Aside0.mk (Kd.R_below (by (with_reducible repeat (first | apply Kd.R_alloc | apply Kd.R_drewN | apply Kd.R_drew)); exact HO_13.out) hb)
                  have n5_ := Aside0.mk (blk_below (g := gb220) (o := .cells #[.slice A2_0 l2_0.length c2_0, .slice A2_1 l2_1.length c2_1, .int .i64 a2_2] 31 (0, 0)) (by (with_reducible repeat (first | refine blk_drewN ?_ _ | refine blk_drew ?_ | refine blk_alloc ?_ _)); exact BK220.out) hb)
                  have n6_ := Aside0.mk (below_step (by repeat (first | (with_reducible first | exact HB.out | apply below_alloc | apply pw_below_drewN | apply below_drew1 | refine below_set ?_ GE220.out) | exact HB.out)) hb)
                  clear HO_7
                  clear HO_9
                  clear HO_10
                  clear HO_11
                  clear HO_13
                  clear BK220
                  clear HB
                  have HO_7 := n0_
                  have HO_9 := n1_
                  have HO_10 := n2_
                  have HO_11 := n3_
                  have HO_13 := n4_
                  have BK220 := n5_
                  have HB := n6_
                  clear n0_ n1_ n2_ n3_ n4_ n5_ n6_
                  (try clear hb)
                  (try clear hb2)
                  (try clear hk)
                  (try clear hi)
                  refine hK.out _ _ trivial (fun hHeld => ?_)
                  clear hK K
                  refine norm_ (a' := ?_) ?_ ?_
                  rotate_left
                  ·
                   show Act.put _ (some 150) _ = _
                   simp only [Act.put, List.setIfInBounds_toArray, List.set_cons_zero, List.set_cons_succ, i64_w, i32_w]
                   rfl
                  refine pure_ (i := 18) (N := some 151) (v := ?_) (a' := ?_) #[true, true, true, true, true, true, true, true, true, true, true, true, true, true, true, true, true, true, true, false] rfl rfl (any_of HT_.out (by kernel_rfl)) (fun _ _ _ h => h) (Or.inl ⟨by rfl, ?_⟩) ?_ ?_
                  rotate_left
                  ·
                   intro w'
                   go_simp
                   with_reducible rfl
                  rotate_left
                  ·
                   simp only [Act.put, List.setIfInBounds_toArray, List.set_cons_zero, List.set_cons_succ, i64_w, i32_w]
                   rfl
                  refine pure_ (i := 19) (N := some 6) (v := ?_) (a' := ?_) #[true, true, true, true, true, true, true, true, true, true, true, true, true, true, true, true, true, true, true, true] rfl rfl (any_of HT_.out (by kernel_rfl)) (fun _ _ _ h => h) (Or.inl ⟨by rfl, ?_⟩) ?_ ?_
                  rotate_left
                  ·
                   intro w'
                   go_simp
                   with_reducible rfl
                  rotate_left
                  ·
                   simp only [Act.put, List.setIfInBounds_toArray, List.set_cons_zero, List.set_cons_succ, i64_w, i32_w]
                   rfl
                  refine done_ (done_of HT_.out (by kernel_rfl)) ?_
                  try go_wp2
                  go_ret
                  exact ⟨by first | rfl | (simp [errW_none, errW_some] <;> rfl) | (simp [*, errW_none, errW_some] <;> rfl), by repeat (first | (with_reducible first | exact HB.out | apply below_alloc | apply pw_below_drewN | apply below_drew1 | refine below_set ?_ GE220.out) | exact HB.out)⟩
                 ·
                  rw [if_neg c77] at H
                  have c77b0 : ((t221.length : Int) == 0) = false := beq_eq_false_iff_ne.mpr c77
                  have c77b1 : ((t221.length : Int) != 0) = true := bne_iff_ne.mpr c77
                  have c77b2 : ¬ (t221 = []) := fun h_ => c77 (by rw [h_]; rfl)
                  replace H := Option.bind_eq_some_iff.mp H
                  obtain ⟨t280, A820, H⟩ := H
                  replace H : (if 0 < (t244.length : Int) then (if t280 = (rd t244 0) then ((porticolaw6_RankRuns.f k3).bind fun t282 => (some t282)) else (none)) else (none)) = some r := H
                  have A82 := Aside0.mk A820
                  clear A820
                  by_cases c83 : 0 < (t244.length : Int)
                  ·
                   rw [if_pos c83] at H
                   have c83b0 : decide (0 < (t244.length : Int)) = true := decide_eq_true c83
                   have c83b1 : decide (0 < t244.length) = true := decide_eq_true (by omega)
                   clear c83
                   by_cases c84 : t280 = (rd t244 0)
                   ·
                    rw [if_pos c84] at H
                    have c84b0 : (t280 == (rd t244 0)) = true := beq_iff_eq.mpr c84
                    have c84b1 : (t280 != (rd t244 0)) = false := bne_eq_false_iff_eq.mpr c84
                    clear c84
                    replace H := Option.bind_eq_some_iff.mp H
                    obtain ⟨t282, A850, H⟩ := H
                    replace H : (some t282) = some r := H
                    have A85 := Aside0.mk A850
                    clear A850
                    obtain rfl := Option.some.inj H
                    try go_wp2
                    have n0_ := Aside0.mk (Kd.N_drew HO_7.out)
                    have n1_ := Aside0.mk (Kd.N_drew HO_9.out)
                    have n2_ := Aside0.mk (Kd.R_drew HO_10.out)
                    have n3_ := Aside0.mk (Kd.R_drew HO_11.out)
                    have n4_ := Aside0.mk (Kd.R_drew HO_13.out)
                    have n5_ := Aside0.mk (blk_drew BK220.out)
                    have n6_ := Aside0.mk (below_drew1 HB.out)
                    clear HO_7
                    clear HO_9
                    clear HO_10
                    clear HO_11
                    clear HO_13
                    clear BK220
                    clear HB
                    have HO_7 := n0_
                    have HO_9 := n1_
                    have HO_10 := n2_
                    have HO_11 := n3_
                    have HO_13 := n4_
                    have BK220 := n5_
                    have HB := n6_
                    clear n0_ n1_ n2_ n3_ n4_ n5_ n6_
                    obtain ⟨Ao87, co87, eo87⟩ := Kd.R_slice HO_13.out
                    (first | subst eo87 | (injection eo87 with f1_ f2_ f3_; have f4_ := f1_.symm; have f5_ := f3_.symm; clear f1_ f2_ f3_; subst f4_; subst f5_))
                    have p281 : 0 ≤ (0 : Int) := (by omega)
                    have q281 : 0 < (t244.length : Int) := of_decide_eq_true (by first | (with_reducible assumption) | assumption)
                    obtain ⟨ad281, e281, hx281_0⟩ := Kd.at_int (Kd.R_reads' HO_10.out).2.2 0 p281 q281
                    cases e281
                    have qi281 : (0 < t244.length) = True := eq_true (by omega)
                    (try rw [show ((0 : Int)).toNat = 0 from rfl] at hx281_0)
                    (try rw [Addr.add_zero'] at hx281_0)
                    replace p281 := eq_true p281
                    replace q281 := eq_true q281
                    refine start_ (n := 20) (S := fun w' => w'.cell? ad281 = some (.int .i64 (rd t244 0))) (ds := []) #[false, false, false, false, false, false, false, false, false, false, false, false, false, false, false, false, false, false, false, false] (by kernel_rfl) rfl rfl (hx281_0) (fun hHeld => ?_); refine with_tabW porticolaw6_RankSorted.tab21 porticolaw6_RankSorted.bits21 (fun HT_ HW_ => ?_)
                    generalize wr.drew = w86 at HO_7 HO_9 HO_10 HO_11 HO_13 BK220 HB hx281_0 hHeld ⊢
                    refine pure_ (i := 0) (N := some 133) (v := ?_) (a' := ?_) #[true, false, false, false, false, false, false, false, false, false, false, false, false, false, false, false, false, false, false, false] rfl rfl (any_of HT_.out (by kernel_rfl)) (fun _ _ _ h => h) (Or.inl ⟨by rfl, ?_⟩) ?_ ?_
                    rotate_left
                    ·
                     intro w'
                     go_simp
                     with_reducible rfl
                    rotate_left
                    ·
                     simp only [Act.put, List.setIfInBounds_toArray, List.set_cons_zero, List.set_cons_succ, i64_w, i32_w]
                     rfl
                    refine pure_ (i := 1) (N := some 134) (v := ?_) (a' := ?_) #[true, true, false, false, false, false, false, false, false, false, false, false, false, false, false, false, false, false, false, false] rfl rfl (any_of HT_.out (by kernel_rfl)) (fun _ _ _ h => h) (Or.inl ⟨by rfl, ?_⟩) ?_ ?_
                    rotate_left
                    ·
                     intro w'
                     go_simp
                     with_reducible rfl
                    rotate_left
                    ·
                     simp only [Act.put, List.setIfInBounds_toArray, List.set_cons_zero, List.set_cons_succ, i64_w, i32_w]
                     rfl
                    refine one_ (i := 2) (N := some 135) #[true, true, true, false, false, false, false, false, false, false, false, false, false, false, false, false, false, false, false, false] rfl rfl (one_of HT_.out (by kernel_rfl)) (by decide) (fun K hK => ?_)
                    refine goes_ Try.func16 (by kernel_rfl) rfl #[.slice Ao87 x13_2.length co87, .slice (some ad281) t244.length co57] (by rfl) rfl rfl (by (try simp only [List.map_toArray, List.map_cons, List.map_nil]); first | done | rfl | (simp only [List.length_drop, List.length_take]; rfl)) ?_
                    with_reducible refine (porticobook_Same_int.calls k3 _ _ x13_2 _ _ t244 true _ ?side1 ?side2 ?side3 ?side4 A75.out).mono ?_
                    (case side1 => repeat (first | exact (Kd.R_reads' HO_13.out).2.2 | (with_reducible refine Kd.C_alloc ?_ _) | (with_reducible refine Kd.C_drewN ?_ _) | (with_reducible refine Kd.C_drew ?_)))
                    (case side2 => exact (Kd.R_reads' HO_13.out).2.1)
                    (case side3 => repeat (first | exact (Kd.R_reads' HO_10.out).2.2 | (with_reducible refine Kd.C_alloc ?_ _) | (with_reducible refine Kd.C_drewN ?_ _) | (with_reducible refine Kd.C_drew ?_)))
                    (case side4 => exact (Kd.R_reads' HO_10.out).2.1)
                    rintro e w' ⟨rfl, ⟨nd, rfl⟩⟩
                    refine ⟨_, rfl, ?_⟩
                    refine hK.out _ _ (hHeld) (fun hHeld => ?_)
                    clear hK K
                    refine norm_ (a' := ?_) ?_ ?_
                    rotate_left
                    ·
                     show Act.put _ (some 135) _ = _
                     simp only [Act.put, List.setIfInBounds_toArray, List.set_cons_zero, List.set_cons_succ, i64_w, i32_w]
                     rfl
                    refine pure_ (i := 3) (N := some 136) (v := ?_) (a' := ?_) #[true, true, true, true, false, false, false, false, false, false, false, false, false, false, false, false, false, false, false, false] rfl rfl (any_of HT_.out (by kernel_rfl)) (fun _ _ _ h => h) (Or.inl ⟨by rfl, ?_⟩) ?_ ?_
                    rotate_left
                    ·
                     intro w'
                     go_simp
                     with_reducible rfl
                    rotate_left
                    ·
                     simp only [Act.put, List.setIfInBounds_toArray, List.set_cons_zero, List.set_cons_succ, i64_w, i32_w]
                     rfl
                    refine pure_ (i := 4) (N := some 137) (v := ?_) (a' := ?_) #[true, true, true, true, true, false, false, false, false, false, false, false, false, false, false, false, false, false, false, false] rfl rfl (any_of HT_.out (by kernel_rfl)) (fun _ _ _ h => h) (Or.inl ⟨by rfl, ?_⟩) ?_ ?_
                    rotate_left
                    ·
                     intro w'
                     go_simp
                     with_reducible rfl
                    rotate_left
                    ·
                     simp only [Act.put, List.setIfInBounds_toArray, List.set_cons_zero, List.set_cons_succ, i64_w, i32_w]
                     rfl
                    refine pure_ (i := 5) (N := some 138) (v := ?_) (a' := ?_) #[true, true, true, true, true, true, false, false, false, false, false, false, false, false, false, false, false, false, false, false] rfl rfl (any_of HT_.out (by kernel_rfl)) (fun _ _ _ h => h) (Or.inl ⟨by rfl, ?_⟩) ?_ ?_
                    rotate_left
                    ·
                     intro w'
                     go_simp
                     with_reducible rfl
                    rotate_left
                    ·
                     simp only [Act.put, List.setIfInBounds_toArray, List.set_cons_zero, List.set_cons_succ, i64_w, i32_w]
                     rfl
                    refine pure_ (i := 6) (N := some 139) (v := ?_) (a' := ?_) #[true, true, true, true, true, true, true, false, false, false, false, false, false, false, false, false, false, false, false, false] rfl rfl (any_of HT_.out (by kernel_rfl)) (fun _ _ _ h => h) (Or.inl ⟨by rfl, ?_⟩) ?_ ?_
                    rotate_left
                    ·
                     intro w'
                     go_simp
                     with_reducible rfl
                    rotate_left
                    ·
                     simp only [Act.put, List.setIfInBounds_toArray, List.set_cons_zero, List.set_cons_succ, i64_w, i32_w]
                     rfl
                    refine pure_ (i := 7) (N := some 140) (v := ?_) (a' := ?_) #[true, true, true, true, true, true, true, true, false, false, false, false, false, false, false, false, false, false, false, false] rfl rfl (any_of HT_.out (by kernel_rfl)) (fun _ _ _ h => h) (Or.inl ⟨by rfl, ?_⟩) ?_ ?_
                    rotate_left
                    ·
                     intro w'
                     go_simp
                     with_reducible rfl
                    rotate_left
                    ·
                     simp only [Act.put, List.setIfInBounds_toArray, List.set_cons_zero, List.set_cons_succ, i64_w, i32_w]
                     rfl
                    refine pure_ (i := 8) (N := some 141) (v := ?_) (a' := ?_) #[true, true, true, true, true, true, true, true, true, false, false, false, false, false, false, false, false, false, false, false] rfl rfl (any_of HT_.out (by kernel_rfl)) (fun _ _ _ h => h) (Or.inl ⟨by rfl, ?_⟩) ?_ ?_
                    rotate_left
                    ·
                     intro w'
                     go_simp
                     with_reducible rfl
                    rotate_left
                    ·
                     simp only [Act.put, List.setIfInBounds_toArray, List.set_cons_zero, List.set_cons_succ, i64_w, i32_w]
                     rfl
                    refine pure_ (i := 10) (N := some 143) (v := ?_) (a' := ?_) #[true, true, true, true, true, true, true, true, true, false, true, false, false, false, false, false, false, false, false, false] rfl rfl (any_of HT_.out (by kernel_rfl)) (fun _ _ _ h => h) (Or.inl ⟨by rfl, ?_⟩) ?_ ?_
                    rotate_left
                    ·
                     intro w'
                     go_simp
                     with_reducible rfl
                    rotate_left
                    ·
                     simp only [Act.put, List.setIfInBounds_toArray, List.set_cons_zero, List.set_cons_succ, i64_w, i32_w]
                     rfl
                    refine pure_ (i := 11) (N := some 144) (v := ?_) (a' := ?_) #[true, true, true, true, true, true, true, true, true, false, true, true, false, false, false, false, false, false, false, false] rfl rfl (any_of HT_.out (by kernel_rfl)) (fun _ _ _ h => h) (Or.inl ⟨by rfl, ?_⟩) ?_ ?_
                    rotate_left
                    ·
                     intro w'
                     go_simp
                     with_reducible rfl
                    rotate_left
                    ·
                     simp only [Act.put, List.setIfInBounds_toArray, List.set_cons_zero, List.set_cons_succ, i64_w, i32_w]
                     rfl
                    refine take_ (i := 12) (N := some 145) (v := ?_) (a' := ?_) #[true, true, true, true, true, true, true, true, true, false, true, true, true, false, false, false, false, false, false, false] rfl rfl (take_ofW HT_.out HW_.out (by kernel_rfl)) (fun _ _ _ h => h) (Or.inl ⟨by rfl, ?_⟩) hHeld ?_ ?_
                    rotate_left
                    ·
                     intro w' s0
                     go_simp
                     with_reducible rfl
                    rotate_left
                    ·
                     simp only [Act.put, List.setIfInBounds_toArray, List.set_cons_zero, List.set_cons_succ, i64_w, i32_w]
                     rfl
                    refine one_ (i := 9) (N := some 142) #[true, true, true, true, true, true, true, true, true, true, true, true, true, false, false, false, false, false, false, false] rfl rfl (one_of HT_.out (by kernel_rfl)) (by decide) (fun K hK => ?_)
                    refine goes_ Try.func9 (by kernel_rfl) rfl #[.slice Ao21 t221.length co21] (by rfl) rfl rfl (by (try simp only [List.map_toArray, List.map_cons, List.map_nil]); first | done | rfl | (simp only [List.length_drop, List.length_take]; rfl)) ?_
                    with_reducible refine (rank_First.calls k3 _ _ t221 t280 _ ?side1 ?side2 A82.out).mono ?_
                    (case side1 => repeat (first | exact (Kd.N_reads' HO_7.out).2.2 | (with_reducible refine Kd.C_alloc ?_ _) | (with_reducible refine Kd.C_drewN ?_ _) | (with_reducible refine Kd.C_drew ?_)))
                    (case side2 => exact (Kd.N_reads' HO_7.out).2.1)
                    rintro e w88 ⟨rfl, hb⟩
                    have HS0_ := (hb.cell (World.block_lt_of_cell? _ _ (hHeld))).trans (hHeld)
                    refine ⟨_, rfl, ?_⟩
                    have n0_ := Aside0.mk (Kd.N_below (by (with_reducible repeat (first | apply Kd.N_alloc | apply Kd.N_drewN | apply Kd.N_drew)); exact HO_7.out) hb)
                    have n1_ := Aside0.mk (Kd.N_below (by (with_reducible repeat (first | apply Kd.N_alloc | apply Kd.N_drewN | apply Kd.N_drew)); exact HO_9.out) hb)
                    have n2_ := Aside0.mk (Kd.R_below (by (with_reducible repeat (first | apply Kd.R_alloc | apply Kd.R_drewN | apply Kd.R_drew)); exact HO_10.out) hb)
                    have n3_ := Aside0.mk (Kd.R_below (by (with_reducible repeat (first | apply Kd.R_alloc | apply Kd.R_drewN | apply Kd.R_drew)); exact HO_11.out) hb)
                    have n4_ := Aside0.mk (Kd.R_below (by (with_reducible repeat (first | apply Kd.R_alloc | apply Kd.R_drewN | apply Kd.R_drew)); exact HO_13.out) hb)
                    have n5_ := Aside0.mk (blk_below (g := gb220) (o := .cells #[.slice A2_0 l2_0.length c2_0, .slice A2_1 l2_1.length c2_1, .int .i64 a2_2] 31 (0, 0)) (by (with_reducible repeat (first | refine blk_drewN ?_ _ | refine blk_drew ?_ | refine blk_alloc ?_ _)); exact BK220.out) hb)
                    have n6_ := Aside0.mk (below_step (by repeat (first | (with_reducible first | exact HB.out | apply below_alloc | apply pw_below_drewN | apply below_drew1 | refine below_set ?_ GE220.out) | exact HB.out)) hb)
                    clear HO_7
                    clear HO_9
                    clear HO_10
                    clear HO_11
                    clear HO_13
                    clear BK220
                    clear HB
                    have HO_7 := n0_
                    have HO_9 := n1_
                    have HO_10 := n2_
                    have HO_11 := n3_
                    have HO_13 := n4_
                    have BK220 := n5_
                    have HB := n6_
                    clear n0_ n1_ n2_ n3_ n4_ n5_ n6_
                    (try clear hb)
                    (try clear hb2)
                    (try clear hk)
                    (try clear hi)
                    refine hK.out _ _ (HS0_) (fun hHeld => ?_)
                    clear hK K
                    refine norm_ (a' := ?_) ?_ ?_
                    rotate_left
                    ·
                     show Act.put _ (some 142) _ = _
                     simp only [Act.put, List.setIfInBounds_toArray, List.set_cons_zero, List.set_cons_succ, i64_w, i32_w]
                     rfl
                    refine pure_ (i := 13) (N := some 146) (v := ?_) (a' := ?_) #[true, true, true, true, true, true, true, true, true, true, true, true, true, true, false, false, false, false, false, false] rfl rfl (any_of HT_.out (by kernel_rfl)) (fun _ _ _ h => h) (Or.inl ⟨by rfl, ?_⟩) ?_ ?_
                    rotate_left
                    ·
                     intro w'
                     go_simp
                     with_reducible rfl
                    rotate_left
                    ·
                     simp only [Act.put, List.setIfInBounds_toArray, List.set_cons_zero, List.set_cons_succ, i64_w, i32_w]
                     rfl
                    refine pure_ (i := 14) (N := some 147) (v := ?_) (a' := ?_) #[true, true, true, true, true, true, true, true, true, true, true, true, true, true, true, false, false, false, false, false] rfl rfl (any_of HT_.out (by kernel_rfl)) (fun _ _ _ h => h) (Or.inl ⟨by rfl, ?_⟩) ?_ ?_
                    rotate_left
                    ·
                     intro w'
                     go_simp
                     with_reducible rfl
                    rotate_left
                    ·
                     simp only [Act.put, List.setIfInBounds_toArray, List.set_cons_zero, List.set_cons_succ, i64_w, i32_w]
                     rfl
                    refine pure_ (i := 15) (N := some 148) (v := ?_) (a' := ?_) #[true, true, true, true, true, true, true, true, true, true, true, true, true, true, true, true, false, false, false, false] rfl rfl (any_of HT_.out (by kernel_rfl)) (fun _ _ _ h => h) (Or.inl ⟨by rfl, ?_⟩) ?_ ?_
                    rotate_left
                    ·
                     intro w'
                     go_simp
                     with_reducible rfl
                    rotate_left
                    ·
                     simp only [Act.put, List.setIfInBounds_toArray, List.set_cons_zero, List.set_cons_succ, i64_w, i32_w]
                     rfl
                    refine pure_ (i := 16) (N := some 149) (v := ?_) (a' := ?_) #[true, true, true, true, true, true, true, true, true, true, true, true, true, true, true, true, true, false, false, false] rfl rfl (any_of HT_.out (by kernel_rfl)) (fun _ _ _ h => h) (Or.inl ⟨by rfl, ?_⟩) ?_ ?_
                    rotate_left
                    ·
                     intro w'
                     go_simp
                     with_reducible rfl
                    rotate_left
                    ·
                     simp only [Act.put, List.setIfInBounds_toArray, List.set_cons_zero, List.set_cons_succ, i64_w, i32_w]
                     rfl
                    refine one_ (i := 17) (N := some 150) #[true, true, true, true, true, true, true, true, true, true, true, true, true, true, true, true, true, true, false, false] rfl rfl (one_of HT_.out (by kernel_rfl)) (by decide) (fun K hK => ?_)
                    refine goes_ Try.func3 (by kernel_rfl) rfl #[] (by rfl) rfl rfl (by (try simp only [List.map_toArray, List.map_cons, List.map_nil]); first | done | rfl | (simp only [List.length_drop, List.length_take]; rfl)) ?_
                    with_reducible refine (porticolaw6_RankRuns.calls k3  t282 _ A85.out).mono ?_
                    rintro e w89 ⟨rfl, hb⟩
                    have HS0_ := (hb.cell (World.block_lt_of_cell? _ _ (hHeld))).trans (hHeld)
                    refine ⟨_, rfl, ?_⟩
                    have n0_ := Aside0.mk (Kd.N_below (by (with_reducible repeat (first | apply Kd.N_alloc | apply Kd.N_drewN | apply Kd.N_drew)); exact HO_7.out) hb)
                    have n1_ := Aside0.mk (Kd.N_below (by (with_reducible repeat (first | apply Kd.N_alloc | apply Kd.N_drewN | apply Kd.N_drew)); exact HO_9.out) hb)
                    have n2_ := Aside0.mk (Kd.R_below (by (with_reducible repeat (first | apply Kd.R_alloc | apply Kd.R_drewN | apply Kd.R_drew)); exact HO_10.out) hb)
                    have n3_ := Aside0.mk (Kd.R_below (by (with_reducible repeat (first | apply Kd.R_alloc | apply Kd.R_drewN | apply Kd.R_drew)); exact HO_11.out) hb)
                    have n4_ := Aside0.mk (Kd.R_below (by (with_reducible repeat (first | apply Kd.R_alloc | apply Kd.R_drewN | apply Kd.R_drew)); exact HO_13.out) hb)
                    have n5_ := Aside0.mk (blk_below (g := gb220) (o := .cells #[.slice A2_0 l2_0.length c2_0, .slice A2_1 l2_1.length c2_1, .int .i64 a2_2] 31 (0, 0)) (by (with_reducible repeat (first | refine blk_drewN ?_ _ | refine blk_drew ?_ | refine blk_alloc ?_ _)); exact BK220.out) hb)
                    have n6_ := Aside0.mk (below_step (by repeat (first | (with_reducible first | exact HB.out | apply below_alloc | apply pw_below_drewN | apply below_drew1 | refine below_set ?_ GE220.out) | exact HB.out)) hb)
                    clear HO_7
                    clear HO_9
                    clear HO_10
                    clear HO_11
                    clear HO_13
                    clear BK220
                    clear HB
                    have HO_7 := n0_
                    have HO_9 := n1_
                    have HO_10 := n2_
                    have HO_11 := n3_
                    have HO_13 := n4_
                    have BK220 := n5_
                    have HB := n6_
                    clear n0_ n1_ n2_ n3_ n4_ n5_ n6_
                    (try clear hb)
                    (try clear hb2)
                    (try clear hk)
                    (try clear hi)
                    refine hK.out _ _ (HS0_) (fun hHeld => ?_)
                    clear hK K
                    refine norm_ (a' := ?_) ?_ ?_
                    rotate_left
                    ·
                     show Act.put _ (some 150) _ = _
                     simp only [Act.put, List.setIfInBounds_toArray, List.set_cons_zero, List.set_cons_succ, i64_w, i32_w]
                     rfl
                    refine pure_ (i := 18) (N := some 151) (v := ?_) (a' := ?_) #[true, true, true, true, true, true, true, true, true, true, true, true, true, true, true, true, true, true, true, false] rfl rfl (any_of HT_.out (by kernel_rfl)) (fun _ _ _ h => h) (Or.inl ⟨by rfl, ?_⟩) ?_ ?_
                    rotate_left
                    ·
                     intro w'
                     go_simp
                     with_reducible rfl
                    rotate_left
                    ·
                     simp only [Act.put, List.setIfInBounds_toArray, List.set_cons_zero, List.set_cons_succ, i64_w, i32_w]
                     rfl
                    refine pure_ (i := 19) (N := some 6) (v := ?_) (a' := ?_) #[true, true, true, true, true, true, true, true, true, true, true, true, true, true, true, true, true, true, true, true] rfl rfl (any_of HT_.out (by kernel_rfl)) (fun _ _ _ h => h) (Or.inl ⟨by rfl, ?_⟩) ?_ ?_
                    rotate_left
                    ·
                     intro w'
                     go_simp
                     with_reducible rfl
                    rotate_left
                    ·
                     simp only [Act.put, List.setIfInBounds_toArray, List.set_cons_zero, List.set_cons_succ, i64_w, i32_w]
                     rfl
                    refine done_ (done_of HT_.out (by kernel_rfl)) ?_
                    try go_wp2
                    go_ret
                    exact ⟨by first | rfl | (simp [errW_none, errW_some] <;> rfl) | (simp [*, errW_none, errW_some] <;> rfl), by repeat (first | (with_reducible first | exact HB.out | apply below_alloc | apply pw_below_drewN | apply below_drew1 | refine below_set ?_ GE220.out) | exact HB.out)⟩
                   ·
                    rw [if_neg c84] at H
                    exact absurd H (by simp)
                  ·
                   rw [if_neg c83] at H
                   exact absurd H (by simp)
                ·
                 replace c76 := Bool.eq_false_iff.mpr c76
                 subst c76
                 have H1 : (none) = some r := by rw [if_neg (show ¬ (false = true) by decide)] at H; exact H
                 clear H
                 have H := H1
                 clear H1
                 exact absurd H (by simp)
      ·
       rw [if_neg c16] at H
       exact absurd H (by simp)
     ·
      rw [if_neg c14] at H
      exact absurd H (by simp)
    ·
     rw [if_neg c11] at H
     exact absurd H (by simp)
   ·
    rw [if_neg c8] at H
    exact absurd H (by simp)
  ·
   rw [if_neg c7] at H
   exact absurd H (by simp)
 ·
  rw [if_neg c6] at H
  exact absurd H (by simp)

end Go.Proofs.Ytfllecoenjljpaa.PRankSorted
