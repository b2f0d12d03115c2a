-- Printed by a program of this session's own (wip/tools: a turned copy of the kit's print).
import Derived.Test.YtcaaggfobdfgpaaDoorWalkURLTells
import Derived.Test.YtcaaggfobdfgpaaDoorPURLTellsx0
import Derived.Test.YtcaaggfobdfgpaaDoorPURLTellsx2
import Derived.Test.YtcaaggfobdfgpaaDoorPURLTellsx3
import Derived.Test.YtcaaggfobdfgpaaDoorPURLTellsx4
import Derived.Test.YtcaaggfobdfgpaaDoorPURLTellsx5
import Derived.Test.YtcaaggfobdfgpaaDoorPURLTellsx8
import Derived.Test.YtcaaggfobdfgpaaDoorPURLTellsx10
import Derived.Test.YtcaaggfobdfgpaaDoorPURLTellsx11
namespace Go.Proofs.YtcaaggfobdfgpaaDoor.PURLTells
open Go.Proofs.YtcaaggfobdfgpaaDoor.Given
open Go.RowKit Go.Proofs.YtcaaggfobdfgpaaDoorW.PrintWords Go.Proofs.YtcaaggfobdfgpaaDoorW.PrintLast Go.Proofs.YtcaaggfobdfgpaaDoorW.PrintMore
attribute [local go_sem] max2_int min2_int max_two min_two max_three min_three max_four min_four   -- for this text's walks alone
set_option linter.unusedVariables false
set_option linter.unusedSimpArgs false

/-! ### porticolaw4_URLTells: function 8 -/
def porticolaw4_URLTells.l0 : Nat → ByteArray → Int → Int → ByteArray → Bool → Int → List ByteArray → List (S32) → List ByteArray → List (S32) → List ByteArray → List (S32) → List ByteArray → List (S32) → Option (Bool)
 | 0, _, _, _, _, _, _, _, _, _, _, _, _, _, _ => none
 | k + 1, x3, x10, x12, x13, x14, x15, x302000, x302001, x303000, x303001, x323000, x323001, x331000, x331001 => if x15 ≥ 0 then (if 0 ≤ x15 then (if x15 < (x302001.length : Int) then (if ((rd_T32 x302001 x15).f0).toList = x3.toList then (porticolaw4_URLTells.l0 k x3 x10 x12 ((rd_T32 x302001 x15).f1) true (wrap64 (x15 - 1)) x302000 x302001 x303000 x303001 x323000 x323001 x331000 x331001) else (porticolaw4_URLTells.l0 k x3 x10 x12 x13 x14 (wrap64 (x15 - 1)) x302000 x302001 x303000 x303001 x323000 x323001 x331000 x331001)) else (none)) else (none)) else ((url_Get.f k x302000 x302001 x3).bind fun bt333 => ((url_Right.f k x302000 x302001).bind fun t335 => ((porticoref3_Right.f k x302000 x302001).bind fun t336 => (if (t335 == t336) = true then ((url_Print.f x302000 x302001).bind fun t337 => ((porticoref3_Print.f k x302000 x302001).bind fun t338 => (if t337.toList = t338.toList then ((porticolaw4_equal.f k x323000 x323001 x331000 x331001).bind fun t339 => (if t339 = true then (if x10 = x12 then (if bt333.1.toList = x13.toList then (if (bt333.2 == x14) = true then ((url_Same.f k x302000 x302001 x303000 x303001).bind fun t340 => ((porticolaw4_equal.f k x302000 x302001 x303000 x303001).bind fun t341 => (if (t340 == t341) = true then ((url_Same.f k x302000 x302001 x302000 x302001).bind fun t342 => (if t342 = true then ((porticolaw4_URLRuns.f k).bind fun t343 => (some t343)) else (none))) else (none)))) else (none)) else (none)) else (none)) else (none))) else (none)))) else (none)))))
def porticolaw4_URLTells.f (k : Nat) (l0_0 : List ByteArray) (l0_1 : List (S32)) (l1_0 : List ByteArray) (l1_1 : List (S32)) (a2 : ByteArray) (a3 : ByteArray) : Option (Bool) := (porticolaw4_few.f l0_0 l0_1).bind fun bt303 => ((porticolaw4_few.f l1_0 l1_1).bind fun bt309 => (if 0 ≤ (mn (a2.size : Int) 120) then (if (mn (a2.size : Int) 120) ≤ (a2.size : Int) then ((url_Parse.f k (a2.extract 0 ((mn (a2.size : Int) 120) : Int).toNat)).bind fun bt315 => ((porticoref3_Parse.f k (a2.extract 0 ((mn (a2.size : Int) 120) : Int).toNat)).bind fun bt323 => (porticolaw4_URLTells.l0 k a3 bt315.2.2 bt323.2.2 (⟨#[]⟩ : ByteArray) false (wrap64 ((bt303.2.length : Int) - 1)) bt303.1 bt303.2 bt309.1 bt309.2 bt315.1 bt315.2.1 bt323.1 bt323.2.1))) else (none)) else (none)))
theorem porticolaw4_URLTells.mono_l : ∀ k, (∀ y0 y1 y2 y3 y4 y5 y6 y7 y8 y9 y10 y11 y12 y13, LeO (porticolaw4_URLTells.l0 k y0 y1 y2 y3 y4 y5 y6 y7 y8 y9 y10 y11 y12 y13) (porticolaw4_URLTells.l0 (k + 1) y0 y1 y2 y3 y4 y5 y6 y7 y8 y9 y10 y11 y12 y13))
 | 0 => fun _ _ _ _ _ _ _ _ _ _ _ _ _ _ r h => by simp [porticolaw4_URLTells.l0] at h
 | k + 1 => by
  have ih0 := porticolaw4_URLTells.mono_l k
  ·
   intro y0 y1 y2 y3 y4 y5 y6 y7 y8 y9 y10 y11 y12 y13
   unfold porticolaw4_URLTells.l0
   repeat' first
   | (with_reducible exact ih0 _ _ _ _ _ _ _ _ _ _ _ _ _ _)
   | (with_reducible exact porticolaw4_URLRuns.mono _)
   | (with_reducible exact porticolaw4_equal.mono _ _ _ _ _)
   | (with_reducible exact porticoref3_Parse.mono _ _)
   | (with_reducible exact porticoref3_Print.mono _ _ _)
   | (with_reducible exact porticoref3_Right.mono _ _ _)
   | (with_reducible exact url_Get.mono _ _ _ _)
   | (with_reducible exact url_Parse.mono _ _)
   | (with_reducible exact url_Right.mono _ _ _)
   | (with_reducible exact url_Same.mono _ _ _ _ _)
   | (with_reducible exact LeO.refl _)
   | (with_reducible exact LeO.none _)
   | (with_reducible refine LeO.ite ?_ ?_)
   | (with_reducible refine LeO.bind ?_ (fun _ => ?_))
   | exact ih0 _ _ _ _ _ _ _ _ _ _ _ _ _ _
   | exact porticolaw4_URLRuns.mono _
   | exact porticolaw4_equal.mono _ _ _ _ _
   | exact porticoref3_Parse.mono _ _
   | exact porticoref3_Print.mono _ _ _
   | exact porticoref3_Right.mono _ _ _
   | exact url_Get.mono _ _ _ _
   | exact url_Parse.mono _ _
   | exact url_Right.mono _ _ _
   | exact url_Same.mono _ _ _ _ _
   | exact LeO.none _
   | refine LeO.ite ?_ ?_
   | refine LeO.bind ?_ (fun _ => ?_)
theorem porticolaw4_URLTells.mono : ∀ a0 a1 a2 a3 a4 a5 k, LeO (porticolaw4_URLTells.f k a0 a1 a2 a3 a4 a5) (porticolaw4_URLTells.f (k + 1) a0 a1 a2 a3 a4 a5) := by
 intro a0 a1 a2 a3 a4 a5 k
 have ih0 := porticolaw4_URLTells.mono_l k
 unfold porticolaw4_URLTells.f
 repeat' first
   | (with_reducible exact ih0 _ _ _ _ _ _ _ _ _ _ _ _ _ _)
   | (with_reducible exact porticolaw4_URLRuns.mono _)
   | (with_reducible exact porticolaw4_equal.mono _ _ _ _ _)
   | (with_reducible exact porticoref3_Parse.mono _ _)
   | (with_reducible exact porticoref3_Print.mono _ _ _)
   | (with_reducible exact porticoref3_Right.mono _ _ _)
   | (with_reducible exact url_Get.mono _ _ _ _)
   | (with_reducible exact url_Parse.mono _ _)
   | (with_reducible exact url_Right.mono _ _ _)
   | (with_reducible exact url_Same.mono _ _ _ _ _)
   | (with_reducible exact LeO.refl _)
   | (with_reducible exact LeO.none _)
   | (with_reducible refine LeO.ite ?_ ?_)
   | (with_reducible refine LeO.bind ?_ (fun _ => ?_))
   | exact ih0 _ _ _ _ _ _ _ _ _ _ _ _ _ _
   | exact porticolaw4_URLRuns.mono _
   | exact porticolaw4_equal.mono _ _ _ _ _
   | exact porticoref3_Parse.mono _ _
   | exact porticoref3_Print.mono _ _ _
   | exact porticoref3_Right.mono _ _ _
   | exact url_Get.mono _ _ _ _
   | exact url_Parse.mono _ _
   | exact url_Right.mono _ _ _
   | exact url_Same.mono _ _ _ _ _
   | exact LeO.none _
   | refine LeO.ite ?_ ?_
   | refine LeO.bind ?_ (fun _ => ?_)
def porticolaw4_URLTells.T1 : Bool × List (List Nat × List Nat) := (true, [([], []), ([0], [0]), ([], []), ([2, 1], [2]), ([], []), ([], []), ([5], [5]), ([6], [6]), ([4, 7], [4, 7]), ([1, 3, 0, 1], [1]), ([3, 9, 0, 1, 2, 3, 9], [3]), ([8, 10, 0, 1, 2, 3, 4, 5, 6, 7, 8, 9, 10], [4, 5, 8])])
def porticolaw4_URLTells.B1 : List Nat := [0, 1, 0, 7, 0, 0, 32, 96, 240, 15, 527, 2047]
theorem porticolaw4_URLTells.tab1 : rtab .any (opsOf Tryd.f8 1) = porticolaw4_URLTells.T1 := by kernel_rfl
theorem porticolaw4_URLTells.bits1 : waitsOk porticolaw4_URLTells.T1.2 porticolaw4_URLTells.B1 = true := by kernel_rfl
def porticolaw4_URLTells.T11 : Bool × List (List Nat × List Nat) := (true, [([], []), ([0], [0]), ([], []), ([2, 1], [2]), ([1, 3], [1, 3]), ([4, 3], [4]), ([5], [5]), ([6, 5, 5], [5, 6]), ([5], [5]), ([8, 7, 5], [5, 8]), ([7, 9, 5], [5, 7, 9]), ([5, 10], [5, 10]), ([11, 9], [11]), ([12], [12]), ([12], [12]), ([13, 14, 12, 12], [12, 13, 14]), ([12, 15], [12, 15]), ([16, 15], [16]), ([17], [17]), ([17], [17]), ([18, 19, 17], [17, 18, 19]), ([17, 20], [17, 20]), ([21, 17], [21]), ([22], [22]), ([22], [22]), ([23, 24, 22], [22, 23, 24]), ([22, 25], [22, 25]), ([26, 22], [26]), ([27], [27]), ([27], [27]), ([28, 29, 27], [27, 28, 29]), ([27, 30], [27, 30]), ([31, 27], [31]), ([32], [32]), ([32], [32]), ([33, 34, 32, 32], [32, 33, 34]), ([32], [32]), ([32], [32]), ([36, 37, 35, 32], [32, 36, 37]), ([35, 38, 32], [32, 35, 38]), ([32, 39], [32, 39]), ([40, 38], [40]), ([41], [41]), ([41], [41]), ([42, 43, 41, 41], [41, 42, 43]), ([41, 44], [41, 44]), ([45, 44], [45]), ([46, 46], [46]), ([46, 47], [46, 47]), ([48, 47, 0, 1, 2, 3, 4, 5, 6, 7, 8, 9, 10, 11, 12, 13, 14, 15, 16, 17, 18, 19, 20, 21, 22, 23, 24, 25, 26, 27, 28, 29, 30, 31, 32, 33, 34, 35, 36, 37, 38, 39, 40, 41, 42, 43, 44, 45, 46, 47, 48], [48])])
def porticolaw4_URLTells.B11 : List Nat := [0, 1, 0, 7, 15, 31, 63, 127, 63, 511, 1023, 2047, 4095, 8191, 8191, 32767, 65535, 131071, 262143, 262143, 1048575, 2097151, 4194303, 8388607, 8388607, 33554431, 67108863, 134217727, 268435455, 268435455, 1073741823, 2147483647, 4294967295, 8589934591, 8589934591, 34359738367, 8589934591, 8589934591, 274877906943, 549755813887, 1099511627775, 2199023255551, 4398046511103, 4398046511103, 17592186044415, 35184372088831, 70368744177663, 140737488355327, 281474976710655, 562949953421311]
theorem porticolaw4_URLTells.tab11 : rtab .any (opsOf Tryd.f8 11) = porticolaw4_URLTells.T11 := by kernel_rfl
theorem porticolaw4_URLTells.bits11 : waitsOk porticolaw4_URLTells.T11.2 porticolaw4_URLTells.B11 = true := by kernel_rfl
set_option maxHeartbeats 8000000 in
set_option maxRecDepth 100000 in
theorem porticolaw4_URLTells.calls (k : Nat) (A0_0 : Option Addr) (c0_0 : Nat) (l0_0 : List ByteArray) (A0_1 : Option Addr) (c0_1 : Nat) (l0_1 : List (S32)) (A1_0 : Option Addr) (c1_0 : Nat) (l1_0 : List ByteArray) (A1_1 : Option Addr) (c1_1 : Nat) (l1_1 : List (S32)) (a2 : ByteArray) (a3 : ByteArray) (r : Bool) (w : World) (hr0_0 : Kd.C Kd.string w A0_0 l0_0.length l0_0) (hc0_0 : l0_0.length ≤ c0_0) (hr0_1 : Kd.C k32 w A0_1 l0_1.length l0_1) (hc0_1 : l0_1.length ≤ c0_1) (hr1_0 : Kd.C Kd.string w A1_0 l1_0.length l1_0) (hc1_0 : l1_0.length ≤ c1_0) (hr1_1 : Kd.C k32 w A1_1 l1_1.length l1_1) (hc1_1 : l1_1.length ≤ c1_1) (h : porticolaw4_URLTells.f k l0_0 l0_1 l1_0 l1_1 a2 a3 = some r) :
  Calls Tryd.prog 8 #[.agg #[.slice A0_0 l0_0.length c0_0, .slice A0_1 l0_1.length c0_1], .agg #[.slice A1_0 l1_0.length c1_0, .slice A1_1 l1_1.length c1_1], .string a2, .string a3] w fun e w' => e = .returned (.bool r) ∧ Below w.heap.size w w' := by
 have hu25 := Tryd.underlying25
 have HR0_0 := Aside0.mk hr0_0
 have HC0_0 := Aside0.mk hc0_0
 clear hr0_0 hc0_0
 have HR0_1 := Aside0.mk hr0_1
 have HC0_1 := Aside0.mk hc0_1
 clear hr0_1 hc0_1
 have HR1_0 := Aside0.mk hr1_0
 have HC1_0 := Aside0.mk hc1_0
 clear hr1_0 hc1_0
 have HR1_1 := Aside0.mk hr1_1
 have HC1_1 := Aside0.mk hc1_1
 clear hr1_1 hc1_1
 have HB := Aside0.mk (Below.refl w.heap.size w)
 have H : ((porticolaw4_few.f l0_0 l0_1).bind fun bt303 => ((porticolaw4_few.f l1_0 l1_1).bind fun bt309 => (if 0 ≤ (mn (a2.size : Int) 120) then (if (mn (a2.size : Int) 120) ≤ (a2.size : Int) then ((url_Parse.f k (a2.extract 0 ((mn (a2.size : Int) 120) : Int).toNat)).bind fun bt315 => ((porticoref3_Parse.f k (a2.extract 0 ((mn (a2.size : Int) 120) : Int).toNat)).bind fun bt323 => (porticolaw4_URLTells.l0 k a3 bt315.2.2 bt323.2.2 (⟨#[]⟩ : ByteArray) false (wrap64 ((bt303.2.length : Int) - 1)) bt303.1 bt303.2 bt309.1 bt309.2 bt315.1 bt315.2.1 bt323.1 bt323.2.1))) else (none)) else (none)))) = some r := h
 clear h
 replace H := Option.bind_eq_some_iff.mp H
 obtain ⟨⟨t303, t306⟩, A50, H⟩ := H
 replace H : ((porticolaw4_few.f l1_0 l1_1).bind fun bt309 => (if 0 ≤ (mn (a2.size : Int) 120) then (if (mn (a2.size : Int) 120) ≤ (a2.size : Int) then ((url_Parse.f k (a2.extract 0 ((mn (a2.size : Int) 120) : Int).toNat)).bind fun bt315 => ((porticoref3_Parse.f k (a2.extract 0 ((mn (a2.size : Int) 120) : Int).toNat)).bind fun bt323 => (porticolaw4_URLTells.l0 k a3 bt315.2.2 bt323.2.2 (⟨#[]⟩ : ByteArray) false (wrap64 ((t306.length : Int) - 1)) t303 t306 bt309.1 bt309.2 bt315.1 bt315.2.1 bt323.1 bt323.2.1))) else (none)) else (none))) = some r := H
 have A5 := Aside0.mk A50
 clear A50
 replace H := Option.bind_eq_some_iff.mp H
 obtain ⟨⟨t309, t312⟩, A60, H⟩ := H
 replace H : (if 0 ≤ (mn (a2.size : Int) 120) then (if (mn (a2.size : Int) 120) ≤ (a2.size : Int) then ((url_Parse.f k (a2.extract 0 ((mn (a2.size : Int) 120) : Int).toNat)).bind fun bt315 => ((porticoref3_Parse.f k (a2.extract 0 ((mn (a2.size : Int) 120) : Int).toNat)).bind fun bt323 => (porticolaw4_URLTells.l0 k a3 bt315.2.2 bt323.2.2 (⟨#[]⟩ : ByteArray) false (wrap64 ((t306.length : Int) - 1)) t303 t306 t309 t312 bt315.1 bt315.2.1 bt323.1 bt323.2.1))) else (none)) else (none)) = some r := H
 have A6 := Aside0.mk A60
 clear A60
 obtain ⟨ji7, hji7⟩ : ∃ j_ : Int, (mn (a2.size : Int) 120) = j_ := ⟨_, rfl⟩
 replace H : (if 0 ≤ (ji7) then (if (ji7) ≤ (a2.size : Int) then ((url_Parse.f k (a2.extract 0 ((ji7) : Int).toNat)).bind fun bt315 => ((porticoref3_Parse.f k (a2.extract 0 ((ji7) : Int).toNat)).bind fun bt323 => (porticolaw4_URLTells.l0 k a3 bt315.2.2 bt323.2.2 (⟨#[]⟩ : ByteArray) false (wrap64 ((t306.length : Int) - 1)) t303 t306 t309 t312 bt315.1 bt315.2.1 bt323.1 bt323.2.1))) else (none)) else (none)) = some r := by first | (rw [hji7] at H; exact H) | (simp only [hji7] at H ⊢; exact H)
 (try rw [hji7] at A5)
 (try rw [hji7] at A6)
 (try (have hji7h : ji7 ≤ 120 := by (rw [← hji7]; unfold mn; (repeat' split) <;> omega)))
 (try (have hji7g : ji7 ≤ 64 := by omega))
 (try (have hji7l : 0 ≤ ji7 := by (rw [← hji7]; unfold mn; (repeat' split) <;> omega)))
 (try (have hji7m : 0 ≤ ji7 := by omega))
 (try (have hji7na : ji7 ≤ (a2.size : Int) := by (rw [← hji7]; unfold mn; (repeat' split) <;> omega)))
 have hji7_ : (if 120 < (a2.size : Int) then 120 else (a2.size : Int)) = ji7 := hji7
 by_cases c8 : 0 ≤ (ji7)
 ·
  rw [if_pos c8] at H
  have c8b0 := eq_true c8
  have c8b1 : decide (0 ≤ (ji7)) = true := decide_eq_true c8
  clear c8
  by_cases c9 : (ji7) ≤ (a2.size : Int)
  ·
   rw [if_pos c9] at H
   have c9b0 := eq_true c9
   have c9b1 : decide ((ji7) ≤ (a2.size : Int)) = true := decide_eq_true c9
   clear c9
   replace H := Option.bind_eq_some_iff.mp H
   obtain ⟨⟨t315, t318, t321⟩, A100, H⟩ := H
   replace H : ((porticoref3_Parse.f k (a2.extract 0 ((ji7) : Int).toNat)).bind fun bt323 => (porticolaw4_URLTells.l0 k a3 t321 bt323.2.2 (⟨#[]⟩ : ByteArray) false (wrap64 ((t306.length : Int) - 1)) t303 t306 t309 t312 t315 t318 bt323.1 bt323.2.1)) = some r := H
   have A10 := Aside0.mk A100
   clear A100
   replace H := Option.bind_eq_some_iff.mp H
   obtain ⟨⟨t323, t326, t329⟩, A110, H⟩ := H
   replace H : (porticolaw4_URLTells.l0 k a3 t321 t329 (⟨#[]⟩ : ByteArray) false (wrap64 ((t306.length : Int) - 1)) t303 t306 t309 t312 t315 t318 t323 t326) = some r := H
   have A11 := Aside0.mk A110
   clear A110
   have H' := Aside0.mk H
   clear H
   go_enter Tryd.func8, Tryd.ntmps8
   try go_wp2_with (first | ((with_reducible refine gate_dst (N := 4) rfl ?_); refine box_event ?hg (N := 4) ?hd (cs := #[.slice A0_0 l0_0.length c0_0, .slice A0_1 l0_1.length c0_1]) (t := 25) ?hr ?_; (case hd => rfl); (case hg => rfl); (case hr => first | (go_simp; done) | (go_simp; rfl)); intro gb301 hg w12 hbox hb; have n0_ := Aside0.mk (below_step (by repeat (first | (with_reducible first | exact HB.out | apply below_alloc | apply pw_below_drewN | apply below_drew1) | exact HB.out)) hb); have n1_ := Aside0.mk (hbox); have n2_ := Aside0.mk ((by rw [hg]; exact (below_size (by repeat (first | (with_reducible first | exact HB.out | apply below_alloc | apply pw_below_drewN | apply below_drew1) | exact HB.out))) : w.heap.size ≤ gb301)); have n3_ := Aside0.mk ((by rw [hg]; exact (below_size (by repeat (first | (with_reducible first | exact HB.out | apply below_alloc | apply pw_below_drewN | apply below_drew1) | exact HB.out))) : w.heap.size ≤ gb301)); clear HB; have HB := n0_; have BK301 := n1_; have GW301 := n2_; have GE301 := n3_; clear n0_ n1_ n2_ n3_; clear hb hbox hg) | ((with_reducible refine gate_dst (N := 5) rfl ?_); refine box_event ?hg (N := 5) ?hd (cs := #[.slice A1_0 l1_0.length c1_0, .slice A1_1 l1_1.length c1_1]) (t := 25) ?hr ?_; (case hd => rfl); (case hg => rfl); (case hr => first | (go_simp; done) | (go_simp; rfl)); intro gb302 hg w13 hbox hb; have n0_ := Aside0.mk (blk_below (g := gb301) (o := .cells #[.slice A0_0 l0_0.length c0_0, .slice A0_1 l0_1.length c0_1] 25 (0, 0)) (by (with_reducible repeat (first | refine blk_drewN ?_ _ | refine blk_drew ?_ | refine blk_alloc ?_ _)); exact BK301.out) hb); have n1_ := Aside0.mk (below_step (by repeat (first | (with_reducible first | exact HB.out | apply below_alloc | apply pw_below_drewN | apply below_drew1 | refine below_set ?_ GE301.out) | exact HB.out)) hb); have n2_ := Aside0.mk (hbox); have n3_ := Aside0.mk ((by rw [hg]; exact (below_size (by repeat (first | (with_reducible first | exact HB.out | apply below_alloc | apply pw_below_drewN | apply below_drew1 | refine below_set ?_ GE301.out) | exact HB.out))) : w.heap.size ≤ gb302)); have n4_ := Aside0.mk ((by rw [hg]; exact (below_size (by repeat (first | (with_reducible first | exact HB.out | apply below_alloc | apply pw_below_drewN | apply below_drew1 | refine below_set ?_ GE301.out) | exact HB.out))) : w.heap.size ≤ gb302)); have n5_ := Aside0.mk ((by rw [hg]; exact Nat.ne_of_lt (blk_lt (g := gb301) (o := .cells #[.slice A0_0 l0_0.length c0_0, .slice A0_1 l0_1.length c0_1] 25 (0, 0)) (by (with_reducible repeat (first | refine blk_drewN ?_ _ | refine blk_drew ?_ | refine blk_alloc ?_ _)); exact BK301.out)) : gb301 ≠ gb302)); have n6_ := Aside0.mk ((by rw [hg]; exact Nat.ne_of_gt (blk_lt (g := gb301) (o := .cells #[.slice A0_0 l0_0.length c0_0, .slice A0_1 l0_1.length c0_1] 25 (0, 0)) (by (with_reducible repeat (first | refine blk_drewN ?_ _ | refine blk_drew ?_ | refine blk_alloc ?_ _)); exact BK301.out)) : gb302 ≠ gb301)); clear BK301; clear HB; have BK301 := n0_; have HB := n1_; have BK302 := n2_; have GW302 := n3_; have GE302 := n4_; have NB301_302 := n5_; have NB302_301 := n6_; clear n0_ n1_ n2_ n3_ n4_ n5_ n6_; clear hb hbox hg))
   have n0_ := Aside0.mk (blk_drew BK301.out)
   have n1_ := Aside0.mk (blk_drew BK302.out)
   have n2_ := Aside0.mk (below_drew1 HB.out)
   clear BK301
   clear BK302
   clear HB
   have BK301 := n0_
   have BK302 := n1_
   have HB := n2_
   clear n0_ n1_ n2_
   refine start_ (n := 12) (S := fun w' => w'.cell? ⟨gb301, 0, none⟩ = some (.slice A0_0 l0_0.length c0_0) ∧ w'.cell? ⟨gb301, 1, none⟩ = some (.slice A0_1 l0_1.length c0_1) ∧ w'.cell? ⟨gb302, 0, none⟩ = some (.slice A1_0 l1_0.length c1_0) ∧ w'.cell? ⟨gb302, 1, none⟩ = some (.slice A1_1 l1_1.length c1_1)) (ds := [9, 10]) #[false, false, false, false, false, false, false, false, false, false, false, false] (by kernel_rfl) rfl rfl ⟨(blk_cell BK301.out 0).trans rfl, (blk_cell BK301.out 1).trans rfl, (blk_cell BK302.out 0).trans rfl, (blk_cell BK302.out 1).trans rfl⟩ (fun hHeld => ?_); refine with_tabW porticolaw4_URLTells.tab1 porticolaw4_URLTells.bits1 (fun HT_ HW_ => ?_)
   generalize w13.drew = w14 at BK301 BK302 HB hHeld ⊢
   refine pure_ (i := 4) (N := some 22) (v := ?_) (a' := ?_) #[false, false, false, false, true, false, false, false, false, false, false, false] rfl rfl (any_of HT_.out (by kernel_rfl)) (fun _ _ _ h => h) (Or.inl ⟨by rfl, ?_⟩) ?_ ?_
   rotate_left
   ·
    intro w'
    go_simp
    with_reducible rfl
   rotate_left
   ·
    simp only [Act.put, List.setIfInBounds_toArray, List.set_cons_zero, List.set_cons_succ, i64_w, i32_w]
    rfl
   refine pure_ (i := 5) (N := some 23) (v := ?_) (a' := ?_) #[false, false, false, false, true, true, false, false, false, false, false, false] rfl rfl (any_of HT_.out (by kernel_rfl)) (fun _ _ _ h => h) (Or.inl ⟨by rfl, ?_⟩) ?_ ?_
   rotate_left
   ·
    intro w'
    go_simp
    with_reducible rfl
   rotate_left
   ·
    simp only [Act.put, List.setIfInBounds_toArray, List.set_cons_zero, List.set_cons_succ, i64_w, i32_w]
    rfl
   refine pure_ (i := 6) (N := some 24) (v := ?_) (a' := ?_) #[false, false, false, false, true, true, true, false, false, false, false, false] rfl rfl (any_of HT_.out (by kernel_rfl)) (fun _ _ _ h => h) (Or.inl ⟨by rfl, ?_⟩) ?_ ?_
   rotate_left
   ·
    intro w'
    go_simp
    with_reducible rfl
   rotate_left
   ·
    simp only [Act.put, List.setIfInBounds_toArray, List.set_cons_zero, List.set_cons_succ, i64_w, i32_w]
    rfl
   refine pure_ (i := 7) (N := some 25) (v := ?_) (a' := ?_) #[false, false, false, false, true, true, true, true, false, false, false, false] rfl rfl (any_of HT_.out (by kernel_rfl)) (fun _ _ _ h => h) (Or.inl ⟨by rfl, ?_⟩) ?_ ?_
   rotate_left
   ·
    intro w'
    go_simp
    with_reducible rfl
   rotate_left
   ·
    simp only [Act.put, List.setIfInBounds_toArray, List.set_cons_zero, List.set_cons_succ, i64_w, i32_w]
    rfl
   refine pure_ (i := 8) (N := some 26) (v := ?_) (a' := ?_) #[false, false, false, false, true, true, true, true, true, false, false, false] rfl rfl (any_of HT_.out (by kernel_rfl)) (fun _ _ _ h => h) (Or.inl ⟨by rfl, ?_⟩) ?_ ?_
   rotate_left
   ·
    intro w'
    go_simp
    with_reducible rfl
   rotate_left
   ·
    simp only [Act.put, List.setIfInBounds_toArray, List.set_cons_zero, List.set_cons_succ, i64_w, i32_w]
    rfl
   refine take_ (i := 0) (N := some 18) (v := ?_) (a' := ?_) #[true, false, false, false, true, true, true, true, true, false, false, false] rfl rfl (take_ofW HT_.out HW_.out (by kernel_rfl)) (fun _ _ _ h => h) (Or.inl ⟨by rfl, ?_⟩) hHeld ?_ ?_
   rotate_left
   ·
    rintro w' ⟨s0, s1, s2, s3⟩
    go_simp
    with_reducible rfl
   rotate_left
   ·
    simp only [Act.put, List.setIfInBounds_toArray, List.set_cons_zero, List.set_cons_succ, i64_w, i32_w]
    rfl
   refine take_ (i := 2) (N := some 20) (v := ?_) (a' := ?_) #[true, false, true, false, true, true, true, true, true, false, false, false] rfl rfl (take_ofW HT_.out HW_.out (by kernel_rfl)) (fun _ _ _ h => h) (Or.inl ⟨by rfl, ?_⟩) hHeld ?_ ?_
   rotate_left
   ·
    rintro w' ⟨s0, s1, s2, s3⟩
    go_simp
    with_reducible rfl
   rotate_left
   ·
    simp only [Act.put, List.setIfInBounds_toArray, List.set_cons_zero, List.set_cons_succ, i64_w, i32_w]
    rfl
   refine one_ (i := 1) (N := some 19) #[true, true, true, false, true, true, true, true, true, false, false, false] rfl rfl (one_of HT_.out (by kernel_rfl)) (by decide) (fun K hK => ?_)
   refine goes_ Tryd.func13 (by kernel_rfl) rfl #[.agg #[.slice A0_0 l0_0.length c0_0, .slice A0_1 l0_1.length c0_1]] (by rfl) rfl rfl (by (try simp only [List.map_toArray, List.map_cons, List.map_nil]); first | done | rfl | (simp only [List.length_drop, List.length_take]; rfl)) ?_
   with_reducible refine (porticolaw4_few.calls _ _ l0_0 _ _ l0_1 t303 t306 _ ?side1 ?side2 ?side3 ?side4 A5.out).mono ?_
   (case side1 => repeat (first | exact (Kd.C_below HR0_0.out HB.out) | (with_reducible refine Kd.C_alloc ?_ _) | (with_reducible refine Kd.C_drewN ?_ _) | (with_reducible refine Kd.C_drew ?_)))
   (case side2 => exact HC0_0.out)
   (case side3 => repeat (first | exact (Kd.C_below HR0_1.out HB.out) | (with_reducible refine Kd.C_alloc ?_ _) | (with_reducible refine Kd.C_drewN ?_ _) | (with_reducible refine Kd.C_drew ?_)))
   (case side4 => exact HC0_1.out)
   rintro e w15 ⟨v304, v307, rfl, ho0, ho1, hb⟩
   refine ⟨_, rfl, ?_⟩
   have n0_ := Aside0.mk (Kd.R_lower ho0 (below_size (by repeat (first | (with_reducible first | exact HB.out | apply below_alloc | apply pw_below_drewN | apply below_drew1 | refine below_set ?_ GE301.out | refine below_set ?_ GE302.out) | exact HB.out))))
   have n1_ := Aside0.mk (Kd.R_lower ho1 (below_size (by repeat (first | (with_reducible first | exact HB.out | apply below_alloc | apply pw_below_drewN | apply below_drew1 | refine below_set ?_ GE301.out | refine below_set ?_ GE302.out) | exact HB.out))))
   have n2_ := Aside0.mk (blk_below (g := gb301) (o := .cells #[.slice A0_0 l0_0.length c0_0, .slice A0_1 l0_1.length c0_1] 25 (0, 0)) (by (with_reducible repeat (first | refine blk_drewN ?_ _ | refine blk_drew ?_ | refine blk_alloc ?_ _)); exact BK301.out) hb)
   have n3_ := Aside0.mk (blk_below (g := gb302) (o := .cells #[.slice A1_0 l1_0.length c1_0, .slice A1_1 l1_1.length c1_1] 25 (0, 0)) (by (with_reducible repeat (first | refine blk_drewN ?_ _ | refine blk_drew ?_ | refine blk_alloc ?_ _)); exact BK302.out) hb)
   have n4_ := Aside0.mk (below_step (by repeat (first | (with_reducible first | exact HB.out | apply below_alloc | apply pw_below_drewN | apply below_drew1 | refine below_set ?_ GE301.out | refine below_set ?_ GE302.out) | exact HB.out)) hb)
   clear BK301
   clear BK302
   clear HB
   have HO305 := n0_
   have HO308 := n1_
   have BK301 := n2_
   have BK302 := n3_
   have HB := n4_
   clear n0_ n1_ n2_ n3_ n4_
   (try clear hb)
   (try clear hb2)
   (try clear hk)
   (try clear hi)
   (try clear ho0)
   (try clear ho1)
   refine hK.out _ _ ⟨(blk_cell BK301.out 0).trans rfl, (blk_cell BK301.out 1).trans rfl, (blk_cell BK302.out 0).trans rfl, (blk_cell BK302.out 1).trans rfl⟩ (fun hHeld => ?_)
   clear hK K
   refine norm_ (a' := ?_) ?_ ?_
   rotate_left
   ·
    show Act.put _ (some 19) _ = _
    simp only [Act.put, List.setIfInBounds_toArray, List.set_cons_zero, List.set_cons_succ, i64_w, i32_w]
    rfl
   refine one_ (i := 3) (N := some 21) #[true, true, true, true, true, true, true, true, true, false, false, false] rfl rfl (one_of HT_.out (by kernel_rfl)) (by decide) (fun K hK => ?_)
   refine goes_ Tryd.func13 (by kernel_rfl) rfl #[.agg #[.slice A1_0 l1_0.length c1_0, .slice A1_1 l1_1.length c1_1]] (by rfl) rfl rfl (by (try simp only [List.map_toArray, List.map_cons, List.map_nil]); first | done | rfl | (simp only [List.length_drop, List.length_take]; rfl)) ?_
   with_reducible refine (porticolaw4_few.calls _ _ l1_0 _ _ l1_1 t309 t312 _ ?side1 ?side2 ?side3 ?side4 A6.out).mono ?_
   (case side1 => repeat (first | exact (Kd.C_below HR1_0.out HB.out) | (with_reducible refine Kd.C_alloc ?_ _) | (with_reducible refine Kd.C_drewN ?_ _) | (with_reducible refine Kd.C_drew ?_)))
   (case side2 => exact HC1_0.out)
   (case side3 => repeat (first | exact (Kd.C_below HR1_1.out HB.out) | (with_reducible refine Kd.C_alloc ?_ _) | (with_reducible refine Kd.C_drewN ?_ _) | (with_reducible refine Kd.C_drew ?_)))
   (case side4 => exact HC1_1.out)
   rintro e w16 ⟨v310, v313, rfl, ho0, ho1, hb⟩
   refine ⟨_, rfl, ?_⟩
   have n0_ := Aside0.mk (Kd.R_elder' (by (with_reducible repeat (first | apply Kd.R_alloc | apply Kd.R_drewN | apply Kd.R_drew)); exact HO305.out) (Kd.R_base ho0) hb)
   have n1_ := Aside0.mk (Kd.R_elder' (by (with_reducible repeat (first | apply Kd.R_alloc | apply Kd.R_drewN | apply Kd.R_drew)); exact HO308.out) (Kd.R_base ho1) hb)
   have n2_ := Aside0.mk (Kd.R_lower (Kd.R_new' ho0 (Kd.R_lt (by (with_reducible repeat (first | apply Kd.R_alloc | apply Kd.R_drewN | apply Kd.R_drew)); exact HO305.out))) (below_size (by repeat (first | (with_reducible first | exact HB.out | apply below_alloc | apply pw_below_drewN | apply below_drew1 | refine below_set ?_ GE301.out | refine below_set ?_ GE302.out) | exact HB.out))))
   have n3_ := Aside0.mk (Kd.R_lower (Kd.R_new' ho1 (Kd.R_lt (by (with_reducible repeat (first | apply Kd.R_alloc | apply Kd.R_drewN | apply Kd.R_drew)); exact HO308.out))) (below_size (by repeat (first | (with_reducible first | exact HB.out | apply below_alloc | apply pw_below_drewN | apply below_drew1 | refine below_set ?_ GE301.out | refine below_set ?_ GE302.out) | exact HB.out))))
   have n4_ := Aside0.mk (blk_below (g := gb301) (o := .cells #[.slice A0_0 l0_0.length c0_0, .slice A0_1 l0_1.length c0_1] 25 (0, 0)) (by (with_reducible repeat (first | refine blk_drewN ?_ _ | refine blk_drew ?_ | refine blk_alloc ?_ _)); exact BK301.out) hb)
   have n5_ := Aside0.mk (blk_below (g := gb302) (o := .cells #[.slice A1_0 l1_0.length c1_0, .slice A1_1 l1_1.length c1_1] 25 (0, 0)) (by (with_reducible repeat (first | refine blk_drewN ?_ _ | refine blk_drew ?_ | refine blk_alloc ?_ _)); exact BK302.out) hb)
   have n6_ := Aside0.mk (below_step (by repeat (first | (with_reducible first | exact HB.out | apply below_alloc | apply pw_below_drewN | apply below_drew1 | refine below_set ?_ GE301.out | refine below_set ?_ GE302.out) | exact HB.out)) hb)
   clear HO305
   clear HO308
   clear BK301
   clear BK302
   clear HB
   have HO305 := n0_
   have HO308 := n1_
   have HO311 := n2_
   have HO314 := n3_
   have BK301 := n4_
   have BK302 := n5_
   have HB := n6_
   clear n0_ n1_ n2_ n3_ n4_ n5_ n6_
   (try clear hb)
   (try clear hb2)
   (try clear hk)
   (try clear hi)
   (try clear ho0)
   (try clear ho1)
   obtain ⟨Ao17, co17, eo17⟩ := Kd.R_slice HO305.out
   (first | subst eo17 | (injection eo17 with f1_ f2_ f3_; have f4_ := f1_.symm; have f5_ := f3_.symm; clear f1_ f2_ f3_; subst f4_; subst f5_))
   obtain ⟨Ao19, co19, eo19⟩ := Kd.R_slice HO308.out
   (first | subst eo19 | (injection eo19 with f1_ f2_ f3_; have f4_ := f1_.symm; have f5_ := f3_.symm; clear f1_ f2_ f3_; subst f4_; subst f5_))
   obtain ⟨Ao21, co21, eo21⟩ := Kd.R_slice HO311.out
   (first | subst eo21 | (injection eo21 with f1_ f2_ f3_; have f4_ := f1_.symm; have f5_ := f3_.symm; clear f1_ f2_ f3_; subst f4_; subst f5_))
   obtain ⟨Ao23, co23, eo23⟩ := Kd.R_slice HO314.out
   (first | subst eo23 | (injection eo23 with f1_ f2_ f3_; have f4_ := f1_.symm; have f5_ := f3_.symm; clear f1_ f2_ f3_; subst f4_; subst f5_))
   refine hK.out _ _ ⟨(blk_cell BK301.out 0).trans rfl, (blk_cell BK301.out 1).trans rfl, (blk_cell BK302.out 0).trans rfl, (blk_cell BK302.out 1).trans rfl⟩ (fun hHeld => ?_)
   clear hK K
   refine norm_ (a' := ?_) ?_ ?_
   rotate_left
   ·
    show Act.put _ (some 21) _ = _
    simp only [Act.put, List.setIfInBounds_toArray, List.set_cons_zero, List.set_cons_succ, i64_w, i32_w]
    rfl
   refine last_ (i := 9) (N := none) #[true, true, true, true, true, true, true, true, true, true, false, false] rfl rfl (one_of HT_.out (by kernel_rfl)) (by decide) (fun K hK => ?_)
   have hs18 : w16.cell? ⟨gb301, 0, none⟩ = some (.slice A0_0 l0_0.length c0_0) := (blk_cell BK301.out 0).trans rfl
   have hfs18 := blk_frozen BK301.out 0
   have hns18_1 := NB302_301.out
   have hms18_1 := NB301_302.out
   have hs20 : w16.cell? ⟨gb301, 1, none⟩ = some (.slice A0_1 l0_1.length c0_1) := (blk_cell BK301.out 1).trans rfl
   have hfs20 := blk_frozen BK301.out 1
   have hns20_1 := NB302_301.out
   have hms20_1 := NB301_302.out
   refine skip_ (w1 := ?_) (by rfl) rfl ?_ ?_
   rotate_left
   ·
    go_simp
    rfl
   refine hK.out _ _ ?_
   clear hK K
   refine last_ (i := 10) (N := none) #[true, true, true, true, true, true, true, true, true, true, true, false] rfl rfl (one_of HT_.out (by kernel_rfl)) (by decide) (fun K hK => ?_)
   have hs22 : w16.cell? ⟨gb302, 0, none⟩ = some (.slice A1_0 l1_0.length c1_0) := (blk_cell BK302.out 0).trans rfl
   have hfs22 := blk_frozen BK302.out 0
   have hns22_0 := NB301_302.out
   have hms22_0 := NB302_301.out
   have hs24 : w16.cell? ⟨gb302, 1, none⟩ = some (.slice A1_1 l1_1.length c1_1) := (blk_cell BK302.out 1).trans rfl
   have hfs24 := blk_frozen BK302.out 1
   have hns24_0 := NB301_302.out
   have hms24_0 := NB302_301.out
   refine skip_ (w1 := ?_) (by rfl) rfl ?_ ?_
   rotate_left
   ·
    go_simp
    rfl
   refine hK.out _ _ ?_
   clear hK K
   refine pure_ (i := 11) (N := some 2) (v := ?_) (a' := ?_) #[true, true, true, true, true, true, true, true, true, true, true, true] rfl rfl (any_of HT_.out (by kernel_rfl)) (fun _ _ _ h => h) (Or.inl ⟨by rfl, ?_⟩) ?_ ?_
   rotate_left
   ·
    intro w'
    go_simp
    with_reducible rfl
   rotate_left
   ·
    simp only [Act.put, List.setIfInBounds_toArray, List.set_cons_zero, List.set_cons_succ, i64_w, i32_w]
    rfl
   refine done_ (done_of HT_.out (by kernel_rfl)) ?_
   try go_wp2_with (first | ((with_reducible refine gate_callee (f := 9) rfl ?_); refine goesL_ (some 29) rfl rfl Tryd.func9 (by kernel_rfl) rfl #[.string (a2.extract 0 ((ji7) : Int).toNat)] rfl (by (try simp only [List.map_toArray, List.map_cons, List.map_nil]); first | done | (simp only [hji7]; rfl) | rfl | (simp only [List.length_drop, List.length_take]; rfl)) ?_; (with_reducible refine (url_Parse.calls k (a2.extract 0 ((ji7) : Int).toNat) t315 t318 t321 _ A10.out).mono ?_); rintro e w25 ⟨v316, v319, rfl, ho0, ho1, hb⟩; refine ⟨_, rfl, ?_⟩; have n0_ := Aside0.mk (Kd.R_elder' (by (with_reducible repeat (first | apply Kd.R_alloc | apply Kd.R_drewN | apply Kd.R_drew)); exact (Kd.R_mono (Kd.R_mono (Kd.R_far (p := ⟨gb302, 1, none⟩) (Kd.R_far (p := ⟨gb302, 0, none⟩) (Kd.R_far (p := ⟨gb301, 1, none⟩) (Kd.R_far (p := ⟨gb301, 0, none⟩) (Kd.R_types (Kd.R_types HO305.out BK301.out (by decide)) BK302.out (by decide)) (fun _ hk => hk.1.2) (.slice Ao17 t303.length co17)) (fun _ hk => hk.1.2) (.slice Ao19 t306.length co19)) (fun _ hk => hk.2) (.slice Ao21 t309.length co21)) (fun _ hk => hk.2) (.slice Ao23 t312.length co23)) (fun _ h_ => h_.1)) (fun _ h_ => h_.1))) (Kd.R_base ho0) hb); have n1_ := Aside0.mk (Kd.R_elder' (by (with_reducible repeat (first | apply Kd.R_alloc | apply Kd.R_drewN | apply Kd.R_drew)); exact (Kd.R_mono (Kd.R_mono (Kd.R_far (p := ⟨gb302, 1, none⟩) (Kd.R_far (p := ⟨gb302, 0, none⟩) (Kd.R_far (p := ⟨gb301, 1, none⟩) (Kd.R_far (p := ⟨gb301, 0, none⟩) (Kd.R_types (Kd.R_types HO308.out BK301.out (by decide)) BK302.out (by decide)) (fun _ hk => hk.1.2) (.slice Ao17 t303.length co17)) (fun _ hk => hk.1.2) (.slice Ao19 t306.length co19)) (fun _ hk => hk.2) (.slice Ao21 t309.length co21)) (fun _ hk => hk.2) (.slice Ao23 t312.length co23)) (fun _ h_ => h_.1)) (fun _ h_ => h_.1))) (Kd.R_base ho1) hb); have n2_ := Aside0.mk (Kd.R_elder' (by (with_reducible repeat (first | apply Kd.R_alloc | apply Kd.R_drewN | apply Kd.R_drew)); exact (Kd.R_mono (Kd.R_mono (Kd.R_far (p := ⟨gb302, 1, none⟩) (Kd.R_far (p := ⟨gb302, 0, none⟩) (Kd.R_far (p := ⟨gb301, 1, none⟩) (Kd.R_far (p := ⟨gb301, 0, none⟩) (Kd.R_types (Kd.R_types HO311.out BK301.out (by decide)) BK302.out (by decide)) (fun _ hk => hk.1.2) (.slice Ao17 t303.length co17)) (fun _ hk => hk.1.2) (.slice Ao19 t306.length co19)) (fun _ hk => hk.2) (.slice Ao21 t309.length co21)) (fun _ hk => hk.2) (.slice Ao23 t312.length co23)) (fun _ h_ => h_.1)) (fun _ h_ => h_.1))) (Kd.R_base ho0) hb); have n3_ := Aside0.mk (Kd.R_elder' (by (with_reducible repeat (first | apply Kd.R_alloc | apply Kd.R_drewN | apply Kd.R_drew)); exact (Kd.R_mono (Kd.R_mono (Kd.R_far (p := ⟨gb302, 1, none⟩) (Kd.R_far (p := ⟨gb302, 0, none⟩) (Kd.R_far (p := ⟨gb301, 1, none⟩) (Kd.R_far (p := ⟨gb301, 0, none⟩) (Kd.R_types (Kd.R_types HO314.out BK301.out (by decide)) BK302.out (by decide)) (fun _ hk => hk.1.2) (.slice Ao17 t303.length co17)) (fun _ hk => hk.1.2) (.slice Ao19 t306.length co19)) (fun _ hk => hk.2) (.slice Ao21 t309.length co21)) (fun _ hk => hk.2) (.slice Ao23 t312.length co23)) (fun _ h_ => h_.1)) (fun _ h_ => h_.1))) (Kd.R_base ho1) hb); have n4_ := Aside0.mk (Kd.R_lower (Kd.R_new' (Kd.R_new' ho0 (Kd.R_lt (by (with_reducible repeat (first | apply Kd.R_alloc | apply Kd.R_drewN | apply Kd.R_drew)); exact (Kd.R_mono (Kd.R_mono (Kd.R_far (p := ⟨gb302, 1, none⟩) (Kd.R_far (p := ⟨gb302, 0, none⟩) (Kd.R_far (p := ⟨gb301, 1, none⟩) (Kd.R_far (p := ⟨gb301, 0, none⟩) (Kd.R_types (Kd.R_types HO305.out BK301.out (by decide)) BK302.out (by decide)) (fun _ hk => hk.1.2) (.slice Ao17 t303.length co17)) (fun _ hk => hk.1.2) (.slice Ao19 t306.length co19)) (fun _ hk => hk.2) (.slice Ao21 t309.length co21)) (fun _ hk => hk.2) (.slice Ao23 t312.length co23)) (fun _ h_ => h_.1)) (fun _ h_ => h_.1))))) (Kd.R_lt (by (with_reducible repeat (first | apply Kd.R_alloc | apply Kd.R_drewN | apply Kd.R_drew)); exact (Kd.R_mono (Kd.R_mono (Kd.R_far (p := ⟨gb302, 1, none⟩) (Kd.R_far (p := ⟨gb302, 0, none⟩) (Kd.R_far (p := ⟨gb301, 1, none⟩) (Kd.R_far (p := ⟨gb301, 0, none⟩) (Kd.R_types (Kd.R_types HO311.out BK301.out (by decide)) BK302.out (by decide)) (fun _ hk => hk.1.2) (.slice Ao17 t303.length co17)) (fun _ hk => hk.1.2) (.slice Ao19 t306.length co19)) (fun _ hk => hk.2) (.slice Ao21 t309.length co21)) (fun _ hk => hk.2) (.slice Ao23 t312.length co23)) (fun _ h_ => h_.1)) (fun _ h_ => h_.1))))) (below_size (by repeat (first | (with_reducible first | exact HB.out | apply below_alloc | apply pw_below_drewN | apply below_drew1 | refine below_set ?_ GE301.out | refine below_set ?_ GE302.out) | exact HB.out)))); have n5_ := Aside0.mk (Kd.R_lower (Kd.R_new' (Kd.R_new' ho1 (Kd.R_lt (by (with_reducible repeat (first | apply Kd.R_alloc | apply Kd.R_drewN | apply Kd.R_drew)); exact (Kd.R_mono (Kd.R_mono (Kd.R_far (p := ⟨gb302, 1, none⟩) (Kd.R_far (p := ⟨gb302, 0, none⟩) (Kd.R_far (p := ⟨gb301, 1, none⟩) (Kd.R_far (p := ⟨gb301, 0, none⟩) (Kd.R_types (Kd.R_types HO308.out BK301.out (by decide)) BK302.out (by decide)) (fun _ hk => hk.1.2) (.slice Ao17 t303.length co17)) (fun _ hk => hk.1.2) (.slice Ao19 t306.length co19)) (fun _ hk => hk.2) (.slice Ao21 t309.length co21)) (fun _ hk => hk.2) (.slice Ao23 t312.length co23)) (fun _ h_ => h_.1)) (fun _ h_ => h_.1))))) (Kd.R_lt (by (with_reducible repeat (first | apply Kd.R_alloc | apply Kd.R_drewN | apply Kd.R_drew)); exact (Kd.R_mono (Kd.R_mono (Kd.R_far (p := ⟨gb302, 1, none⟩) (Kd.R_far (p := ⟨gb302, 0, none⟩) (Kd.R_far (p := ⟨gb301, 1, none⟩) (Kd.R_far (p := ⟨gb301, 0, none⟩) (Kd.R_types (Kd.R_types HO314.out BK301.out (by decide)) BK302.out (by decide)) (fun _ hk => hk.1.2) (.slice Ao17 t303.length co17)) (fun _ hk => hk.1.2) (.slice Ao19 t306.length co19)) (fun _ hk => hk.2) (.slice Ao21 t309.length co21)) (fun _ hk => hk.2) (.slice Ao23 t312.length co23)) (fun _ h_ => h_.1)) (fun _ h_ => h_.1))))) (below_size (by repeat (first | (with_reducible first | exact HB.out | apply below_alloc | apply pw_below_drewN | apply below_drew1 | refine below_set ?_ GE301.out | refine below_set ?_ GE302.out) | exact HB.out)))); have n6_ := Aside0.mk (blk_below (g := gb301) (o := .cells #[.slice Ao17 t303.length co17, .slice Ao19 t306.length co19] 25 (0, 0)) (by (with_reducible repeat (first | refine blk_drewN ?_ _ | refine blk_drew ?_ | refine blk_alloc ?_ _)); refine blk_far ?_ NB301_302.out _; (with_reducible repeat (first | refine blk_drewN ?_ _ | refine blk_drew ?_ | refine blk_alloc ?_ _)); refine blk_far ?_ NB301_302.out _; (with_reducible repeat (first | refine blk_drewN ?_ _ | refine blk_drew ?_ | refine blk_alloc ?_ _)); refine blk_put (cs := #[.slice Ao17 t303.length co17, .slice A0_1 l0_1.length c0_1]) ?_ 1 _ rfl; (with_reducible repeat (first | refine blk_drewN ?_ _ | refine blk_drew ?_ | refine blk_alloc ?_ _)); refine blk_put (cs := #[.slice A0_0 l0_0.length c0_0, .slice A0_1 l0_1.length c0_1]) ?_ 0 _ rfl; (with_reducible repeat (first | refine blk_drewN ?_ _ | refine blk_drew ?_ | refine blk_alloc ?_ _)); exact BK301.out) hb); have n7_ := Aside0.mk (blk_below (g := gb302) (o := .cells #[.slice Ao21 t309.length co21, .slice Ao23 t312.length co23] 25 (0, 0)) (by (with_reducible repeat (first | refine blk_drewN ?_ _ | refine blk_drew ?_ | refine blk_alloc ?_ _)); refine blk_put (cs := #[.slice Ao21 t309.length co21, .slice A1_1 l1_1.length c1_1]) ?_ 1 _ rfl; (with_reducible repeat (first | refine blk_drewN ?_ _ | refine blk_drew ?_ | refine blk_alloc ?_ _)); refine blk_put (cs := #[.slice A1_0 l1_0.length c1_0, .slice A1_1 l1_1.length c1_1]) ?_ 0 _ rfl; (with_reducible repeat (first | refine blk_drewN ?_ _ | refine blk_drew ?_ | refine blk_alloc ?_ _)); refine blk_far ?_ NB302_301.out _; (with_reducible repeat (first | refine blk_drewN ?_ _ | refine blk_drew ?_ | refine blk_alloc ?_ _)); refine blk_far ?_ NB302_301.out _; (with_reducible repeat (first | refine blk_drewN ?_ _ | refine blk_drew ?_ | refine blk_alloc ?_ _)); exact BK302.out) hb); have n8_ := Aside0.mk (below_step (by repeat (first | (with_reducible first | exact HB.out | apply below_alloc | apply pw_below_drewN | apply below_drew1 | refine below_set ?_ GE301.out | refine below_set ?_ GE302.out) | exact HB.out)) hb); clear HO305; clear HO308; clear HO311; clear HO314; clear BK301; clear BK302; clear HB; have HO305 := n0_; have HO308 := n1_; have HO311 := n2_; have HO314 := n3_; have HO317 := n4_; have HO320 := n5_; have BK301 := n6_; have BK302 := n7_; have HB := n8_; clear n0_ n1_ n2_ n3_ n4_ n5_ n6_ n7_ n8_; (try clear hb); (try clear hb2); (try clear hk); (try clear hi); (try clear ho0); (try clear ho1)) | ((with_reducible refine gate_dst (N := 9) rfl ?_); refine box_event ?hg (N := 9) ?hd (cs := #[.slice none 0 0, .slice none 0 0]) (t := 25) ?hr ?_; (case hd => rfl); (case hg => rfl); (case hr => first | (go_simp; done) | (go_simp; rfl)); intro gb322 hg w26 hbox hb; have n0_ := Aside0.mk (Kd.R_below (by (with_reducible repeat (first | apply Kd.R_alloc | apply Kd.R_drewN | apply Kd.R_drew)); exact HO305.out) hb); have n1_ := Aside0.mk (Kd.R_below (by (with_reducible repeat (first | apply Kd.R_alloc | apply Kd.R_drewN | apply Kd.R_drew)); exact HO308.out) hb); have n2_ := Aside0.mk (Kd.R_below (by (with_reducible repeat (first | apply Kd.R_alloc | apply Kd.R_drewN | apply Kd.R_drew)); exact HO311.out) hb); have n3_ := Aside0.mk (Kd.R_below (by (with_reducible repeat (first | apply Kd.R_alloc | apply Kd.R_drewN | apply Kd.R_drew)); exact HO314.out) hb); have n4_ := Aside0.mk (Kd.R_below (by (with_reducible repeat (first | apply Kd.R_alloc | apply Kd.R_drewN | apply Kd.R_drew)); exact HO317.out) hb); have n5_ := Aside0.mk (Kd.R_below (by (with_reducible repeat (first | apply Kd.R_alloc | apply Kd.R_drewN | apply Kd.R_drew)); exact HO320.out) hb); have n6_ := Aside0.mk (blk_below (g := gb301) (o := .cells #[.slice Ao17 t303.length co17, .slice Ao19 t306.length co19] 25 (0, 0)) (by (with_reducible repeat (first | refine blk_drewN ?_ _ | refine blk_drew ?_ | refine blk_alloc ?_ _)); exact BK301.out) hb); have n7_ := Aside0.mk (blk_below (g := gb302) (o := .cells #[.slice Ao21 t309.length co21, .slice Ao23 t312.length co23] 25 (0, 0)) (by (with_reducible repeat (first | refine blk_drewN ?_ _ | refine blk_drew ?_ | refine blk_alloc ?_ _)); exact BK302.out) hb); have n8_ := Aside0.mk (below_step (by repeat (first | (with_reducible first | exact HB.out | apply below_alloc | apply pw_below_drewN | apply below_drew1 | refine below_set ?_ GE301.out | refine below_set ?_ GE302.out) | exact HB.out)) hb); have n9_ := Aside0.mk (hbox); have n10_ := Aside0.mk ((by rw [hg]; exact (below_size (by repeat (first | (with_reducible first | exact HB.out | apply below_alloc | apply pw_below_drewN | apply below_drew1 | refine below_set ?_ GE301.out | refine below_set ?_ GE302.out) | exact HB.out))) : w.heap.size ≤ gb322)); have n11_ := Aside0.mk ((by rw [hg]; exact (below_size (by repeat (first | (with_reducible first | exact HB.out | apply below_alloc | apply pw_below_drewN | apply below_drew1 | refine below_set ?_ GE301.out | refine below_set ?_ GE302.out) | exact HB.out))) : w.heap.size ≤ gb322)); have n12_ := Aside0.mk ((by rw [hg]; exact Nat.ne_of_lt (blk_lt (g := gb301) (o := .cells #[.slice Ao17 t303.length co17, .slice Ao19 t306.length co19] 25 (0, 0)) (by (with_reducible repeat (first | refine blk_drewN ?_ _ | refine blk_drew ?_ | refine blk_alloc ?_ _)); exact BK301.out)) : gb301 ≠ gb322)); have n13_ := Aside0.mk ((by rw [hg]; exact Nat.ne_of_gt (blk_lt (g := gb301) (o := .cells #[.slice Ao17 t303.length co17, .slice Ao19 t306.length co19] 25 (0, 0)) (by (with_reducible repeat (first | refine blk_drewN ?_ _ | refine blk_drew ?_ | refine blk_alloc ?_ _)); exact BK301.out)) : gb322 ≠ gb301)); have n14_ := Aside0.mk ((by rw [hg]; exact Nat.ne_of_lt (blk_lt (g := gb302) (o := .cells #[.slice Ao21 t309.length co21, .slice Ao23 t312.length co23] 25 (0, 0)) (by (with_reducible repeat (first | refine blk_drewN ?_ _ | refine blk_drew ?_ | refine blk_alloc ?_ _)); exact BK302.out)) : gb302 ≠ gb322)); have n15_ := Aside0.mk ((by rw [hg]; exact Nat.ne_of_gt (blk_lt (g := gb302) (o := .cells #[.slice Ao21 t309.length co21, .slice Ao23 t312.length co23] 25 (0, 0)) (by (with_reducible repeat (first | refine blk_drewN ?_ _ | refine blk_drew ?_ | refine blk_alloc ?_ _)); exact BK302.out)) : gb322 ≠ gb302)); clear HO305; clear HO308; clear HO311; clear HO314; clear HO317; clear HO320; clear BK301; clear BK302; clear HB; have HO305 := n0_; have HO308 := n1_; have HO311 := n2_; have HO314 := n3_; have HO317 := n4_; have HO320 := n5_; have BK301 := n6_; have BK302 := n7_; have HB := n8_; have BK322 := n9_; have GW322 := n10_; have GE322 := n11_; have NB301_322 := n12_; have NB322_301 := n13_; have NB302_322 := n14_; have NB322_302 := n15_; clear n0_ n1_ n2_ n3_ n4_ n5_ n6_ n7_ n8_ n9_ n10_ n11_ n12_ n13_ n14_ n15_; clear hb hbox hg; obtain ⟨Ao27, co27, eo27⟩ := Kd.R_slice HO317.out; subst eo27; have hnb28 := NB322_301.out; have hnc28 := NB301_322.out; have hnb29 := NB322_302.out; have hnc29 := NB302_322.out; have hcz30_0 : w26.cell? ⟨gb322, 0, none⟩ = some (.slice none 0 0) := (blk_cell BK322.out 0).trans rfl; have hcz30_1 : w26.cell? ⟨gb322, 1, none⟩ = some (.slice none 0 0) := (blk_cell BK322.out 1).trans rfl; have hfz30_0 := blk_frozen BK322.out 0; have hfz30_1 := blk_frozen BK322.out 1; obtain ⟨Ao31, co31, eo31⟩ := Kd.R_slice HO320.out; subst eo31) | ((with_reducible refine gate_callee (f := 19) rfl ?_); refine goesL_ (some 34) rfl rfl Tryd.func19 (by kernel_rfl) rfl #[.string (a2.extract 0 ((ji7) : Int).toNat)] rfl (by (try simp only [List.map_toArray, List.map_cons, List.map_nil]); first | done | (simp only [hji7]; rfl) | rfl | (simp only [List.length_drop, List.length_take]; rfl)) ?_; (with_reducible refine (porticoref3_Parse.calls k (a2.extract 0 ((ji7) : Int).toNat) t323 t326 t329 _ A11.out).mono ?_); rintro e w32 ⟨v324, v327, rfl, ho0, ho1, hb⟩; refine ⟨_, rfl, ?_⟩; have n0_ := Aside0.mk (Kd.R_elder' (by (with_reducible repeat (first | apply Kd.R_alloc | apply Kd.R_drewN | apply Kd.R_drew)); exact (Kd.R_mono (Kd.R_far (p := ⟨gb322, 1, none⟩) (Kd.R_far (p := ⟨gb322, 0, none⟩) (Kd.R_types HO305.out BK322.out (by decide)) (fun _ hk => hk.2) (.slice Ao27 t315.length co27)) (fun _ hk => hk.2) (.slice Ao31 t318.length co31)) (fun _ h_ => h_.1))) (Kd.R_base ho0) hb); have n1_ := Aside0.mk (Kd.R_elder' (by (with_reducible repeat (first | apply Kd.R_alloc | apply Kd.R_drewN | apply Kd.R_drew)); exact (Kd.R_mono (Kd.R_far (p := ⟨gb322, 1, none⟩) (Kd.R_far (p := ⟨gb322, 0, none⟩) (Kd.R_types HO308.out BK322.out (by decide)) (fun _ hk => hk.2) (.slice Ao27 t315.length co27)) (fun _ hk => hk.2) (.slice Ao31 t318.length co31)) (fun _ h_ => h_.1))) (Kd.R_base ho1) hb); have n2_ := Aside0.mk (Kd.R_elder' (by (with_reducible repeat (first | apply Kd.R_alloc | apply Kd.R_drewN | apply Kd.R_drew)); exact (Kd.R_mono (Kd.R_far (p := ⟨gb322, 1, none⟩) (Kd.R_far (p := ⟨gb322, 0, none⟩) (Kd.R_types HO311.out BK322.out (by decide)) (fun _ hk => hk.2) (.slice Ao27 t315.length co27)) (fun _ hk => hk.2) (.slice Ao31 t318.length co31)) (fun _ h_ => h_.1))) (Kd.R_base ho0) hb); have n3_ := Aside0.mk (Kd.R_elder' (by (with_reducible repeat (first | apply Kd.R_alloc | apply Kd.R_drewN | apply Kd.R_drew)); exact (Kd.R_mono (Kd.R_far (p := ⟨gb322, 1, none⟩) (Kd.R_far (p := ⟨gb322, 0, none⟩) (Kd.R_types HO314.out BK322.out (by decide)) (fun _ hk => hk.2) (.slice Ao27 t315.length co27)) (fun _ hk => hk.2) (.slice Ao31 t318.length co31)) (fun _ h_ => h_.1))) (Kd.R_base ho1) hb); have n4_ := Aside0.mk (Kd.R_elder' (by (with_reducible repeat (first | apply Kd.R_alloc | apply Kd.R_drewN | apply Kd.R_drew)); exact (Kd.R_mono (Kd.R_far (p := ⟨gb322, 1, none⟩) (Kd.R_far (p := ⟨gb322, 0, none⟩) (Kd.R_types HO317.out BK322.out (by decide)) (fun _ hk => hk.2) (.slice Ao27 t315.length co27)) (fun _ hk => hk.2) (.slice Ao31 t318.length co31)) (fun _ h_ => h_.1))) (Kd.R_base ho0) hb); have n5_ := Aside0.mk (Kd.R_elder' (by (with_reducible repeat (first | apply Kd.R_alloc | apply Kd.R_drewN | apply Kd.R_drew)); exact (Kd.R_mono (Kd.R_far (p := ⟨gb322, 1, none⟩) (Kd.R_far (p := ⟨gb322, 0, none⟩) (Kd.R_types HO320.out BK322.out (by decide)) (fun _ hk => hk.2) (.slice Ao27 t315.length co27)) (fun _ hk => hk.2) (.slice Ao31 t318.length co31)) (fun _ h_ => h_.1))) (Kd.R_base ho1) hb); have n6_ := Aside0.mk (Kd.R_lower (Kd.R_new' (Kd.R_new' (Kd.R_new' ho0 (Kd.R_lt (by (with_reducible repeat (first | apply Kd.R_alloc | apply Kd.R_drewN | apply Kd.R_drew)); exact (Kd.R_mono (Kd.R_far (p := ⟨gb322, 1, none⟩) (Kd.R_far (p := ⟨gb322, 0, none⟩) (Kd.R_types HO305.out BK322.out (by decide)) (fun _ hk => hk.2) (.slice Ao27 t315.length co27)) (fun _ hk => hk.2) (.slice Ao31 t318.length co31)) (fun _ h_ => h_.1))))) (Kd.R_lt (by (with_reducible repeat (first | apply Kd.R_alloc | apply Kd.R_drewN | apply Kd.R_drew)); exact (Kd.R_mono (Kd.R_far (p := ⟨gb322, 1, none⟩) (Kd.R_far (p := ⟨gb322, 0, none⟩) (Kd.R_types HO311.out BK322.out (by decide)) (fun _ hk => hk.2) (.slice Ao27 t315.length co27)) (fun _ hk => hk.2) (.slice Ao31 t318.length co31)) (fun _ h_ => h_.1))))) (Kd.R_lt (by (with_reducible repeat (first | apply Kd.R_alloc | apply Kd.R_drewN | apply Kd.R_drew)); exact (Kd.R_mono (Kd.R_far (p := ⟨gb322, 1, none⟩) (Kd.R_far (p := ⟨gb322, 0, none⟩) (Kd.R_types HO317.out BK322.out (by decide)) (fun _ hk => hk.2) (.slice Ao27 t315.length co27)) (fun _ hk => hk.2) (.slice Ao31 t318.length co31)) (fun _ h_ => h_.1))))) (below_size (by repeat (first | (with_reducible first | exact HB.out | apply below_alloc | apply pw_below_drewN | apply below_drew1 | refine below_set ?_ GE301.out | refine below_set ?_ GE302.out | refine below_set ?_ GE322.out) | exact HB.out)))); have n7_ := Aside0.mk (Kd.R_lower (Kd.R_new' (Kd.R_new' (Kd.R_new' ho1 (Kd.R_lt (by (with_reducible repeat (first | apply Kd.R_alloc | apply Kd.R_drewN | apply Kd.R_drew)); exact (Kd.R_mono (Kd.R_far (p := ⟨gb322, 1, none⟩) (Kd.R_far (p := ⟨gb322, 0, none⟩) (Kd.R_types HO308.out BK322.out (by decide)) (fun _ hk => hk.2) (.slice Ao27 t315.length co27)) (fun _ hk => hk.2) (.slice Ao31 t318.length co31)) (fun _ h_ => h_.1))))) (Kd.R_lt (by (with_reducible repeat (first | apply Kd.R_alloc | apply Kd.R_drewN | apply Kd.R_drew)); exact (Kd.R_mono (Kd.R_far (p := ⟨gb322, 1, none⟩) (Kd.R_far (p := ⟨gb322, 0, none⟩) (Kd.R_types HO314.out BK322.out (by decide)) (fun _ hk => hk.2) (.slice Ao27 t315.length co27)) (fun _ hk => hk.2) (.slice Ao31 t318.length co31)) (fun _ h_ => h_.1))))) (Kd.R_lt (by (with_reducible repeat (first | apply Kd.R_alloc | apply Kd.R_drewN | apply Kd.R_drew)); exact (Kd.R_mono (Kd.R_far (p := ⟨gb322, 1, none⟩) (Kd.R_far (p := ⟨gb322, 0, none⟩) (Kd.R_types HO320.out BK322.out (by decide)) (fun _ hk => hk.2) (.slice Ao27 t315.length co27)) (fun _ hk => hk.2) (.slice Ao31 t318.length co31)) (fun _ h_ => h_.1))))) (below_size (by repeat (first | (with_reducible first | exact HB.out | apply below_alloc | apply pw_below_drewN | apply below_drew1 | refine below_set ?_ GE301.out | refine below_set ?_ GE302.out | refine below_set ?_ GE322.out) | exact HB.out)))); have n8_ := Aside0.mk (blk_below (g := gb301) (o := .cells #[.slice Ao17 t303.length co17, .slice Ao19 t306.length co19] 25 (0, 0)) (by (with_reducible repeat (first | refine blk_drewN ?_ _ | refine blk_drew ?_ | refine blk_alloc ?_ _)); refine blk_far ?_ NB301_322.out _; (with_reducible repeat (first | refine blk_drewN ?_ _ | refine blk_drew ?_ | refine blk_alloc ?_ _)); refine blk_far ?_ NB301_322.out _; (with_reducible repeat (first | refine blk_drewN ?_ _ | refine blk_drew ?_ | refine blk_alloc ?_ _)); exact BK301.out) hb); have n9_ := Aside0.mk (blk_below (g := gb302) (o := .cells #[.slice Ao21 t309.length co21, .slice Ao23 t312.length co23] 25 (0, 0)) (by (with_reducible repeat (first | refine blk_drewN ?_ _ | refine blk_drew ?_ | refine blk_alloc ?_ _)); refine blk_far ?_ NB302_322.out _; (with_reducible repeat (first | refine blk_drewN ?_ _ | refine blk_drew ?_ | refine blk_alloc ?_ _)); refine blk_far ?_ NB302_322.out _; (with_reducible repeat (first | refine blk_drewN ?_ _ | refine blk_drew ?_ | refine blk_alloc ?_ _)); exact BK302.out) hb); have n10_ := Aside0.mk (blk_below (g := gb322) (o := .cells #[.slice Ao27 t315.length co27, .slice Ao31 t318.length co31] 25 (0, 0)) (by (with_reducible repeat (first | refine blk_drewN ?_ _ | refine blk_drew ?_ | refine blk_alloc ?_ _)); refine blk_put (cs := #[.slice Ao27 t315.length co27, .slice none 0 0]) ?_ 1 _ rfl; (with_reducible repeat (first | refine blk_drewN ?_ _ | refine blk_drew ?_ | refine blk_alloc ?_ _)); refine blk_put (cs := #[.slice none 0 0, .slice none 0 0]) ?_ 0 _ rfl; (with_reducible repeat (first | refine blk_drewN ?_ _ | refine blk_drew ?_ | refine blk_alloc ?_ _)); exact BK322.out) hb); have n11_ := Aside0.mk (below_step (by repeat (first | (with_reducible first | exact HB.out | apply below_alloc | apply pw_below_drewN | apply below_drew1 | refine below_set ?_ GE301.out | refine below_set ?_ GE302.out | refine below_set ?_ GE322.out) | exact HB.out)) hb); clear HO305; clear HO308; clear HO311; clear HO314; clear HO317; clear HO320; clear BK301; clear BK302; clear BK322; clear HB; have HO305 := n0_; have HO308 := n1_; have HO311 := n2_; have HO314 := n3_; have HO317 := n4_; have HO320 := n5_; have HO325 := n6_; have HO328 := n7_; have BK301 := n8_; have BK302 := n9_; have BK322 := n10_; have HB := n11_; clear n0_ n1_ n2_ n3_ n4_ n5_ n6_ n7_ n8_ n9_ n10_ n11_; (try clear hb); (try clear hb2); (try clear hk); (try clear hi); (try clear ho0); (try clear ho1)) | ((with_reducible refine gate_dst (N := 11) rfl ?_); refine box_event ?hg (N := 11) ?hd (cs := #[.slice none 0 0, .slice none 0 0]) (t := 25) ?hr ?_; (case hd => rfl); (case hg => rfl); (case hr => first | (go_simp; done) | (go_simp; rfl)); intro gb330 hg w33 hbox hb; have n0_ := Aside0.mk (Kd.R_below (by (with_reducible repeat (first | apply Kd.R_alloc | apply Kd.R_drewN | apply Kd.R_drew)); exact HO305.out) hb); have n1_ := Aside0.mk (Kd.R_below (by (with_reducible repeat (first | apply Kd.R_alloc | apply Kd.R_drewN | apply Kd.R_drew)); exact HO308.out) hb); have n2_ := Aside0.mk (Kd.R_below (by (with_reducible repeat (first | apply Kd.R_alloc | apply Kd.R_drewN | apply Kd.R_drew)); exact HO311.out) hb); have n3_ := Aside0.mk (Kd.R_below (by (with_reducible repeat (first | apply Kd.R_alloc | apply Kd.R_drewN | apply Kd.R_drew)); exact HO314.out) hb); have n4_ := Aside0.mk (Kd.R_below (by (with_reducible repeat (first | apply Kd.R_alloc | apply Kd.R_drewN | apply Kd.R_drew)); exact HO317.out) hb); have n5_ := Aside0.mk (Kd.R_below (by (with_reducible repeat (first | apply Kd.R_alloc | apply Kd.R_drewN | apply Kd.R_drew)); exact HO320.out) hb); have n6_ := Aside0.mk (Kd.R_below (by (with_reducible repeat (first | apply Kd.R_alloc | apply Kd.R_drewN | apply Kd.R_drew)); exact HO325.out) hb); have n7_ := Aside0.mk (Kd.R_below (by (with_reducible repeat (first | apply Kd.R_alloc | apply Kd.R_drewN | apply Kd.R_drew)); exact HO328.out) hb); have n8_ := Aside0.mk (blk_below (g := gb301) (o := .cells #[.slice Ao17 t303.length co17, .slice Ao19 t306.length co19] 25 (0, 0)) (by (with_reducible repeat (first | refine blk_drewN ?_ _ | refine blk_drew ?_ | refine blk_alloc ?_ _)); exact BK301.out) hb); have n9_ := Aside0.mk (blk_below (g := gb302) (o := .cells #[.slice Ao21 t309.length co21, .slice Ao23 t312.length co23] 25 (0, 0)) (by (with_reducible repeat (first | refine blk_drewN ?_ _ | refine blk_drew ?_ | refine blk_alloc ?_ _)); exact BK302.out) hb); have n10_ := Aside0.mk (blk_below (g := gb322) (o := .cells #[.slice Ao27 t315.length co27, .slice Ao31 t318.length co31] 25 (0, 0)) (by (with_reducible repeat (first | refine blk_drewN ?_ _ | refine blk_drew ?_ | refine blk_alloc ?_ _)); exact BK322.out) hb); have n11_ := Aside0.mk (below_step (by repeat (first | (with_reducible first | exact HB.out | apply below_alloc | apply pw_below_drewN | apply below_drew1 | refine below_set ?_ GE301.out | refine below_set ?_ GE302.out | refine below_set ?_ GE322.out) | exact HB.out)) hb); have n12_ := Aside0.mk (hbox); have n13_ := Aside0.mk ((by rw [hg]; exact (below_size (by repeat (first | (with_reducible first | exact HB.out | apply below_alloc | apply pw_below_drewN | apply below_drew1 | refine below_set ?_ GE301.out | refine below_set ?_ GE302.out | refine below_set ?_ GE322.out) | exact HB.out))) : w.heap.size ≤ gb330)); have n14_ := Aside0.mk ((by rw [hg]; exact (below_size (by repeat (first | (with_reducible first | exact HB.out | apply below_alloc | apply pw_below_drewN | apply below_drew1 | refine below_set ?_ GE301.out | refine below_set ?_ GE302.out | refine below_set ?_ GE322.out) | exact HB.out))) : w.heap.size ≤ gb330)); have n15_ := Aside0.mk ((by rw [hg]; exact Nat.ne_of_lt (blk_lt (g := gb301) (o := .cells #[.slice Ao17 t303.length co17, .slice Ao19 t306.length co19] 25 (0, 0)) (by (with_reducible repeat (first | refine blk_drewN ?_ _ | refine blk_drew ?_ | refine blk_alloc ?_ _)); exact BK301.out)) : gb301 ≠ gb330)); have n16_ := Aside0.mk ((by rw [hg]; exact Nat.ne_of_gt (blk_lt (g := gb301) (o := .cells #[.slice Ao17 t303.length co17, .slice Ao19 t306.length co19] 25 (0, 0)) (by (with_reducible repeat (first | refine blk_drewN ?_ _ | refine blk_drew ?_ | refine blk_alloc ?_ _)); exact BK301.out)) : gb330 ≠ gb301)); have n17_ := Aside0.mk ((by rw [hg]; exact Nat.ne_of_lt (blk_lt (g := gb302) (o := .cells #[.slice Ao21 t309.length co21, .slice Ao23 t312.length co23] 25 (0, 0)) (by (with_reducible repeat (first | refine blk_drewN ?_ _ | refine blk_drew ?_ | refine blk_alloc ?_ _)); exact BK302.out)) : gb302 ≠ gb330)); have n18_ := Aside0.mk ((by rw [hg]; exact Nat.ne_of_gt (blk_lt (g := gb302) (o := .cells #[.slice Ao21 t309.length co21, .slice Ao23 t312.length co23] 25 (0, 0)) (by (with_reducible repeat (first | refine blk_drewN ?_ _ | refine blk_drew ?_ | refine blk_alloc ?_ _)); exact BK302.out)) : gb330 ≠ gb302)); have n19_ := Aside0.mk ((by rw [hg]; exact Nat.ne_of_lt (blk_lt (g := gb322) (o := .cells #[.slice Ao27 t315.length co27, .slice Ao31 t318.length co31] 25 (0, 0)) (by (with_reducible repeat (first | refine blk_drewN ?_ _ | refine blk_drew ?_ | refine blk_alloc ?_ _)); exact BK322.out)) : gb322 ≠ gb330)); have n20_ := Aside0.mk ((by rw [hg]; exact Nat.ne_of_gt (blk_lt (g := gb322) (o := .cells #[.slice Ao27 t315.length co27, .slice Ao31 t318.length co31] 25 (0, 0)) (by (with_reducible repeat (first | refine blk_drewN ?_ _ | refine blk_drew ?_ | refine blk_alloc ?_ _)); exact BK322.out)) : gb330 ≠ gb322)); clear HO305; clear HO308; clear HO311; clear HO314; clear HO317; clear HO320; clear HO325; clear HO328; clear BK301; clear BK302; clear BK322; clear HB; have HO305 := n0_; have HO308 := n1_; have HO311 := n2_; have HO314 := n3_; have HO317 := n4_; have HO320 := n5_; have HO325 := n6_; have HO328 := n7_; have BK301 := n8_; have BK302 := n9_; have BK322 := n10_; have HB := n11_; have BK330 := n12_; have GW330 := n13_; have GE330 := n14_; have NB301_330 := n15_; have NB330_301 := n16_; have NB302_330 := n17_; have NB330_302 := n18_; have NB322_330 := n19_; have NB330_322 := n20_; clear n0_ n1_ n2_ n3_ n4_ n5_ n6_ n7_ n8_ n9_ n10_ n11_ n12_ n13_ n14_ n15_ n16_ n17_ n18_ n19_ n20_; clear hb hbox hg; obtain ⟨Ao34, co34, eo34⟩ := Kd.R_slice HO325.out; subst eo34; have hnb35 := NB330_301.out; have hnc35 := NB301_330.out; have hnb36 := NB330_302.out; have hnc36 := NB302_330.out; have hnb37 := NB330_322.out; have hnc37 := NB322_330.out; have hcz38_0 : w33.cell? ⟨gb330, 0, none⟩ = some (.slice none 0 0) := (blk_cell BK330.out 0).trans rfl; have hcz38_1 : w33.cell? ⟨gb330, 1, none⟩ = some (.slice none 0 0) := (blk_cell BK330.out 1).trans rfl; have hfz38_0 := blk_frozen BK330.out 0; have hfz38_1 := blk_frozen BK330.out 1; obtain ⟨Ao39, co39, eo39⟩ := Kd.R_slice HO328.out; subst eo39; have hnb40 := NB301_302.out; have hnc40 := NB302_301.out; have hcz41_0 : w33.cell? ⟨gb301, 0, none⟩ = some (.slice Ao17 t303.length co17) := (blk_cell BK301.out 0).trans rfl; have hcz41_1 : w33.cell? ⟨gb301, 1, none⟩ = some (.slice Ao19 t306.length co19) := (blk_cell BK301.out 1).trans rfl; have hfz41_0 := blk_frozen BK301.out 0; have hfz41_1 := blk_frozen BK301.out 1))
   go_loopg [13, 14, 15] k (fun kq v13 v14 v15 w' => ∃ (x13_1 : ByteArray) (x14_1 : Bool) (x15_1 : Int), v13 = .string x13_1 ∧ v14 = .bool x14_1 ∧ v15 = .int .i64 x15_1 ∧ Aside0 (porticolaw4_URLTells.l0 kq a3 t321 t329 x13_1 x14_1 x15_1 t303 t306 t309 t312 t315 t318 t323 t326 = some r) ∧ Aside0 (kq ≤ k) ∧ Aside0 (Kd.R Kd.string 9 w' w.heap.size (fun k_ => some k_ ≠ ((.slice Ao21 t309.length co21) : Value).ownBlock ∧ some k_ ≠ ((.slice Ao27 t315.length co27) : Value).ownBlock ∧ some k_ ≠ ((.slice Ao34 t323.length co34) : Value).ownBlock) (.slice Ao17 t303.length co17) t303) ∧ Aside0 (Kd.R k32 32 w' w.heap.size (fun k_ => some k_ ≠ ((.slice Ao23 t312.length co23) : Value).ownBlock ∧ some k_ ≠ ((.slice Ao31 t318.length co31) : Value).ownBlock ∧ some k_ ≠ ((.slice Ao39 t326.length co39) : Value).ownBlock) (.slice Ao19 t306.length co19) t306) ∧ Aside0 (Kd.R Kd.string 9 w' w.heap.size (fun k_ => some k_ ≠ ((.slice Ao17 t303.length co17) : Value).ownBlock ∧ some k_ ≠ ((.slice Ao27 t315.length co27) : Value).ownBlock ∧ some k_ ≠ ((.slice Ao34 t323.length co34) : Value).ownBlock) (.slice Ao21 t309.length co21) t309) ∧ Aside0 (Kd.R k32 32 w' w.heap.size (fun k_ => some k_ ≠ ((.slice Ao19 t306.length co19) : Value).ownBlock ∧ some k_ ≠ ((.slice Ao31 t318.length co31) : Value).ownBlock ∧ some k_ ≠ ((.slice Ao39 t326.length co39) : Value).ownBlock) (.slice Ao23 t312.length co23) t312) ∧ Aside0 (Kd.R Kd.string 9 w' w.heap.size (fun k_ => some k_ ≠ ((.slice Ao17 t303.length co17) : Value).ownBlock ∧ some k_ ≠ ((.slice Ao21 t309.length co21) : Value).ownBlock ∧ some k_ ≠ ((.slice Ao34 t323.length co34) : Value).ownBlock) (.slice Ao27 t315.length co27) t315) ∧ Aside0 (Kd.R k32 32 w' w.heap.size (fun k_ => some k_ ≠ ((.slice Ao19 t306.length co19) : Value).ownBlock ∧ some k_ ≠ ((.slice Ao23 t312.length co23) : Value).ownBlock ∧ some k_ ≠ ((.slice Ao39 t326.length co39) : Value).ownBlock) (.slice Ao31 t318.length co31) t318) ∧ Aside0 (Kd.R Kd.string 9 w' w.heap.size (fun k_ => some k_ ≠ ((.slice Ao17 t303.length co17) : Value).ownBlock ∧ some k_ ≠ ((.slice Ao21 t309.length co21) : Value).ownBlock ∧ some k_ ≠ ((.slice Ao27 t315.length co27) : Value).ownBlock) (.slice Ao34 t323.length co34) t323) ∧ Aside0 (Kd.R k32 32 w' w.heap.size (fun k_ => some k_ ≠ ((.slice Ao19 t306.length co19) : Value).ownBlock ∧ some k_ ≠ ((.slice Ao23 t312.length co23) : Value).ownBlock ∧ some k_ ≠ ((.slice Ao31 t318.length co31) : Value).ownBlock) (.slice Ao39 t326.length co39) t326) ∧ Aside0 (w'.heap[gb301]? = some (.cells #[(.slice Ao17 t303.length co17), (.slice Ao19 t306.length co19)] 25 (0, 0))) ∧ Aside0 (w'.heap[gb302]? = some (.cells #[(.slice Ao21 t309.length co21), (.slice Ao23 t312.length co23)] 25 (0, 0))) ∧ Aside0 (w'.heap[gb322]? = some (.cells #[(.slice Ao27 t315.length co27), (.slice Ao31 t318.length co31)] 25 (0, 0))) ∧ Aside0 (w'.heap[gb330]? = some (.cells #[(.slice Ao34 t323.length co34), (.slice Ao39 t326.length co39)] 25 (0, 0))) ∧ Aside0 (Below w.heap.size w w'))
   case atStart => exact ⟨((⟨#[]⟩ : ByteArray)), (false), (wrap64 ((t306.length : Int) - 1)), (by first | rfl | (simp; done) | (simp [*]; done)), (by first | rfl | (simp; done) | (simp [*]; done)), (by first | rfl | (simp; done) | (simp [*]; done)), H', ⟨Nat.le_refl _⟩, ⟨by (with_reducible repeat (first | apply Kd.R_alloc | apply Kd.R_drewN | apply Kd.R_drew)); exact Kd.R_mono (Kd.R_far (p := ⟨gb330, 1, none⟩) (Kd.R_far (p := ⟨gb330, 0, none⟩) (Kd.R_types HO305.out BK330.out (by decide)) (fun _ hk => hk.2) (.slice Ao34 t323.length co34)) (fun _ hk => hk.2) (.slice Ao39 t326.length co39)) (fun _ hk => ⟨hk.1.1.1.2, ⟨hk.1.1.2, hk.1.2⟩⟩)⟩, ⟨by (with_reducible repeat (first | apply Kd.R_alloc | apply Kd.R_drewN | apply Kd.R_drew)); exact Kd.R_mono (Kd.R_far (p := ⟨gb330, 1, none⟩) (Kd.R_far (p := ⟨gb330, 0, none⟩) (Kd.R_types HO308.out BK330.out (by decide)) (fun _ hk => hk.2) (.slice Ao34 t323.length co34)) (fun _ hk => hk.2) (.slice Ao39 t326.length co39)) (fun _ hk => ⟨hk.1.1.1.2, ⟨hk.1.1.2, hk.1.2⟩⟩)⟩, ⟨by (with_reducible repeat (first | apply Kd.R_alloc | apply Kd.R_drewN | apply Kd.R_drew)); exact Kd.R_mono (Kd.R_far (p := ⟨gb330, 1, none⟩) (Kd.R_far (p := ⟨gb330, 0, none⟩) (Kd.R_types HO311.out BK330.out (by decide)) (fun _ hk => hk.2) (.slice Ao34 t323.length co34)) (fun _ hk => hk.2) (.slice Ao39 t326.length co39)) (fun _ hk => ⟨hk.1.1.1.2, ⟨hk.1.1.2, hk.1.2⟩⟩)⟩, ⟨by (with_reducible repeat (first | apply Kd.R_alloc | apply Kd.R_drewN | apply Kd.R_drew)); exact Kd.R_mono (Kd.R_far (p := ⟨gb330, 1, none⟩) (Kd.R_far (p := ⟨gb330, 0, none⟩) (Kd.R_types HO314.out BK330.out (by decide)) (fun _ hk => hk.2) (.slice Ao34 t323.length co34)) (fun _ hk => hk.2) (.slice Ao39 t326.length co39)) (fun _ hk => ⟨hk.1.1.1.2, ⟨hk.1.1.2, hk.1.2⟩⟩)⟩, ⟨by (with_reducible repeat (first | apply Kd.R_alloc | apply Kd.R_drewN | apply Kd.R_drew)); exact Kd.R_mono (Kd.R_far (p := ⟨gb330, 1, none⟩) (Kd.R_far (p := ⟨gb330, 0, none⟩) (Kd.R_types HO317.out BK330.out (by decide)) (fun _ hk => hk.2) (.slice Ao34 t323.length co34)) (fun _ hk => hk.2) (.slice Ao39 t326.length co39)) (fun _ hk => ⟨hk.1.1.1.2, ⟨hk.1.1.2, hk.1.2⟩⟩)⟩, ⟨by (with_reducible repeat (first | apply Kd.R_alloc | apply Kd.R_drewN | apply Kd.R_drew)); exact Kd.R_mono (Kd.R_far (p := ⟨gb330, 1, none⟩) (Kd.R_far (p := ⟨gb330, 0, none⟩) (Kd.R_types HO320.out BK330.out (by decide)) (fun _ hk => hk.2) (.slice Ao34 t323.length co34)) (fun _ hk => hk.2) (.slice Ao39 t326.length co39)) (fun _ hk => ⟨hk.1.1.1.2, ⟨hk.1.1.2, hk.1.2⟩⟩)⟩, ⟨by (with_reducible repeat (first | apply Kd.R_alloc | apply Kd.R_drewN | apply Kd.R_drew)); exact Kd.R_mono (Kd.R_far (p := ⟨gb330, 1, none⟩) (Kd.R_far (p := ⟨gb330, 0, none⟩) (Kd.R_types HO325.out BK330.out (by decide)) (fun _ hk => hk.2) (.slice Ao34 t323.length co34)) (fun _ hk => hk.2) (.slice Ao39 t326.length co39)) (fun _ hk => ⟨hk.1.1.1.2, ⟨hk.1.1.2, hk.1.2⟩⟩)⟩, ⟨by (with_reducible repeat (first | apply Kd.R_alloc | apply Kd.R_drewN | apply Kd.R_drew)); exact Kd.R_mono (Kd.R_far (p := ⟨gb330, 1, none⟩) (Kd.R_far (p := ⟨gb330, 0, none⟩) (Kd.R_types HO328.out BK330.out (by decide)) (fun _ hk => hk.2) (.slice Ao34 t323.length co34)) (fun _ hk => hk.2) (.slice Ao39 t326.length co39)) (fun _ hk => ⟨hk.1.1.1.2, ⟨hk.1.1.2, hk.1.2⟩⟩)⟩, ⟨by (with_reducible repeat (first | refine blk_drewN ?_ _ | refine blk_drew ?_ | refine blk_alloc ?_ _)); refine blk_far ?_ NB301_330.out _; (with_reducible repeat (first | refine blk_drewN ?_ _ | refine blk_drew ?_ | refine blk_alloc ?_ _)); refine blk_far ?_ NB301_330.out _; (with_reducible repeat (first | refine blk_drewN ?_ _ | refine blk_drew ?_ | refine blk_alloc ?_ _)); exact BK301.out⟩, ⟨by (with_reducible repeat (first | refine blk_drewN ?_ _ | refine blk_drew ?_ | refine blk_alloc ?_ _)); refine blk_far ?_ NB302_330.out _; (with_reducible repeat (first | refine blk_drewN ?_ _ | refine blk_drew ?_ | refine blk_alloc ?_ _)); refine blk_far ?_ NB302_330.out _; (with_reducible repeat (first | refine blk_drewN ?_ _ | refine blk_drew ?_ | refine blk_alloc ?_ _)); exact BK302.out⟩, ⟨by (with_reducible repeat (first | refine blk_drewN ?_ _ | refine blk_drew ?_ | refine blk_alloc ?_ _)); refine blk_far ?_ NB322_330.out _; (with_reducible repeat (first | refine blk_drewN ?_ _ | refine blk_drew ?_ | refine blk_alloc ?_ _)); refine blk_far ?_ NB322_330.out _; (with_reducible repeat (first | refine blk_drewN ?_ _ | refine blk_drew ?_ | refine blk_alloc ?_ _)); exact BK322.out⟩, ⟨by (with_reducible repeat (first | refine blk_drewN ?_ _ | refine blk_drew ?_ | refine blk_alloc ?_ _)); refine blk_put (cs := #[.slice Ao34 t323.length co34, .slice none 0 0]) ?_ 1 _ rfl; (with_reducible repeat (first | refine blk_drewN ?_ _ | refine blk_drew ?_ | refine blk_alloc ?_ _)); refine blk_put (cs := #[.slice none 0 0, .slice none 0 0]) ?_ 0 _ rfl; (with_reducible repeat (first | refine blk_drewN ?_ _ | refine blk_drew ?_ | refine blk_alloc ?_ _)); exact BK330.out⟩, ⟨by repeat (first | (with_reducible first | exact HB.out | apply below_alloc | apply pw_below_drewN | apply below_drew1 | refine below_set ?_ GE301.out | refine below_set ?_ GE302.out | refine below_set ?_ GE322.out | refine below_set ?_ GE330.out) | exact HB.out)⟩⟩
   case round =>
    clear H'
    try clear c1
    try clear c2
    try clear p2
    try clear c3
    try clear c4
    try clear p6
    try clear c8
    try clear c8b0
    try clear c8b1
    try clear c9
    try clear c9b0
    try clear c9b1
    try clear c13
    try clear c19
    try clear c28
    try clear c29
    try clear c35
    try clear c36
    try clear c37
    try clear c40
    try clear hcz30_0
    try clear hcz30_1
    try clear hcz38_0
    try clear hcz38_1
    try clear hcz41_0
    try clear hcz41_1
    try clear hfz30_0
    try clear hfz30_1
    try clear hfz38_0
    try clear hfz38_1
    try clear hfz41_0
    try clear hfz41_1
    obtain ⟨x13_1, x14_1, x15_1, rfl, rfl, rfl, HA, HK1, HO_302000, HO_302001, HO_303000, HO_303001, HO_323000, HO_323001, HO_331000, HO_331001, BK301, BK302, BK322, BK330, HB⟩ := hrel
    cases gk with
    | zero => exact absurd HA.out (by simp [porticolaw4_URLTells.l0])
    | succ k1 =>
     have H := HA.out
     clear HA
     simp only [porticolaw4_URLTells.l0] at H
     by_cases c42 : x15_1 ≥ 0
     ·
      rw [if_pos c42] at H
      have c42b0 : decide (0 ≤ x15_1) = true := decide_eq_true c42
      clear c42
      by_cases c43 : 0 ≤ x15_1
      rotate_left
      ·
       rw [if_neg c43] at H
       exact absurd H (by simp)
      rw [if_pos c43] at H
      have c43b0 : decide (0 ≤ x15_1) = true := decide_eq_true c43
      clear c43
      by_cases c44 : x15_1 < (t306.length : Int)
      rotate_left
      ·
       rw [if_neg c44] at H
       exact absurd H (by simp)
      rw [if_pos c44] at H
      have c44b0 : decide (x15_1 < (t306.length : Int)) = true := decide_eq_true c44
      clear c44
      by_cases c45 : ((rd_T32 t306 x15_1).f0).toList = a3.toList
      rotate_left
      ·
       rw [if_neg c45] at H
       have c45b0 : (((rd_T32 t306 x15_1).f0).toList == a3.toList) = false := beq_eq_false_iff_ne.mpr c45
       have c45b1 : (((rd_T32 t306 x15_1).f0).toList != a3.toList) = true := bne_iff_ne.mpr c45
       have H' := Aside0.mk H
       clear H
       have hnb50 := NB301_302.out
       have hnc50 := NB302_301.out
       have hnb51 := NB301_322.out
       have hnc51 := NB322_301.out
       have hnb52 := NB301_330.out
       have hnc52 := NB330_301.out
       have hcz53_0 : wr.cell? ⟨gb301, 0, none⟩ = some (.slice Ao17 t303.length co17) := (blk_cell BK301.out 0).trans rfl
       have hcz53_1 : wr.cell? ⟨gb301, 1, none⟩ = some (.slice Ao19 t306.length co19) := (blk_cell BK301.out 1).trans rfl
       have hfz53_0 := blk_frozen BK301.out 0
       have hfz53_1 := blk_frozen BK301.out 1
       have p331 : 0 ≤ (x15_1 : Int) := of_decide_eq_true (by first | (with_reducible assumption) | assumption)
       have q331 : x15_1 < (t306.length : Int) := of_decide_eq_true (by first | (with_reducible assumption) | assumption)
       obtain ⟨ad331, e331, hx331_0, hx331_1⟩ := at_T32 (Kd.R_reads' HO_302001.out).2.2 x15_1 p331 q331
       cases e331
       replace p331 := eq_true p331
       replace q331 := eq_true q331
       go_wp2
       go_roundg k1
       case measure => have := HK1.out; omega
       case rel => exact ⟨(x13_1), (x14_1), (wrap64 (x15_1 - 1)), (by first | rfl | (simp; done) | (simp [*]; done)), (by first | rfl | (simp; done) | (simp [*]; done)), (by first | rfl | (simp; done) | (simp [*]; done)), H', ⟨by have := HK1.out; omega⟩, ⟨by (with_reducible repeat (first | apply Kd.R_alloc | apply Kd.R_drewN | apply Kd.R_drew)); exact HO_302000.out⟩, ⟨by (with_reducible repeat (first | apply Kd.R_alloc | apply Kd.R_drewN | apply Kd.R_drew)); exact HO_302001.out⟩, ⟨by (with_reducible repeat (first | apply Kd.R_alloc | apply Kd.R_drewN | apply Kd.R_drew)); exact HO_303000.out⟩, ⟨by (with_reducible repeat (first | apply Kd.R_alloc | apply Kd.R_drewN | apply Kd.R_drew)); exact HO_303001.out⟩, ⟨by (with_reducible repeat (first | apply Kd.R_alloc | apply Kd.R_drewN | apply Kd.R_drew)); exact HO_323000.out⟩, ⟨by (with_reducible repeat (first | apply Kd.R_alloc | apply Kd.R_drewN | apply Kd.R_drew)); exact HO_323001.out⟩, ⟨by (with_reducible repeat (first | apply Kd.R_alloc | apply Kd.R_drewN | apply Kd.R_drew)); exact HO_331000.out⟩, ⟨by (with_reducible repeat (first | apply Kd.R_alloc | apply Kd.R_drewN | apply Kd.R_drew)); exact HO_331001.out⟩, ⟨by (with_reducible repeat (first | refine blk_drewN ?_ _ | refine blk_drew ?_ | refine blk_alloc ?_ _)); exact BK301.out⟩, ⟨by (with_reducible repeat (first | refine blk_drewN ?_ _ | refine blk_drew ?_ | refine blk_alloc ?_ _)); exact BK302.out⟩, ⟨by (with_reducible repeat (first | refine blk_drewN ?_ _ | refine blk_drew ?_ | refine blk_alloc ?_ _)); exact BK322.out⟩, ⟨by (with_reducible repeat (first | refine blk_drewN ?_ _ | refine blk_drew ?_ | refine blk_alloc ?_ _)); exact BK330.out⟩, ⟨by repeat (first | (with_reducible first | exact HB.out | apply below_alloc | apply pw_below_drewN | apply below_drew1 | refine below_set ?_ GE301.out | refine below_set ?_ GE302.out | refine below_set ?_ GE322.out | refine below_set ?_ GE330.out) | exact HB.out)⟩⟩
      rw [if_pos c45] at H
      have c45b0 : (((rd_T32 t306 x15_1).f0).toList == a3.toList) = true := beq_iff_eq.mpr c45
      have c45b1 : (((rd_T32 t306 x15_1).f0).toList != a3.toList) = false := bne_eq_false_iff_eq.mpr c45
      clear c45
      have H' := Aside0.mk H
      clear H
      have hnb46 := NB301_302.out
      have hnc46 := NB302_301.out
      have hnb47 := NB301_322.out
      have hnc47 := NB322_301.out
      have hnb48 := NB301_330.out
      have hnc48 := NB330_301.out
      have hcz49_0 : wr.cell? ⟨gb301, 0, none⟩ = some (.slice Ao17 t303.length co17) := (blk_cell BK301.out 0).trans rfl
      have hcz49_1 : wr.cell? ⟨gb301, 1, none⟩ = some (.slice Ao19 t306.length co19) := (blk_cell BK301.out 1).trans rfl
      have hfz49_0 := blk_frozen BK301.out 0
      have hfz49_1 := blk_frozen BK301.out 1
      have p331 : 0 ≤ (x15_1 : Int) := of_decide_eq_true (by first | (with_reducible assumption) | assumption)
      have q331 : x15_1 < (t306.length : Int) := of_decide_eq_true (by first | (with_reducible assumption) | assumption)
      obtain ⟨ad331, e331, hx331_0, hx331_1⟩ := at_T32 (Kd.R_reads' HO_302001.out).2.2 x15_1 p331 q331
      cases e331
      replace p331 := eq_true p331
      replace q331 := eq_true q331
      have p332 : 0 ≤ (x15_1 : Int) := of_decide_eq_true (by first | (with_reducible assumption) | assumption)
      have q332 : x15_1 < (t306.length : Int) := of_decide_eq_true (by first | (with_reducible assumption) | assumption)
      obtain ⟨ad332, e332, hx332_0, hx332_1⟩ := at_T32 (Kd.R_reads' HO_302001.out).2.2 x15_1 p332 q332
      obtain rfl : ad331 = ad332 := (by injection e332)
      replace p332 := eq_true p332
      replace q332 := eq_true q332
      go_wp2
      go_roundg k1
      case measure => have := HK1.out; omega
      case rel => exact ⟨((rd_T32 t306 x15_1).f1), (true), (wrap64 (x15_1 - 1)), (by first | rfl | (simp; done) | (simp [*]; done)), (by first | rfl | (simp; done) | (simp [*]; done)), (by first | rfl | (simp; done) | (simp [*]; done)), H', ⟨by have := HK1.out; omega⟩, ⟨by (with_reducible repeat (first | apply Kd.R_alloc | apply Kd.R_drewN | apply Kd.R_drew)); exact HO_302000.out⟩, ⟨by (with_reducible repeat (first | apply Kd.R_alloc | apply Kd.R_drewN | apply Kd.R_drew)); exact HO_302001.out⟩, ⟨by (with_reducible repeat (first | apply Kd.R_alloc | apply Kd.R_drewN | apply Kd.R_drew)); exact HO_303000.out⟩, ⟨by (with_reducible repeat (first | apply Kd.R_alloc | apply Kd.R_drewN | apply Kd.R_drew)); exact HO_303001.out⟩, ⟨by (with_reducible repeat (first | apply Kd.R_alloc | apply Kd.R_drewN | apply Kd.R_drew)); exact HO_323000.out⟩, ⟨by (with_reducible repeat (first | apply Kd.R_alloc | apply Kd.R_drewN | apply Kd.R_drew)); exact HO_323001.out⟩, ⟨by (with_reducible repeat (first | apply Kd.R_alloc | apply Kd.R_drewN | apply Kd.R_drew)); exact HO_331000.out⟩, ⟨by (with_reducible repeat (first | apply Kd.R_alloc | apply Kd.R_drewN | apply Kd.R_drew)); exact HO_331001.out⟩, ⟨by (with_reducible repeat (first | refine blk_drewN ?_ _ | refine blk_drew ?_ | refine blk_alloc ?_ _)); exact BK301.out⟩, ⟨by (with_reducible repeat (first | refine blk_drewN ?_ _ | refine blk_drew ?_ | refine blk_alloc ?_ _)); exact BK302.out⟩, ⟨by (with_reducible repeat (first | refine blk_drewN ?_ _ | refine blk_drew ?_ | refine blk_alloc ?_ _)); exact BK322.out⟩, ⟨by (with_reducible repeat (first | refine blk_drewN ?_ _ | refine blk_drew ?_ | refine blk_alloc ?_ _)); exact BK330.out⟩, ⟨by repeat (first | (with_reducible first | exact HB.out | apply below_alloc | apply pw_below_drewN | apply below_drew1 | refine below_set ?_ GE301.out | refine below_set ?_ GE302.out | refine below_set ?_ GE322.out | refine below_set ?_ GE330.out) | exact HB.out)⟩⟩
     rw [if_neg c42] at H
     have c42b0 : decide (0 ≤ x15_1) = false := decide_eq_false c42
     clear c42
     replace H := Option.bind_eq_some_iff.mp H
     obtain ⟨⟨t333, t334⟩, A540, H⟩ := H
     replace H : ((url_Right.f k1 t303 t306).bind fun t335 => ((porticoref3_Right.f k1 t303 t306).bind fun t336 => (if (t335 == t336) = true then ((url_Print.f t303 t306).bind fun t337 => ((porticoref3_Print.f k1 t303 t306).bind fun t338 => (if t337.toList = t338.toList then ((porticolaw4_equal.f k1 t315 t318 t323 t326).bind fun t339 => (if t339 = true then (if t321 = t329 then (if t333.toList = x13_1.toList then (if (t334 == x14_1) = true then ((url_Same.f k1 t303 t306 t309 t312).bind fun t340 => ((porticolaw4_equal.f k1 t303 t306 t309 t312).bind fun t341 => (if (t340 == t341) = true then ((url_Same.f k1 t303 t306 t303 t306).bind fun t342 => (if t342 = true then ((porticolaw4_URLRuns.f k1).bind fun t343 => (some t343)) else (none))) else (none)))) else (none)) else (none)) else (none)) else (none))) else (none)))) else (none)))) = some r := H
     have A54 := Aside0.mk A540
     clear A540
     replace H := Option.bind_eq_some_iff.mp H
     obtain ⟨t335, A550, H⟩ := H
     replace H : ((porticoref3_Right.f k1 t303 t306).bind fun t336 => (if (t335 == t336) = true then ((url_Print.f t303 t306).bind fun t337 => ((porticoref3_Print.f k1 t303 t306).bind fun t338 => (if t337.toList = t338.toList then ((porticolaw4_equal.f k1 t315 t318 t323 t326).bind fun t339 => (if t339 = true then (if t321 = t329 then (if t333.toList = x13_1.toList then (if (t334 == x14_1) = true then ((url_Same.f k1 t303 t306 t309 t312).bind fun t340 => ((porticolaw4_equal.f k1 t303 t306 t309 t312).bind fun t341 => (if (t340 == t341) = true then ((url_Same.f k1 t303 t306 t303 t306).bind fun t342 => (if t342 = true then ((porticolaw4_URLRuns.f k1).bind fun t343 => (some t343)) else (none))) else (none)))) else (none)) else (none)) else (none)) else (none))) else (none)))) else (none))) = some r := H
     have A55 := Aside0.mk A550
     clear A550
     replace H := Option.bind_eq_some_iff.mp H
     obtain ⟨t336, A560, H⟩ := H
     replace H : (if (t335 == t336) = true then ((url_Print.f t303 t306).bind fun t337 => ((porticoref3_Print.f k1 t303 t306).bind fun t338 => (if t337.toList = t338.toList then ((porticolaw4_equal.f k1 t315 t318 t323 t326).bind fun t339 => (if t339 = true then (if t321 = t329 then (if t333.toList = x13_1.toList then (if (t334 == x14_1) = true then ((url_Same.f k1 t303 t306 t309 t312).bind fun t340 => ((porticolaw4_equal.f k1 t303 t306 t309 t312).bind fun t341 => (if (t340 == t341) = true then ((url_Same.f k1 t303 t306 t303 t306).bind fun t342 => (if t342 = true then ((porticolaw4_URLRuns.f k1).bind fun t343 => (some t343)) else (none))) else (none)))) else (none)) else (none)) else (none)) else (none))) else (none)))) else (none)) = some r := H
     have A56 := Aside0.mk A560
     clear A560
     by_cases c57 : (t335 == t336) = true
     rotate_left
     ·
      rw [if_neg c57] at H
      exact absurd H (by simp)
     rw [if_pos c57] at H
     have c57b0 : (t335 == t336) = true := c57
     (try (have c57b1 : decide (t335 = t336) = true := by simpa using c57))
     (try (have c57b2 : (t335 == t336) = true := by simpa using c57))
     clear c57
     replace H := Option.bind_eq_some_iff.mp H
     obtain ⟨t337, A580, H⟩ := H
     replace H : ((porticoref3_Print.f k1 t303 t306).bind fun t338 => (if t337.toList = t338.toList then ((porticolaw4_equal.f k1 t315 t318 t323 t326).bind fun t339 => (if t339 = true then (if t321 = t329 then (if t333.toList = x13_1.toList then (if (t334 == x14_1) = true then ((url_Same.f k1 t303 t306 t309 t312).bind fun t340 => ((porticolaw4_equal.f k1 t303 t306 t309 t312).bind fun t341 => (if (t340 == t341) = true then ((url_Same.f k1 t303 t306 t303 t306).bind fun t342 => (if t342 = true then ((porticolaw4_URLRuns.f k1).bind fun t343 => (some t343)) else (none))) else (none)))) else (none)) else (none)) else (none)) else (none))) else (none))) = some r := H
     have A58 := Aside0.mk A580
     clear A580
     replace H := Option.bind_eq_some_iff.mp H
     obtain ⟨t338, A590, H⟩ := H
     replace H : (if t337.toList = t338.toList then ((porticolaw4_equal.f k1 t315 t318 t323 t326).bind fun t339 => (if t339 = true then (if t321 = t329 then (if t333.toList = x13_1.toList then (if (t334 == x14_1) = true then ((url_Same.f k1 t303 t306 t309 t312).bind fun t340 => ((porticolaw4_equal.f k1 t303 t306 t309 t312).bind fun t341 => (if (t340 == t341) = true then ((url_Same.f k1 t303 t306 t303 t306).bind fun t342 => (if t342 = true then ((porticolaw4_URLRuns.f k1).bind fun t343 => (some t343)) else (none))) else (none)))) else (none)) else (none)) else (none)) else (none))) else (none)) = some r := H
     have A59 := Aside0.mk A590
     clear A590
     by_cases c60 : t337.toList = t338.toList
     rotate_left
     ·
      rw [if_neg c60] at H
      exact absurd H (by simp)
     rw [if_pos c60] at H
     have c60b0 : (t337.toList == t338.toList) = true := beq_iff_eq.mpr c60
     have c60b1 : (t337.toList != t338.toList) = false := bne_eq_false_iff_eq.mpr c60
     clear c60
     replace H := Option.bind_eq_some_iff.mp H
     obtain ⟨t339, A610, H⟩ := H
     replace H : (if t339 = true then (if t321 = t329 then (if t333.toList = x13_1.toList then (if (t334 == x14_1) = true then ((url_Same.f k1 t303 t306 t309 t312).bind fun t340 => ((porticolaw4_equal.f k1 t303 t306 t309 t312).bind fun t341 => (if (t340 == t341) = true then ((url_Same.f k1 t303 t306 t303 t306).bind fun t342 => (if t342 = true then ((porticolaw4_URLRuns.f k1).bind fun t343 => (some t343)) else (none))) else (none)))) else (none)) else (none)) else (none)) else (none)) = some r := H
     have A61 := Aside0.mk A610
     clear A610
     by_cases c62 : t339 = true
     rotate_left
     ·
      replace c62 := Bool.eq_false_iff.mpr c62
      subst c62
      have H1 : (none) = some r := by rw [if_neg (show ¬ (false = true) by decide)] at H; exact H
      clear H
      have H := H1
      clear H1
      exact absurd H (by simp)
     subst c62
     have H1 : (if t321 = t329 then (if t333.toList = x13_1.toList then (if (t334 == x14_1) = true then ((url_Same.f k1 t303 t306 t309 t312).bind fun t340 => ((porticolaw4_equal.f k1 t303 t306 t309 t312).bind fun t341 => (if (t340 == t341) = true then ((url_Same.f k1 t303 t306 t303 t306).bind fun t342 => (if t342 = true then ((porticolaw4_URLRuns.f k1).bind fun t343 => (some t343)) else (none))) else (none)))) else (none)) else (none)) else (none)) = some r := by rw [if_pos rfl] at H; exact H
     clear H
     have H := H1
     clear H1
     by_cases c63 : t321 = t329
     rotate_left
     ·
      rw [if_neg c63] at H
      exact absurd H (by simp)
     rw [if_pos c63] at H
     have c63b0 : (t321 == t329) = true := beq_iff_eq.mpr c63
     have c63b1 : (t321 != t329) = false := bne_eq_false_iff_eq.mpr c63
     clear c63
     by_cases c64 : t333.toList = x13_1.toList
     rotate_left
     ·
      rw [if_neg c64] at H
      exact absurd H (by simp)
     rw [if_pos c64] at H
     have c64b0 : (t333.toList == x13_1.toList) = true := beq_iff_eq.mpr c64
     have c64b1 : (t333.toList != x13_1.toList) = false := bne_eq_false_iff_eq.mpr c64
     clear c64
     by_cases c65 : (t334 == x14_1) = true
     rotate_left
     ·
      rw [if_neg c65] at H
      exact absurd H (by simp)
     rw [if_pos c65] at H
     have c65b0 : (t334 == x14_1) = true := c65
     (try (have c65b1 : decide (t334 = x14_1) = true := by simpa using c65))
     (try (have c65b2 : (t334 == x14_1) = true := by simpa using c65))
     clear c65
     replace H := Option.bind_eq_some_iff.mp H
     obtain ⟨t340, A660, H⟩ := H
     replace H : ((porticolaw4_equal.f k1 t303 t306 t309 t312).bind fun t341 => (if (t340 == t341) = true then ((url_Same.f k1 t303 t306 t303 t306).bind fun t342 => (if t342 = true then ((porticolaw4_URLRuns.f k1).bind fun t343 => (some t343)) else (none))) else (none))) = some r := H
     have A66 := Aside0.mk A660
     clear A660
     replace H := Option.bind_eq_some_iff.mp H
     obtain ⟨t341, A670, H⟩ := H
     replace H : (if (t340 == t341) = true then ((url_Same.f k1 t303 t306 t303 t306).bind fun t342 => (if t342 = true then ((porticolaw4_URLRuns.f k1).bind fun t343 => (some t343)) else (none))) else (none)) = some r := H
     have A67 := Aside0.mk A670
     clear A670
     by_cases c68 : (t340 == t341) = true
     rotate_left
     ·
      rw [if_neg c68] at H
      exact absurd H (by simp)
     rw [if_pos c68] at H
     have c68b0 : (t340 == t341) = true := c68
     (try (have c68b1 : decide (t340 = t341) = true := by simpa using c68))
     (try (have c68b2 : (t340 == t341) = true := by simpa using c68))
     clear c68
     replace H := Option.bind_eq_some_iff.mp H
     obtain ⟨t342, A690, H⟩ := H
     replace H : (if t342 = true then ((porticolaw4_URLRuns.f k1).bind fun t343 => (some t343)) else (none)) = some r := H
     have A69 := Aside0.mk A690
     clear A690
     by_cases c70 : t342 = true
     rotate_left
     ·
      replace c70 := Bool.eq_false_iff.mpr c70
      subst c70
      have H1 : (none) = some r := by rw [if_neg (show ¬ (false = true) by decide)] at H; exact H
      clear H
      have H := H1
      clear H1
      exact absurd H (by simp)
     subst c70
     have H1 : ((porticolaw4_URLRuns.f k1).bind fun t343 => (some t343)) = some r := by rw [if_pos rfl] at H; exact H
     clear H
     have H := H1
     clear H1
     replace H := Option.bind_eq_some_iff.mp H
     obtain ⟨t343, A710, H⟩ := H
     replace H : (some t343) = some r := H
     have A71 := Aside0.mk A710
     clear A710
     obtain rfl := Option.some.inj H
     have hnb72 := NB301_302.out
     have hnc72 := NB302_301.out
     have hnb73 := NB301_322.out
     have hnc73 := NB322_301.out
     have hnb74 := NB301_330.out
     have hnc74 := NB330_301.out
     have hcz75_0 : wr.cell? ⟨gb301, 0, none⟩ = some (.slice Ao17 t303.length co17) := (blk_cell BK301.out 0).trans rfl
     have hcz75_1 : wr.cell? ⟨gb301, 1, none⟩ = some (.slice Ao19 t306.length co19) := (blk_cell BK301.out 1).trans rfl
     have hfz75_0 := blk_frozen BK301.out 0
     have hfz75_1 := blk_frozen BK301.out 1
     try go_wp2_with (first | ((with_reducible refine gate_callee (f := 18) rfl ?_); refine goesL_ (some 62) rfl rfl Tryd.func18 (by kernel_rfl) rfl #[.agg #[.slice Ao17 t303.length co17, .slice Ao19 t306.length co19], .string a3] rfl (by (try simp only [List.map_toArray, List.map_cons, List.map_nil]); first | done | rfl | (simp only [List.length_drop, List.length_take]; rfl)) ?_; (with_reducible refine (url_Get.calls k1 _ _ t303 _ _ t306 a3 t333 t334 _ ?side1 ?side2 ?side3 ?side4 A54.out).mono ?_); (case side1 => repeat (first | exact (Kd.R_reads' HO_302000.out).2.2 | (with_reducible refine Kd.C_alloc ?_ _) | (with_reducible refine Kd.C_drewN ?_ _) | (with_reducible refine Kd.C_drew ?_))); (case side2 => exact (Kd.R_reads' HO_302000.out).2.1); (case side3 => repeat (first | exact (Kd.R_reads' HO_302001.out).2.2 | (with_reducible refine Kd.C_alloc ?_ _) | (with_reducible refine Kd.C_drewN ?_ _) | (with_reducible refine Kd.C_drew ?_))); (case side4 => exact (Kd.R_reads' HO_302001.out).2.1); rintro e w76 ⟨rfl, hb⟩; refine ⟨_, rfl, ?_⟩; have n0_ := Aside0.mk (Kd.R_below (by (with_reducible repeat (first | apply Kd.R_alloc | apply Kd.R_drewN | apply Kd.R_drew)); exact HO_302000.out) hb); have n1_ := Aside0.mk (Kd.R_below (by (with_reducible repeat (first | apply Kd.R_alloc | apply Kd.R_drewN | apply Kd.R_drew)); exact HO_302001.out) hb); have n2_ := Aside0.mk (Kd.R_below (by (with_reducible repeat (first | apply Kd.R_alloc | apply Kd.R_drewN | apply Kd.R_drew)); exact HO_303000.out) hb); have n3_ := Aside0.mk (Kd.R_below (by (with_reducible repeat (first | apply Kd.R_alloc | apply Kd.R_drewN | apply Kd.R_drew)); exact HO_303001.out) hb); have n4_ := Aside0.mk (Kd.R_below (by (with_reducible repeat (first | apply Kd.R_alloc | apply Kd.R_drewN | apply Kd.R_drew)); exact HO_323000.out) hb); have n5_ := Aside0.mk (Kd.R_below (by (with_reducible repeat (first | apply Kd.R_alloc | apply Kd.R_drewN | apply Kd.R_drew)); exact HO_323001.out) hb); have n6_ := Aside0.mk (Kd.R_below (by (with_reducible repeat (first | apply Kd.R_alloc | apply Kd.R_drewN | apply Kd.R_drew)); exact HO_331000.out) hb); have n7_ := Aside0.mk (Kd.R_below (by (with_reducible repeat (first | apply Kd.R_alloc | apply Kd.R_drewN | apply Kd.R_drew)); exact HO_331001.out) hb); have n8_ := Aside0.mk (blk_below (g := gb301) (o := .cells #[.slice Ao17 t303.length co17, .slice Ao19 t306.length co19] 25 (0, 0)) (by (with_reducible repeat (first | refine blk_drewN ?_ _ | refine blk_drew ?_ | refine blk_alloc ?_ _)); exact BK301.out) hb); have n9_ := Aside0.mk (blk_below (g := gb302) (o := .cells #[.slice Ao21 t309.length co21, .slice Ao23 t312.length co23] 25 (0, 0)) (by (with_reducible repeat (first | refine blk_drewN ?_ _ | refine blk_drew ?_ | refine blk_alloc ?_ _)); exact BK302.out) hb); have n10_ := Aside0.mk (blk_below (g := gb322) (o := .cells #[.slice Ao27 t315.length co27, .slice Ao31 t318.length co31] 25 (0, 0)) (by (with_reducible repeat (first | refine blk_drewN ?_ _ | refine blk_drew ?_ | refine blk_alloc ?_ _)); exact BK322.out) hb); have n11_ := Aside0.mk (blk_below (g := gb330) (o := .cells #[.slice Ao34 t323.length co34, .slice Ao39 t326.length co39] 25 (0, 0)) (by (with_reducible repeat (first | refine blk_drewN ?_ _ | refine blk_drew ?_ | refine blk_alloc ?_ _)); exact BK330.out) hb); have n12_ := Aside0.mk (below_step (by repeat (first | (with_reducible first | exact HB.out | apply below_alloc | apply pw_below_drewN | apply below_drew1 | refine below_set ?_ GE301.out | refine below_set ?_ GE302.out | refine below_set ?_ GE322.out | refine below_set ?_ GE330.out) | exact HB.out)) hb); clear HO_302000; clear HO_302001; clear HO_303000; clear HO_303001; clear HO_323000; clear HO_323001; clear HO_331000; clear HO_331001; clear BK301; clear BK302; clear BK322; clear BK330; clear HB; have HO_302000 := n0_; have HO_302001 := n1_; have HO_303000 := n2_; have HO_303001 := n3_; have HO_323000 := n4_; have HO_323001 := n5_; have HO_331000 := n6_; have HO_331001 := n7_; have BK301 := n8_; have BK302 := n9_; have BK322 := n10_; have BK330 := n11_; have HB := n12_; clear n0_ n1_ n2_ n3_ n4_ n5_ n6_ n7_ n8_ n9_ n10_ n11_ n12_; (try clear hb); (try clear hb2); (try clear hk); (try clear hi)))
     have n0_ := Aside0.mk (Kd.R_drew HO_302000.out)
     have n1_ := Aside0.mk (Kd.R_drew HO_302001.out)
     have n2_ := Aside0.mk (Kd.R_drew HO_303000.out)
     have n3_ := Aside0.mk (Kd.R_drew HO_303001.out)
     have n4_ := Aside0.mk (Kd.R_drew HO_323000.out)
     have n5_ := Aside0.mk (Kd.R_drew HO_323001.out)
     have n6_ := Aside0.mk (Kd.R_drew HO_331000.out)
     have n7_ := Aside0.mk (Kd.R_drew HO_331001.out)
     have n8_ := Aside0.mk (blk_drew BK301.out)
     have n9_ := Aside0.mk (blk_drew BK302.out)
     have n10_ := Aside0.mk (blk_drew BK322.out)
     have n11_ := Aside0.mk (blk_drew BK330.out)
     have n12_ := Aside0.mk (below_drew1 HB.out)
     clear HO_302000
     clear HO_302001
     clear HO_303000
     clear HO_303001
     clear HO_323000
     clear HO_323001
     clear HO_331000
     clear HO_331001
     clear BK301
     clear BK302
     clear BK322
     clear BK330
     clear HB
     have HO_302000 := n0_
     have HO_302001 := n1_
     have HO_303000 := n2_
     have HO_303001 := n3_
     have HO_323000 := n4_
     have HO_323001 := n5_
     have HO_331000 := n6_
     have HO_331001 := n7_
     have BK301 := n8_
     have BK302 := n9_
     have BK322 := n10_
     have BK330 := n11_
     have HB := n12_
     clear n0_ n1_ n2_ n3_ n4_ n5_ n6_ n7_ n8_ n9_ n10_ n11_ n12_
     refine start_ (n := 50) (S := fun w' => w'.cell? ⟨gb301, 0, none⟩ = some (.slice Ao17 t303.length co17) ∧ w'.cell? ⟨gb301, 1, none⟩ = some (.slice Ao19 t306.length co19) ∧ w'.cell? ⟨gb322, 0, none⟩ = some (.slice Ao27 t315.length co27) ∧ w'.cell? ⟨gb322, 1, none⟩ = some (.slice Ao31 t318.length co31) ∧ w'.cell? ⟨gb330, 0, none⟩ = some (.slice Ao34 t323.length co34) ∧ w'.cell? ⟨gb330, 1, none⟩ = some (.slice Ao39 t326.length co39) ∧ w'.cell? ⟨gb302, 0, none⟩ = some (.slice Ao21 t309.length co21) ∧ w'.cell? ⟨gb302, 1, none⟩ = some (.slice Ao23 t312.length co23)) (ds := []) #[false, false, false, false, false, false, false, false, false, false, false, false, false, false, false, false, false, false, false, false, false, false, false, false, false, false, false, false, false, false, false, false, false, false, false, false, false, false, false, false, false, false, false, false, false, false, false, false, false, false] (by kernel_rfl) rfl rfl ⟨(blk_cell BK301.out 0).trans rfl, (blk_cell BK301.out 1).trans rfl, (blk_cell BK322.out 0).trans rfl, (blk_cell BK322.out 1).trans rfl, (blk_cell BK330.out 0).trans rfl, (blk_cell BK330.out 1).trans rfl, (blk_cell BK302.out 0).trans rfl, (blk_cell BK302.out 1).trans rfl⟩ (fun hHeld => ?_); refine with_tabW porticolaw4_URLTells.tab11 porticolaw4_URLTells.bits11 (fun HT_ HW_ => ?_)
     generalize w76.drew = w77 at HO_302000 HO_302001 HO_303000 HO_303001 HO_323000 HO_323001 HO_331000 HO_331001 BK301 BK302 BK322 BK330 HB hHeld ⊢
     refine take_ (i := 0) (N := some 65) (v := ?_) (a' := ?_) #[true, false, false, false, false, false, false, false, false, false, false, false, false, false, false, false, false, false, false, false, false, false, false, false, false, false, false, false, false, false, false, false, false, false, false, false, false, false, false, false, false, false, false, false, false, false, false, false, false, false] rfl rfl (take_ofW HT_.out HW_.out (by kernel_rfl)) (fun _ _ _ h => h) (Or.inl ⟨by rfl, ?_⟩) hHeld ?_ ?_
     rotate_left
     ·
      rintro w' ⟨s0, s1, s2, s3, s4, s5, s6, s7⟩
      go_simp
      with_reducible rfl
     rotate_left
     ·
      simp only [Act.put, List.setIfInBounds_toArray, List.set_cons_zero, List.set_cons_succ, i64_w, i32_w]
      rfl
     refine take_ (i := 2) (N := some 67) (v := ?_) (a' := ?_) #[true, false, true, false, false, false, false, false, false, false, false, false, false, false, false, false, false, false, false, false, false, false, false, false, false, false, false, false, false, false, false, false, false, false, false, false, false, false, false, false, false, false, false, false, false, false, false, false, false, false] rfl rfl (take_ofW HT_.out HW_.out (by kernel_rfl)) (fun _ _ _ h => h) (Or.inl ⟨by rfl, ?_⟩) hHeld ?_ ?_
     rotate_left
     ·
      rintro w' ⟨s0, s1, s2, s3, s4, s5, s6, s7⟩
      go_simp
      with_reducible rfl
     rotate_left
     ·
      simp only [Act.put, List.setIfInBounds_toArray, List.set_cons_zero, List.set_cons_succ, i64_w, i32_w]
      rfl
     refine one_ (i := 1) (N := some 66) #[true, true, true, false, false, false, false, false, false, false, false, false, false, false, false, false, false, false, false, false, false, false, false, false, false, false, false, false, false, false, false, false, false, false, false, false, false, false, false, false, false, false, false, false, false, false, false, false, false, false] rfl rfl (one_of HT_.out (by kernel_rfl)) (by decide) (fun K hK => ?_)
     refine goes_ Tryd.func14 (by kernel_rfl) rfl #[.agg #[.slice Ao17 t303.length co17, .slice Ao19 t306.length co19]] (by rfl) rfl rfl (by (try simp only [List.map_toArray, List.map_cons, List.map_nil]); first | done | rfl | (simp only [List.length_drop, List.length_take]; rfl)) ?_
     with_reducible refine (url_Right.calls k1 _ _ t303 _ _ t306 t335 _ ?side1 ?side2 ?side3 ?side4 A55.out).mono ?_
     (case side1 => repeat (first | exact (Kd.R_reads' HO_302000.out).2.2 | (with_reducible refine Kd.C_alloc ?_ _) | (with_reducible refine Kd.C_drewN ?_ _) | (with_reducible refine Kd.C_drew ?_)))
     (case side2 => exact (Kd.R_reads' HO_302000.out).2.1)
     (case side3 => repeat (first | exact (Kd.R_reads' HO_302001.out).2.2 | (with_reducible refine Kd.C_alloc ?_ _) | (with_reducible refine Kd.C_drewN ?_ _) | (with_reducible refine Kd.C_drew ?_)))
     (case side4 => exact (Kd.R_reads' HO_302001.out).2.1)
     rintro e w78 ⟨rfl, hb⟩
     refine ⟨_, rfl, ?_⟩
     have n0_ := Aside0.mk (Kd.R_below (by (with_reducible repeat (first | apply Kd.R_alloc | apply Kd.R_drewN | apply Kd.R_drew)); exact HO_302000.out) hb)
     have n1_ := Aside0.mk (Kd.R_below (by (with_reducible repeat (first | apply Kd.R_alloc | apply Kd.R_drewN | apply Kd.R_drew)); exact HO_302001.out) hb)
     have n2_ := Aside0.mk (Kd.R_below (by (with_reducible repeat (first | apply Kd.R_alloc | apply Kd.R_drewN | apply Kd.R_drew)); exact HO_303000.out) hb)
     have n3_ := Aside0.mk (Kd.R_below (by (with_reducible repeat (first | apply Kd.R_alloc | apply Kd.R_drewN | apply Kd.R_drew)); exact HO_303001.out) hb)
     have n4_ := Aside0.mk (Kd.R_below (by (with_reducible repeat (first | apply Kd.R_alloc | apply Kd.R_drewN | apply Kd.R_drew)); exact HO_323000.out) hb)
     have n5_ := Aside0.mk (Kd.R_below (by (with_reducible repeat (first | apply Kd.R_alloc | apply Kd.R_drewN | apply Kd.R_drew)); exact HO_323001.out) hb)
     have n6_ := Aside0.mk (Kd.R_below (by (with_reducible repeat (first | apply Kd.R_alloc | apply Kd.R_drewN | apply Kd.R_drew)); exact HO_331000.out) hb)
     have n7_ := Aside0.mk (Kd.R_below (by (with_reducible repeat (first | apply Kd.R_alloc | apply Kd.R_drewN | apply Kd.R_drew)); exact HO_331001.out) hb)
     have n8_ := Aside0.mk (blk_below (g := gb301) (o := .cells #[.slice Ao17 t303.length co17, .slice Ao19 t306.length co19] 25 (0, 0)) (by (with_reducible repeat (first | refine blk_drewN ?_ _ | refine blk_drew ?_ | refine blk_alloc ?_ _)); exact BK301.out) hb)
     have n9_ := Aside0.mk (blk_below (g := gb302) (o := .cells #[.slice Ao21 t309.length co21, .slice Ao23 t312.length co23] 25 (0, 0)) (by (with_reducible repeat (first | refine blk_drewN ?_ _ | refine blk_drew ?_ | refine blk_alloc ?_ _)); exact BK302.out) hb)
     have n10_ := Aside0.mk (blk_below (g := gb322) (o := .cells #[.slice Ao27 t315.length co27, .slice Ao31 t318.length co31] 25 (0, 0)) (by (with_reducible repeat (first | refine blk_drewN ?_ _ | refine blk_drew ?_ | refine blk_alloc ?_ _)); exact BK322.out) hb)
     have n11_ := Aside0.mk (blk_below (g := gb330) (o := .cells #[.slice Ao34 t323.length co34, .slice Ao39 t326.length co39] 25 (0, 0)) (by (with_reducible repeat (first | refine blk_drewN ?_ _ | refine blk_drew ?_ | refine blk_alloc ?_ _)); exact BK330.out) hb)
     have n12_ := Aside0.mk (below_step (by repeat (first | (with_reducible first | exact HB.out | apply below_alloc | apply pw_below_drewN | apply below_drew1 | refine below_set ?_ GE301.out | refine below_set ?_ GE302.out | refine below_set ?_ GE322.out | refine below_set ?_ GE330.out) | exact HB.out)) hb)
     clear HO_302000
     clear HO_302001
     clear HO_303000
     clear HO_303001
     clear HO_323000
     clear HO_323001
     clear HO_331000
     clear HO_331001
     clear BK301
     clear BK302
     clear BK322
     clear BK330
     clear HB
     have HO_302000 := n0_
     have HO_302001 := n1_
     have HO_303000 := n2_
     have HO_303001 := n3_
     have HO_323000 := n4_
     have HO_323001 := n5_
     have HO_331000 := n6_
     have HO_331001 := n7_
     have BK301 := n8_
     have BK302 := n9_
     have BK322 := n10_
     have BK330 := n11_
     have HB := n12_
     clear n0_ n1_ n2_ n3_ n4_ n5_ n6_ n7_ n8_ n9_ n10_ n11_ n12_
     (try clear hb)
     (try clear hb2)
     (try clear hk)
     (try clear hi)
     refine hK.out _ _ ⟨(blk_cell BK301.out 0).trans rfl, (blk_cell BK301.out 1).trans rfl, (blk_cell BK322.out 0).trans rfl, (blk_cell BK322.out 1).trans rfl, (blk_cell BK330.out 0).trans rfl, (blk_cell BK330.out 1).trans rfl, (blk_cell BK302.out 0).trans rfl, (blk_cell BK302.out 1).trans rfl⟩ (fun hHeld => ?_)
     clear hK K
     refine norm_ (a' := ?_) ?_ ?_
     rotate_left
     ·
      show Act.put _ (some 66) _ = _
      simp only [Act.put, List.setIfInBounds_toArray, List.set_cons_zero, List.set_cons_succ, i64_w, i32_w]
      rfl
     refine one_ (i := 3) (N := some 68) #[true, true, true, true, false, false, false, false, false, false, false, false, false, false, false, false, false, false, false, false, false, false, false, false, false, false, false, false, false, false, false, false, false, false, false, false, false, false, false, false, false, false, false, false, false, false, false, false, false, false] rfl rfl (one_of HT_.out (by kernel_rfl)) (by decide) (fun K hK => ?_)
     refine goes_ Tryd.func20 (by kernel_rfl) rfl #[.agg #[.slice Ao17 t303.length co17, .slice Ao19 t306.length co19]] (by rfl) rfl rfl (by (try simp only [List.map_toArray, List.map_cons, List.map_nil]); first | done | rfl | (simp only [List.length_drop, List.length_take]; rfl)) ?_
     with_reducible refine (porticoref3_Right.calls k1 _ _ t303 _ _ t306 t336 _ ?side1 ?side2 ?side3 ?side4 A56.out).mono ?_
     (case side1 => repeat (first | exact (Kd.R_reads' HO_302000.out).2.2 | (with_reducible refine Kd.C_alloc ?_ _) | (with_reducible refine Kd.C_drewN ?_ _) | (with_reducible refine Kd.C_drew ?_)))
     (case side2 => exact (Kd.R_reads' HO_302000.out).2.1)
     (case side3 => repeat (first | exact (Kd.R_reads' HO_302001.out).2.2 | (with_reducible refine Kd.C_alloc ?_ _) | (with_reducible refine Kd.C_drewN ?_ _) | (with_reducible refine Kd.C_drew ?_)))
     (case side4 => exact (Kd.R_reads' HO_302001.out).2.1)
     rintro e w79 ⟨rfl, hb⟩
     refine ⟨_, rfl, ?_⟩
     have n0_ := Aside0.mk (Kd.R_below (by (with_reducible repeat (first | apply Kd.R_alloc | apply Kd.R_drewN | apply Kd.R_drew)); exact HO_302000.out) hb)
     have n1_ := Aside0.mk (Kd.R_below (by (with_reducible repeat (first | apply Kd.R_alloc | apply Kd.R_drewN | apply Kd.R_drew)); exact HO_302001.out) hb)
     have n2_ := Aside0.mk (Kd.R_below (by (with_reducible repeat (first | apply Kd.R_alloc | apply Kd.R_drewN | apply Kd.R_drew)); exact HO_303000.out) hb)
     have n3_ := Aside0.mk (Kd.R_below (by (with_reducible repeat (first | apply Kd.R_alloc | apply Kd.R_drewN | apply Kd.R_drew)); exact HO_303001.out) hb)
     have n4_ := Aside0.mk (Kd.R_below (by (with_reducible repeat (first | apply Kd.R_alloc | apply Kd.R_drewN | apply Kd.R_drew)); exact HO_323000.out) hb)
     have n5_ := Aside0.mk (Kd.R_below (by (with_reducible repeat (first | apply Kd.R_alloc | apply Kd.R_drewN | apply Kd.R_drew)); exact HO_323001.out) hb)
     have n6_ := Aside0.mk (Kd.R_below (by (with_reducible repeat (first | apply Kd.R_alloc | apply Kd.R_drewN | apply Kd.R_drew)); exact HO_331000.out) hb)
     have n7_ := Aside0.mk (Kd.R_below (by (with_reducible repeat (first | apply Kd.R_alloc | apply Kd.R_drewN | apply Kd.R_drew)); exact HO_331001.out) hb)
     have n8_ := Aside0.mk (blk_below (g := gb301) (o := .cells #[.slice Ao17 t303.length co17, .slice Ao19 t306.length co19] 25 (0, 0)) (by (with_reducible repeat (first | refine blk_drewN ?_ _ | refine blk_drew ?_ | refine blk_alloc ?_ _)); exact BK301.out) hb)
     have n9_ := Aside0.mk (blk_below (g := gb302) (o := .cells #[.slice Ao21 t309.length co21, .slice Ao23 t312.length co23] 25 (0, 0)) (by (with_reducible repeat (first | refine blk_drewN ?_ _ | refine blk_drew ?_ | refine blk_alloc ?_ _)); exact BK302.out) hb)
     have n10_ := Aside0.mk (blk_below (g := gb322) (o := .cells #[.slice Ao27 t315.length co27, .slice Ao31 t318.length co31] 25 (0, 0)) (by (with_reducible repeat (first | refine blk_drewN ?_ _ | refine blk_drew ?_ | refine blk_alloc ?_ _)); exact BK322.out) hb)
     have n11_ := Aside0.mk (blk_below (g := gb330) (o := .cells #[.slice Ao34 t323.length co34, .slice Ao39 t326.length co39] 25 (0, 0)) (by (with_reducible repeat (first | refine blk_drewN ?_ _ | refine blk_drew ?_ | refine blk_alloc ?_ _)); exact BK330.out) hb)
     have n12_ := Aside0.mk (below_step (by repeat (first | (with_reducible first | exact HB.out | apply below_alloc | apply pw_below_drewN | apply below_drew1 | refine below_set ?_ GE301.out | refine below_set ?_ GE302.out | refine below_set ?_ GE322.out | refine below_set ?_ GE330.out) | exact HB.out)) hb)
     clear HO_302000
     clear HO_302001
     clear HO_303000
     clear HO_303001
     clear HO_323000
     clear HO_323001
     clear HO_331000
     clear HO_331001
     clear BK301
     clear BK302
     clear BK322
     clear BK330
     clear HB
     have HO_302000 := n0_
     have HO_302001 := n1_
     have HO_303000 := n2_
     have HO_303001 := n3_
     have HO_323000 := n4_
     have HO_323001 := n5_
     have HO_331000 := n6_
     have HO_331001 := n7_
     have BK301 := n8_
     have BK302 := n9_
     have BK322 := n10_
     have BK330 := n11_
     have HB := n12_
     clear n0_ n1_ n2_ n3_ n4_ n5_ n6_ n7_ n8_ n9_ n10_ n11_ n12_
     (try clear hb)
     (try clear hb2)
     (try clear hk)
     (try clear hi)
     refine hK.out _ _ ⟨(blk_cell BK301.out 0).trans rfl, (blk_cell BK301.out 1).trans rfl, (blk_cell BK322.out 0).trans rfl, (blk_cell BK322.out 1).trans rfl, (blk_cell BK330.out 0).trans rfl, (blk_cell BK330.out 1).trans rfl, (blk_cell BK302.out 0).trans rfl, (blk_cell BK302.out 1).trans rfl⟩ (fun hHeld => ?_)
     clear hK K
     refine norm_ (a' := ?_) ?_ ?_
     rotate_left
     ·
      show Act.put _ (some 68) _ = _
      simp only [Act.put, List.setIfInBounds_toArray, List.set_cons_zero, List.set_cons_succ, i64_w, i32_w]
      rfl
     refine pure_ (i := 4) (N := some 69) (v := ?_) (a' := ?_) #[true, true, true, true, true, false, false, false, false, false, false, false, false, false, false, false, false, false, false, false, false, false, false, false, false, false, false, false, false, false, false, false, false, false, false, false, false, false, false, false, false, false, false, false, false, false, false, false, false, false] rfl rfl (any_of HT_.out (by kernel_rfl)) (fun _ _ _ h => h) (Or.inl ⟨by rfl, ?_⟩) ?_ ?_
     rotate_left
     ·
      intro w'
      go_simp
      with_reducible rfl
     rotate_left
     ·
      simp only [Act.put, List.setIfInBounds_toArray, List.set_cons_zero, List.set_cons_succ, i64_w, i32_w]
      rfl
     refine pure_ (i := 5) (N := some 70) (v := ?_) (a' := ?_) #[true, true, true, true, true, true, false, false, false, false, false, false, false, false, false, false, false, false, false, false, false, false, false, false, false, false, false, false, false, false, false, false, false, false, false, false, false, false, false, false, false, false, false, false, false, false, false, false, false, false] rfl rfl (any_of HT_.out (by kernel_rfl)) (fun _ _ _ h => h) (Or.inl ⟨by rfl, ?_⟩) ?_ ?_
     rotate_left
     ·
      intro w'
      go_simp
      with_reducible rfl
     rotate_left
     ·
      simp only [Act.put, List.setIfInBounds_toArray, List.set_cons_zero, List.set_cons_succ, i64_w, i32_w]
      rfl
     refine take_ (i := 6) (N := some 71) (v := ?_) (a' := ?_) #[true, true, true, true, true, true, true, false, false, false, false, false, false, false, false, false, false, false, false, false, false, false, false, false, false, false, false, false, false, false, false, false, false, false, false, false, false, false, false, false, false, false, false, false, false, false, false, false, false, false] rfl rfl (take_ofW HT_.out HW_.out (by kernel_rfl)) (fun _ _ _ h => h) (Or.inl ⟨by rfl, ?_⟩) hHeld ?_ ?_
     rotate_left
     ·
      rintro w' ⟨s0, s1, s2, s3, s4, s5, s6, s7⟩
      go_simp
      with_reducible rfl
     rotate_left
     ·
      simp only [Act.put, List.setIfInBounds_toArray, List.set_cons_zero, List.set_cons_succ, i64_w, i32_w]
      rfl
     refine take_ (i := 8) (N := some 73) (v := ?_) (a' := ?_) #[true, true, true, true, true, true, true, false, true, false, false, false, false, false, false, false, false, false, false, false, false, false, false, false, false, false, false, false, false, false, false, false, false, false, false, false, false, false, false, false, false, false, false, false, false, false, false, false, false, false] rfl rfl (take_ofW HT_.out HW_.out (by kernel_rfl)) (fun _ _ _ h => h) (Or.inl ⟨by rfl, ?_⟩) hHeld ?_ ?_
     rotate_left
     ·
      rintro w' ⟨s0, s1, s2, s3, s4, s5, s6, s7⟩
      go_simp
      with_reducible rfl
     rotate_left
     ·
      simp only [Act.put, List.setIfInBounds_toArray, List.set_cons_zero, List.set_cons_succ, i64_w, i32_w]
      rfl
     refine one_ (i := 7) (N := some 72) #[true, true, true, true, true, true, true, true, true, false, false, false, false, false, false, false, false, false, false, false, false, false, false, false, false, false, false, false, false, false, false, false, false, false, false, false, false, false, false, false, false, false, false, false, false, false, false, false, false, false] rfl rfl (one_of HT_.out (by kernel_rfl)) (by decide) (fun K hK => ?_)
     refine goes_ Tryd.func12 (by kernel_rfl) rfl #[.agg #[.slice Ao17 t303.length co17, .slice Ao19 t306.length co19]] (by rfl) rfl rfl (by (try simp only [List.map_toArray, List.map_cons, List.map_nil]); first | done | rfl | (simp only [List.length_drop, List.length_take]; rfl)) ?_
     with_reducible refine (url_Print.calls _ _ t303 _ _ t306 t337 _ ?side1 ?side2 ?side3 ?side4 A58.out).mono ?_
     (case side1 => repeat (first | exact (Kd.R_reads' HO_302000.out).2.2 | (with_reducible refine Kd.C_alloc ?_ _) | (with_reducible refine Kd.C_drewN ?_ _) | (with_reducible refine Kd.C_drew ?_)))
     (case side2 => exact (Kd.R_reads' HO_302000.out).2.1)
     (case side3 => repeat (first | exact (Kd.R_reads' HO_302001.out).2.2 | (with_reducible refine Kd.C_alloc ?_ _) | (with_reducible refine Kd.C_drewN ?_ _) | (with_reducible refine Kd.C_drew ?_)))
     (case side4 => exact (Kd.R_reads' HO_302001.out).2.1)
     rintro e w80 ⟨rfl, hb⟩
     refine ⟨_, rfl, ?_⟩
     have n0_ := Aside0.mk (Kd.R_below (by (with_reducible repeat (first | apply Kd.R_alloc | apply Kd.R_drewN | apply Kd.R_drew)); exact HO_302000.out) hb)
     have n1_ := Aside0.mk (Kd.R_below (by (with_reducible repeat (first | apply Kd.R_alloc | apply Kd.R_drewN | apply Kd.R_drew)); exact HO_302001.out) hb)
     have n2_ := Aside0.mk (Kd.R_below (by (with_reducible repeat (first | apply Kd.R_alloc | apply Kd.R_drewN | apply Kd.R_drew)); exact HO_303000.out) hb)
     have n3_ := Aside0.mk (Kd.R_below (by (with_reducible repeat (first | apply Kd.R_alloc | apply Kd.R_drewN | apply Kd.R_drew)); exact HO_303001.out) hb)
     have n4_ := Aside0.mk (Kd.R_below (by (with_reducible repeat (first | apply Kd.R_alloc | apply Kd.R_drewN | apply Kd.R_drew)); exact HO_323000.out) hb)
     have n5_ := Aside0.mk (Kd.R_below (by (with_reducible repeat (first | apply Kd.R_alloc | apply Kd.R_drewN | apply Kd.R_drew)); exact HO_323001.out) hb)
     have n6_ := Aside0.mk (Kd.R_below (by (with_reducible repeat (first | apply Kd.R_alloc | apply Kd.R_drewN | apply Kd.R_drew)); exact HO_331000.out) hb)
     have n7_ := Aside0.mk (Kd.R_below (by (with_reducible repeat (first | apply Kd.R_alloc | apply Kd.R_drewN | apply Kd.R_drew)); exact HO_331001.out) hb)
     have n8_ := Aside0.mk (blk_below (g := gb301) (o := .cells #[.slice Ao17 t303.length co17, .slice Ao19 t306.length co19] 25 (0, 0)) (by (with_reducible repeat (first | refine blk_drewN ?_ _ | refine blk_drew ?_ | refine blk_alloc ?_ _)); exact BK301.out) hb)
     have n9_ := Aside0.mk (blk_below (g := gb302) (o := .cells #[.slice Ao21 t309.length co21, .slice Ao23 t312.length co23] 25 (0, 0)) (by (with_reducible repeat (first | refine blk_drewN ?_ _ | refine blk_drew ?_ | refine blk_alloc ?_ _)); exact BK302.out) hb)
     have n10_ := Aside0.mk (blk_below (g := gb322) (o := .cells #[.slice Ao27 t315.length co27, .slice Ao31 t318.length co31] 25 (0, 0)) (by (with_reducible repeat (first | refine blk_drewN ?_ _ | refine blk_drew ?_ | refine blk_alloc ?_ _)); exact BK322.out) hb)
     have n11_ := Aside0.mk (blk_below (g := gb330) (o := .cells #[.slice Ao34 t323.length co34, .slice Ao39 t326.length co39] 25 (0, 0)) (by (with_reducible repeat (first | refine blk_drewN ?_ _ | refine blk_drew ?_ | refine blk_alloc ?_ _)); exact BK330.out) hb)
     have n12_ := Aside0.mk (below_step (by repeat (first | (with_reducible first | exact HB.out | apply below_alloc | apply pw_below_drewN | apply below_drew1 | refine below_set ?_ GE301.out | refine below_set ?_ GE302.out | refine below_set ?_ GE322.out | refine below_set ?_ GE330.out) | exact HB.out)) hb)
     clear HO_302000
     clear HO_302001
     clear HO_303000
     clear HO_303001
     clear HO_323000
     clear HO_323001
     clear HO_331000
     clear HO_331001
     clear BK301
     clear BK302
     clear BK322
     clear BK330
     clear HB
     have HO_302000 := n0_
     have HO_302001 := n1_
     have HO_303000 := n2_
     have HO_303001 := n3_
     have HO_323000 := n4_
     have HO_323001 := n5_
     have HO_331000 := n6_
     have HO_331001 := n7_
     have BK301 := n8_
     have BK302 := n9_
     have BK322 := n10_
     have BK330 := n11_
     have HB := n12_
     clear n0_ n1_ n2_ n3_ n4_ n5_ n6_ n7_ n8_ n9_ n10_ n11_ n12_
     (try clear hb)
     (try clear hb2)
     (try clear hk)
     (try clear hi)
     refine hK.out _ _ ⟨(blk_cell BK301.out 0).trans rfl, (blk_cell BK301.out 1).trans rfl, (blk_cell BK322.out 0).trans rfl, (blk_cell BK322.out 1).trans rfl, (blk_cell BK330.out 0).trans rfl, (blk_cell BK330.out 1).trans rfl, (blk_cell BK302.out 0).trans rfl, (blk_cell BK302.out 1).trans rfl⟩ (fun hHeld => ?_)
     clear hK K
     refine norm_ (a' := ?_) ?_ ?_
     rotate_left
     ·
      show Act.put _ (some 72) _ = _
      simp only [Act.put, List.setIfInBounds_toArray, List.set_cons_zero, List.set_cons_succ, i64_w, i32_w]
      rfl
     refine one_ (i := 9) (N := some 74) #[true, true, true, true, true, true, true, true, true, true, false, false, false, false, false, false, false, false, false, false, false, false, false, false, false, false, false, false, false, false, false, false, false, false, false, false, false, false, false, false, false, false, false, false, false, false, false, false, false, false] rfl rfl (one_of HT_.out (by kernel_rfl)) (by decide) (fun K hK => ?_)
     refine goes_ Tryd.func21 (by kernel_rfl) rfl #[.agg #[.slice Ao17 t303.length co17, .slice Ao19 t306.length co19]] (by rfl) rfl rfl (by (try simp only [List.map_toArray, List.map_cons, List.map_nil]); first | done | rfl | (simp only [List.length_drop, List.length_take]; rfl)) ?_
     with_reducible refine (porticoref3_Print.calls k1 _ _ t303 _ _ t306 t338 _ ?side1 ?side2 ?side3 ?side4 A59.out).mono ?_
     (case side1 => repeat (first | exact (Kd.R_reads' HO_302000.out).2.2 | (with_reducible refine Kd.C_alloc ?_ _) | (with_reducible refine Kd.C_drewN ?_ _) | (with_reducible refine Kd.C_drew ?_)))
     (case side2 => exact (Kd.R_reads' HO_302000.out).2.1)
     (case side3 => repeat (first | exact (Kd.R_reads' HO_302001.out).2.2 | (with_reducible refine Kd.C_alloc ?_ _) | (with_reducible refine Kd.C_drewN ?_ _) | (with_reducible refine Kd.C_drew ?_)))
     (case side4 => exact (Kd.R_reads' HO_302001.out).2.1)
     rintro e w81 ⟨rfl, hb⟩
     refine ⟨_, rfl, ?_⟩
     have n0_ := Aside0.mk (Kd.R_below (by (with_reducible repeat (first | apply Kd.R_alloc | apply Kd.R_drewN | apply Kd.R_drew)); exact HO_302000.out) hb)
     have n1_ := Aside0.mk (Kd.R_below (by (with_reducible repeat (first | apply Kd.R_alloc | apply Kd.R_drewN | apply Kd.R_drew)); exact HO_302001.out) hb)
     have n2_ := Aside0.mk (Kd.R_below (by (with_reducible repeat (first | apply Kd.R_alloc | apply Kd.R_drewN | apply Kd.R_drew)); exact HO_303000.out) hb)
     have n3_ := Aside0.mk (Kd.R_below (by (with_reducible repeat (first | apply Kd.R_alloc | apply Kd.R_drewN | apply Kd.R_drew)); exact HO_303001.out) hb)
     have n4_ := Aside0.mk (Kd.R_below (by (with_reducible repeat (first | apply Kd.R_alloc | apply Kd.R_drewN | apply Kd.R_drew)); exact HO_323000.out) hb)
     have n5_ := Aside0.mk (Kd.R_below (by (with_reducible repeat (first | apply Kd.R_alloc | apply Kd.R_drewN | apply Kd.R_drew)); exact HO_323001.out) hb)
     have n6_ := Aside0.mk (Kd.R_below (by (with_reducible repeat (first | apply Kd.R_alloc | apply Kd.R_drewN | apply Kd.R_drew)); exact HO_331000.out) hb)
     have n7_ := Aside0.mk (Kd.R_below (by (with_reducible repeat (first | apply Kd.R_alloc | apply Kd.R_drewN | apply Kd.R_drew)); exact HO_331001.out) hb)
     have n8_ := Aside0.mk (blk_below (g := gb301) (o := .cells #[.slice Ao17 t303.length co17, .slice Ao19 t306.length co19] 25 (0, 0)) (by (with_reducible repeat (first | refine blk_drewN ?_ _ | refine blk_drew ?_ | refine blk_alloc ?_ _)); exact BK301.out) hb)
     have n9_ := Aside0.mk (blk_below (g := gb302) (o := .cells #[.slice Ao21 t309.length co21, .slice Ao23 t312.length co23] 25 (0, 0)) (by (with_reducible repeat (first | refine blk_drewN ?_ _ | refine blk_drew ?_ | refine blk_alloc ?_ _)); exact BK302.out) hb)
     have n10_ := Aside0.mk (blk_below (g := gb322) (o := .cells #[.slice Ao27 t315.length co27, .slice Ao31 t318.length co31] 25 (0, 0)) (by (with_reducible repeat (first | refine blk_drewN ?_ _ | refine blk_drew ?_ | refine blk_alloc ?_ _)); exact BK322.out) hb)
     have n11_ := Aside0.mk (blk_below (g := gb330) (o := .cells #[.slice Ao34 t323.length co34, .slice Ao39 t326.length co39] 25 (0, 0)) (by (with_reducible repeat (first | refine blk_drewN ?_ _ | refine blk_drew ?_ | refine blk_alloc ?_ _)); exact BK330.out) hb)
     have n12_ := Aside0.mk (below_step (by repeat (first | (with_reducible first | exact HB.out | apply below_alloc | apply pw_below_drewN | apply below_drew1 | refine below_set ?_ GE301.out | refine below_set ?_ GE302.out | refine below_set ?_ GE322.out | refine below_set ?_ GE330.out) | exact HB.out)) hb)
     clear HO_302000
     clear HO_302001
     clear HO_303000
     clear HO_303001
     clear HO_323000
     clear HO_323001
     clear HO_331000
     clear HO_331001
     clear BK301
     clear BK302
     clear BK322
     clear BK330
     clear HB
     have HO_302000 := n0_
     have HO_302001 := n1_
     have HO_303000 := n2_
     have HO_303001 := n3_
     have HO_323000 := n4_
     have HO_323001 := n5_
     have HO_331000 := n6_
     have HO_331001 := n7_
     have BK301 := n8_
     have BK302 := n9_
     have BK322 := n10_
     have BK330 := n11_
     have HB := n12_
     clear n0_ n1_ n2_ n3_ n4_ n5_ n6_ n7_ n8_ n9_ n10_ n11_ n12_
     (try clear hb)
     (try clear hb2)
     (try clear hk)
     (try clear hi)
     refine hK.out _ _ ⟨(blk_cell BK301.out 0).trans rfl, (blk_cell BK301.out 1).trans rfl, (blk_cell BK322.out 0).trans rfl, (blk_cell BK322.out 1).trans rfl, (blk_cell BK330.out 0).trans rfl, (blk_cell BK330.out 1).trans rfl, (blk_cell BK302.out 0).trans rfl, (blk_cell BK302.out 1).trans rfl⟩ (fun hHeld => ?_)
     clear hK K
     refine norm_ (a' := ?_) ?_ ?_
     rotate_left
     ·
      show Act.put _ (some 74) _ = _
      simp only [Act.put, List.setIfInBounds_toArray, List.set_cons_zero, List.set_cons_succ, i64_w, i32_w]
      rfl
     refine pure_ (i := 10) (N := some 75) (v := ?_) (a' := ?_) #[true, true, true, true, true, true, true, true, true, true, true, false, false, false, false, false, false, false, false, false, false, false, false, false, false, false, false, false, false, false, false, false, false, false, false, false, false, false, false, false, false, false, false, false, false, false, false, false, false, false] rfl rfl (any_of HT_.out (by kernel_rfl)) (fun _ _ _ h => h) (Or.inl ⟨by rfl, ?_⟩) ?_ ?_
     rotate_left
     ·
      intro w'
      go_simp
      with_reducible rfl
     rotate_left
     ·
      simp only [Act.put, List.setIfInBounds_toArray, List.set_cons_zero, List.set_cons_succ, i64_w, i32_w]
      rfl
     refine pure_ (i := 11) (N := some 76) (v := ?_) (a' := ?_) #[true, true, true, true, true, true, true, true, true, true, true, true, false, false, false, false, false, false, false, false, false, false, false, false, false, false, false, false, false, false, false, false, false, false, false, false, false, false, false, false, false, false, false, false, false, false, false, false, false, false] rfl rfl (any_of HT_.out (by kernel_rfl)) (fun _ _ _ h => h) (Or.inl ⟨by rfl, ?_⟩) ?_ ?_
     rotate_left
     ·
      intro w'
      go_simp
      with_reducible rfl
     rotate_left
     ·
      simp only [Act.put, List.setIfInBounds_toArray, List.set_cons_zero, List.set_cons_succ, i64_w, i32_w]
      rfl
     refine pure_ (i := 12) (N := some 77) (v := ?_) (a' := ?_) #[true, true, true, true, true, true, true, true, true, true, true, true, true, false, false, false, false, false, false, false, false, false, false, false, false, false, false, false, false, false, false, false, false, false, false, false, false, false, false, false, false, false, false, false, false, false, false, false, false, false] rfl rfl (any_of HT_.out (by kernel_rfl)) (fun _ _ _ h => h) (Or.inl ⟨by rfl, ?_⟩) ?_ ?_
     rotate_left
     ·
      intro w'
      go_simp
      with_reducible rfl
     rotate_left
     ·
      simp only [Act.put, List.setIfInBounds_toArray, List.set_cons_zero, List.set_cons_succ, i64_w, i32_w]
      rfl
     refine take_ (i := 13) (N := some 78) (v := ?_) (a' := ?_) #[true, true, true, true, true, true, true, true, true, true, true, true, true, true, false, false, false, false, false, false, false, false, false, false, false, false, false, false, false, false, false, false, false, false, false, false, false, false, false, false, false, false, false, false, false, false, false, false, false, false] rfl rfl (take_ofW HT_.out HW_.out (by kernel_rfl)) (fun _ _ _ h => h) (Or.inl ⟨by rfl, ?_⟩) hHeld ?_ ?_
     rotate_left
     ·
      rintro w' ⟨s0, s1, s2, s3, s4, s5, s6, s7⟩
      go_simp
      with_reducible rfl
     rotate_left
     ·
      simp only [Act.put, List.setIfInBounds_toArray, List.set_cons_zero, List.set_cons_succ, i64_w, i32_w]
      rfl
     refine take_ (i := 14) (N := some 79) (v := ?_) (a' := ?_) #[true, true, true, true, true, true, true, true, true, true, true, true, true, true, true, false, false, false, false, false, false, false, false, false, false, false, false, false, false, false, false, false, false, false, false, false, false, false, false, false, false, false, false, false, false, false, false, false, false, false] rfl rfl (take_ofW HT_.out HW_.out (by kernel_rfl)) (fun _ _ _ h => h) (Or.inl ⟨by rfl, ?_⟩) hHeld ?_ ?_
     rotate_left
     ·
      rintro w' ⟨s0, s1, s2, s3, s4, s5, s6, s7⟩
      go_simp
      with_reducible rfl
     rotate_left
     ·
      simp only [Act.put, List.setIfInBounds_toArray, List.set_cons_zero, List.set_cons_succ, i64_w, i32_w]
      rfl
     refine one_ (i := 15) (N := some 80) #[true, true, true, true, true, true, true, true, true, true, true, true, true, true, true, true, false, false, false, false, false, false, false, false, false, false, false, false, false, false, false, false, false, false, false, false, false, false, false, false, false, false, false, false, false, false, false, false, false, false] rfl rfl (one_of HT_.out (by kernel_rfl)) (by decide) (fun K hK => ?_)
     refine goes_ Tryd.func15 (by kernel_rfl) rfl #[.agg #[.slice Ao27 t315.length co27, .slice Ao31 t318.length co31], .agg #[.slice Ao34 t323.length co34, .slice Ao39 t326.length co39]] (by rfl) rfl rfl (by (try simp only [List.map_toArray, List.map_cons, List.map_nil]); first | done | rfl | (simp only [List.length_drop, List.length_take]; rfl)) ?_
     with_reducible refine (porticolaw4_equal.calls k1 _ _ t315 _ _ t318 _ _ t323 _ _ t326 true _ ?side1 ?side2 ?side3 ?side4 ?side5 ?side6 ?side7 ?side8 A61.out).mono ?_
     (case side1 => repeat (first | exact (Kd.R_reads' HO_323000.out).2.2 | (with_reducible refine Kd.C_alloc ?_ _) | (with_reducible refine Kd.C_drewN ?_ _) | (with_reducible refine Kd.C_drew ?_)))
     (case side2 => exact (Kd.R_reads' HO_323000.out).2.1)
     (case side3 => repeat (first | exact (Kd.R_reads' HO_323001.out).2.2 | (with_reducible refine Kd.C_alloc ?_ _) | (with_reducible refine Kd.C_drewN ?_ _) | (with_reducible refine Kd.C_drew ?_)))
     (case side4 => exact (Kd.R_reads' HO_323001.out).2.1)
     (case side5 => repeat (first | exact (Kd.R_reads' HO_331000.out).2.2 | (with_reducible refine Kd.C_alloc ?_ _) | (with_reducible refine Kd.C_drewN ?_ _) | (with_reducible refine Kd.C_drew ?_)))
     (case side6 => exact (Kd.R_reads' HO_331000.out).2.1)
     (case side7 => repeat (first | exact (Kd.R_reads' HO_331001.out).2.2 | (with_reducible refine Kd.C_alloc ?_ _) | (with_reducible refine Kd.C_drewN ?_ _) | (with_reducible refine Kd.C_drew ?_)))
     (case side8 => exact (Kd.R_reads' HO_331001.out).2.1)
     rintro e w82 ⟨rfl, hb⟩
     refine ⟨_, rfl, ?_⟩
     have n0_ := Aside0.mk (Kd.R_below (by (with_reducible repeat (first | apply Kd.R_alloc | apply Kd.R_drewN | apply Kd.R_drew)); exact HO_302000.out) hb)
     have n1_ := Aside0.mk (Kd.R_below (by (with_reducible repeat (first | apply Kd.R_alloc | apply Kd.R_drewN | apply Kd.R_drew)); exact HO_302001.out) hb)
     have n2_ := Aside0.mk (Kd.R_below (by (with_reducible repeat (first | apply Kd.R_alloc | apply Kd.R_drewN | apply Kd.R_drew)); exact HO_303000.out) hb)
     have n3_ := Aside0.mk (Kd.R_below (by (with_reducible repeat (first | apply Kd.R_alloc | apply Kd.R_drewN | apply Kd.R_drew)); exact HO_303001.out) hb)
     have n4_ := Aside0.mk (Kd.R_below (by (with_reducible repeat (first | apply Kd.R_alloc | apply Kd.R_drewN | apply Kd.R_drew)); exact HO_323000.out) hb)
     have n5_ := Aside0.mk (Kd.R_below (by (with_reducible repeat (first | apply Kd.R_alloc | apply Kd.R_drewN | apply Kd.R_drew)); exact HO_323001.out) hb)
     have n6_ := Aside0.mk (Kd.R_below (by (with_reducible repeat (first | apply Kd.R_alloc | apply Kd.R_drewN | apply Kd.R_drew)); exact HO_331000.out) hb)
     have n7_ := Aside0.mk (Kd.R_below (by (with_reducible repeat (first | apply Kd.R_alloc | apply Kd.R_drewN | apply Kd.R_drew)); exact HO_331001.out) hb)
     have n8_ := Aside0.mk (blk_below (g := gb301) (o := .cells #[.slice Ao17 t303.length co17, .slice Ao19 t306.length co19] 25 (0, 0)) (by (with_reducible repeat (first | refine blk_drewN ?_ _ | refine blk_drew ?_ | refine blk_alloc ?_ _)); exact BK301.out) hb)
     have n9_ := Aside0.mk (blk_below (g := gb302) (o := .cells #[.slice Ao21 t309.length co21, .slice Ao23 t312.length co23] 25 (0, 0)) (by (with_reducible repeat (first | refine blk_drewN ?_ _ | refine blk_drew ?_ | refine blk_alloc ?_ _)); exact BK302.out) hb)
     have n10_ := Aside0.mk (blk_below (g := gb322) (o := .cells #[.slice Ao27 t315.length co27, .slice Ao31 t318.length co31] 25 (0, 0)) (by (with_reducible repeat (first | refine blk_drewN ?_ _ | refine blk_drew ?_ | refine blk_alloc ?_ _)); exact BK322.out) hb)
     have n11_ := Aside0.mk (blk_below (g := gb330) (o := .cells #[.slice Ao34 t323.length co34, .slice Ao39 t326.length co39] 25 (0, 0)) (by (with_reducible repeat (first | refine blk_drewN ?_ _ | refine blk_drew ?_ | refine blk_alloc ?_ _)); exact BK330.out) hb)
     have n12_ := Aside0.mk (below_step (by repeat (first | (with_reducible first | exact HB.out | apply below_alloc | apply pw_below_drewN | apply below_drew1 | refine below_set ?_ GE301.out | refine below_set ?_ GE302.out | refine below_set ?_ GE322.out | refine below_set ?_ GE330.out) | exact HB.out)) hb)
     clear HO_302000
     clear HO_302001
     clear HO_303000
     clear HO_303001
     clear HO_323000
     clear HO_323001
     clear HO_331000
     clear HO_331001
     clear BK301
     clear BK302
     clear BK322
     clear BK330
     clear HB
     have HO_302000 := n0_
     have HO_302001 := n1_
     have HO_303000 := n2_
     have HO_303001 := n3_
     have HO_323000 := n4_
     have HO_323001 := n5_
     have HO_331000 := n6_
     have HO_331001 := n7_
     have BK301 := n8_
     have BK302 := n9_
     have BK322 := n10_
     have BK330 := n11_
     have HB := n12_
     clear n0_ n1_ n2_ n3_ n4_ n5_ n6_ n7_ n8_ n9_ n10_ n11_ n12_
     (try clear hb)
     (try clear hb2)
     (try clear hk)
     (try clear hi)
     refine hK.out _ _ ⟨(blk_cell BK301.out 0).trans rfl, (blk_cell BK301.out 1).trans rfl, (blk_cell BK322.out 0).trans rfl, (blk_cell BK322.out 1).trans rfl, (blk_cell BK330.out 0).trans rfl, (blk_cell BK330.out 1).trans rfl, (blk_cell BK302.out 0).trans rfl, (blk_cell BK302.out 1).trans rfl⟩ (fun hHeld => ?_)
     clear hK K
     refine norm_ (a' := ?_) ?_ ?_
     rotate_left
     ·
      show Act.put _ (some 80) _ = _
      simp only [Act.put, List.setIfInBounds_toArray, List.set_cons_zero, List.set_cons_succ, i64_w, i32_w]
      rfl
     refine pure_ (i := 16) (N := some 81) (v := ?_) (a' := ?_) #[true, true, true, true, true, true, true, true, true, true, true, true, true, true, true, true, true, false, false, false, false, false, false, false, false, false, false, false, false, false, false, false, false, false, false, false, false, false, false, false, false, false, false, false, false, false, false, false, false, false] rfl rfl (any_of HT_.out (by kernel_rfl)) (fun _ _ _ h => h) (Or.inl ⟨by rfl, ?_⟩) ?_ ?_
     rotate_left
     ·
      intro w'
      go_simp
      with_reducible rfl
     rotate_left
     ·
      simp only [Act.put, List.setIfInBounds_toArray, List.set_cons_zero, List.set_cons_succ, i64_w, i32_w]
      rfl
     refine pure_ (i := 17) (N := some 82) (v := ?_) (a' := ?_) #[true, true, true, true, true, true, true, true, true, true, true, true, true, true, true, true, true, true, false, false, false, false, false, false, false, false, false, false, false, false, false, false, false, false, false, false, false, false, false, false, false, false, false, false, false, false, false, false, false, false] rfl rfl (any_of HT_.out (by kernel_rfl)) (fun _ _ _ h => h) (Or.inl ⟨by rfl, ?_⟩) ?_ ?_
     rotate_left
     ·
      intro w'
      go_simp
      with_reducible rfl
     rotate_left
     ·
      simp only [Act.put, List.setIfInBounds_toArray, List.set_cons_zero, List.set_cons_succ, i64_w, i32_w]
      rfl
     refine pure_ (i := 18) (N := some 83) (v := ?_) (a' := ?_) #[true, true, true, true, true, true, true, true, true, true, true, true, true, true, true, true, true, true, true, false, false, false, false, false, false, false, false, false, false, false, false, false, false, false, false, false, false, false, false, false, false, false, false, false, false, false, false, false, false, false] rfl rfl (any_of HT_.out (by kernel_rfl)) (fun _ _ _ h => h) (Or.inl ⟨by rfl, ?_⟩) ?_ ?_
     rotate_left
     ·
      intro w'
      go_simp
      with_reducible rfl
     rotate_left
     ·
      simp only [Act.put, List.setIfInBounds_toArray, List.set_cons_zero, List.set_cons_succ, i64_w, i32_w]
      rfl
     refine pure_ (i := 19) (N := some 84) (v := ?_) (a' := ?_) #[true, true, true, true, true, true, true, true, true, true, true, true, true, true, true, true, true, true, true, true, false, false, false, false, false, false, false, false, false, false, false, false, false, false, false, false, false, false, false, false, false, false, false, false, false, false, false, false, false, false] rfl rfl (any_of HT_.out (by kernel_rfl)) (fun _ _ _ h => h) (Or.inl ⟨by rfl, ?_⟩) ?_ ?_
     rotate_left
     ·
      intro w'
      go_simp
      with_reducible rfl
     rotate_left
     ·
      simp only [Act.put, List.setIfInBounds_toArray, List.set_cons_zero, List.set_cons_succ, i64_w, i32_w]
      rfl
     refine pure_ (i := 20) (N := some 85) (v := ?_) (a' := ?_) #[true, true, true, true, true, true, true, true, true, true, true, true, true, true, true, true, true, true, true, true, true, false, false, false, false, false, false, false, false, false, false, false, false, false, false, false, false, false, false, false, false, false, false, false, false, false, false, false, false, false] rfl rfl (any_of HT_.out (by kernel_rfl)) (fun _ _ _ h => h) (Or.inl ⟨by rfl, ?_⟩) ?_ ?_
     rotate_left
     ·
      intro w'
      go_simp
      with_reducible rfl
     rotate_left
     ·
      simp only [Act.put, List.setIfInBounds_toArray, List.set_cons_zero, List.set_cons_succ, i64_w, i32_w]
      rfl
     refine pure_ (i := 21) (N := some 86) (v := ?_) (a' := ?_) #[true, true, true, true, true, true, true, true, true, true, true, true, true, true, true, true, true, true, true, true, true, true, false, false, false, false, false, false, false, false, false, false, false, false, false, false, false, false, false, false, false, false, false, false, false, false, false, false, false, false] rfl rfl (any_of HT_.out (by kernel_rfl)) (fun _ _ _ h => h) (Or.inl ⟨by rfl, ?_⟩) ?_ ?_
     rotate_left
     ·
      intro w'
      go_simp
      with_reducible rfl
     rotate_left
     ·
      simp only [Act.put, List.setIfInBounds_toArray, List.set_cons_zero, List.set_cons_succ, i64_w, i32_w]
      rfl
     refine pure_ (i := 22) (N := some 87) (v := ?_) (a' := ?_) #[true, true, true, true, true, true, true, true, true, true, true, true, true, true, true, true, true, true, true, true, true, true, true, false, false, false, false, false, false, false, false, false, false, false, false, false, false, false, false, false, false, false, false, false, false, false, false, false, false, false] rfl rfl (any_of HT_.out (by kernel_rfl)) (fun _ _ _ h => h) (Or.inl ⟨by rfl, ?_⟩) ?_ ?_
     rotate_left
     ·
      intro w'
      go_simp
      with_reducible rfl
     rotate_left
     ·
      simp only [Act.put, List.setIfInBounds_toArray, List.set_cons_zero, List.set_cons_succ, i64_w, i32_w]
      rfl
     refine pure_ (i := 23) (N := some 88) (v := ?_) (a' := ?_) #[true, true, true, true, true, true, true, true, true, true, true, true, true, true, true, true, true, true, true, true, true, true, true, true, false, false, false, false, false, false, false, false, false, false, false, false, false, false, false, false, false, false, false, false, false, false, false, false, false, false] rfl rfl (any_of HT_.out (by kernel_rfl)) (fun _ _ _ h => h) (Or.inl ⟨by rfl, ?_⟩) ?_ ?_
     rotate_left
     ·
      intro w'
      go_simp
      with_reducible rfl
     rotate_left
     ·
      simp only [Act.put, List.setIfInBounds_toArray, List.set_cons_zero, List.set_cons_succ, i64_w, i32_w]
      rfl
     refine pure_ (i := 24) (N := some 89) (v := ?_) (a' := ?_) #[true, true, true, true, true, true, true, true, true, true, true, true, true, true, true, true, true, true, true, true, true, true, true, true, true, false, false, false, false, false, false, false, false, false, false, false, false, false, false, false, false, false, false, false, false, false, false, false, false, false] rfl rfl (any_of HT_.out (by kernel_rfl)) (fun _ _ _ h => h) (Or.inl ⟨by rfl, ?_⟩) ?_ ?_
     rotate_left
     ·
      intro w'
      go_simp
      with_reducible rfl
     rotate_left
     ·
      simp only [Act.put, List.setIfInBounds_toArray, List.set_cons_zero, List.set_cons_succ, i64_w, i32_w]
      rfl
     refine pure_ (i := 25) (N := some 90) (v := ?_) (a' := ?_) #[true, true, true, true, true, true, true, true, true, true, true, true, true, true, true, true, true, true, true, true, true, true, true, true, true, true, false, false, false, false, false, false, false, false, false, false, false, false, false, false, false, false, false, false, false, false, false, false, false, false] rfl rfl (any_of HT_.out (by kernel_rfl)) (fun _ _ _ h => h) (Or.inl ⟨by rfl, ?_⟩) ?_ ?_
     rotate_left
     ·
      intro w'
      go_simp
      with_reducible rfl
     rotate_left
     ·
      simp only [Act.put, List.setIfInBounds_toArray, List.set_cons_zero, List.set_cons_succ, i64_w, i32_w]
      rfl
     refine pure_ (i := 26) (N := some 91) (v := ?_) (a' := ?_) #[true, true, true, true, true, true, true, true, true, true, true, true, true, true, true, true, true, true, true, true, true, true, true, true, true, true, true, false, false, false, false, false, false, false, false, false, false, false, false, false, false, false, false, false, false, false, false, false, false, false] rfl rfl (any_of HT_.out (by kernel_rfl)) (fun _ _ _ h => h) (Or.inl ⟨by rfl, ?_⟩) ?_ ?_
     rotate_left
     ·
      intro w'
      go_simp
      with_reducible rfl
     rotate_left
     ·
      simp only [Act.put, List.setIfInBounds_toArray, List.set_cons_zero, List.set_cons_succ, i64_w, i32_w]
      rfl
     refine pure_ (i := 27) (N := some 92) (v := ?_) (a' := ?_) #[true, true, true, true, true, true, true, true, true, true, true, true, true, true, true, true, true, true, true, true, true, true, true, true, true, true, true, true, false, false, false, false, false, false, false, false, false, false, false, false, false, false, false, false, false, false, false, false, false, false] rfl rfl (any_of HT_.out (by kernel_rfl)) (fun _ _ _ h => h) (Or.inl ⟨by rfl, ?_⟩) ?_ ?_
     rotate_left
     ·
      intro w'
      go_simp
      with_reducible rfl
     rotate_left
     ·
      simp only [Act.put, List.setIfInBounds_toArray, List.set_cons_zero, List.set_cons_succ, i64_w, i32_w]
      rfl
     refine pure_ (i := 28) (N := some 93) (v := ?_) (a' := ?_) #[true, true, true, true, true, true, true, true, true, true, true, true, true, true, true, true, true, true, true, true, true, true, true, true, true, true, true, true, true, false, false, false, false, false, false, false, false, false, false, false, false, false, false, false, false, false, false, false, false, false] rfl rfl (any_of HT_.out (by kernel_rfl)) (fun _ _ _ h => h) (Or.inl ⟨by rfl, ?_⟩) ?_ ?_
     rotate_left
     ·
      intro w'
      go_simp
      with_reducible rfl
     rotate_left
     ·
      simp only [Act.put, List.setIfInBounds_toArray, List.set_cons_zero, List.set_cons_succ, i64_w, i32_w]
      rfl
     refine pure_ (i := 29) (N := some 94) (v := ?_) (a' := ?_) #[true, true, true, true, true, true, true, true, true, true, true, true, true, true, true, true, true, true, true, true, true, true, true, true, true, true, true, true, true, true, false, false, false, false, false, false, false, false, false, false, false, false, false, false, false, false, false, false, false, false] rfl rfl (any_of HT_.out (by kernel_rfl)) (fun _ _ _ h => h) (Or.inl ⟨by rfl, ?_⟩) ?_ ?_
     rotate_left
     ·
      intro w'
      go_simp
      with_reducible rfl
     rotate_left
     ·
      simp only [Act.put, List.setIfInBounds_toArray, List.set_cons_zero, List.set_cons_succ, i64_w, i32_w]
      rfl
     refine pure_ (i := 30) (N := some 95) (v := ?_) (a' := ?_) #[true, true, true, true, true, true, true, true, true, true, true, true, true, true, true, true, true, true, true, true, true, true, true, true, true, true, true, true, true, true, true, false, false, false, false, false, false, false, false, false, false, false, false, false, false, false, false, false, false, false] rfl rfl (any_of HT_.out (by kernel_rfl)) (fun _ _ _ h => h) (Or.inl ⟨by rfl, ?_⟩) ?_ ?_
     rotate_left
     ·
      intro w'
      go_simp
      with_reducible rfl
     rotate_left
     ·
      simp only [Act.put, List.setIfInBounds_toArray, List.set_cons_zero, List.set_cons_succ, i64_w, i32_w]
      rfl
     refine pure_ (i := 31) (N := some 96) (v := ?_) (a' := ?_) #[true, true, true, true, true, true, true, true, true, true, true, true, true, true, true, true, true, true, true, true, true, true, true, true, true, true, true, true, true, true, true, true, false, false, false, false, false, false, false, false, false, false, false, false, false, false, false, false, false, false] rfl rfl (any_of HT_.out (by kernel_rfl)) (fun _ _ _ h => h) (Or.inl ⟨by rfl, ?_⟩) ?_ ?_
     rotate_left
     ·
      intro w'
      go_simp
      with_reducible rfl
     rotate_left
     ·
      simp only [Act.put, List.setIfInBounds_toArray, List.set_cons_zero, List.set_cons_succ, i64_w, i32_w]
      rfl
     refine pure_ (i := 32) (N := some 97) (v := ?_) (a' := ?_) #[true, true, true, true, true, true, true, true, true, true, true, true, true, true, true, true, true, true, true, true, true, true, true, true, true, true, true, true, true, true, true, true, true, false, false, false, false, false, false, false, false, false, false, false, false, false, false, false, false, false] rfl rfl (any_of HT_.out (by kernel_rfl)) (fun _ _ _ h => h) (Or.inl ⟨by rfl, ?_⟩) ?_ ?_
     rotate_left
     ·
      intro w'
      go_simp
      with_reducible rfl
     rotate_left
     ·
      simp only [Act.put, List.setIfInBounds_toArray, List.set_cons_zero, List.set_cons_succ, i64_w, i32_w]
      rfl
     refine take_ (i := 33) (N := some 98) (v := ?_) (a' := ?_) #[true, true, true, true, true, true, true, true, true, true, true, true, true, true, true, true, true, true, true, true, true, true, true, true, true, true, true, true, true, true, true, true, true, true, false, false, false, false, false, false, false, false, false, false, false, false, false, false, false, false] rfl rfl (take_ofW HT_.out HW_.out (by kernel_rfl)) (fun _ _ _ h => h) (Or.inl ⟨by rfl, ?_⟩) hHeld ?_ ?_
     rotate_left
     ·
      rintro w' ⟨s0, s1, s2, s3, s4, s5, s6, s7⟩
      go_simp
      with_reducible rfl
     rotate_left
     ·
      simp only [Act.put, List.setIfInBounds_toArray, List.set_cons_zero, List.set_cons_succ, i64_w, i32_w]
      rfl
     refine take_ (i := 34) (N := some 99) (v := ?_) (a' := ?_) #[true, true, true, true, true, true, true, true, true, true, true, true, true, true, true, true, true, true, true, true, true, true, true, true, true, true, true, true, true, true, true, true, true, true, true, false, false, false, false, false, false, false, false, false, false, false, false, false, false, false] rfl rfl (take_ofW HT_.out HW_.out (by kernel_rfl)) (fun _ _ _ h => h) (Or.inl ⟨by rfl, ?_⟩) hHeld ?_ ?_
     rotate_left
     ·
      rintro w' ⟨s0, s1, s2, s3, s4, s5, s6, s7⟩
      go_simp
      with_reducible rfl
     rotate_left
     ·
      simp only [Act.put, List.setIfInBounds_toArray, List.set_cons_zero, List.set_cons_succ, i64_w, i32_w]
      rfl
     refine take_ (i := 36) (N := some 101) (v := ?_) (a' := ?_) #[true, true, true, true, true, true, true, true, true, true, true, true, true, true, true, true, true, true, true, true, true, true, true, true, true, true, true, true, true, true, true, true, true, true, true, false, true, false, false, false, false, false, false, false, false, false, false, false, false, false] rfl rfl (take_ofW HT_.out HW_.out (by kernel_rfl)) (fun _ _ _ h => h) (Or.inl ⟨by rfl, ?_⟩) hHeld ?_ ?_
     rotate_left
     ·
      rintro w' ⟨s0, s1, s2, s3, s4, s5, s6, s7⟩
      go_simp
      with_reducible rfl
     rotate_left
     ·
      simp only [Act.put, List.setIfInBounds_toArray, List.set_cons_zero, List.set_cons_succ, i64_w, i32_w]
      rfl
     refine take_ (i := 37) (N := some 102) (v := ?_) (a' := ?_) #[true, true, true, true, true, true, true, true, true, true, true, true, true, true, true, true, true, true, true, true, true, true, true, true, true, true, true, true, true, true, true, true, true, true, true, false, true, true, false, false, false, false, false, false, false, false, false, false, false, false] rfl rfl (take_ofW HT_.out HW_.out (by kernel_rfl)) (fun _ _ _ h => h) (Or.inl ⟨by rfl, ?_⟩) hHeld ?_ ?_
     rotate_left
     ·
      rintro w' ⟨s0, s1, s2, s3, s4, s5, s6, s7⟩
      go_simp
      with_reducible rfl
     rotate_left
     ·
      simp only [Act.put, List.setIfInBounds_toArray, List.set_cons_zero, List.set_cons_succ, i64_w, i32_w]
      rfl
     refine one_ (i := 35) (N := some 100) #[true, true, true, true, true, true, true, true, true, true, true, true, true, true, true, true, true, true, true, true, true, true, true, true, true, true, true, true, true, true, true, true, true, true, true, true, true, true, false, false, false, false, false, false, false, false, false, false, false, false] rfl rfl (one_of HT_.out (by kernel_rfl)) (by decide) (fun K hK => ?_)
     refine goes_ Tryd.func22 (by kernel_rfl) rfl #[.agg #[.slice Ao17 t303.length co17, .slice Ao19 t306.length co19], .agg #[.slice Ao21 t309.length co21, .slice Ao23 t312.length co23]] (by rfl) rfl rfl (by (try simp only [List.map_toArray, List.map_cons, List.map_nil]); first | done | rfl | (simp only [List.length_drop, List.length_take]; rfl)) ?_
     with_reducible refine (url_Same.calls k1 _ _ t303 _ _ t306 _ _ t309 _ _ t312 t340 _ ?side1 ?side2 ?side3 ?side4 ?side5 ?side6 ?side7 ?side8 A66.out).mono ?_
     (case side1 => repeat (first | exact (Kd.R_reads' HO_302000.out).2.2 | (with_reducible refine Kd.C_alloc ?_ _) | (with_reducible refine Kd.C_drewN ?_ _) | (with_reducible refine Kd.C_drew ?_)))
     (case side2 => exact (Kd.R_reads' HO_302000.out).2.1)
     (case side3 => repeat (first | exact (Kd.R_reads' HO_302001.out).2.2 | (with_reducible refine Kd.C_alloc ?_ _) | (with_reducible refine Kd.C_drewN ?_ _) | (with_reducible refine Kd.C_drew ?_)))
     (case side4 => exact (Kd.R_reads' HO_302001.out).2.1)
     (case side5 => repeat (first | exact (Kd.R_reads' HO_303000.out).2.2 | (with_reducible refine Kd.C_alloc ?_ _) | (with_reducible refine Kd.C_drewN ?_ _) | (with_reducible refine Kd.C_drew ?_)))
     (case side6 => exact (Kd.R_reads' HO_303000.out).2.1)
     (case side7 => repeat (first | exact (Kd.R_reads' HO_303001.out).2.2 | (with_reducible refine Kd.C_alloc ?_ _) | (with_reducible refine Kd.C_drewN ?_ _) | (with_reducible refine Kd.C_drew ?_)))
     (case side8 => exact (Kd.R_reads' HO_303001.out).2.1)
     rintro e w83 ⟨rfl, hb⟩
     refine ⟨_, rfl, ?_⟩
     have n0_ := Aside0.mk (Kd.R_below (by (with_reducible repeat (first | apply Kd.R_alloc | apply Kd.R_drewN | apply Kd.R_drew)); exact HO_302000.out) hb)
     have n1_ := Aside0.mk (Kd.R_below (by (with_reducible repeat (first | apply Kd.R_alloc | apply Kd.R_drewN | apply Kd.R_drew)); exact HO_302001.out) hb)
     have n2_ := Aside0.mk (Kd.R_below (by (with_reducible repeat (first | apply Kd.R_alloc | apply Kd.R_drewN | apply Kd.R_drew)); exact HO_303000.out) hb)
     have n3_ := Aside0.mk (Kd.R_below (by (with_reducible repeat (first | apply Kd.R_alloc | apply Kd.R_drewN | apply Kd.R_drew)); exact HO_303001.out) hb)
     have n4_ := Aside0.mk (Kd.R_below (by (with_reducible repeat (first | apply Kd.R_alloc | apply Kd.R_drewN | apply Kd.R_drew)); exact HO_323000.out) hb)
     have n5_ := Aside0.mk (Kd.R_below (by (with_reducible repeat (first | apply Kd.R_alloc | apply Kd.R_drewN | apply Kd.R_drew)); exact HO_323001.out) hb)
     have n6_ := Aside0.mk (Kd.R_below (by (with_reducible repeat (first | apply Kd.R_alloc | apply Kd.R_drewN | apply Kd.R_drew)); exact HO_331000.out) hb)
     have n7_ := Aside0.mk (Kd.R_below (by (with_reducible repeat (first | apply Kd.R_alloc | apply Kd.R_drewN | apply Kd.R_drew)); exact HO_331001.out) hb)
     have n8_ := Aside0.mk (blk_below (g := gb301) (o := .cells #[.slice Ao17 t303.length co17, .slice Ao19 t306.length co19] 25 (0, 0)) (by (with_reducible repeat (first | refine blk_drewN ?_ _ | refine blk_drew ?_ | refine blk_alloc ?_ _)); exact BK301.out) hb)
     have n9_ := Aside0.mk (blk_below (g := gb302) (o := .cells #[.slice Ao21 t309.length co21, .slice Ao23 t312.length co23] 25 (0, 0)) (by (with_reducible repeat (first | refine blk_drewN ?_ _ | refine blk_drew ?_ | refine blk_alloc ?_ _)); exact BK302.out) hb)
     have n10_ := Aside0.mk (blk_below (g := gb322) (o := .cells #[.slice Ao27 t315.length co27, .slice Ao31 t318.length co31] 25 (0, 0)) (by (with_reducible repeat (first | refine blk_drewN ?_ _ | refine blk_drew ?_ | refine blk_alloc ?_ _)); exact BK322.out) hb)
     have n11_ := Aside0.mk (blk_below (g := gb330) (o := .cells #[.slice Ao34 t323.length co34, .slice Ao39 t326.length co39] 25 (0, 0)) (by (with_reducible repeat (first | refine blk_drewN ?_ _ | refine blk_drew ?_ | refine blk_alloc ?_ _)); exact BK330.out) hb)
     have n12_ := Aside0.mk (below_step (by repeat (first | (with_reducible first | exact HB.out | apply below_alloc | apply pw_below_drewN | apply below_drew1 | refine below_set ?_ GE301.out | refine below_set ?_ GE302.out | refine below_set ?_ GE322.out | refine below_set ?_ GE330.out) | exact HB.out)) hb)
     clear HO_302000
     clear HO_302001
     clear HO_303000
     clear HO_303001
     clear HO_323000
     clear HO_323001
     clear HO_331000
     clear HO_331001
     clear BK301
     clear BK302
     clear BK322
     clear BK330
     clear HB
     have HO_302000 := n0_
     have HO_302001 := n1_
     have HO_303000 := n2_
     have HO_303001 := n3_
     have HO_323000 := n4_
     have HO_323001 := n5_
     have HO_331000 := n6_
     have HO_331001 := n7_
     have BK301 := n8_
     have BK302 := n9_
     have BK322 := n10_
     have BK330 := n11_
     have HB := n12_
     clear n0_ n1_ n2_ n3_ n4_ n5_ n6_ n7_ n8_ n9_ n10_ n11_ n12_
     (try clear hb)
     (try clear hb2)
     (try clear hk)
     (try clear hi)
     refine hK.out _ _ ⟨(blk_cell BK301.out 0).trans rfl, (blk_cell BK301.out 1).trans rfl, (blk_cell BK322.out 0).trans rfl, (blk_cell BK322.out 1).trans rfl, (blk_cell BK330.out 0).trans rfl, (blk_cell BK330.out 1).trans rfl, (blk_cell BK302.out 0).trans rfl, (blk_cell BK302.out 1).trans rfl⟩ (fun hHeld => ?_)
     clear hK K
     refine norm_ (a' := ?_) ?_ ?_
     rotate_left
     ·
      show Act.put _ (some 100) _ = _
      simp only [Act.put, List.setIfInBounds_toArray, List.set_cons_zero, List.set_cons_succ, i64_w, i32_w]
      rfl
     refine one_ (i := 38) (N := some 103) #[true, true, true, true, true, true, true, true, true, true, true, true, true, true, true, true, true, true, true, true, true, true, true, true, true, true, true, true, true, true, true, true, true, true, true, true, true, true, true, false, false, false, false, false, false, false, false, false, false, false] rfl rfl (one_of HT_.out (by kernel_rfl)) (by decide) (fun K hK => ?_)
     refine goes_ Tryd.func15 (by kernel_rfl) rfl #[.agg #[.slice Ao17 t303.length co17, .slice Ao19 t306.length co19], .agg #[.slice Ao21 t309.length co21, .slice Ao23 t312.length co23]] (by rfl) rfl rfl (by (try simp only [List.map_toArray, List.map_cons, List.map_nil]); first | done | rfl | (simp only [List.length_drop, List.length_take]; rfl)) ?_
     with_reducible refine (porticolaw4_equal.calls k1 _ _ t303 _ _ t306 _ _ t309 _ _ t312 t341 _ ?side1 ?side2 ?side3 ?side4 ?side5 ?side6 ?side7 ?side8 A67.out).mono ?_
     (case side1 => repeat (first | exact (Kd.R_reads' HO_302000.out).2.2 | (with_reducible refine Kd.C_alloc ?_ _) | (with_reducible refine Kd.C_drewN ?_ _) | (with_reducible refine Kd.C_drew ?_)))
     (case side2 => exact (Kd.R_reads' HO_302000.out).2.1)
     (case side3 => repeat (first | exact (Kd.R_reads' HO_302001.out).2.2 | (with_reducible refine Kd.C_alloc ?_ _) | (with_reducible refine Kd.C_drewN ?_ _) | (with_reducible refine Kd.C_drew ?_)))
     (case side4 => exact (Kd.R_reads' HO_302001.out).2.1)
     (case side5 => repeat (first | exact (Kd.R_reads' HO_303000.out).2.2 | (with_reducible refine Kd.C_alloc ?_ _) | (with_reducible refine Kd.C_drewN ?_ _) | (with_reducible refine Kd.C_drew ?_)))
     (case side6 => exact (Kd.R_reads' HO_303000.out).2.1)
     (case side7 => repeat (first | exact (Kd.R_reads' HO_303001.out).2.2 | (with_reducible refine Kd.C_alloc ?_ _) | (with_reducible refine Kd.C_drewN ?_ _) | (with_reducible refine Kd.C_drew ?_)))
     (case side8 => exact (Kd.R_reads' HO_303001.out).2.1)
     rintro e w84 ⟨rfl, hb⟩
     refine ⟨_, rfl, ?_⟩
     have n0_ := Aside0.mk (Kd.R_below (by (with_reducible repeat (first | apply Kd.R_alloc | apply Kd.R_drewN | apply Kd.R_drew)); exact HO_302000.out) hb)
     have n1_ := Aside0.mk (Kd.R_below (by (with_reducible repeat (first | apply Kd.R_alloc | apply Kd.R_drewN | apply Kd.R_drew)); exact HO_302001.out) hb)
     have n2_ := Aside0.mk (Kd.R_below (by (with_reducible repeat (first | apply Kd.R_alloc | apply Kd.R_drewN | apply Kd.R_drew)); exact HO_303000.out) hb)
     have n3_ := Aside0.mk (Kd.R_below (by (with_reducible repeat (first | apply Kd.R_alloc | apply Kd.R_drewN | apply Kd.R_drew)); exact HO_303001.out) hb)
     have n4_ := Aside0.mk (Kd.R_below (by (with_reducible repeat (first | apply Kd.R_alloc | apply Kd.R_drewN | apply Kd.R_drew)); exact HO_323000.out) hb)
     have n5_ := Aside0.mk (Kd.R_below (by (with_reducible repeat (first | apply Kd.R_alloc | apply Kd.R_drewN | apply Kd.R_drew)); exact HO_323001.out) hb)
     have n6_ := Aside0.mk (Kd.R_below (by (with_reducible repeat (first | apply Kd.R_alloc | apply Kd.R_drewN | apply Kd.R_drew)); exact HO_331000.out) hb)
     have n7_ := Aside0.mk (Kd.R_below (by (with_reducible repeat (first | apply Kd.R_alloc | apply Kd.R_drewN | apply Kd.R_drew)); exact HO_331001.out) hb)
     have n8_ := Aside0.mk (blk_below (g := gb301) (o := .cells #[.slice Ao17 t303.length co17, .slice Ao19 t306.length co19] 25 (0, 0)) (by (with_reducible repeat (first | refine blk_drewN ?_ _ | refine blk_drew ?_ | refine blk_alloc ?_ _)); exact BK301.out) hb)
     have n9_ := Aside0.mk (blk_below (g := gb302) (o := .cells #[.slice Ao21 t309.length co21, .slice Ao23 t312.length co23] 25 (0, 0)) (by (with_reducible repeat (first | refine blk_drewN ?_ _ | refine blk_drew ?_ | refine blk_alloc ?_ _)); exact BK302.out) hb)
     have n10_ := Aside0.mk (blk_below (g := gb322) (o := .cells #[.slice Ao27 t315.length co27, .slice Ao31 t318.length co31] 25 (0, 0)) (by (with_reducible repeat (first | refine blk_drewN ?_ _ | refine blk_drew ?_ | refine blk_alloc ?_ _)); exact BK322.out) hb)
     have n11_ := Aside0.mk (blk_below (g := gb330) (o := .cells #[.slice Ao34 t323.length co34, .slice Ao39 t326.length co39] 25 (0, 0)) (by (with_reducible repeat (first | refine blk_drewN ?_ _ | refine blk_drew ?_ | refine blk_alloc ?_ _)); exact BK330.out) hb)
     have n12_ := Aside0.mk (below_step (by repeat (first | (with_reducible first | exact HB.out | apply below_alloc | apply pw_below_drewN | apply below_drew1 | refine below_set ?_ GE301.out | refine below_set ?_ GE302.out | refine below_set ?_ GE322.out | refine below_set ?_ GE330.out) | exact HB.out)) hb)
     clear HO_302000
     clear HO_302001
     clear HO_303000
     clear HO_303001
     clear HO_323000
     clear HO_323001
     clear HO_331000
     clear HO_331001
     clear BK301
     clear BK302
     clear BK322
     clear BK330
     clear HB
     have HO_302000 := n0_
     have HO_302001 := n1_
     have HO_303000 := n2_
     have HO_303001 := n3_
     have HO_323000 := n4_
     have HO_323001 := n5_
     have HO_331000 := n6_
     have HO_331001 := n7_
     have BK301 := n8_
     have BK302 := n9_
     have BK322 := n10_
     have BK330 := n11_
     have HB := n12_
     clear n0_ n1_ n2_ n3_ n4_ n5_ n6_ n7_ n8_ n9_ n10_ n11_ n12_
     (try clear hb)
     (try clear hb2)
     (try clear hk)
     (try clear hi)
     refine hK.out _ _ ⟨(blk_cell BK301.out 0).trans rfl, (blk_cell BK301.out 1).trans rfl, (blk_cell BK322.out 0).trans rfl, (blk_cell BK322.out 1).trans rfl, (blk_cell BK330.out 0).trans rfl, (blk_cell BK330.out 1).trans rfl, (blk_cell BK302.out 0).trans rfl, (blk_cell BK302.out 1).trans rfl⟩ (fun hHeld => ?_)
     clear hK K
     refine norm_ (a' := ?_) ?_ ?_
     rotate_left
     ·
      show Act.put _ (some 103) _ = _
      simp only [Act.put, List.setIfInBounds_toArray, List.set_cons_zero, List.set_cons_succ, i64_w, i32_w]
      rfl
     refine pure_ (i := 39) (N := some 104) (v := ?_) (a' := ?_) #[true, true, true, true, true, true, true, true, true, true, true, true, true, true, true, true, true, true, true, true, true, true, true, true, true, true, true, true, true, true, true, true, true, true, true, true, true, true, true, true, false, false, false, false, false, false, false, false, false, false] rfl rfl (any_of HT_.out (by kernel_rfl)) (fun _ _ _ h => h) (Or.inl ⟨by rfl, ?_⟩) ?_ ?_
     rotate_left
     ·
      intro w'
      go_simp
      with_reducible rfl
     rotate_left
     ·
      simp only [Act.put, List.setIfInBounds_toArray, List.set_cons_zero, List.set_cons_succ, i64_w, i32_w]
      rfl
     refine pure_ (i := 40) (N := some 105) (v := ?_) (a' := ?_) #[true, true, true, true, true, true, true, true, true, true, true, true, true, true, true, true, true, true, true, true, true, true, true, true, true, true, true, true, true, true, true, true, true, true, true, true, true, true, true, true, true, false, false, false, false, false, false, false, false, false] rfl rfl (any_of HT_.out (by kernel_rfl)) (fun _ _ _ h => h) (Or.inl ⟨by rfl, ?_⟩) ?_ ?_
     rotate_left
     ·
      intro w'
      go_simp
      with_reducible rfl
     rotate_left
     ·
      simp only [Act.put, List.setIfInBounds_toArray, List.set_cons_zero, List.set_cons_succ, i64_w, i32_w]
      rfl
     refine pure_ (i := 41) (N := some 106) (v := ?_) (a' := ?_) #[true, true, true, true, true, true, true, true, true, true, true, true, true, true, true, true, true, true, true, true, true, true, true, true, true, true, true, true, true, true, true, true, true, true, true, true, true, true, true, true, true, true, false, false, false, false, false, false, false, false] rfl rfl (any_of HT_.out (by kernel_rfl)) (fun _ _ _ h => h) (Or.inl ⟨by rfl, ?_⟩) ?_ ?_
     rotate_left
     ·
      intro w'
      go_simp
      with_reducible rfl
     rotate_left
     ·
      simp only [Act.put, List.setIfInBounds_toArray, List.set_cons_zero, List.set_cons_succ, i64_w, i32_w]
      rfl
     refine take_ (i := 42) (N := some 107) (v := ?_) (a' := ?_) #[true, true, true, true, true, true, true, true, true, true, true, true, true, true, true, true, true, true, true, true, true, true, true, true, true, true, true, true, true, true, true, true, true, true, true, true, true, true, true, true, true, true, true, false, false, false, false, false, false, false] rfl rfl (take_ofW HT_.out HW_.out (by kernel_rfl)) (fun _ _ _ h => h) (Or.inl ⟨by rfl, ?_⟩) hHeld ?_ ?_
     rotate_left
     ·
      rintro w' ⟨s0, s1, s2, s3, s4, s5, s6, s7⟩
      go_simp
      with_reducible rfl
     rotate_left
     ·
      simp only [Act.put, List.setIfInBounds_toArray, List.set_cons_zero, List.set_cons_succ, i64_w, i32_w]
      rfl
     refine take_ (i := 43) (N := some 108) (v := ?_) (a' := ?_) #[true, true, true, true, true, true, true, true, true, true, true, true, true, true, true, true, true, true, true, true, true, true, true, true, true, true, true, true, true, true, true, true, true, true, true, true, true, true, true, true, true, true, true, true, false, false, false, false, false, false] rfl rfl (take_ofW HT_.out HW_.out (by kernel_rfl)) (fun _ _ _ h => h) (Or.inl ⟨by rfl, ?_⟩) hHeld ?_ ?_
     rotate_left
     ·
      rintro w' ⟨s0, s1, s2, s3, s4, s5, s6, s7⟩
      go_simp
      with_reducible rfl
     rotate_left
     ·
      simp only [Act.put, List.setIfInBounds_toArray, List.set_cons_zero, List.set_cons_succ, i64_w, i32_w]
      rfl
     refine one_ (i := 44) (N := some 109) #[true, true, true, true, true, true, true, true, true, true, true, true, true, true, true, true, true, true, true, true, true, true, true, true, true, true, true, true, true, true, true, true, true, true, true, true, true, true, true, true, true, true, true, true, true, false, false, false, false, false] rfl rfl (one_of HT_.out (by kernel_rfl)) (by decide) (fun K hK => ?_)
     refine goes_ Tryd.func22 (by kernel_rfl) rfl #[.agg #[.slice Ao17 t303.length co17, .slice Ao19 t306.length co19], .agg #[.slice Ao17 t303.length co17, .slice Ao19 t306.length co19]] (by rfl) rfl rfl (by (try simp only [List.map_toArray, List.map_cons, List.map_nil]); first | done | rfl | (simp only [List.length_drop, List.length_take]; rfl)) ?_
     with_reducible refine (url_Same.calls k1 _ _ t303 _ _ t306 _ _ t303 _ _ t306 true _ ?side1 ?side2 ?side3 ?side4 ?side5 ?side6 ?side7 ?side8 A69.out).mono ?_
     (case side1 => repeat (first | exact (Kd.R_reads' HO_302000.out).2.2 | (with_reducible refine Kd.C_alloc ?_ _) | (with_reducible refine Kd.C_drewN ?_ _) | (with_reducible refine Kd.C_drew ?_)))
     (case side2 => exact (Kd.R_reads' HO_302000.out).2.1)
     (case side3 => repeat (first | exact (Kd.R_reads' HO_302001.out).2.2 | (with_reducible refine Kd.C_alloc ?_ _) | (with_reducible refine Kd.C_drewN ?_ _) | (with_reducible refine Kd.C_drew ?_)))
     (case side4 => exact (Kd.R_reads' HO_302001.out).2.1)
     (case side5 => repeat (first | exact (Kd.R_reads' HO_302000.out).2.2 | (with_reducible refine Kd.C_alloc ?_ _) | (with_reducible refine Kd.C_drewN ?_ _) | (with_reducible refine Kd.C_drew ?_)))
     (case side6 => exact (Kd.R_reads' HO_302000.out).2.1)
     (case side7 => repeat (first | exact (Kd.R_reads' HO_302001.out).2.2 | (with_reducible refine Kd.C_alloc ?_ _) | (with_reducible refine Kd.C_drewN ?_ _) | (with_reducible refine Kd.C_drew ?_)))
     (case side8 => exact (Kd.R_reads' HO_302001.out).2.1)
     rintro e w85 ⟨rfl, hb⟩
     refine ⟨_, rfl, ?_⟩
     have n0_ := Aside0.mk (Kd.R_below (by (with_reducible repeat (first | apply Kd.R_alloc | apply Kd.R_drewN | apply Kd.R_drew)); exact HO_302000.out) hb)
     have n1_ := Aside0.mk (Kd.R_below (by (with_reducible repeat (first | apply Kd.R_alloc | apply Kd.R_drewN | apply Kd.R_drew)); exact HO_302001.out) hb)
     have n2_ := Aside0.mk (Kd.R_below (by (with_reducible repeat (first | apply Kd.R_alloc | apply Kd.R_drewN | apply Kd.R_drew)); exact HO_303000.out) hb)
     have n3_ := Aside0.mk (Kd.R_below (by (with_reducible repeat (first | apply Kd.R_alloc | apply Kd.R_drewN | apply Kd.R_drew)); exact HO_303001.out) hb)
     have n4_ := Aside0.mk (Kd.R_below (by (with_reducible repeat (first | apply Kd.R_alloc | apply Kd.R_drewN | apply Kd.R_drew)); exact HO_323000.out) hb)
     have n5_ := Aside0.mk (Kd.R_below (by (with_reducible repeat (first | apply Kd.R_alloc | apply Kd.R_drewN | apply Kd.R_drew)); exact HO_323001.out) hb)
     have n6_ := Aside0.mk (Kd.R_below (by (with_reducible repeat (first | apply Kd.R_alloc | apply Kd.R_drewN | apply Kd.R_drew)); exact HO_331000.out) hb)
     have n7_ := Aside0.mk (Kd.R_below (by (with_reducible repeat (first | apply Kd.R_alloc | apply Kd.R_drewN | apply Kd.R_drew)); exact HO_331001.out) hb)
     have n8_ := Aside0.mk (blk_below (g := gb301) (o := .cells #[.slice Ao17 t303.length co17, .slice Ao19 t306.length co19] 25 (0, 0)) (by (with_reducible repeat (first | refine blk_drewN ?_ _ | refine blk_drew ?_ | refine blk_alloc ?_ _)); exact BK301.out) hb)
     have n9_ := Aside0.mk (blk_below (g := gb302) (o := .cells #[.slice Ao21 t309.length co21, .slice Ao23 t312.length co23] 25 (0, 0)) (by (with_reducible repeat (first | refine blk_drewN ?_ _ | refine blk_drew ?_ | refine blk_alloc ?_ _)); exact BK302.out) hb)
     have n10_ := Aside0.mk (blk_below (g := gb322) (o := .cells #[.slice Ao27 t315.length co27, .slice Ao31 t318.length co31] 25 (0, 0)) (by (with_reducible repeat (first | refine blk_drewN ?_ _ | refine blk_drew ?_ | refine blk_alloc ?_ _)); exact BK322.out) hb)
     have n11_ := Aside0.mk (blk_below (g := gb330) (o := .cells #[.slice Ao34 t323.length co34, .slice Ao39 t326.length co39] 25 (0, 0)) (by (with_reducible repeat (first | refine blk_drewN ?_ _ | refine blk_drew ?_ | refine blk_alloc ?_ _)); exact BK330.out) hb)
     have n12_ := Aside0.mk (below_step (by repeat (first | (with_reducible first | exact HB.out | apply below_alloc | apply pw_below_drewN | apply below_drew1 | refine below_set ?_ GE301.out | refine below_set ?_ GE302.out | refine below_set ?_ GE322.out | refine below_set ?_ GE330.out) | exact HB.out)) hb)
     clear HO_302000
     clear HO_302001
     clear HO_303000
     clear HO_303001
     clear HO_323000
     clear HO_323001
     clear HO_331000
     clear HO_331001
     clear BK301
     clear BK302
     clear BK322
     clear BK330
     clear HB
     have HO_302000 := n0_
     have HO_302001 := n1_
     have HO_303000 := n2_
     have HO_303001 := n3_
     have HO_323000 := n4_
     have HO_323001 := n5_
     have HO_331000 := n6_
     have HO_331001 := n7_
     have BK301 := n8_
     have BK302 := n9_
     have BK322 := n10_
     have BK330 := n11_
     have HB := n12_
     clear n0_ n1_ n2_ n3_ n4_ n5_ n6_ n7_ n8_ n9_ n10_ n11_ n12_
     (try clear hb)
     (try clear hb2)
     (try clear hk)
     (try clear hi)
     refine hK.out _ _ ⟨(blk_cell BK301.out 0).trans rfl, (blk_cell BK301.out 1).trans rfl, (blk_cell BK322.out 0).trans rfl, (blk_cell BK322.out 1).trans rfl, (blk_cell BK330.out 0).trans rfl, (blk_cell BK330.out 1).trans rfl, (blk_cell BK302.out 0).trans rfl, (blk_cell BK302.out 1).trans rfl⟩ (fun hHeld => ?_)
     clear hK K
     refine norm_ (a' := ?_) ?_ ?_
     rotate_left
     ·
      show Act.put _ (some 109) _ = _
      simp only [Act.put, List.setIfInBounds_toArray, List.set_cons_zero, List.set_cons_succ, i64_w, i32_w]
      rfl
     refine pure_ (i := 45) (N := some 110) (v := ?_) (a' := ?_) #[true, true, true, true, true, true, true, true, true, true, true, true, true, true, true, true, true, true, true, true, true, true, true, true, true, true, true, true, true, true, true, true, true, true, true, true, true, true, true, true, true, true, true, true, true, true, false, false, false, false] rfl rfl (any_of HT_.out (by kernel_rfl)) (fun _ _ _ h => h) (Or.inl ⟨by rfl, ?_⟩) ?_ ?_
     rotate_left
     ·
      intro w'
      go_simp
      with_reducible rfl
     rotate_left
     ·
      simp only [Act.put, List.setIfInBounds_toArray, List.set_cons_zero, List.set_cons_succ, i64_w, i32_w]
      rfl
     refine pure_ (i := 46) (N := some 111) (v := ?_) (a' := ?_) #[true, true, true, true, true, true, true, true, true, true, true, true, true, true, true, true, true, true, true, true, true, true, true, true, true, true, true, true, true, true, true, true, true, true, true, true, true, true, true, true, true, true, true, true, true, true, true, false, false, false] rfl rfl (any_of HT_.out (by kernel_rfl)) (fun _ _ _ h => h) (Or.inl ⟨by rfl, ?_⟩) ?_ ?_
     rotate_left
     ·
      intro w'
      go_simp
      with_reducible rfl
     rotate_left
     ·
      simp only [Act.put, List.setIfInBounds_toArray, List.set_cons_zero, List.set_cons_succ, i64_w, i32_w]
      rfl
     refine one_ (i := 47) (N := some 112) #[true, true, true, true, true, true, true, true, true, true, true, true, true, true, true, true, true, true, true, true, true, true, true, true, true, true, true, true, true, true, true, true, true, true, true, true, true, true, true, true, true, true, true, true, true, true, true, true, false, false] rfl rfl (one_of HT_.out (by kernel_rfl)) (by decide) (fun K hK => ?_)
     refine goes_ Tryd.func3 (by kernel_rfl) rfl #[] (by rfl) rfl rfl (by (try simp only [List.map_toArray, List.map_cons, List.map_nil]); first | done | rfl | (simp only [List.length_drop, List.length_take]; rfl)) ?_
     with_reducible refine (porticolaw4_URLRuns.calls k1  t343 _ A71.out).mono ?_
     rintro e w86 ⟨rfl, hb⟩
     refine ⟨_, rfl, ?_⟩
     have n0_ := Aside0.mk (Kd.R_below (by (with_reducible repeat (first | apply Kd.R_alloc | apply Kd.R_drewN | apply Kd.R_drew)); exact HO_302000.out) hb)
     have n1_ := Aside0.mk (Kd.R_below (by (with_reducible repeat (first | apply Kd.R_alloc | apply Kd.R_drewN | apply Kd.R_drew)); exact HO_302001.out) hb)
     have n2_ := Aside0.mk (Kd.R_below (by (with_reducible repeat (first | apply Kd.R_alloc | apply Kd.R_drewN | apply Kd.R_drew)); exact HO_303000.out) hb)
     have n3_ := Aside0.mk (Kd.R_below (by (with_reducible repeat (first | apply Kd.R_alloc | apply Kd.R_drewN | apply Kd.R_drew)); exact HO_303001.out) hb)
     have n4_ := Aside0.mk (Kd.R_below (by (with_reducible repeat (first | apply Kd.R_alloc | apply Kd.R_drewN | apply Kd.R_drew)); exact HO_323000.out) hb)
     have n5_ := Aside0.mk (Kd.R_below (by (with_reducible repeat (first | apply Kd.R_alloc | apply Kd.R_drewN | apply Kd.R_drew)); exact HO_323001.out) hb)
     have n6_ := Aside0.mk (Kd.R_below (by (with_reducible repeat (first | apply Kd.R_alloc | apply Kd.R_drewN | apply Kd.R_drew)); exact HO_331000.out) hb)
     have n7_ := Aside0.mk (Kd.R_below (by (with_reducible repeat (first | apply Kd.R_alloc | apply Kd.R_drewN | apply Kd.R_drew)); exact HO_331001.out) hb)
     have n8_ := Aside0.mk (blk_below (g := gb301) (o := .cells #[.slice Ao17 t303.length co17, .slice Ao19 t306.length co19] 25 (0, 0)) (by (with_reducible repeat (first | refine blk_drewN ?_ _ | refine blk_drew ?_ | refine blk_alloc ?_ _)); exact BK301.out) hb)
     have n9_ := Aside0.mk (blk_below (g := gb302) (o := .cells #[.slice Ao21 t309.length co21, .slice Ao23 t312.length co23] 25 (0, 0)) (by (with_reducible repeat (first | refine blk_drewN ?_ _ | refine blk_drew ?_ | refine blk_alloc ?_ _)); exact BK302.out) hb)
     have n10_ := Aside0.mk (blk_below (g := gb322) (o := .cells #[.slice Ao27 t315.length co27, .slice Ao31 t318.length co31] 25 (0, 0)) (by (with_reducible repeat (first | refine blk_drewN ?_ _ | refine blk_drew ?_ | refine blk_alloc ?_ _)); exact BK322.out) hb)
     have n11_ := Aside0.mk (blk_below (g := gb330) (o := .cells #[.slice Ao34 t323.length co34, .slice Ao39 t326.length co39] 25 (0, 0)) (by (with_reducible repeat (first | refine blk_drewN ?_ _ | refine blk_drew ?_ | refine blk_alloc ?_ _)); exact BK330.out) hb)
     have n12_ := Aside0.mk (below_step (by repeat (first | (with_reducible first | exact HB.out | apply below_alloc | apply pw_below_drewN | apply below_drew1 | refine below_set ?_ GE301.out | refine below_set ?_ GE302.out | refine below_set ?_ GE322.out | refine below_set ?_ GE330.out) | exact HB.out)) hb)
     clear HO_302000
     clear HO_302001
     clear HO_303000
     clear HO_303001
     clear HO_323000
     clear HO_323001
     clear HO_331000
     clear HO_331001
     clear BK301
     clear BK302
     clear BK322
     clear BK330
     clear HB
     have HO_302000 := n0_
     have HO_302001 := n1_
     have HO_303000 := n2_
     have HO_303001 := n3_
     have HO_323000 := n4_
     have HO_323001 := n5_
     have HO_331000 := n6_
     have HO_331001 := n7_
     have BK301 := n8_
     have BK302 := n9_
     have BK322 := n10_
     have BK330 := n11_
     have HB := n12_
     clear n0_ n1_ n2_ n3_ n4_ n5_ n6_ n7_ n8_ n9_ n10_ n11_ n12_
     (try clear hb)
     (try clear hb2)
     (try clear hk)
     (try clear hi)
     refine hK.out _ _ ⟨(blk_cell BK301.out 0).trans rfl, (blk_cell BK301.out 1).trans rfl, (blk_cell BK322.out 0).trans rfl, (blk_cell BK322.out 1).trans rfl, (blk_cell BK330.out 0).trans rfl, (blk_cell BK330.out 1).trans rfl, (blk_cell BK302.out 0).trans rfl, (blk_cell BK302.out 1).trans rfl⟩ (fun hHeld => ?_)
     clear hK K
     refine norm_ (a' := ?_) ?_ ?_
     rotate_left
     ·
      show Act.put _ (some 112) _ = _
      simp only [Act.put, List.setIfInBounds_toArray, List.set_cons_zero, List.set_cons_succ, i64_w, i32_w]
      rfl
     refine pure_ (i := 48) (N := some 113) (v := ?_) (a' := ?_) #[true, true, true, true, true, true, true, true, true, true, true, true, true, true, true, true, true, true, true, true, true, true, true, true, true, true, true, true, true, true, true, true, true, true, true, true, true, true, true, true, true, true, true, true, true, true, true, true, true, false] rfl rfl (any_of HT_.out (by kernel_rfl)) (fun _ _ _ h => h) (Or.inl ⟨by rfl, ?_⟩) ?_ ?_
     rotate_left
     ·
      intro w'
      go_simp
      with_reducible rfl
     rotate_left
     ·
      simp only [Act.put, List.setIfInBounds_toArray, List.set_cons_zero, List.set_cons_succ, i64_w, i32_w]
      rfl
     refine pure_ (i := 49) (N := some 8) (v := ?_) (a' := ?_) #[true, true, true, true, true, true, true, true, true, true, true, true, true, true, true, true, true, true, true, true, true, true, true, true, true, true, true, true, true, true, true, true, true, true, true, true, true, true, true, true, true, true, true, true, true, true, true, true, true, true] rfl rfl (any_of HT_.out (by kernel_rfl)) (fun _ _ _ h => h) (Or.inl ⟨by rfl, ?_⟩) ?_ ?_
     rotate_left
     ·
      intro w'
      go_simp
      with_reducible rfl
     rotate_left
     ·
      simp only [Act.put, List.setIfInBounds_toArray, List.set_cons_zero, List.set_cons_succ, i64_w, i32_w]
      rfl
     refine done_ (done_of HT_.out (by kernel_rfl)) ?_
     try go_wp2
     go_ret
     exact ⟨by first | rfl | (simp [errW_none, errW_some] <;> rfl) | (simp only [← hji7]; first | rfl | (simp [errW_none, errW_some] <;> rfl)) | (simp [*, errW_none, errW_some] <;> rfl), by repeat (first | (with_reducible first | exact HB.out | apply below_alloc | apply pw_below_drewN | apply below_drew1 | refine below_set ?_ GE301.out | refine below_set ?_ GE302.out | refine below_set ?_ GE322.out | refine below_set ?_ GE330.out) | exact HB.out)⟩
  ·
   rw [if_neg c9] at H
   exact absurd H (by simp)
 ·
  rw [if_neg c8] at H
  exact absurd H (by simp)

end Go.Proofs.YtcaaggfobdfgpaaDoor.PURLTells
