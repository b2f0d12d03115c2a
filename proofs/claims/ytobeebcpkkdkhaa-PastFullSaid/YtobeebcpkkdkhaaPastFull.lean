/- PastFull: the walk (printed by wip/law11/gen_Full.py out of Full.body). -/
import Derived.Test.YtobeebcpkkdkhaaPast3
import Derived.Test.YtobeebcpkkdkhaaPastThere
set_option linter.unusedVariables false
set_option linter.unusedSimpArgs false
namespace Go.Proofs.Ytobeebcpkkdkhaa.Pa
open Go.RowKit Go.Proofs.YtobeebcpkkdkhaaW.PrintWords Go.Proofs.YtobeebcpkkdkhaaW.PrintLast

/-- The first entry, and n letters. -/
def pf (first : ByteArray) : Nat → List PPastRuns.S28
  | 0 => [⟨first, 0⟩]
  | n + 1 => pf first n ++ [letter (n + 1)]
theorem pf_length (first : ByteArray) (n : Nat) : (pf first n).length = n + 1 := by
  induction n with
  | zero => rfl
  | succ n ih => simp [pf, ih]
abbrev eNew : PPastRuns.S28 := ⟨⟨#[110, 101, 119]⟩, 0⟩
theorem full_row (L : List PPastRuns.S28) (e : PPastRuns.S28) (n : Nat) (hL : L.length = 12) (hn : n ≤ 11) : (L.set 11 e).take n = L.take n ∧ (L.take n ++ [eNew]).length = n + 1 ∧ (L.take n ++ [eNew])[n]? = some eNew ∧ (L.take n ++ [eNew]).take n = L.take n := by
  have hl : (L.take n).length = n := by rw [List.length_take]; omega
  refine ⟨by rw [List.take_set_of_le hn], by rw [List.length_append, hl]; rfl, ?_, ?_⟩
  · rw [List.getElem?_append_right (by omega), hl]; simp
  · rw [List.take_append_of_le_length (by omega), List.take_take, Nat.min_self]
theorem Can_no (g : Nat) (v : Value) (M : List PPastRuns.S28) (n : Nat) (c : Int) (w : World) (h : PastAt w g v M (n : Int)) (hM : M.length = n + 1) (hn : n ≤ 11) (hc : ¬ (-(n : Int) ≤ c ∧ c < 1)) : Calls Try.prog 16 #[.pointer (some ⟨g, 0, none⟩), .int .i64 c] w fun en w' => en = .returned (.bool false) ∧ ∃ q, w' = w.drewN q := by
  have := Can_any g v M (n : Int) c w h (by omega) (by omega) (by omega)
  rwa [decide_eq_false (by rw [hM]; omega)] at this
theorem Can_yes (g : Nat) (v : Value) (M : List PPastRuns.S28) (n : Nat) (c : Int) (w : World) (h : PastAt w g v M (n : Int)) (hM : M.length = n + 1) (hn : n ≤ 11) (hc : -(n : Int) ≤ c ∧ c < 1) : Calls Try.prog 16 #[.pointer (some ⟨g, 0, none⟩), .int .i64 c] w fun en w' => en = .returned (.bool true) ∧ ∃ q, w' = w.drewN q := by
  have := Can_any g v M (n : Int) c w h (by omega) (by omega) (by omega)
  rwa [decide_eq_true (by rw [hM]; omega)] at this
def Full.T19 : Bool × List (List Nat × List Nat) := (true, [([], []), ([0], [0]), ([], []), ([2], [2]), ([1, 3], [1, 3]), ([4], [4]), ([5], [5]), ([6, 5, 5], [5, 6]), ([5], [5]), ([7, 8, 5], [5, 7, 8]), ([5, 9], [5, 9]), ([10, 7], [10]), ([11], [11]), ([11], [11]), ([12, 13, 11], [11, 12, 13]), ([14, 11], [11, 14]), ([11], [11]), ([15, 16, 11], [11, 15, 16]), ([11, 17], [11, 17]), ([18, 11], [18]), ([19], [19]), ([19], [19]), ([20, 21, 19], [19, 20, 21]), ([19], [19]), ([19], [19]), ([23, 24, 19], [19, 23, 24]), ([22, 25, 19, 19], [19, 22, 25]), ([19, 26], [19, 26]), ([27, 26], [27]), ([28], [28]), ([29, 28, 28], [28, 29]), ([30, 28], [28, 30]), ([28, 31], [28, 31]), ([32, 30], [32]), ([33], [33]), ([33], [33]), ([35, 33], [33, 35]), ([34, 36, 33, 33], [33, 34, 36]), ([33, 37], [33, 37]), ([38, 37], [38]), ([39, 39], [39]), ([39, 40], [39, 40]), ([41, 40, 0, 1, 2, 3, 4, 5, 6, 7, 8, 9, 10, 11, 12, 13, 14, 15, 16, 17, 18, 19, 20, 21, 22, 23, 24, 25, 26, 27, 28, 29, 30, 31, 32, 33, 34, 35, 36, 37, 38, 39, 40, 41], [41])])
def Full.B19 : List Nat := [0, 1, 0, 4, 15, 31, 63, 127, 63, 511, 1023, 2047, 4095, 4095, 16383, 32767, 4095, 131071, 262143, 524287, 1048575, 1048575, 4194303, 1048575, 1048575, 26214399, 67108863, 134217727, 268435455, 536870911, 1073741823, 2147483647, 4294967295, 8589934591, 17179869183, 17179869183, 51539607551, 137438953471, 274877906943, 549755813887, 1099511627775, 2199023255551, 4398046511103]
theorem Full.tab19 : rtab .any (opsOf Try.f5 19) = Full.T19 := by kernel_rfl
theorem Full.bits19 : waitsOk Full.T19.2 Full.B19 = true := by kernel_rfl
set_option maxHeartbeats 2000000 in
set_option maxRecDepth 100000 in
theorem PastFull_any (first : ByteArray) (back : Int) (x : Nat) (hx : x < 18446744073709551616) (w : World) : Calls Try.prog 5 #[.string first, .int .i64 back, .int .u64 (x : Int)] w fun en w' => en = .returned (.bool true) ∧ Below w.heap.size w w' := by
  obtain ⟨b, hwb, hb0, hb1⟩ := within back 1 11 (by omega) (by omega) (by omega)
  obtain ⟨m, hm⟩ : ∃ m : Nat, (m : Int) = 11 - b := ⟨(11 - b).toNat, by omega⟩
  obtain ⟨n, hn⟩ : ∃ n : Nat, n = m + 1 := ⟨_, rfl⟩
  have HWB := Lib.hid hwb
  have HB := Lib.hid (And.intro hm (And.intro hn (And.intro hb0 hb1)))
  have hwb' : wrap64 (-b) = -b := by unfold wrap64; omega
  have hw5 : wrap64 (12 - b) = (n : Int) := by unfold wrap64; omega
  have hw6 : wrap64 ((n : Int) + 1) = (n : Int) + 1 := by unfold wrap64; omega
  have hw7 : wrap64 (-(n : Int)) = -(n : Int) := by unfold wrap64; omega
  have hnn : n ≤ 11 ∧ m < n ∧ m < 11 ∧ (m : Int) = ((11 : Nat) : Int) + -b := by omega
  have hlt : Hid (n ≤ 11) := Lib.hid hnn.1
  have HNN := Lib.hid hnn
  clear hwb hm hn hb0 hb1 hnn
  go_enter Try.func5, Try.ntmps5
  go_wp2_with fail
  refine (New_any2 first w).mono ?_
  rintro e w1 ⟨g, v1, rfl, h1, hg, hB1, hf1⟩
  have hp : ∀ w : World, (binOp .eql 22 (.pointer (some ⟨g, 0, none⟩)) (.pointer none)).run Try.prog w = .ok (.bool false) w := fun w => rfl
  have H1 : Hid (St w g w1 v1 (pf first 0) ((0 : Nat) : Int) []) := Lib.hid ⟨h1, hB1, hg, hf1, fun p hp => (by cases hp)⟩
  clear h1 hB1 hg hf1
  go_wp2_with fail
  go_loopw [8] (fun t8 wr => ∃ (i : Nat) (v : Value), t8 = .int .i64 (i : Int) ∧ 1 ≤ i ∧ i ≤ 12 ∧ Hid (St w g wr v (pf first (i - 1)) ((i - 1 : Nat) : Int) [])) (fun t _ => match t with | .int _ i => (12 - i).toNat | _ => 0)
  case atStart => exact ⟨1, v1, rfl, by omega, by omega, H1⟩
  case round =>
    obtain ⟨i, v, rfl, hi0, hi, HI⟩ := hrel
    clear H1
    by_cases c1 : i < 12
    · have q1 : (i : Int) < 12 := by omega
      have hw1 : wrap64 (97 + (i : Int)) = 97 + (i : Int) := by unfold wrap64; omega
      have hw2 : wrap64 ((i : Int) + 1) = ((i + 1 : Nat) : Int) := by unfold wrap64; omega
      have hconv : (convert 37 9 (.slice (some ⟨wr.heap.size, 0, none⟩) 1 1)).run Try.prog (wr.alloc (.cells #[.int .u8 (97 + (i : Int))] 5)) = .ok (.string (lb i)) (wr.alloc (.cells #[.int .u8 (97 + (i : Int))] 5)) := by
        rw [one_byte wr (97 + (i : Int))]
        unfold lb
        rw [show (97 + (i : Int)).toNat = 97 + i by omega]
      have HI3 := Lib.hid (HI.out.alloc (.cells #[.int .u8 (97 + (i : Int))] 5))
      clear HI
      go_wp2_with fail
      refine (Push_yes2 g v (pf first (i - 1)) (i - 1) (lb i) _ HI3.out.past (by rw [pf_length]; omega) (by omega) (by rw [pf_length]; omega)).mono ?_
      rintro e w4 ⟨rfl, v4, h4, hU4, hf4⟩
      have h5 : PastAt w4 g v4 (pf first (i + 1 - 1)) ((i + 1 - 1 : Nat) : Int) := by
        have := h4
        rw [List.take_of_length_le (by rw [pf_length]; exact Nat.le_refl _)] at this
        rw [show i + 1 - 1 = i - 1 + 1 by omega]
        show PastAt w4 g v4 (pf first (i - 1) ++ [letter (i - 1 + 1)]) _
        rw [show i - 1 + 1 = i by omega] at this ⊢
        exact this
      have H5 := Lib.hid (HI3.out.push hU4 h5 hf4)
      clear h4 hU4 h5 hf4 HI3 hconv
      go_wp2_with fail
      go_roundw
      case rel => exact ⟨i + 1, v4, by first | rw [hw2] | rfl | simp, by omega, by omega, H5⟩
      case measure => first | (rw [hw2]; simp; omega) | (simp; omega)
    · have q1 : ¬ (i : Int) < 12 := by omega
      have hi12 : i = 12 := by omega
      subst hi12
      have HL : Hid ((pf first (12 - 1)).length = 12) := Lib.hid (pf_length first 11)
      have HI : Hid (St w g wr v (pf first (12 - 1)) ((11 : Nat) : Int) []) := HI
      generalize pf first (12 - 1) = L at HI HL
      go_wp2_with fail
      refine (Entries_any2 g v L _ wr HI.out.past (by rw [HL.out]; omega)).mono ?_
      rintro e w4 ⟨v4, rfl, h4, hB4, hf4⟩
      have H4 := Lib.hid (HI.out.entries hB4 h4 hf4)
      obtain ⟨rw_, capw, hv4, hcw⟩ := h4.slice (by rw [HL.out]; omega)
      rw [HL.out] at hv4 hcw
      subst hv4
      clear HI h4 hB4 hf4
      go_wp2_with fail
      refine (Push_no g v L _ w4 H4.out.past).mono ?_
      rintro e w5 ⟨rfl, rfl⟩
      go_wp2_with fail
      refine (Entries_any2 g v L _ w5 H4.out.past (by rw [HL.out]; omega)).mono ?_
      rintro e w6 ⟨v6, rfl, h6, hB6, hf6⟩
      have H6 := Lib.hid (H4.out.entries hB6 h6 hf6)
      clear H4 h6 hB6 hf6
      go_wp2_with fail
      refine (Same_rows L _ (same_self L (by rw [HL.out]; omega)) _ _ w6 H6.out.row0 H6.out.row1).mono ?_
      rintro e w7 ⟨rfl, q7, rfl⟩
      have H7 := Lib.hid (H6.out.drewN q7)
      clear H6
      generalize w6.drewN q7 = w7 at H7 ⊢
      go_wp2_with fail
      refine (PPastThere.porticobook_Within.calls back 1 11 _ w7 HWB.out).mono ?_
      rintro e w8 ⟨rfl, ⟨q8, rfl⟩⟩
      have H8 := Lib.hid (H7.out.drewN q8)
      clear H7
      generalize w7.drewN q8 = w8 at H8 ⊢
      go_wp2_with fail
      refine (Scroll_any g v L 11 x w8 H8.out.past (by rw [HL.out]; omega) (by rw [HL.out]; omega) hx).mono ?_
      rintro e w9 ⟨rfl, h9, r9, hr9, hU9⟩
      have H9 := Lib.hid (H8.out.write hr9 hU9 h9)
      clear H8 h9 hU9 hr9
      generalize (⟨_, (Fl.cl x : Int)⟩ : PPastRuns.S28) = E9 at H9
      have HF := Lib.hid (full_row L E9 n HL.out hlt.out)
      have HL9 : Hid ((L.set 11 E9).length = 12) := Lib.hid (by rw [List.length_set]; exact HL.out)
      go_wp2_with fail
      refine (Go_yes g v (L.set 11 E9) 11 m (-b) w9 H9.out.past (by omega) (by rw [HL9.out]; omega) HNN.out.2.2.2 (by rw [HL9.out]; have := HNN.out; omega)).mono ?_
      rintro e w10 ⟨rfl, h10, hU10⟩
      generalize (L.set 11 E9)[m]'_ = Em
      have H10 := Lib.hid ((H9.out.go hU10 h10).alloc (.cells #[.string Em.f0, .int .u64 Em.f1] 28))
      clear H9 h10 hU10
      go_wp2_with fail
      generalize w10.alloc (.cells #[.string Em.f0, .int .u64 Em.f1] 28) = w11 at H10 ⊢
      generalize w10.heap.size = K1
      refine (Push_yes2 g v (L.set 11 E9) m ⟨#[110, 101, 119]⟩ w11 H10.out.past (by rw [HL9.out]; have := HNN.out; omega) HNN.out.2.2.1 (by rw [HL9.out]; omega)).mono ?_
      rintro e w12 ⟨rfl, v12, h12, hU12, hf12⟩
      rw [← HB.out.2.1, HF.out.1] at h12
      have H12 := Lib.hid (H10.out.push hU12 h12 hf12)
      clear H10 h12 hU12 hf12 HL9
      obtain ⟨M, hM⟩ : ∃ M, L.take n ++ [eNew] = M := ⟨_, rfl⟩
      have HM : Hid (M.length = n + 1 ∧ M[n]? = some eNew ∧ M.take n = L.take n) := Lib.hid (by rw [← hM]; exact HF.out.2)
      rw [hM] at H12
      clear HF hM
      go_wp2_with fail
      refine (Entries_any2 g v12 M _ w12 H12.out.past (by rw [HM.out.1]; have := hlt.out; omega)).mono ?_
      rintro e w13 ⟨v13, rfl, h13, hB13, hf13⟩
      have H13 := Lib.hid (H12.out.entries hB13 h13 hf13)
      obtain ⟨rn, capn, hv13, hcn⟩ := h13.slice (by rw [HM.out.1]; have := hlt.out; omega)
      rw [HM.out.1] at hv13 hcn
      subst hv13
      clear H12 h13 hB13 hf13
      go_wp2_with fail
      rw [hw5]
      have hc1 : w13.drew.cell? ⟨rn, n * 2, none⟩ = some (.string ⟨#[110, 101, 119]⟩) ∧ w13.drew.cell? ⟨rn, n * 2 + 1, none⟩ = some (.int .u64 0) := by
        obtain ⟨hj, he⟩ := List.getElem?_eq_some_iff.1 HM.out.2.1
        have := H13.out.row0.cell n hj
        rwa [he] at this
      have S0 := hc1.1
      have S1 := hc1.2
      have HZ := Lib.hid H13.out.drew
      have HX : Hid (RowOf w13.drew (.slice (some ⟨rn, 0, none⟩) n capn) (L.take n) ∧ RowOf w13.drew (.slice (some ⟨rw_, 0, none⟩) n capw) (L.take n)) := Lib.hid (by
        have h0 := HZ.out.row0.take (by rw [HM.out.1]) n (by rw [HM.out.1]; have := hlt.out; omega)
        rw [HM.out.2.2] at h0
        exact ⟨h0, (HZ.out.rows (.slice (some ⟨rw_, 0, none⟩) 12 capw, L) (by simp)).1.take (by rw [HL.out]) n (by rw [HL.out]; have := hlt.out; omega)⟩)
      have p0 : (n : Int) < (n : Int) + 1 := by omega
      have p1 : (n : Int) ≤ (capn : Int) := by omega
      have p2 : (n : Int) ≤ (capw : Int) := by have := hlt.out; omega
      clear hc1 hcw hcn H13 hw5
      refine start_ (n := 43) (S := fun w' => w'.cell? ⟨rn, n * 2, none⟩ = some (.string ⟨#[110, 101, 119]⟩) ∧ w'.cell? ⟨rn, n * 2 + 1, none⟩ = some (.int .u64 0)) (ds := [26, 30, 37, 40]) #[false, false, false, false, false, false, false, false, false, false, false, false, false, false, false, false, false, false, false, false, false, false, false, false, false, false, false, false, false, false, false, false, false, false, false, false, false, false, false, false, false, false, false] (by kernel_rfl) rfl rfl ⟨S0, S1⟩ (fun hHeld => ?_); refine with_tabW Full.tab19 Full.bits19 (fun HT_ HW_ => ?_)
      clear S0 S1
      generalize w13.drew = w14 at hHeld HZ HX ⊢
      refine pure_ (i := 0) (N := some 71) (v := ?_) (a' := ?_) #[true, false, false, false, false, false, false, false, false, false, false, false, false, false, false, false, false, false, false, false, false, false, false, false, false, false, false, false, false, false, false, false, false, false, false, false, false, false, false, false, false, false, false] rfl rfl (any_of HT_.out (by kernel_rfl)) (fun _ _ _ h => h) (Or.inl ⟨by rfl, ?_⟩) ?_ ?_
      rotate_left
      · intro w'
        go_simp
        with_reducible rfl
      rotate_left
      · simp only [Act.put, List.setIfInBounds_toArray, List.set_cons_zero, List.set_cons_succ, i64_w, i32_w]
        rfl
      refine pure_ (i := 1) (N := some 72) (v := ?_) (a' := ?_) #[true, true, false, false, false, false, false, false, false, false, false, false, false, false, false, false, false, false, false, false, false, false, false, false, false, false, false, false, false, false, false, false, false, false, false, false, false, false, false, false, false, false, false] rfl rfl (any_of HT_.out (by kernel_rfl)) (fun _ _ _ h => h) (Or.inl ⟨by rfl, ?_⟩) ?_ ?_
      rotate_left
      · intro w'
        go_simp
        with_reducible rfl
      rotate_left
      · simp only [Act.put, List.setIfInBounds_toArray, List.set_cons_zero, List.set_cons_succ, i64_w, i32_w]
        rfl
      refine pure_ (i := 2) (N := some 73) (v := ?_) (a' := ?_) #[true, true, true, false, false, false, false, false, false, false, false, false, false, false, false, false, false, false, false, false, false, false, false, false, false, false, false, false, false, false, false, false, false, false, false, false, false, false, false, false, false, false, false] rfl rfl (any_of HT_.out (by kernel_rfl)) (fun _ _ _ h => h) (Or.inl ⟨by rfl, ?_⟩) ?_ ?_
      rotate_left
      · intro w'
        go_simp
        with_reducible rfl
      rotate_left
      · simp only [Act.put, List.setIfInBounds_toArray, List.set_cons_zero, List.set_cons_succ, i64_w, i32_w]
        rfl
      refine pure_ (i := 3) (N := some 74) (v := ?_) (a' := ?_) #[true, true, true, true, false, false, false, false, false, false, false, false, false, false, false, false, false, false, false, false, false, false, false, false, false, false, false, false, false, false, false, false, false, false, false, false, false, false, false, false, false, false, false] rfl rfl (any_of HT_.out (by kernel_rfl)) (fun _ _ _ h => h) (Or.inl ⟨by rfl, ?_⟩) ?_ ?_
      rotate_left
      · intro w'
        go_simp
        with_reducible rfl
      rotate_left
      · simp only [Act.put, List.setIfInBounds_toArray, List.set_cons_zero, List.set_cons_succ, i64_w, i32_w]
        rfl
      refine pure_ (i := 4) (N := some 75) (v := ?_) (a' := ?_) #[true, true, true, true, true, false, false, false, false, false, false, false, false, false, false, false, false, false, false, false, false, false, false, false, false, false, false, false, false, false, false, false, false, false, false, false, false, false, false, false, false, false, false] rfl rfl (any_of HT_.out (by kernel_rfl)) (fun _ _ _ h => h) (Or.inl ⟨by rfl, ?_⟩) ?_ ?_
      rotate_left
      · intro w'
        go_simp
        with_reducible rfl
      rotate_left
      · simp only [Act.put, List.setIfInBounds_toArray, List.set_cons_zero, List.set_cons_succ, i64_w, i32_w]
        rfl
      refine pure_ (i := 5) (N := some 76) (v := ?_) (a' := ?_) #[true, true, true, true, true, true, false, false, false, false, false, false, false, false, false, false, false, false, false, false, false, false, false, false, false, false, false, false, false, false, false, false, false, false, false, false, false, false, false, false, false, false, false] rfl rfl (any_of HT_.out (by kernel_rfl)) (fun _ _ _ h => h) (Or.inl ⟨by rfl, ?_⟩) ?_ ?_
      rotate_left
      · intro w'
        go_simp
        with_reducible rfl
      rotate_left
      · simp only [Act.put, List.setIfInBounds_toArray, List.set_cons_zero, List.set_cons_succ, i64_w, i32_w]
        rfl
      refine pure_ (i := 6) (N := some 77) (v := ?_) (a' := ?_) #[true, true, true, true, true, true, true, false, false, false, false, false, false, false, false, false, false, false, false, false, false, false, false, false, false, false, false, false, false, false, false, false, false, false, false, false, false, false, false, false, false, false, false] rfl rfl (any_of HT_.out (by kernel_rfl)) (fun _ _ _ h => h) (Or.inl ⟨by rfl, ?_⟩) ?_ ?_
      rotate_left
      · intro w'
        go_simp
        with_reducible rfl
      rotate_left
      · simp only [Act.put, List.setIfInBounds_toArray, List.set_cons_zero, List.set_cons_succ, i64_w, i32_w]
        rfl
      refine pure_ (i := 8) (N := some 79) (v := ?_) (a' := ?_) #[true, true, true, true, true, true, true, false, true, false, false, false, false, false, false, false, false, false, false, false, false, false, false, false, false, false, false, false, false, false, false, false, false, false, false, false, false, false, false, false, false, false, false] rfl rfl (any_of HT_.out (by kernel_rfl)) (fun _ _ _ h => h) (Or.inl ⟨by rfl, ?_⟩) ?_ ?_
      rotate_left
      · intro w'
        go_simp
        with_reducible rfl
      rotate_left
      · simp only [Act.put, List.setIfInBounds_toArray, List.set_cons_zero, List.set_cons_succ, i64_w, i32_w]
        rfl
      refine one_ (i := 7) (N := some 78) #[true, true, true, true, true, true, true, true, true, false, false, false, false, false, false, false, false, false, false, false, false, false, false, false, false, false, false, false, false, false, false, false, false, false, false, false, false, false, false, false, false, false, false] rfl rfl (one_of HT_.out (by kernel_rfl)) (by decide) (fun K hK => ?_)
      refine goes_ Try.func13 (by kernel_rfl) rfl #[.pointer (some ⟨g, 0, none⟩)] (by rfl) rfl rfl (by simp only [List.map_toArray, List.map_cons, List.map_nil]; rfl) ?_
      with_reducible refine (At_any g v12 M (n : Int) _ HZ.out.past).mono ?_
      rintro en w' ⟨rfl, rfl⟩
      refine ⟨_, rfl, ?_⟩
      refine hK.out _ _ ⟨hHeld.1, hHeld.2⟩ (fun hHeld => ?_)
      clear hK K
      refine norm_ (a' := ?_) ?_ ?_
      rotate_left
      · show Act.put _ (some 78) _ = _
        simp only [Act.put, List.setIfInBounds_toArray, List.set_cons_zero, List.set_cons_succ, i64_w, i32_w]
        rfl
      refine pure_ (i := 9) (N := some 80) (v := ?_) (a' := ?_) #[true, true, true, true, true, true, true, true, true, true, false, false, false, false, false, false, false, false, false, false, false, false, false, false, false, false, false, false, false, false, false, false, false, false, false, false, false, false, false, false, false, false, false] rfl rfl (any_of HT_.out (by kernel_rfl)) (fun _ _ _ h => h) (Or.inl ⟨by rfl, ?_⟩) ?_ ?_
      rotate_left
      · intro w'
        go_simp
        with_reducible rfl
      rotate_left
      · simp only [Act.put, List.setIfInBounds_toArray, List.set_cons_zero, List.set_cons_succ, i64_w, i32_w]
        rfl
      refine pure_ (i := 10) (N := some 81) (v := ?_) (a' := ?_) #[true, true, true, true, true, true, true, true, true, true, true, false, false, false, false, false, false, false, false, false, false, false, false, false, false, false, false, false, false, false, false, false, false, false, false, false, false, false, false, false, false, false, false] rfl rfl (any_of HT_.out (by kernel_rfl)) (fun _ _ _ h => h) (Or.inl ⟨by rfl, ?_⟩) ?_ ?_
      rotate_left
      · intro w'
        go_simp
        with_reducible rfl
      rotate_left
      · simp only [Act.put, List.setIfInBounds_toArray, List.set_cons_zero, List.set_cons_succ, i64_w, i32_w]
        rfl
      refine pure_ (i := 11) (N := some 82) (v := ?_) (a' := ?_) #[true, true, true, true, true, true, true, true, true, true, true, true, false, false, false, false, false, false, false, false, false, false, false, false, false, false, false, false, false, false, false, false, false, false, false, false, false, false, false, false, false, false, false] rfl rfl (any_of HT_.out (by kernel_rfl)) (fun _ _ _ h => h) (Or.inl ⟨by rfl, ?_⟩) ?_ ?_
      rotate_left
      · intro w'
        go_simp
        with_reducible rfl
      rotate_left
      · simp only [Act.put, List.setIfInBounds_toArray, List.set_cons_zero, List.set_cons_succ, i64_w, i32_w]
        rfl
      refine pure_ (i := 12) (N := some 83) (v := ?_) (a' := ?_) #[true, true, true, true, true, true, true, true, true, true, true, true, true, false, false, false, false, false, false, false, false, false, false, false, false, false, false, false, false, false, false, false, false, false, false, false, false, false, false, false, false, false, false] rfl rfl (any_of HT_.out (by kernel_rfl)) (fun _ _ _ h => h) (Or.inl ⟨by rfl, ?_⟩) ?_ ?_
      rotate_left
      · intro w'
        go_simp
        with_reducible rfl
      rotate_left
      · simp only [Act.put, List.setIfInBounds_toArray, List.set_cons_zero, List.set_cons_succ, i64_w, i32_w]
        rfl
      refine pure_ (i := 13) (N := some 84) (v := ?_) (a' := ?_) #[true, true, true, true, true, true, true, true, true, true, true, true, true, true, false, false, false, false, false, false, false, false, false, false, false, false, false, false, false, false, false, false, false, false, false, false, false, false, false, false, false, false, false] rfl rfl (any_of HT_.out (by kernel_rfl)) (fun _ _ _ h => h) (Or.inl ⟨by rfl, ?_⟩) ?_ ?_
      rotate_left
      · intro w'
        go_simp
        with_reducible rfl
      rotate_left
      · simp only [Act.put, List.setIfInBounds_toArray, List.set_cons_zero, List.set_cons_succ, i64_w, i32_w]
        rfl
      refine pure_ (i := 14) (N := some 85) (v := ?_) (a' := ?_) #[true, true, true, true, true, true, true, true, true, true, true, true, true, true, true, false, false, false, false, false, false, false, false, false, false, false, false, false, false, false, false, false, false, false, false, false, false, false, false, false, false, false, false] rfl rfl (any_of HT_.out (by kernel_rfl)) (fun _ _ _ h => h) (Or.inl ⟨by rfl, ?_⟩) ?_ ?_
      rotate_left
      · intro w'
        go_simp
        with_reducible rfl
      rotate_left
      · simp only [Act.put, List.setIfInBounds_toArray, List.set_cons_zero, List.set_cons_succ, i64_w, i32_w]
        rfl
      refine pure_ (i := 16) (N := some 87) (v := ?_) (a' := ?_) #[true, true, true, true, true, true, true, true, true, true, true, true, true, true, true, false, true, false, false, false, false, false, false, false, false, false, false, false, false, false, false, false, false, false, false, false, false, false, false, false, false, false, false] rfl rfl (any_of HT_.out (by kernel_rfl)) (fun _ _ _ h => h) (Or.inl ⟨by rfl, ?_⟩) ?_ ?_
      rotate_left
      · intro w'
        go_simp
        with_reducible rfl
      rotate_left
      · simp only [Act.put, List.setIfInBounds_toArray, List.set_cons_zero, List.set_cons_succ, i64_w, i32_w]
        rfl
      refine take_ (i := 15) (N := some 86) (v := ?_) (a' := ?_) #[true, true, true, true, true, true, true, true, true, true, true, true, true, true, true, true, true, false, false, false, false, false, false, false, false, false, false, false, false, false, false, false, false, false, false, false, false, false, false, false, false, false, false] rfl rfl (take_ofW HT_.out HW_.out (by kernel_rfl)) (fun _ _ _ h => h) (Or.inl ⟨by rfl, ?_⟩) hHeld ?_ ?_
      rotate_left
      · rintro w' ⟨s0, s1⟩
        go_simp
        with_reducible rfl
      rotate_left
      · simp only [Act.put, List.setIfInBounds_toArray, List.set_cons_zero, List.set_cons_succ, i64_w, i32_w]
        rfl
      refine pure_ (i := 17) (N := some 88) (v := ?_) (a' := ?_) #[true, true, true, true, true, true, true, true, true, true, true, true, true, true, true, true, true, true, false, false, false, false, false, false, false, false, false, false, false, false, false, false, false, false, false, false, false, false, false, false, false, false, false] rfl rfl (any_of HT_.out (by kernel_rfl)) (fun _ _ _ h => h) (Or.inl ⟨by rfl, ?_⟩) ?_ ?_
      rotate_left
      · intro w'
        go_simp
        with_reducible rfl
      rotate_left
      · simp only [Act.put, List.setIfInBounds_toArray, List.set_cons_zero, List.set_cons_succ, i64_w, i32_w]
        rfl
      refine pure_ (i := 18) (N := some 89) (v := ?_) (a' := ?_) #[true, true, true, true, true, true, true, true, true, true, true, true, true, true, true, true, true, true, true, false, false, false, false, false, false, false, false, false, false, false, false, false, false, false, false, false, false, false, false, false, false, false, false] rfl rfl (any_of HT_.out (by kernel_rfl)) (fun _ _ _ h => h) (Or.inl ⟨by rfl, ?_⟩) ?_ ?_
      rotate_left
      · intro w'
        go_simp
        with_reducible rfl
      rotate_left
      · simp only [Act.put, List.setIfInBounds_toArray, List.set_cons_zero, List.set_cons_succ, i64_w, i32_w]
        rfl
      refine pure_ (i := 19) (N := some 90) (v := ?_) (a' := ?_) #[true, true, true, true, true, true, true, true, true, true, true, true, true, true, true, true, true, true, true, true, false, false, false, false, false, false, false, false, false, false, false, false, false, false, false, false, false, false, false, false, false, false, false] rfl rfl (any_of HT_.out (by kernel_rfl)) (fun _ _ _ h => h) (Or.inl ⟨by rfl, ?_⟩) ?_ ?_
      rotate_left
      · intro w'
        go_simp
        with_reducible rfl
      rotate_left
      · simp only [Act.put, List.setIfInBounds_toArray, List.set_cons_zero, List.set_cons_succ, i64_w, i32_w]
        rfl
      refine pure_ (i := 20) (N := some 91) (v := ?_) (a' := ?_) #[true, true, true, true, true, true, true, true, true, true, true, true, true, true, true, true, true, true, true, true, true, false, false, false, false, false, false, false, false, false, false, false, false, false, false, false, false, false, false, false, false, false, false] rfl rfl (any_of HT_.out (by kernel_rfl)) (fun _ _ _ h => h) (Or.inl ⟨by rfl, ?_⟩) ?_ ?_
      rotate_left
      · intro w'
        go_simp
        with_reducible rfl
      rotate_left
      · simp only [Act.put, List.setIfInBounds_toArray, List.set_cons_zero, List.set_cons_succ, i64_w, i32_w]
        rfl
      refine pure_ (i := 21) (N := some 92) (v := ?_) (a' := ?_) #[true, true, true, true, true, true, true, true, true, true, true, true, true, true, true, true, true, true, true, true, true, true, false, false, false, false, false, false, false, false, false, false, false, false, false, false, false, false, false, false, false, false, false] rfl rfl (any_of HT_.out (by kernel_rfl)) (fun _ _ _ h => h) (Or.inl ⟨by rfl, ?_⟩) ?_ ?_
      rotate_left
      · intro w'
        go_simp
        with_reducible rfl
      rotate_left
      · simp only [Act.put, List.setIfInBounds_toArray, List.set_cons_zero, List.set_cons_succ, i64_w, i32_w]
        rfl
      refine pure_ (i := 22) (N := some 93) (v := ?_) (a' := ?_) #[true, true, true, true, true, true, true, true, true, true, true, true, true, true, true, true, true, true, true, true, true, true, true, false, false, false, false, false, false, false, false, false, false, false, false, false, false, false, false, false, false, false, false] rfl rfl (any_of HT_.out (by kernel_rfl)) (fun _ _ _ h => h) (Or.inl ⟨by rfl, ?_⟩) ?_ ?_
      rotate_left
      · intro w'
        go_simp
        with_reducible rfl
      rotate_left
      · simp only [Act.put, List.setIfInBounds_toArray, List.set_cons_zero, List.set_cons_succ, i64_w, i32_w]
        rfl
      refine pure_ (i := 23) (N := some 94) (v := ?_) (a' := ?_) #[true, true, true, true, true, true, true, true, true, true, true, true, true, true, true, true, true, true, true, true, true, true, true, true, false, false, false, false, false, false, false, false, false, false, false, false, false, false, false, false, false, false, false] rfl rfl (any_of HT_.out (by kernel_rfl)) (fun _ _ _ h => h) (Or.inl ⟨by rfl, ?_⟩) ?_ ?_
      rotate_left
      · intro w'
        go_simp
        with_reducible rfl
      rotate_left
      · simp only [Act.put, List.setIfInBounds_toArray, List.set_cons_zero, List.set_cons_succ, i64_w, i32_w]
        rfl
      refine pure_ (i := 24) (N := some 95) (v := ?_) (a' := ?_) #[true, true, true, true, true, true, true, true, true, true, true, true, true, true, true, true, true, true, true, true, true, true, true, true, true, false, false, false, false, false, false, false, false, false, false, false, false, false, false, false, false, false, false] rfl rfl (any_of HT_.out (by kernel_rfl)) (fun _ _ _ h => h) (Or.inl ⟨by rfl, ?_⟩) ?_ ?_
      rotate_left
      · intro w'
        go_simp
        with_reducible rfl
      rotate_left
      · simp only [Act.put, List.setIfInBounds_toArray, List.set_cons_zero, List.set_cons_succ, i64_w, i32_w]
        rfl
      refine pure_ (i := 25) (N := some 96) (v := ?_) (a' := ?_) #[true, true, true, true, true, true, true, true, true, true, true, true, true, true, true, true, true, true, true, true, true, true, true, true, true, true, false, false, false, false, false, false, false, false, false, false, false, false, false, false, false, false, false] rfl rfl (any_of HT_.out (by kernel_rfl)) (fun _ _ _ h => h) (Or.inl ⟨by rfl, ?_⟩) ?_ ?_
      rotate_left
      · intro w'
        go_simp
        with_reducible rfl
      rotate_left
      · simp only [Act.put, List.setIfInBounds_toArray, List.set_cons_zero, List.set_cons_succ, i64_w, i32_w]
        rfl
      refine last_ (i := 26) (N := some 97) #[true, true, true, true, true, true, true, true, true, true, true, true, true, true, true, true, true, true, true, true, true, true, true, true, true, true, true, false, false, false, false, false, false, false, false, false, false, false, false, false, false, false, false] rfl rfl (one_of HT_.out (by kernel_rfl)) (by decide) (fun K hK => ?_)
      refine goes_ Try.func11 (by kernel_rfl) rfl #[.slice (some ⟨rn, 0, none⟩) n capn, .slice (some ⟨rw_, 0, none⟩) n capw] (by rfl) rfl rfl (by simp only [List.map_toArray, List.map_cons, List.map_nil]; rfl) ?_
      with_reducible refine (Same_rows (L.take n) _ (same_self _ (by rw [List.length_take]; have := HL.out; omega)) _ _ _ HX.out.1 HX.out.2).mono ?_
      rintro en w3 ⟨rfl, q3, rfl⟩
      refine ⟨_, rfl, ?_⟩
      refine hK.out _ _ ?_
      clear hK K
      refine norm_ (a' := ?_) ?_ ?_
      rotate_left
      · show Act.put _ (some 97) _ = _
        simp only [Act.put, List.setIfInBounds_toArray, List.set_cons_zero, List.set_cons_succ, i64_w, i32_w]
        rfl
      refine pure_ (i := 27) (N := some 98) (v := ?_) (a' := ?_) #[true, true, true, true, true, true, true, true, true, true, true, true, true, true, true, true, true, true, true, true, true, true, true, true, true, true, true, true, false, false, false, false, false, false, false, false, false, false, false, false, false, false, false] rfl rfl (any_of HT_.out (by kernel_rfl)) (fun _ _ _ h => h) (Or.inl ⟨by rfl, ?_⟩) ?_ ?_
      rotate_left
      · intro w'
        go_simp
        with_reducible rfl
      rotate_left
      · simp only [Act.put, List.setIfInBounds_toArray, List.set_cons_zero, List.set_cons_succ, i64_w, i32_w]
        rfl
      refine pure_ (i := 28) (N := some 99) (v := ?_) (a' := ?_) #[true, true, true, true, true, true, true, true, true, true, true, true, true, true, true, true, true, true, true, true, true, true, true, true, true, true, true, true, true, false, false, false, false, false, false, false, false, false, false, false, false, false, false] rfl rfl (any_of HT_.out (by kernel_rfl)) (fun _ _ _ h => h) (Or.inl ⟨by rfl, ?_⟩) ?_ ?_
      rotate_left
      · intro w'
        go_simp
        with_reducible rfl
      rotate_left
      · simp only [Act.put, List.setIfInBounds_toArray, List.set_cons_zero, List.set_cons_succ, i64_w, i32_w]
        rfl
      refine pure_ (i := 29) (N := some 100) (v := ?_) (a' := ?_) #[true, true, true, true, true, true, true, true, true, true, true, true, true, true, true, true, true, true, true, true, true, true, true, true, true, true, true, true, true, true, false, false, false, false, false, false, false, false, false, false, false, false, false] rfl rfl (any_of HT_.out (by kernel_rfl)) (fun _ _ _ h => h) (Or.inl ⟨by rfl, ?_⟩) ?_ ?_
      rotate_left
      · intro w'
        go_simp
        with_reducible rfl
      rotate_left
      · simp only [Act.put, List.setIfInBounds_toArray, List.set_cons_zero, List.set_cons_succ, i64_w, i32_w]
        rfl
      refine last_ (i := 30) (N := some 101) #[true, true, true, true, true, true, true, true, true, true, true, true, true, true, true, true, true, true, true, true, true, true, true, true, true, true, true, true, true, true, true, false, false, false, false, false, false, false, false, false, false, false, false] rfl rfl (one_of HT_.out (by kernel_rfl)) (by decide) (fun K hK => ?_)
      refine goes_ Try.func16 (by kernel_rfl) rfl #[.pointer (some ⟨g, 0, none⟩), .int .i64 1] (by rfl) rfl rfl (by simp only [List.map_toArray, List.map_cons, List.map_nil]; rfl) ?_
      with_reducible refine (Can_no g v12 M n 1 _ (HZ.out.drewN q3).past HM.out.1 hlt.out (by omega)).mono ?_
      rintro en w4 ⟨rfl, q4, rfl⟩
      refine ⟨_, rfl, ?_⟩
      refine hK.out _ _ ?_
      clear hK K
      refine norm_ (a' := ?_) ?_ ?_
      rotate_left
      · show Act.put _ (some 101) _ = _
        simp only [Act.put, List.setIfInBounds_toArray, List.set_cons_zero, List.set_cons_succ, i64_w, i32_w]
        rfl
      refine pure_ (i := 31) (N := some 102) (v := ?_) (a' := ?_) #[true, true, true, true, true, true, true, true, true, true, true, true, true, true, true, true, true, true, true, true, true, true, true, true, true, true, true, true, true, true, true, true, false, false, false, false, false, false, false, false, false, false, false] rfl rfl (any_of HT_.out (by kernel_rfl)) (fun _ _ _ h => h) (Or.inl ⟨by rfl, ?_⟩) ?_ ?_
      rotate_left
      · intro w'
        go_simp
        with_reducible rfl
      rotate_left
      · simp only [Act.put, List.setIfInBounds_toArray, List.set_cons_zero, List.set_cons_succ, i64_w, i32_w]
        rfl
      refine pure_ (i := 32) (N := some 103) (v := ?_) (a' := ?_) #[true, true, true, true, true, true, true, true, true, true, true, true, true, true, true, true, true, true, true, true, true, true, true, true, true, true, true, true, true, true, true, true, true, false, false, false, false, false, false, false, false, false, false] rfl rfl (any_of HT_.out (by kernel_rfl)) (fun _ _ _ h => h) (Or.inl ⟨by rfl, ?_⟩) ?_ ?_
      rotate_left
      · intro w'
        go_simp
        with_reducible rfl
      rotate_left
      · simp only [Act.put, List.setIfInBounds_toArray, List.set_cons_zero, List.set_cons_succ, i64_w, i32_w]
        rfl
      refine pure_ (i := 33) (N := some 104) (v := ?_) (a' := ?_) #[true, true, true, true, true, true, true, true, true, true, true, true, true, true, true, true, true, true, true, true, true, true, true, true, true, true, true, true, true, true, true, true, true, true, false, false, false, false, false, false, false, false, false] rfl rfl (any_of HT_.out (by kernel_rfl)) (fun _ _ _ h => h) (Or.inl ⟨by rfl, ?_⟩) ?_ ?_
      rotate_left
      · intro w'
        go_simp
        with_reducible rfl
      rotate_left
      · simp only [Act.put, List.setIfInBounds_toArray, List.set_cons_zero, List.set_cons_succ, i64_w, i32_w]
        rfl
      refine pure_ (i := 34) (N := some 105) (v := ?_) (a' := ?_) #[true, true, true, true, true, true, true, true, true, true, true, true, true, true, true, true, true, true, true, true, true, true, true, true, true, true, true, true, true, true, true, true, true, true, true, false, false, false, false, false, false, false, false] rfl rfl (any_of HT_.out (by kernel_rfl)) (fun _ _ _ h => h) (Or.inl ⟨by rfl, ?_⟩) ?_ ?_
      rotate_left
      · intro w'
        go_simp
        with_reducible rfl
      rotate_left
      · simp only [Act.put, List.setIfInBounds_toArray, List.set_cons_zero, List.set_cons_succ, i64_w, i32_w]
        rfl
      refine pure_ (i := 35) (N := some 106) (v := ?_) (a' := ?_) #[true, true, true, true, true, true, true, true, true, true, true, true, true, true, true, true, true, true, true, true, true, true, true, true, true, true, true, true, true, true, true, true, true, true, true, true, false, false, false, false, false, false, false] rfl rfl (any_of HT_.out (by kernel_rfl)) (fun _ _ _ h => h) (Or.inl ⟨by rfl, ?_⟩) ?_ ?_
      rotate_left
      · intro w'
        go_simp
        with_reducible rfl
      rotate_left
      · simp only [Act.put, List.setIfInBounds_toArray, List.set_cons_zero, List.set_cons_succ, i64_w, i32_w]
        rfl
      refine pure_ (i := 36) (N := some 107) (v := ?_) (a' := ?_) #[true, true, true, true, true, true, true, true, true, true, true, true, true, true, true, true, true, true, true, true, true, true, true, true, true, true, true, true, true, true, true, true, true, true, true, true, true, false, false, false, false, false, false] rfl rfl (any_of HT_.out (by kernel_rfl)) (fun _ _ _ h => h) (Or.inl ⟨by rfl, ?_⟩) ?_ ?_
      rotate_left
      · intro w'
        go_simp
        with_reducible rfl
      rotate_left
      · simp only [Act.put, List.setIfInBounds_toArray, List.set_cons_zero, List.set_cons_succ, i64_w, i32_w]
        rfl
      refine last_ (i := 37) (N := some 108) #[true, true, true, true, true, true, true, true, true, true, true, true, true, true, true, true, true, true, true, true, true, true, true, true, true, true, true, true, true, true, true, true, true, true, true, true, true, true, false, false, false, false, false] rfl rfl (one_of HT_.out (by kernel_rfl)) (by decide) (fun K hK => ?_)
      refine goes_ Try.func16 (by kernel_rfl) rfl #[.pointer (some ⟨g, 0, none⟩), .int .i64 (wrap64 (-(n : Int)))] (by rfl) rfl rfl (by simp only [List.map_toArray, List.map_cons, List.map_nil]; rfl) ?_
      with_reducible refine (Can_yes g v12 M n (wrap64 (-(n : Int))) _ ((HZ.out.drewN q3).drewN q4).past HM.out.1 hlt.out (by rw [hw7]; omega)).mono ?_
      rintro en w5 ⟨rfl, q5, rfl⟩
      refine ⟨_, rfl, ?_⟩
      refine hK.out _ _ ?_
      clear hK K
      refine norm_ (a' := ?_) ?_ ?_
      rotate_left
      · show Act.put _ (some 108) _ = _
        simp only [Act.put, List.setIfInBounds_toArray, List.set_cons_zero, List.set_cons_succ, i64_w, i32_w]
        rfl
      refine pure_ (i := 38) (N := some 109) (v := ?_) (a' := ?_) #[true, true, true, true, true, true, true, true, true, true, true, true, true, true, true, true, true, true, true, true, true, true, true, true, true, true, true, true, true, true, true, true, true, true, true, true, true, true, true, false, false, false, false] rfl rfl (any_of HT_.out (by kernel_rfl)) (fun _ _ _ h => h) (Or.inl ⟨by rfl, ?_⟩) ?_ ?_
      rotate_left
      · intro w'
        go_simp
        with_reducible rfl
      rotate_left
      · simp only [Act.put, List.setIfInBounds_toArray, List.set_cons_zero, List.set_cons_succ, i64_w, i32_w]
        rfl
      refine pure_ (i := 39) (N := some 110) (v := ?_) (a' := ?_) #[true, true, true, true, true, true, true, true, true, true, true, true, true, true, true, true, true, true, true, true, true, true, true, true, true, true, true, true, true, true, true, true, true, true, true, true, true, true, true, true, false, false, false] rfl rfl (any_of HT_.out (by kernel_rfl)) (fun _ _ _ h => h) (Or.inl ⟨by rfl, ?_⟩) ?_ ?_
      rotate_left
      · intro w'
        go_simp
        with_reducible rfl
      rotate_left
      · simp only [Act.put, List.setIfInBounds_toArray, List.set_cons_zero, List.set_cons_succ, i64_w, i32_w]
        rfl
      refine last_ (i := 40) (N := some 111) #[true, true, true, true, true, true, true, true, true, true, true, true, true, true, true, true, true, true, true, true, true, true, true, true, true, true, true, true, true, true, true, true, true, true, true, true, true, true, true, true, true, false, false] rfl rfl (one_of HT_.out (by kernel_rfl)) (by decide) (fun K hK => ?_)
      refine goes_ Try.func3 (by kernel_rfl) rfl #[] (by rfl) rfl rfl (by simp) ?_
      with_reducible refine (PastRuns_any _).mono ?_
      rintro en w6 ⟨rfl, hB6⟩
      refine ⟨_, rfl, ?_⟩
      refine hK.out _ _ ?_
      clear hK K
      refine norm_ (a' := ?_) ?_ ?_
      rotate_left
      · show Act.put _ (some 111) _ = _
        simp only [Act.put, List.setIfInBounds_toArray, List.set_cons_zero, List.set_cons_succ, i64_w, i32_w]
        rfl
      refine pure_ (i := 41) (N := some 112) (v := ?_) (a' := ?_) #[true, true, true, true, true, true, true, true, true, true, true, true, true, true, true, true, true, true, true, true, true, true, true, true, true, true, true, true, true, true, true, true, true, true, true, true, true, true, true, true, true, true, false] rfl rfl (any_of HT_.out (by kernel_rfl)) (fun _ _ _ h => h) (Or.inl ⟨by rfl, ?_⟩) ?_ ?_
      rotate_left
      · intro w'
        go_simp
        with_reducible rfl
      rotate_left
      · simp only [Act.put, List.setIfInBounds_toArray, List.set_cons_zero, List.set_cons_succ, i64_w, i32_w]
        rfl
      refine pure_ (i := 42) (N := some 6) (v := ?_) (a' := ?_) #[true, true, true, true, true, true, true, true, true, true, true, true, true, true, true, true, true, true, true, true, true, true, true, true, true, true, true, true, true, true, true, true, true, true, true, true, true, true, true, true, true, true, true] rfl rfl (any_of HT_.out (by kernel_rfl)) (fun _ _ _ h => h) (Or.inl ⟨by rfl, ?_⟩) ?_ ?_
      rotate_left
      · intro w'
        go_simp
        with_reducible rfl
      rotate_left
      · simp only [Act.put, List.setIfInBounds_toArray, List.set_cons_zero, List.set_cons_succ, i64_w, i32_w]
        rfl
      refine done_ (done_of HT_.out (by kernel_rfl)) ?_
      have hf := (((HZ.out.drewN q3).drewN q4).drewN q5).low
      go_wp2_with fail
      go_ret
      exact ⟨rfl, hf.trans (hB6.mono hf.size)⟩
end Go.Proofs.Ytobeebcpkkdkhaa.Pa
