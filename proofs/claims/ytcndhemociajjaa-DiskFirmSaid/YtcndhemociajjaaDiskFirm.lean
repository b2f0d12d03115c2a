/- DiskFirm: the walk (printed by wip/law23/gen_Firm.py out of Firm.body). -/
import Derived.Test.YtcndhemociajjaaDiskRuns
set_option linter.unusedVariables false
set_option linter.unusedSimpArgs false
namespace Go.Proofs.Ytcndhemociajjaa.Dk
open Go.RowKit Go.Maps Go.WideMaps Go.Proofs.YtcndhemociajjaaW.PrintWords Go.Proofs.YtcndhemociajjaaW.PrintLast Go.Proofs.Ytcndhemociajjaa.Sl Go.Proofs.Ytcndhemociajjaa.Mv Go.Proofs.Ytcndhemociajjaa.PDiskRoom

abbrev nOld : ByteArray := ⟨#[111, 108, 100]⟩
abbrev nTmp : ByteArray := ⟨#[116, 109, 112]⟩
theorem old_tmp : nOld ≠ nTmp := by decide
theorem C_take {w : World} {A : Option Addr} {n m : Nat} {l : List Int} (h : Kd.C (Kd.int .u8) w A n l) (hm : m ≤ l.length) : Kd.C (Kd.int .u8) w A m (l.take m) := by
  obtain ⟨h1, h2, h3⟩ := h
  have h1 : l.length = n := h1
  refine ⟨by show (l.take m).length = m; rw [List.length_take]; omega, by omega, fun h0 => ?_⟩
  obtain ⟨ad, e, h4⟩ := h3 (by omega)
  refine ⟨ad, e, fun j p hj => h4 j p ?_⟩
  have hj2 : j < m := by
    have := (List.getElem?_eq_some_iff.1 hj).1
    rw [List.length_take] at this
    omega
  rwa [List.getElem?_take_of_lt hj2] at hj
theorem two (a b : ByteArray) (h : a ≠ b) (x y : Fl) : pt [(a, x)] b y = [(b, y), (a, x)] ∧ lk [(b, y), (a, x)] b = some y ∧ lk [(b, y), (a, x)] a = some x ∧ tot [(b, y), (a, x)] = y.l.length + x.l.length ∧ doneL [(b, y), (a, x)] ⟨b, a, nilF, false⟩ = (if a = ⟨#[]⟩ then [(a, x)] else [(a, y)]) := by
  refine ⟨?_, ?_, ?_, ?_, ?_⟩
  · simp [pt, dl, h]
  · simp [lk]
  · simp [lk, Ne.symm h]
  · simp [tot]
  · have h2 : dl [(b, y), (a, x)] b = [(a, x)] := by simp [dl, h]
    have h3 : lk [(b, y), (a, x)] b = some y := by simp [lk]
    unfold doneL
    show (if (false : Bool) = true then _ else if a = ⟨#[]⟩ then dl [(b, y), (a, x)] b else pt (dl [(b, y), (a, x)] b) a ((lk [(b, y), (a, x)] b).getD nilF)) = _
    rw [if_neg (by decide)]
    simp only [h2, h3, Option.getD_some]
    split
    · rfl
    · exact pt_same _ _ _
theorem boot_one (fs : FS) (t : Tk) (h : t.wr = false) (keep part : Int) : bootL fs ([] ++ [t]) keep part = if 0 < keep then doneL fs t else fs := by
  unfold bootL
  by_cases hk : 0 < keep
  · have e : bootK keep ([] ++ [t]).length = 1 := by show bootK keep 1 = 1; unfold bootK; omega
    rw [e, if_pos hk]
    rfl
  · have e : bootK keep ([] ++ [t]).length = 0 := by show bootK keep 1 = 0; unfold bootK; omega
    rw [e, if_neg hk]
    simp [h]
set_option maxHeartbeats 8000000 in
set_option maxRecDepth 1000000 in
theorem DiskFirm_any (A0 : Option Addr) (c0 : Nat) (l0 : List Int) (A1 : Option Addr) (c1 : Nat) (l1 : List Int) (keep part : Int) (w : World) (hr0 : Kd.C (Kd.int .u8) w A0 l0.length l0) (hc0 : l0.length ≤ c0) (hr1 : Kd.C (Kd.int .u8) w A1 l1.length l1) (hc1 : l1.length ≤ c1) : Calls Try.prog 4 #[.slice A0 l0.length c0, .slice A1 l1.length c1, .int .i64 keep, .int .i64 part] w fun e w' => e = .returned (.bool true) ∧ Below w.heap.size w w' := by
  have hp : ∀ (g : Nat) (w : World), (binOp .eql 22 (.pointer (some ⟨g, 0, none⟩)) (.pointer none)).run Try.prog w = .ok (.bool false) w := fun g w => rfl
  obtain ⟨m0, hm0, hm0l, hm0k⟩ : ∃ m : Nat, min (l0.length : Int) 200 = (m : Int) ∧ m ≤ l0.length ∧ m ≤ 200 := ⟨min l0.length 200, by omega, by omega, by omega⟩
  obtain ⟨m1, hm1, hm1l, hm1k⟩ : ∃ m : Nat, min (l1.length : Int) 200 = (m : Int) ∧ m ≤ l1.length ∧ m ≤ 200 := ⟨min l1.length 200, by omega, by omega, by omega⟩
  have HA := Lib.hid (And.intro (And.intro (src_of_C (c := c0) hr0 m0 hm0l) (C_take hr0 hm0l)) (And.intro (src_of_C (c := c1) hr1 m1 hm1l) (C_take hr1 hm1l)))
  have HK := Lib.hid (And.intro (And.intro hm0l hm0k) (And.intro hm1l hm1k))
  have p0 : (0 : Int) ≤ (m0 : Int) := by omega
  have p1 : (0 : Int) ≤ (m1 : Int) := by omega
  have p2 : (m0 : Int) ≤ (c0 : Int) := by omega
  have p3 : (m1 : Int) ≤ (c1 : Int) := by omega
  have p4 : (m0 : Int) ≤ (l0.length : Int) := by omega
  have p5 : (m1 : Int) ≤ (l1.length : Int) := by omega
  clear hr0 hr1 hc0 hc1 hm0l hm0k hm1l hm1k
  go_enter Try.func4, Try.ntmps4
  go_wp2_with fail
  refine (New_any w).mono ?_
  rintro e w1 ⟨d, bf, bn, rfl, h1⟩
  have H1 := Lib.hid h1
  clear h1
  go_upto_region 2 with fail
  have HZ : Hid (DA w w1.drew d bf bn 0 0 [] [] [] (.slice none 0 0)) := Lib.hid (H1.out.below (pw_below_drewN (Below.refl _ _) 1))
  clear H1
  refine start_ (n := 12) (S := fun w' => True) (ds := []) #[false, false, false, false, false, false, false, false, false, false, false, false] (by kernel_rfl) rfl rfl trivial (fun hHeld => ?_)
  generalize w1.drew = w2 at HZ ⊢
  refine pure_ (i := 0) (N := some 17) (v := ?_) (a' := ?_) #[true, false, false, false, false, false, false, false, false, false, false, false] rfl rfl (by kernel_rfl) (fun _ _ _ h => h) (Or.inl ⟨by rfl, ?_⟩) ?_ ?_
  rotate_left
  · intro w'
    go_simp
    with_reducible rfl
  rotate_left
  · simp only [Act.put, List.setIfInBounds_toArray, List.set_cons_zero, List.set_cons_succ, i64_w, i32_w]
    rfl
  refine pure_ (i := 1) (N := some 18) (v := ?_) (a' := ?_) #[true, true, false, false, false, false, false, false, false, false, false, false] rfl rfl (by kernel_rfl) (fun _ _ _ h => h) (Or.inl ⟨by rfl, ?_⟩) ?_ ?_
  rotate_left
  · intro w'
    go_simp
    with_reducible rfl
  rotate_left
  · simp only [Act.put, List.setIfInBounds_toArray, List.set_cons_zero, List.set_cons_succ, i64_w, i32_w]
    rfl
  refine pure_ (i := 2) (N := some 19) (v := ?_) (a' := ?_) #[true, true, true, false, false, false, false, false, false, false, false, false] rfl rfl (by kernel_rfl) (fun _ _ _ h => h) (Or.inl ⟨by rfl, ?_⟩) ?_ ?_
  rotate_left
  · intro w'
    go_simp
    with_reducible rfl
  rotate_left
  · simp only [Act.put, List.setIfInBounds_toArray, List.set_cons_zero, List.set_cons_succ, i64_w, i32_w]
    rfl
  refine pure_ (i := 3) (N := some 20) (v := ?_) (a' := ?_) #[true, true, true, true, false, false, false, false, false, false, false, false] rfl rfl (by kernel_rfl) (fun _ _ _ h => h) (Or.inl ⟨by rfl, ?_⟩) ?_ ?_
  rotate_left
  · intro w'
    go_simp
    with_reducible rfl
  rotate_left
  · simp only [Act.put, List.setIfInBounds_toArray, List.set_cons_zero, List.set_cons_succ, i64_w, i32_w]
    rfl
  refine pure_ (i := 4) (N := some 21) (v := ?_) (a' := ?_) #[true, true, true, true, true, false, false, false, false, false, false, false] rfl rfl (by kernel_rfl) (fun _ _ _ h => h) (Or.inl ⟨by rfl, ?_⟩) ?_ ?_
  rotate_left
  · intro w'
    go_simp
    with_reducible rfl
  rotate_left
  · simp only [Act.put, List.setIfInBounds_toArray, List.set_cons_zero, List.set_cons_succ, i64_w, i32_w]
    rfl
  refine pure_ (i := 5) (N := some 22) (v := ?_) (a' := ?_) #[true, true, true, true, true, true, false, false, false, false, false, false] rfl rfl (by kernel_rfl) (fun _ _ _ h => h) (Or.inl ⟨by rfl, ?_⟩) ?_ ?_
  rotate_left
  · intro w'
    go_simp
    with_reducible rfl
  rotate_left
  · simp only [Act.put, List.setIfInBounds_toArray, List.set_cons_zero, List.set_cons_succ, i64_w, i32_w]
    rfl
  refine pure_ (i := 6) (N := some 23) (v := ?_) (a' := ?_) #[true, true, true, true, true, true, true, false, false, false, false, false] rfl rfl (by kernel_rfl) (fun _ _ _ h => h) (Or.inl ⟨by rfl, ?_⟩) ?_ ?_
  rotate_left
  · intro w'
    go_simp
    with_reducible rfl
  rotate_left
  · simp only [Act.put, List.setIfInBounds_toArray, List.set_cons_zero, List.set_cons_succ, i64_w, i32_w]
    rfl
  refine pure_ (i := 7) (N := some 24) (v := ?_) (a' := ?_) #[true, true, true, true, true, true, true, true, false, false, false, false] rfl rfl (by kernel_rfl) (fun _ _ _ h => h) (Or.inl ⟨by rfl, ?_⟩) ?_ ?_
  rotate_left
  · intro w'
    go_simp
    with_reducible rfl
  rotate_left
  · simp only [Act.put, List.setIfInBounds_toArray, List.set_cons_zero, List.set_cons_succ, i64_w, i32_w]
    rfl
  refine pure_ (i := 8) (N := some 25) (v := ?_) (a' := ?_) #[true, true, true, true, true, true, true, true, true, false, false, false] rfl rfl (by kernel_rfl) (fun _ _ _ h => h) (Or.inl ⟨by rfl, ?_⟩) ?_ ?_
  rotate_left
  · intro w'
    go_simp
    with_reducible rfl
  rotate_left
  · simp only [Act.put, List.setIfInBounds_toArray, List.set_cons_zero, List.set_cons_succ, i64_w, i32_w]
    rfl
  refine pure_ (i := 9) (N := some 26) (v := ?_) (a' := ?_) #[true, true, true, true, true, true, true, true, true, true, false, false] rfl rfl (by kernel_rfl) (fun _ _ _ h => h) (Or.inl ⟨by rfl, ?_⟩) ?_ ?_
  rotate_left
  · intro w'
    go_simp
    with_reducible rfl
  rotate_left
  · simp only [Act.put, List.setIfInBounds_toArray, List.set_cons_zero, List.set_cons_succ, i64_w, i32_w]
    rfl
  refine pure_ (i := 10) (N := some 10) (v := ?_) (a' := ?_) #[true, true, true, true, true, true, true, true, true, true, true, false] rfl rfl (by kernel_rfl) (fun _ _ _ h => h) (Or.inl ⟨by rfl, ?_⟩) ?_ ?_
  rotate_left
  · intro w'
    go_simp
    with_reducible rfl
  rotate_left
  · simp only [Act.put, List.setIfInBounds_toArray, List.set_cons_zero, List.set_cons_succ, i64_w, i32_w]
    rfl
  refine pure_ (i := 11) (N := some 11) (v := ?_) (a' := ?_) #[true, true, true, true, true, true, true, true, true, true, true, true] rfl rfl (by kernel_rfl) (fun _ _ _ h => h) (Or.inl ⟨by rfl, ?_⟩) ?_ ?_
  rotate_left
  · intro w'
    go_simp
    with_reducible rfl
  rotate_left
  · simp only [Act.put, List.setIfInBounds_toArray, List.set_cons_zero, List.set_cons_succ, i64_w, i32_w]
    rfl
  refine done_ (by kernel_rfl) ?_
  obtain ⟨LA, hLA⟩ : ∃ LA, l0.take m0 = LA := ⟨_, rfl⟩
  obtain ⟨LB, hLB⟩ : ∃ LB, l1.take m1 = LB := ⟨_, rfl⟩
  rw [hLA, hLB] at HA
  have nA : m0 = LA.length := by rw [← hLA, List.length_take]; have := HK.out; omega
  have nB : m1 = LB.length := by rw [← hLB, List.length_take]; have := HK.out; omega
  have HL : Hid (m0 = LA.length ∧ m1 = LB.length ∧ LA.length ≤ 200 ∧ LB.length ≤ 200 ∧ LA.length ≤ c0 ∧ LB.length ≤ c1) := Lib.hid ⟨nA, nB, by have := HK.out; omega, by have := HK.out; omega, by omega, by omega⟩
  clear hLA hLB nA nB HK p2 p3 p4 p5 hm0 hm1
  go_wp2_with fail
  refine (Write_any d bf bn 0 0 [] [] [] _ w _ HZ.out (by omega) (by decide) (by decide) nOld (by decide) (by decide) _ LA (src_below HA.out.1.1 HZ.out.low) (by have := HL.out; omega)).mono ?_
  rintro e w3 (⟨_, rfl, vw3, A3, c3, h3⟩ | ⟨hno, _⟩)
  case inr => exact absurd (by show 0 + LA.length ≤ 4000; have := HL.out; omega) hno
  obtain ⟨fa, hfa⟩ : ∃ fa : Fl, (⟨.slice A3 LA.length c3, LA⟩ : Fl) = fa := ⟨_, rfl⟩
  rw [show pt [] nOld ⟨.slice A3 LA.length c3, LA⟩ = [(nOld, fa)] from by rw [hfa]; rfl] at h3
  have H3 := Lib.hid (And.intro h3 (show fa.l = LA by rw [← hfa]))
  clear h3 HZ hfa
  have ht3 := tot_one nOld fa
  have hd3 : dl [(nOld, fa)] nTmp = [(nOld, fa)] := by simp [dl]
  go_wp2_with fail
  refine (Write_any d bf bn 0 1 [] _ _ _ w _ H3.out.1 (by omega) (by show 1 < 90000; omega) (by rw [ht3, H3.out.2]; have := HL.out; omega) nTmp (by decide) (by decide) _ LB (src_below HA.out.2.1 H3.out.1.low) (by have := HL.out; omega)).mono ?_
  rintro e w4 (⟨_, rfl, vw4, A4, c4, h4⟩ | ⟨hno, _⟩)
  case inr => exact absurd (by rw [hd3, ht3, H3.out.2]; have := HL.out; omega) hno
  obtain ⟨fb, hfb⟩ : ∃ fb : Fl, (⟨.slice A4 LB.length c4, LB⟩ : Fl) = fb := ⟨_, rfl⟩
  have h2 := two nOld nTmp old_tmp fa fb
  rw [hfb, h2.1] at h4
  have H4 := Lib.hid (And.intro h4 (And.intro H3.out.2 (And.intro (show fb.l = LB by rw [← hfb]) h2.2)))
  clear h4 H3 hfb ht3 hd3 h2
  go_wp2_with fail
  refine (Sync_any d bf bn 0 2 _ _ _ _ w w4 H4.out.1).mono ?_
  rintro e w5 ⟨rfl, bf5, h5⟩
  have H5 := Lib.hid (And.intro h5 H4.out.2)
  clear h5 H4
  go_wp2_with fail
  refine (Rename_any d bf5 bn 2 2 _ _ _ _ w w5 H5.out.1 (by omega) (by decide) nTmp (by decide) nOld (by decide) (by decide) fb H5.out.2.2.2.1).mono ?_
  rintro e w6 ⟨rfl, vw6, h6⟩
  have H6 := Lib.hid (And.intro h6 H5.out.2)
  clear h6 H5
  go_wp2_with fail
  refine (Boot_any d bf5 bn 2 3 _ _ _ _ w w6 H6.out.1 (by omega) (by show 1 < 1000; omega) (by show 0 < 1; omega) (fun t ht e => by
    obtain rfl := List.mem_singleton.1 ht
    cases e) keep part).mono ?_
  rintro e w7 ⟨rfl, bn7, n7, _, h7⟩
  rw [boot_one _ _ rfl, H6.out.2.2.2.2.2.2, if_neg (show ¬ nOld = ⟨#[]⟩ by decide)] at h7
  by_cases hk : 0 < keep
  · rw [if_pos hk] at h7
    have H7 := Lib.hid (And.intro h7 H6.out.2)
    clear h7 H6
    go_wp2_with fail
    refine (Read_any d bf5 bn7 n7 n7 _ _ _ _ w w7 H7.out.1 nOld (by decide) fb (lk_same _ _ _) (by rw [H7.out.2.2.1]; have := HL.out; omega)).mono ?_
    rintro e w8 ⟨A8, c8, rfl, hr8, hB8⟩
    rw [H7.out.2.2.1] at hr8 ⊢
    have H8 := Lib.hid (And.intro (H7.out.1.below hB8) hr8)
    clear H7 hr8 hB8
    go_wp2_with fail
    refine (Read_none d bf5 bn7 n7 n7 _ _ _ _ w w8 H8.out.1 nTmp (by decide) (by simp [lk])).mono ?_
    rintro e w9 ⟨rfl, rfl⟩
    go_wp2_with fail
    refine (Same_any (C_of_brow H8.out.2 rfl) rfl (cap_le H8.out.2 rfl) (Kd.C_below HA.out.2.2 H8.out.1.low) HL.out.2.1 (by have := HL.out; omega) (by have := HL.out; omega)).mono ?_
    rintro e w10 ⟨rfl, hB10⟩
    have H10 := Lib.hid (H8.out.1.low.trans (hB10.mono H8.out.1.low.size))
    clear H8 hB10
    go_wp2_with fail
    refine (DiskRuns_any w10).mono ?_
    rintro e w11 ⟨rfl, hB11⟩
    have H11 := Lib.hid (H10.out.trans (hB11.mono H10.out.size))
    clear H10 hB11
    go_wp2_with fail
    go_ret
    exact ⟨rfl, H11.out⟩
  · rw [if_neg hk] at h7
    have H7 := Lib.hid (And.intro h7 H6.out.2)
    clear h7 H6
    go_wp2_with fail
    refine (Read_any d bf5 bn7 n7 n7 _ _ _ _ w w7 H7.out.1 nOld (by decide) fa H7.out.2.2.2.2.1 (by rw [H7.out.2.1]; have := HL.out; omega)).mono ?_
    rintro e w8 ⟨A8, c8, rfl, hr8, hB8⟩
    rw [H7.out.2.1] at hr8 ⊢
    have H8 := Lib.hid (And.intro (H7.out.1.below hB8) (And.intro hr8 H7.out.2))
    clear H7 hr8 hB8
    go_wp2_with fail
    refine (Read_any d bf5 bn7 n7 n7 _ _ _ _ w w8 H8.out.1 nTmp (by decide) fb H8.out.2.2.2.2.1 (by rw [H8.out.2.2.2.1]; have := HL.out; omega)).mono ?_
    rintro e w9 ⟨A9, c9, rfl, hr9, hB9⟩
    rw [H8.out.2.2.2.1] at hr9 ⊢
    have H9 := Lib.hid (And.intro (H8.out.1.below hB9) (And.intro (H8.out.2.1.below hB9) (And.intro hr9 H8.out.2.2)))
    clear H8 hr9 hB9
    go_wp2_with fail
    refine (Same_any (C_of_brow H9.out.2.1 rfl) rfl (cap_le H9.out.2.1 rfl) (Kd.C_below HA.out.1.2 H9.out.1.low) HL.out.1 (by have := HL.out; omega) (by have := HL.out; omega)).mono ?_
    rintro e w10 ⟨rfl, hB10⟩
    have H10 := Lib.hid (And.intro (H9.out.1.below hB10) (And.intro (H9.out.2.2.1.below hB10) H9.out.2.2.2))
    clear H9 hB10
    go_wp2_with fail
    refine (Same_any (C_of_brow H10.out.2.1 rfl) rfl (cap_le H10.out.2.1 rfl) (Kd.C_below HA.out.2.2 H10.out.1.low) HL.out.2.1 (by have := HL.out; omega) (by have := HL.out; omega)).mono ?_
    rintro e w11 ⟨rfl, hB11⟩
    have H11 := Lib.hid (And.intro (H10.out.1.below hB11) H10.out.2.2)
    clear H10 hB11
    have htot : tot [(nTmp, fb), (nOld, fa)] = m1 + m0 := by rw [H11.out.2.2.2.2.2.1, H11.out.2.2.1, H11.out.2.1]; have := HL.out; omega
    go_wp2_with fail
    refine (Used_any d bn7 n7 _ w11 H11.out.1.c.2.1 H11.out.1.nowM (by rw [htot]; have := HL.out; omega)).mono ?_
    rintro e w12 ⟨rfl, hB12⟩
    rw [htot]
    have H12 := Lib.hid (H11.out.1.low.trans (hB12.mono H11.out.1.low.size))
    have q1 : (m0 : Int) ≤ 200 := by have := HL.out; omega
    have q2 : (m1 : Int) ≤ 200 := by have := HL.out; omega
    clear H11 hB12 htot
    have hcast : ((m1 + m0 : Nat) : Int) = (m0 : Int) + (m1 : Int) := by omega
    rw [hcast]
    go_wp2_with fail
    refine (DiskRuns_any w12).mono ?_
    rintro e w13 ⟨rfl, hB13⟩
    have H13 := Lib.hid (H12.out.trans (hB13.mono H12.out.size))
    clear H12 hB13
    go_wp2_with fail
    go_ret
    exact ⟨rfl, H13.out⟩
end Go.Proofs.Ytcndhemociajjaa.Dk
