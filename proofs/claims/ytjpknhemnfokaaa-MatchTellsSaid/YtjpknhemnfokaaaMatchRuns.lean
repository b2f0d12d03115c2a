/- MatchRuns: the walk (printed by wip/law14/gen_Runs.py out of Runs.body). -/
import Derived.Test.YtjpknhemnfokaaaMatchPure
set_option linter.unusedVariables false
set_option linter.unusedSimpArgs false
namespace Go.Proofs.Ytjpknhemnfokaaa.Mt
open Go.RowKit Go.Maps Go.Proofs.YtjpknhemnfokaaaW.PrintWords Go.Proofs.YtjpknhemnfokaaaW.PrintLast Go.Proofs.Ytjpknhemnfokaaa.Sl Go.Proofs.Ytjpknhemnfokaaa.Mv Go.Proofs.Ytjpknhemnfokaaa.PMatchTells

theorem trow_lit3 (w : World) (a b c : Tr) : TRow (w.alloc (.cells #[.string a.a, .string a.b, .string a.c, .slice none 0 0, .slice none 0 0, .string b.a, .string b.b, .string b.c, .slice none 0 0, .slice none 0 0, .string c.a, .string c.b, .string c.c, .slice none 0 0, .slice none 0 0] 25)) (.slice (some ⟨w.heap.size, 0, none⟩) 3 3) [a, b, c] :=
  Sl.of_own (World.ownsRow_lit (base := 0) (e := 25) (size := 5) w #[.string a.a, .string a.b, .string a.c, .slice none 0 0, .slice none 0 0, .string b.a, .string b.b, .string b.c, .slice none 0 0, .slice none 0 0, .string c.a, .string c.b, .string c.c, .slice none 0 0, .slice none 0 0] 3 (Nat.zero_le _) (by decide) (by rfl))
theorem C_of_irow {w : World} {A : Option Addr} {n c : Nat} {l : List Int} (h : IRow w (.slice A n c) l) (hn : n = l.length) : Kd.C (Kd.int .i64) w A n l := by
  subst hn
  have hm : l.length ≤ 9223372036854775807 := by
    rcases h.2 with ⟨_, h1⟩ | ⟨g, o, cap, cur, _, _, h2, h3, _⟩
    · omega
    · simp only [maxLen] at h3; omega
  refine ⟨rfl, hm, fun h0 => ?_⟩
  obtain ⟨g, o, c', e, _⟩ := h.form1 h0
  cases e
  refine ⟨_, rfl, fun j p hj => ⟨[.int .i64 p], rfl, rfl, fun i u hu => ?_⟩⟩
  have hi : i = 0 := by
    rcases i with _ | i
    · rfl
    · simp at hu
  subst hi
  cases hu
  have := Sl.cell h j (.int .i64 p) (by rw [List.getElem?_map, hj]; rfl)
  show w.cell? ((⟨g, o, none⟩ : Addr).add (j * 1 + 0)) = _
  rwa [show (⟨g, o, none⟩ : Addr).add (j * 1 + 0) = ⟨g, o + j, none⟩ from by unfold Addr.add; simp]
theorem irow_lit3 (w : World) (a b c : Int) : IRow (w.alloc (.cells #[.int .i64 a, .int .i64 b, .int .i64 c] 3)) (.slice (some ⟨w.heap.size, 0, none⟩) 3 3) [a, b, c] :=
  Sl.of_own (World.ownsRow_lit (base := 0) (e := 3) (size := 1) w #[.int .i64 a, .int .i64 b, .int .i64 c] 3 (Nat.zero_le _) (by decide) (by rfl))
theorem szs {t : Tr} (h : t ∈ [r1, r2, r3] ∨ t ∈ [r3, rx, r1]) : t.a.size ≤ maxLen ∧ t.b.size ≤ maxLen := by
  simp at h
  rcases h with (rfl | rfl | rfl) | (rfl | rfl | rfl) <;> exact sz _ (by decide)
set_option maxHeartbeats 8000000 in
set_option maxRecDepth 1000000 in
theorem MatchRuns_any (w : World) : Calls Try.prog 3 #[] w fun e w' => e = .returned (.bool true) ∧ Below w.heap.size w w' := by
  go_enter Try.func3, Try.ntmps3
  go_upto_region 2 with fail
  have hT : TRow (w.alloc (.cells #[.string ⟨#[108, 105]⟩, .string ⟨#[49]⟩, .string ⟨#[]⟩, .slice none 0 0, .slice none 0 0, .string ⟨#[108, 105]⟩, .string ⟨#[50]⟩, .string ⟨#[]⟩, .slice none 0 0, .slice none 0 0, .string ⟨#[108, 105]⟩, .string ⟨#[51]⟩, .string ⟨#[]⟩, .slice none 0 0, .slice none 0 0] 25)) (.slice (some ⟨w.heap.size, 0, none⟩) 3 3) [r1, r2, r3] := trow_lit3 w r1 r2 r3
  have hB : Below w.heap.size w (w.alloc (.cells #[.string ⟨#[108, 105]⟩, .string ⟨#[49]⟩, .string ⟨#[]⟩, .slice none 0 0, .slice none 0 0, .string ⟨#[108, 105]⟩, .string ⟨#[50]⟩, .string ⟨#[]⟩, .slice none 0 0, .slice none 0 0, .string ⟨#[108, 105]⟩, .string ⟨#[51]⟩, .string ⟨#[]⟩, .slice none 0 0, .slice none 0 0] 25)) := (Below.refl _ _).alloc (Nat.le_refl _) _
  generalize w.alloc (.cells _ _) = w1 at hT hB ⊢
  generalize w.heap.size = B at hT ⊢
  have HT := Lib.hid (And.intro (show TRow w1.drew _ _ from hT.below (pw_below_drewN (Below.refl _ _) 1)) (show Below w.heap.size w w1.drew from hB.trans (pw_below_drewN (Below.refl _ _) 1 |>.mono hB.size)))
  have c3 := TRow.cells HT.out.1 rfl 2 (by decide)
  have c1 := TRow.cells HT.out.1 rfl 0 (by decide)
  clear hT hB
  refine start_ (n := 11) (S := fun w' => w'.cell? ⟨B, 10, none⟩ = some (.string ⟨#[108, 105]⟩) ∧ w'.cell? ⟨B, 11, none⟩ = some (.string ⟨#[51]⟩) ∧ w'.cell? ⟨B, 12, none⟩ = some (.string ⟨#[]⟩) ∧ w'.cell? ⟨B, 13, none⟩ = some (.slice none 0 0) ∧ w'.cell? ⟨B, 14, none⟩ = some (.slice none 0 0) ∧ w'.cell? ⟨B, 0, none⟩ = some (.string ⟨#[108, 105]⟩) ∧ w'.cell? ⟨B, 1, none⟩ = some (.string ⟨#[49]⟩) ∧ w'.cell? ⟨B, 2, none⟩ = some (.string ⟨#[]⟩) ∧ w'.cell? ⟨B, 3, none⟩ = some (.slice none 0 0) ∧ w'.cell? ⟨B, 4, none⟩ = some (.slice none 0 0)) (ds := [8, 9]) #[false, false, false, false, false, false, false, false, false, false, false] (by kernel_rfl) rfl rfl ⟨c3.1, c3.2.1, c3.2.2.1, c3.2.2.2.1, c3.2.2.2.2, c1.1, c1.2.1, c1.2.2.1, c1.2.2.2.1, c1.2.2.2.2⟩ (fun hHeld => ?_)
  clear c1 c3
  generalize hW1 : w1.drew = W1 at *
  have hF := From_any (.slice (some ⟨B, 0, none⟩) 3 3) (.slice (some ⟨W1.heap.size, 0, none⟩) 3 3) [r1, r2, r3] [r3, rx, r1] (W1.alloc (.cells #[.string ⟨#[108, 105]⟩, .string ⟨#[51]⟩, .string ⟨#[]⟩, .slice none 0 0, .slice none 0 0, .string ⟨#[120]⟩, .string ⟨#[]⟩, .string ⟨#[]⟩, .slice none 0 0, .slice none 0 0, .string ⟨#[108, 105]⟩, .string ⟨#[49]⟩, .string ⟨#[]⟩, .slice none 0 0, .slice none 0 0] 25)) (HT.out.1.below ((Below.refl _ _).alloc (Nat.le_refl _) _)) (by decide) (fun t ht => szs (.inl ht)) (trow_lit3 W1 r3 rx r1) (by decide) (fun t ht => szs (.inr ht))
  refine pure_ (i := 0) (N := some 7) (v := ?_) (a' := ?_) #[true, false, false, false, false, false, false, false, false, false, false] rfl rfl (by kernel_rfl) (fun _ _ _ h => h) (Or.inl ⟨by rfl, ?_⟩) ?_ ?_
  rotate_left
  · intro w'
    go_simp
    with_reducible rfl
  rotate_left
  · simp only [Act.put, List.setIfInBounds_toArray, List.set_cons_zero, List.set_cons_succ, i64_w, i32_w]
    rfl
  refine pure_ (i := 1) (N := some 8) (v := ?_) (a' := ?_) #[true, true, false, false, false, false, false, false, false, false, false] rfl rfl (by kernel_rfl) (fun _ _ _ h => h) (Or.inl ⟨by rfl, ?_⟩) ?_ ?_
  rotate_left
  · intro w'
    go_simp
    with_reducible rfl
  rotate_left
  · simp only [Act.put, List.setIfInBounds_toArray, List.set_cons_zero, List.set_cons_succ, i64_w, i32_w]
    rfl
  refine pure_ (i := 2) (N := some 9) (v := ?_) (a' := ?_) #[true, true, true, false, false, false, false, false, false, false, false] rfl rfl (by kernel_rfl) (fun _ _ _ h => h) (Or.inl ⟨by rfl, ?_⟩) ?_ ?_
  rotate_left
  · intro w'
    go_simp
    with_reducible rfl
  rotate_left
  · simp only [Act.put, List.setIfInBounds_toArray, List.set_cons_zero, List.set_cons_succ, i64_w, i32_w]
    rfl
  refine pure_ (i := 4) (N := some 11) (v := ?_) (a' := ?_) #[true, true, true, false, true, false, false, false, false, false, false] rfl rfl (by kernel_rfl) (fun _ _ _ h => h) (Or.inl ⟨by rfl, ?_⟩) ?_ ?_
  rotate_left
  · intro w'
    go_simp
    with_reducible rfl
  rotate_left
  · simp only [Act.put, List.setIfInBounds_toArray, List.set_cons_zero, List.set_cons_succ, i64_w, i32_w]
    rfl
  refine pure_ (i := 5) (N := some 12) (v := ?_) (a' := ?_) #[true, true, true, false, true, true, false, false, false, false, false] rfl rfl (by kernel_rfl) (fun _ _ _ h => h) (Or.inl ⟨by rfl, ?_⟩) ?_ ?_
  rotate_left
  · intro w'
    go_simp
    with_reducible rfl
  rotate_left
  · simp only [Act.put, List.setIfInBounds_toArray, List.set_cons_zero, List.set_cons_succ, i64_w, i32_w]
    rfl
  refine pure_ (i := 6) (N := some 13) (v := ?_) (a' := ?_) #[true, true, true, false, true, true, true, false, false, false, false] rfl rfl (by kernel_rfl) (fun _ _ _ h => h) (Or.inl ⟨by rfl, ?_⟩) ?_ ?_
  rotate_left
  · intro w'
    go_simp
    with_reducible rfl
  rotate_left
  · simp only [Act.put, List.setIfInBounds_toArray, List.set_cons_zero, List.set_cons_succ, i64_w, i32_w]
    rfl
  refine take_ (i := 3) (N := some 10) (v := ?_) (a' := ?_) #[true, true, true, true, true, true, true, false, false, false, false] rfl rfl (by kernel_rfl) (fun _ _ _ h => h) (Or.inl ⟨by rfl, ?_⟩) hHeld ?_ ?_
  rotate_left
  · rintro w' ⟨s0, s1, s2, s3, s4, s5, s6, s7, s8, s9⟩
    go_simp
    with_reducible rfl
  rotate_left
  · simp only [Act.put, List.setIfInBounds_toArray, List.set_cons_zero, List.set_cons_succ, i64_w, i32_w]
    rfl
  refine take_ (i := 7) (N := some 14) (v := ?_) (a' := ?_) #[true, true, true, true, true, true, true, true, false, false, false] rfl rfl (by kernel_rfl) (fun _ _ _ h => h) (Or.inl ⟨by rfl, ?_⟩) hHeld ?_ ?_
  rotate_left
  · rintro w' ⟨s0, s1, s2, s3, s4, s5, s6, s7, s8, s9⟩
    go_simp
    with_reducible rfl
  rotate_left
  · simp only [Act.put, List.setIfInBounds_toArray, List.set_cons_zero, List.set_cons_succ, i64_w, i32_w]
    rfl
  refine last_ (i := 8) (N := some 15) #[true, true, true, true, true, true, true, true, true, false, false] rfl rfl (by kernel_rfl) (by decide) (fun K hK => ?_)
  refine value_ (w1 := ?_) (v := ?_) (by rfl) rfl ?_ ?_
  rotate_left 2
  · go_simp
    constructor
    · rfl
    · rfl
  refine hK.out _ _ ?_
  clear hK K
  refine norm_ (a' := ?_) ?_ ?_
  rotate_left
  · show Act.put _ (some 15) _ = _
    simp only [Act.put, List.setIfInBounds_toArray, List.set_cons_zero, List.set_cons_succ, i64_w, i32_w]
    rfl
  refine last_ (i := 9) (N := some 16) #[true, true, true, true, true, true, true, true, true, true, false] rfl rfl (by kernel_rfl) (by decide) (fun K hK => ?_)
  refine goes_ Try.func6 (by kernel_rfl) rfl #[.slice (some ⟨B, 0, none⟩) 3 3, .slice (some ⟨W1.heap.size, 0, none⟩) 3 3] (by rfl) rfl rfl (by simp only [List.map_toArray, List.map_cons, List.map_nil]; rfl) ?_
  with_reducible refine (hF).mono ?_
  rintro en w9 ⟨A9, c9, rfl, hr9, hB9, hf9⟩
  refine ⟨_, rfl, ?_⟩
  refine hK.out _ _ ?_
  clear hK K
  refine norm_ (a' := ?_) ?_ ?_
  rotate_left
  · show Act.put _ (some 16) _ = _
    simp only [Act.put, List.setIfInBounds_toArray, List.set_cons_zero, List.set_cons_succ, i64_w, i32_w]
    rfl
  refine pure_ (i := 10) (N := some 2) (v := ?_) (a' := ?_) #[true, true, true, true, true, true, true, true, true, true, true] rfl rfl (by kernel_rfl) (fun _ _ _ h => h) (Or.inl ⟨by rfl, ?_⟩) ?_ ?_
  rotate_left
  · intro w'
    go_simp
    with_reducible rfl
  rotate_left
  · simp only [Act.put, List.setIfInBounds_toArray, List.set_cons_zero, List.set_cons_succ, i64_w, i32_w]
    rfl
  refine done_ (by kernel_rfl) ?_
  rw [runs_from] at hr9
  obtain ⟨A10, c10, e10, hc10⟩ := hr9.form
  obtain ⟨rfl, rfl⟩ : A10 = A9 ∧ c10 = c9 := by
    injection e10 with e1 _ e3
    exact ⟨e1.symm, e3.symm⟩
  have hBB : Below w.heap.size w w9 := (HT.out.2.alloc HT.out.2.size _).trans (hB9.mono (by have := HT.out.2.size; simp; omega))
  have H9 := Lib.hid (And.intro hr9 hBB)
  clear hr9 hB9 hf9 e10 hBB HT hF
  go_wp2_with fail
  have hB10 : Below w9.heap.size w9 (w9.alloc (.cells #[.int .i64 2, .int .i64 (-1), .int .i64 0] 3)) := (Below.refl _ _).alloc (Nat.le_refl _) _
  refine (porticobook_Same_int.calls 20 A10 c10 [2, -1, 0] (some ⟨w9.heap.size, 0, none⟩) 3 [2, -1, 0] true _ (C_of_irow (H9.out.1.below hB10) rfl) hc10 (C_of_irow (irow_lit3 w9 2 (-1) 0) rfl) (by decide) (by first | decide | kernel_rfl)).mono ?_
  rintro e w11 ⟨rfl, hd⟩
  obtain ⟨q11, rfl⟩ := hd.out
  have H11 : Hid (IRow ((w9.alloc (.cells #[.int .i64 2, .int .i64 (-1), .int .i64 0] 3)).drewN q11) (.slice A10 3 c10) [2, -1, 0] ∧ Below w.heap.size w ((w9.alloc (.cells #[.int .i64 2, .int .i64 (-1), .int .i64 0] 3)).drewN q11)) := Lib.hid ⟨(H9.out.1.below hB10).below (pw_below_drewN (Below.refl _ _) q11), (H9.out.2.trans (hB10.mono H9.out.2.size)).trans ((pw_below_drewN (Below.refl _ _) q11).mono (Nat.le_trans H9.out.2.size hB10.size))⟩
  clear H9 hB10 hd
  generalize (w9.alloc (.cells #[.int .i64 2, .int .i64 (-1), .int .i64 0] 3)).drewN q11 = w11 at H11 ⊢
  go_wp2_with fail
  refine (match_Moves.calls 20 A10 c10 [2, -1, 0] 1 w11 (C_of_irow H11.out.1 rfl) hc10 (by first | decide | kernel_rfl)).mono ?_
  rintro e w12 ⟨rfl, hB12⟩
  have H12 : Hid (IRow w12 (.slice A10 3 c10) [2, -1, 0] ∧ Below w.heap.size w w12) := Lib.hid ⟨H11.out.1.below hB12, H11.out.2.trans (hB12.mono H11.out.2.size)⟩
  clear H11 hB12
  go_wp2_with fail
  refine (match_Kept.calls 20 A10 c10 [2, -1, 0] 2 w12 (C_of_irow H12.out.1 rfl) hc10 (by first | decide | kernel_rfl)).mono ?_
  rintro e w13 ⟨rfl, hd⟩
  obtain ⟨q13, rfl⟩ := hd.out
  have H13 : Hid (IRow (w12.drewN q13) (.slice A10 3 c10) [2, -1, 0] ∧ Below w.heap.size w (w12.drewN q13)) := Lib.hid ⟨H12.out.1.below (pw_below_drewN (Below.refl _ _) q13), H12.out.2.trans ((pw_below_drewN (Below.refl _ _) q13).mono H12.out.2.size)⟩
  clear H12 hd
  generalize w12.drewN q13 = w13 at H13 ⊢
  go_wp2_with fail
  refine (Gone_any 3 (.slice A10 3 c10) [2, -1, 0] w13 H13.out.1 (by decide) (by decide) (by decide)).mono ?_
  rw [runs_gone]
  rintro e w14 ⟨A14, c14, rfl, hr14, hB14, hf14⟩
  have H14 : Hid (Below w.heap.size w (w14.alloc (.cells #[.int .i64 1] 3))) := Lib.hid ((H13.out.2.trans (hB14.mono H13.out.2.size)).alloc (Nat.le_trans H13.out.2.size hB14.size) _)
  have hB15 : Below w14.heap.size w14 (w14.alloc (.cells #[.int .i64 1] 3)) := (Below.refl _ _).alloc (Nat.le_refl _) _
  clear H13 hB14 hf14
  obtain ⟨A15, c15, e15, hc15⟩ := hr14.form
  obtain ⟨rfl, rfl⟩ : A15 = A14 ∧ c15 = c14 := by
    injection e15 with e1 _ e3
    exact ⟨e1.symm, e3.symm⟩
  have HR := Lib.hid hr14
  clear hr14 e15
  go_wp2_with fail
  refine (porticobook_Same_int.calls 20 A15 c15 [1] (some ⟨w14.heap.size, 0, none⟩) 1 [1] true _ (C_of_irow (HR.out.below hB15) rfl) hc15 (C_of_irow (irow_lit w14 1) rfl) (by decide) (by first | decide | kernel_rfl)).mono ?_
  rintro e w16 ⟨rfl, hd⟩
  obtain ⟨q16, rfl⟩ := hd.out
  go_wp2_with fail
  go_ret
  exact ⟨rfl, H14.out.trans ((pw_below_drewN (Below.refl _ _) q16).mono H14.out.size)⟩
end Go.Proofs.Ytjpknhemnfokaaa.Mt
