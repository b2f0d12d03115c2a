/- CodeBack: the walk (printed by wip/law24/gen_Back.py out of Back.body). -/
import Derived.Test.YtgbhejkgnfkfgaaWalkCodeRuns
set_option linter.unusedVariables false
set_option linter.unusedSimpArgs false
namespace Go.Proofs.Ytgbhejkgnfkfgaa.Cd
open Go.RowKit Go.Proofs.Ytgbhejkgnfkfgaa.Given Go.Proofs.YtgbhejkgnfkfgaaW.PrintWords Go.Proofs.YtgbhejkgnfkfgaaW.PrintLast Go.Proofs.YtgbhejkgnfkfgaaW.PrintMore Go.Proofs.Ytgbhejkgnfkfgaa.PCodeRuns

theorem bsame {b E : Bool} {P : Prop} (h : b = true ↔ P) (g : E = true ↔ P) : b = E := by
  rw [Bool.eq_iff_iff, h, g]
set_option maxHeartbeats 8000000 in
set_option maxRecDepth 1000000 in
theorem CodeBack_any (a b : Ses) (va vb : Value) (cut : Int) (w : World) (ha : SesV w va a) (hb : SesV w vb b) (ua : U64 a) (ub : U64 b) : Calls Try.prog 4 #[va, vb, .int .i64 cut] w fun e w' => e = .returned (.bool true) ∧ Below w.heap.size w w' := by
  obtain ⟨A0, a0, A2, a2, A3, a3, rfl, ha⟩ := ha
  obtain ⟨B0, b0, B2, b2, B3, b3, rfl, hb⟩ := hb
  have HV : Hid (SesV w (.agg #[.slice A0 a.1.length a0, .int .i64 a.2.1, .slice A2 a.2.2.1.length a2, .slice A3 a.2.2.2.length a3]) a ∧ SesV w (.agg #[.slice B0 b.1.length b0, .int .i64 b.2.1, .slice B2 b.2.2.1.length b2, .slice B3 b.2.2.2.length b3]) b) := Lib.hid ⟨⟨A0, a0, A2, a2, A3, a3, rfl, ha⟩, ⟨B0, b0, B2, b2, B3, b3, rfl, hb⟩⟩
  have HU := Lib.hid (And.intro (And.intro (few_U64 a ua) (few_U64 b ub)) (And.intro (few_Few a) (few_Few b)))
  clear ha hb ua ub
  go_enter Try.func4, Try.ntmps4
  go_upto_region 1 with fail
  have f0 := heap_alloc_new w (.cells #[.slice A0 a.1.length a0, .int .i64 a.2.1, .slice A2 a.2.2.1.length a2, .slice A3 a.2.2.2.length a3] 29)
  have f1 := heap_alloc_new (w.alloc (.cells #[.slice A0 a.1.length a0, .int .i64 a.2.1, .slice A2 a.2.2.1.length a2, .slice A3 a.2.2.2.length a3] 29)) (.cells #[.slice B0 b.1.length b0, .int .i64 b.2.1, .slice B2 b.2.2.1.length b2, .slice B3 b.2.2.2.length b3] 29)
  have hB0 : Below w.heap.size w (w.alloc (.cells #[.slice A0 a.1.length a0, .int .i64 a.2.1, .slice A2 a.2.2.1.length a2, .slice A3 a.2.2.2.length a3] 29)) := (Below.refl _ _).alloc (Nat.le_refl _) _
  have hB1 := hB0.alloc hB0.size (.cells #[.slice B0 b.1.length b0, .int .i64 b.2.1, .slice B2 b.2.2.1.length b2, .slice B3 b.2.2.2.length b3] 29)
  have f0 := blk5 f0 ((Below.refl _ _).alloc (Nat.le_refl _) (.cells #[.slice B0 b.1.length b0, .int .i64 b.2.1, .slice B2 b.2.2.1.length b2, .slice B3 b.2.2.2.length b3] 29))
  rw [show (w.alloc (.cells #[.slice A0 a.1.length a0, .int .i64 a.2.1, .slice A2 a.2.2.1.length a2, .slice A3 a.2.2.2.length a3] 29)).heap.size = w.heap.size + 1 from by simp] at f1
  generalize (w.alloc (.cells #[.slice A0 a.1.length a0, .int .i64 a.2.1, .slice A2 a.2.2.1.length a2, .slice A3 a.2.2.2.length a3] 29)).alloc (.cells #[.slice B0 b.1.length b0, .int .i64 b.2.1, .slice B2 b.2.2.1.length b2, .slice B3 b.2.2.2.length b3] 29) = w1 at f0 f1 hB1 ⊢
  clear hB0
  obtain ⟨K0, hK0⟩ : ∃ K, w.heap.size = K := ⟨_, rfl⟩
  obtain ⟨K1, hK1⟩ : ∃ K, w.heap.size + 1 = K := ⟨_, rfl⟩
  rw [hK1] at f1 ⊢
  rw [hK0] at f0 ⊢
  have HN : Hid (w.heap.size ≤ K0 ∧ w.heap.size ≤ K1 ∧ K1 ≠ K0 ∧ K0 ≠ K1) := Lib.hid ⟨by omega, by omega, by omega, by omega⟩
  clear hK0 hK1
  have hB1 := pw_below_drewN hB1 1
  have f0 : w1.drew.heap[K0]? = _ := f0
  have f1 : w1.drew.heap[K1]? = _ := f1
  have hB1 : Below w.heap.size w w1.drew := hB1
  have H1 : Hid (w1.drew.heap[K0]? = some (.cells #[.slice A0 a.1.length a0, .int .i64 a.2.1, .slice A2 a.2.2.1.length a2, .slice A3 a.2.2.2.length a3] 29 (0, 0)) ∧ w1.drew.heap[K1]? = some (.cells #[.slice B0 b.1.length b0, .int .i64 b.2.1, .slice B2 b.2.2.1.length b2, .slice B3 b.2.2.2.length b3] 29 (0, 0)) ∧ Below w.heap.size w w1.drew) := Lib.hid ⟨f0, f1, hB1⟩
  obtain ⟨S0, S1, S2, S3⟩ := cells4 f0
  obtain ⟨S4, S5, S6, S7⟩ := cells4 f1
  clear f0 f1 hB1
  refine start_ (n := 6) (S := fun w' => w'.cell? ⟨K0, 0, none⟩ = some (.slice A0 a.1.length a0) ∧ w'.cell? ⟨K0, 1, none⟩ = some (.int .i64 a.2.1) ∧ w'.cell? ⟨K0, 2, none⟩ = some (.slice A2 a.2.2.1.length a2) ∧ w'.cell? ⟨K0, 3, none⟩ = some (.slice A3 a.2.2.2.length a3) ∧ w'.cell? ⟨K1, 0, none⟩ = some (.slice B0 b.1.length b0) ∧ w'.cell? ⟨K1, 1, none⟩ = some (.int .i64 b.2.1) ∧ w'.cell? ⟨K1, 2, none⟩ = some (.slice B2 b.2.2.1.length b2) ∧ w'.cell? ⟨K1, 3, none⟩ = some (.slice B3 b.2.2.2.length b3)) (ds := [4, 5]) #[false, false, false, false, false, false] (by kernel_rfl) rfl rfl ⟨S0, S1, S2, S3, S4, S5, S6, S7⟩ (fun hHeld => ?_)
  clear S0 S1 S2 S3 S4 S5 S6 S7
  generalize w1.drew = w2 at hHeld H1 ⊢
  refine take_ (i := 0) (N := some 13) (v := ?_) (a' := ?_) #[true, false, false, false, false, false] rfl rfl (by kernel_rfl) (fun _ _ _ h => h) (Or.inl ⟨by rfl, ?_⟩) hHeld ?_ ?_
  rotate_left
  · rintro w' ⟨s0, s1, s2, s3, s4, s5, s6, s7⟩
    go_simp
    with_reducible rfl
  rotate_left
  · simp only [Act.put, List.setIfInBounds_toArray, List.set_cons_zero, List.set_cons_succ, i64_w, i32_w]
    rfl
  refine take_ (i := 2) (N := some 15) (v := ?_) (a' := ?_) #[true, false, true, false, false, false] rfl rfl (by kernel_rfl) (fun _ _ _ h => h) (Or.inl ⟨by rfl, ?_⟩) hHeld ?_ ?_
  rotate_left
  · rintro w' ⟨s0, s1, s2, s3, s4, s5, s6, s7⟩
    go_simp
    with_reducible rfl
  rotate_left
  · simp only [Act.put, List.setIfInBounds_toArray, List.set_cons_zero, List.set_cons_succ, i64_w, i32_w]
    rfl
  refine one_ (i := 1) (N := some 14) #[true, true, true, false, false, false] rfl rfl (by kernel_rfl) (by decide) (fun K hK => ?_)
  refine goes_ Try.func10 (by kernel_rfl) rfl #[.agg #[.slice A0 a.1.length a0, .int .i64 a.2.1, .slice A2 a.2.2.1.length a2, .slice A3 a.2.2.2.length a3]] (by rfl) rfl rfl (by simp only [List.map_toArray, List.map_cons, List.map_nil]; rfl) ?_
  with_reducible refine (Few_any a _ _ (HV.out.1.below H1.out.2.2)).mono ?_
  rintro e w3 ⟨C0, c0, C2, c2, C3, c3, rfl, hX3, hB3⟩
  refine ⟨_, rfl, ?_⟩
  refine hK.out _ _ ⟨(hB3.cell (World.block_lt_of_cell? _ _ hHeld.1)).trans hHeld.1, (hB3.cell (World.block_lt_of_cell? _ _ hHeld.2.1)).trans hHeld.2.1, (hB3.cell (World.block_lt_of_cell? _ _ hHeld.2.2.1)).trans hHeld.2.2.1, (hB3.cell (World.block_lt_of_cell? _ _ hHeld.2.2.2.1)).trans hHeld.2.2.2.1, (hB3.cell (World.block_lt_of_cell? _ _ hHeld.2.2.2.2.1)).trans hHeld.2.2.2.2.1, (hB3.cell (World.block_lt_of_cell? _ _ hHeld.2.2.2.2.2.1)).trans hHeld.2.2.2.2.2.1, (hB3.cell (World.block_lt_of_cell? _ _ hHeld.2.2.2.2.2.2.1)).trans hHeld.2.2.2.2.2.2.1, (hB3.cell (World.block_lt_of_cell? _ _ hHeld.2.2.2.2.2.2.2)).trans hHeld.2.2.2.2.2.2.2⟩ (fun hHeld => ?_)
  clear hK K
  refine norm_ (a' := ?_) ?_ ?_
  rotate_left
  · show Act.put _ (some 14) _ = _
    simp only [Act.put, List.setIfInBounds_toArray, List.set_cons_zero, List.set_cons_succ, i64_w, i32_w]
    rfl
  refine one_ (i := 3) (N := some 16) #[true, true, true, true, false, false] rfl rfl (by kernel_rfl) (by decide) (fun K hK => ?_)
  refine goes_ Try.func10 (by kernel_rfl) rfl #[.agg #[.slice B0 b.1.length b0, .int .i64 b.2.1, .slice B2 b.2.2.1.length b2, .slice B3 b.2.2.2.length b3]] (by rfl) rfl rfl (by simp only [List.map_toArray, List.map_cons, List.map_nil]; rfl) ?_
  with_reducible refine (Few_any b _ _ (HV.out.2.below (H1.out.2.2.trans (hB3.mono H1.out.2.2.size)))).mono ?_
  rintro e w4 ⟨D0, d0, D2, d2, D3, d3, rfl, hY4, hB4⟩
  refine ⟨_, rfl, ?_⟩
  refine hK.out _ _ ⟨(hB4.cell (World.block_lt_of_cell? _ _ hHeld.1)).trans hHeld.1, (hB4.cell (World.block_lt_of_cell? _ _ hHeld.2.1)).trans hHeld.2.1, (hB4.cell (World.block_lt_of_cell? _ _ hHeld.2.2.1)).trans hHeld.2.2.1, (hB4.cell (World.block_lt_of_cell? _ _ hHeld.2.2.2.1)).trans hHeld.2.2.2.1, (hB4.cell (World.block_lt_of_cell? _ _ hHeld.2.2.2.2.1)).trans hHeld.2.2.2.2.1, (hB4.cell (World.block_lt_of_cell? _ _ hHeld.2.2.2.2.2.1)).trans hHeld.2.2.2.2.2.1, (hB4.cell (World.block_lt_of_cell? _ _ hHeld.2.2.2.2.2.2.1)).trans hHeld.2.2.2.2.2.2.1, (hB4.cell (World.block_lt_of_cell? _ _ hHeld.2.2.2.2.2.2.2)).trans hHeld.2.2.2.2.2.2.2⟩ (fun hHeld => ?_)
  clear hK K
  refine norm_ (a' := ?_) ?_ ?_
  rotate_left
  · show Act.put _ (some 16) _ = _
    simp only [Act.put, List.setIfInBounds_toArray, List.set_cons_zero, List.set_cons_succ, i64_w, i32_w]
    rfl
  refine last_ (i := 4) (N := none) #[true, true, true, true, true, false] rfl rfl (by kernel_rfl) (by decide) (fun K hK => ?_)
  have k0 := blk5 (blk5 H1.out.1 hB3) hB4
  have k1 := blk5 (blk5 H1.out.2.1 hB3) hB4
  have hB := (H1.out.2.2.trans (hB3.mono H1.out.2.2.size)).trans (hB4.mono (H1.out.2.2.trans (hB3.mono H1.out.2.2.size)).size)
  have hX := hX3.below hB4
  obtain ⟨z0, z1, z2, z3⟩ := cells_4 k0
  obtain ⟨y0, y1, y2, y3⟩ := cells4 k0
  refine skip_ (w1 := ?_) (by rfl) rfl ?_ ?_
  rotate_left
  · go_simp
    rfl
  refine hK.out _ _ ?_
  clear hK K
  refine last_ (i := 5) (N := none) #[true, true, true, true, true, true] rfl rfl (by kernel_rfl) (by decide) (fun K hK => ?_)
  have hW := set4 k0 hB HN.out.1 (.slice C0 (fewS a).1.length c0) (.int .i64 (fewS a).2.1) (.slice C2 (fewS a).2.2.1.length c2) (.slice C3 (fewS a).2.2.2.length c3)
  have k1 := set4_far k1 HN.out.2.2.1 (.slice C0 (fewS a).1.length c0) (.int .i64 (fewS a).2.1) (.slice C2 (fewS a).2.2.1.length c2) (.slice C3 (fewS a).2.2.2.length c3)
  have hX := hX.set4 k0 (.slice C0 (fewS a).1.length c0) (.int .i64 (fewS a).2.1) (.slice C2 (fewS a).2.2.1.length c2) (.slice C3 (fewS a).2.2.2.length c3)
  have hY := hY4.set4 k0 (.slice C0 (fewS a).1.length c0) (.int .i64 (fewS a).2.1) (.slice C2 (fewS a).2.2.1.length c2) (.slice C3 (fewS a).2.2.2.length c3)
  clear k0 hB z0 z1 z2 z3 y0 y1 y2 y3
  generalize ((((w4.setCell ⟨K0, 0, none⟩ (.slice C0 (fewS a).1.length c0)).setCell ⟨K0, 1, none⟩ (.int .i64 (fewS a).2.1)).setCell ⟨K0, 2, none⟩ (.slice C2 (fewS a).2.2.1.length c2)).setCell ⟨K0, 3, none⟩ (.slice C3 (fewS a).2.2.2.length c3)) = v5 at hW k1 hX hY ⊢
  obtain ⟨z0, z1, z2, z3⟩ := cells_4 k1
  obtain ⟨y0, y1, y2, y3⟩ := cells4 k1
  refine skip_ (w1 := ?_) (by rfl) rfl ?_ ?_
  rotate_left
  · go_simp
    rfl
  refine hK.out _ _ ?_
  clear hK K
  refine done_ (by kernel_rfl) ?_
  have hW2 := set4 k1 hW.2 HN.out.2.1 (.slice D0 (fewS b).1.length d0) (.int .i64 (fewS b).2.1) (.slice D2 (fewS b).2.2.1.length d2) (.slice D3 (fewS b).2.2.2.length d3)
  have k0 := set4_far hW.1 HN.out.2.2.2 (.slice D0 (fewS b).1.length d0) (.int .i64 (fewS b).2.1) (.slice D2 (fewS b).2.2.1.length d2) (.slice D3 (fewS b).2.2.2.length d3)
  have hX := hX.set4 k1 (.slice D0 (fewS b).1.length d0) (.int .i64 (fewS b).2.1) (.slice D2 (fewS b).2.2.1.length d2) (.slice D3 (fewS b).2.2.2.length d3)
  have hY := hY.set4 k1 (.slice D0 (fewS b).1.length d0) (.int .i64 (fewS b).2.1) (.slice D2 (fewS b).2.2.1.length d2) (.slice D3 (fewS b).2.2.2.length d3)
  clear z0 z1 z2 z3 y0 y1 y2 y3 hW k1
  have H5 := Lib.hid (And.intro k0 (And.intro hW2.1 (And.intro hW2.2 (And.intro hX.v hY.v))))
  generalize ((((v5.setCell ⟨K1, 0, none⟩ (.slice D0 (fewS b).1.length d0)).setCell ⟨K1, 1, none⟩ (.int .i64 (fewS b).2.1)).setCell ⟨K1, 2, none⟩ (.slice D2 (fewS b).2.2.1.length d2)).setCell ⟨K1, 3, none⟩ (.slice D3 (fewS b).2.2.2.length d3)) = w5 at H5 ⊢
  clear hX hY hW2 k0 hX3 hY4 hB3 hB4 H1 hHeld
  obtain ⟨fa, hfa⟩ : ∃ fa, fewS a = fa := ⟨_, rfl⟩
  obtain ⟨fb, hfb⟩ : ∃ fb, fewS b = fb := ⟨_, rfl⟩
  rw [hfa, hfb] at H5 HU ⊢
  clear hfa hfb HV
  go_upto_region 2 with fail
  obtain ⟨S0, S1, S2, S3⟩ := cells4 H5.out.1
  obtain ⟨S4, S5, S6, S7⟩ := cells4 H5.out.2.1
  have H6 : Hid (w5.drew.heap[K0]? = _ ∧ w5.drew.heap[K1]? = _ ∧ Below w.heap.size w w5.drew ∧ SesV w5.drew _ fa ∧ SesV w5.drew _ fb) := Lib.hid ⟨H5.out.1, H5.out.2.1, pw_below_drewN H5.out.2.2.1 1, H5.out.2.2.2.1.below (pw_below_drewN (Below.refl _ _) 1), H5.out.2.2.2.2.below (pw_below_drewN (Below.refl _ _) 1)⟩
  clear H5
  refine start_ (n := 6) (S := fun w' => w'.cell? ⟨K0, 0, none⟩ = some (.slice C0 fa.1.length c0) ∧ w'.cell? ⟨K0, 1, none⟩ = some (.int .i64 fa.2.1) ∧ w'.cell? ⟨K0, 2, none⟩ = some (.slice C2 fa.2.2.1.length c2) ∧ w'.cell? ⟨K0, 3, none⟩ = some (.slice C3 fa.2.2.2.length c3) ∧ w'.cell? ⟨K1, 0, none⟩ = some (.slice D0 fb.1.length d0) ∧ w'.cell? ⟨K1, 1, none⟩ = some (.int .i64 fb.2.1) ∧ w'.cell? ⟨K1, 2, none⟩ = some (.slice D2 fb.2.2.1.length d2) ∧ w'.cell? ⟨K1, 3, none⟩ = some (.slice D3 fb.2.2.2.length d3)) (ds := []) #[false, false, false, false, false, false] (by kernel_rfl) rfl rfl ⟨S0, S1, S2, S3, S4, S5, S6, S7⟩ (fun hHeld => ?_)
  clear S0 S1 S2 S3 S4 S5 S6 S7
  generalize w5.drew = w6 at hHeld H6 ⊢
  refine take_ (i := 0) (N := some 17) (v := ?_) (a' := ?_) #[true, false, false, false, false, false] rfl rfl (by kernel_rfl) (fun _ _ _ h => h) (Or.inl ⟨by rfl, ?_⟩) hHeld ?_ ?_
  rotate_left
  · rintro w' ⟨s0, s1, s2, s3, s4, s5, s6, s7⟩
    go_simp
    with_reducible rfl
  rotate_left
  · simp only [Act.put, List.setIfInBounds_toArray, List.set_cons_zero, List.set_cons_succ, i64_w, i32_w]
    rfl
  refine take_ (i := 2) (N := some 19) (v := ?_) (a' := ?_) #[true, false, true, false, false, false] rfl rfl (by kernel_rfl) (fun _ _ _ h => h) (Or.inl ⟨by rfl, ?_⟩) hHeld ?_ ?_
  rotate_left
  · rintro w' ⟨s0, s1, s2, s3, s4, s5, s6, s7⟩
    go_simp
    with_reducible rfl
  rotate_left
  · simp only [Act.put, List.setIfInBounds_toArray, List.set_cons_zero, List.set_cons_succ, i64_w, i32_w]
    rfl
  refine one_ (i := 1) (N := some 18) #[true, true, true, false, false, false] rfl rfl (by kernel_rfl) (by decide) (fun K hK => ?_)
  refine goes_ Try.func7 (by kernel_rfl) rfl #[.agg #[.slice C0 fa.1.length c0, .int .i64 fa.2.1, .slice C2 fa.2.2.1.length c2, .slice C3 fa.2.2.2.length c3]] (by rfl) rfl rfl (by simp only [List.map_toArray, List.map_cons, List.map_nil]; rfl) ?_
  with_reducible refine (Enc_any fa _ _ H6.out.2.2.2.1 HU.out.1.1).mono ?_
  rintro e w7 ⟨X0, x0, rfl, hx7, hX7, hB7⟩
  refine ⟨_, rfl, ?_⟩
  refine hK.out _ _ ⟨(hB7.cell (World.block_lt_of_cell? _ _ hHeld.1)).trans hHeld.1, (hB7.cell (World.block_lt_of_cell? _ _ hHeld.2.1)).trans hHeld.2.1, (hB7.cell (World.block_lt_of_cell? _ _ hHeld.2.2.1)).trans hHeld.2.2.1, (hB7.cell (World.block_lt_of_cell? _ _ hHeld.2.2.2.1)).trans hHeld.2.2.2.1, (hB7.cell (World.block_lt_of_cell? _ _ hHeld.2.2.2.2.1)).trans hHeld.2.2.2.2.1, (hB7.cell (World.block_lt_of_cell? _ _ hHeld.2.2.2.2.2.1)).trans hHeld.2.2.2.2.2.1, (hB7.cell (World.block_lt_of_cell? _ _ hHeld.2.2.2.2.2.2.1)).trans hHeld.2.2.2.2.2.2.1, (hB7.cell (World.block_lt_of_cell? _ _ hHeld.2.2.2.2.2.2.2)).trans hHeld.2.2.2.2.2.2.2⟩ (fun hHeld => ?_)
  clear hK K
  refine norm_ (a' := ?_) ?_ ?_
  rotate_left
  · show Act.put _ (some 18) _ = _
    simp only [Act.put, List.setIfInBounds_toArray, List.set_cons_zero, List.set_cons_succ, i64_w, i32_w]
    rfl
  refine one_ (i := 3) (N := some 20) #[true, true, true, true, false, false] rfl rfl (by kernel_rfl) (by decide) (fun K hK => ?_)
  refine goes_ Try.func7 (by kernel_rfl) rfl #[.agg #[.slice D0 fb.1.length d0, .int .i64 fb.2.1, .slice D2 fb.2.2.1.length d2, .slice D3 fb.2.2.2.length d3]] (by rfl) rfl rfl (by simp only [List.map_toArray, List.map_cons, List.map_nil]; rfl) ?_
  with_reducible refine (Enc_any fb _ _ (H6.out.2.2.2.2.below hB7) HU.out.1.2).mono ?_
  rintro e w8 ⟨Y0, y0, rfl, hy8, hY8, hB8⟩
  refine ⟨_, rfl, ?_⟩
  refine hK.out _ _ ⟨(hB8.cell (World.block_lt_of_cell? _ _ hHeld.1)).trans hHeld.1, (hB8.cell (World.block_lt_of_cell? _ _ hHeld.2.1)).trans hHeld.2.1, (hB8.cell (World.block_lt_of_cell? _ _ hHeld.2.2.1)).trans hHeld.2.2.1, (hB8.cell (World.block_lt_of_cell? _ _ hHeld.2.2.2.1)).trans hHeld.2.2.2.1, (hB8.cell (World.block_lt_of_cell? _ _ hHeld.2.2.2.2.1)).trans hHeld.2.2.2.2.1, (hB8.cell (World.block_lt_of_cell? _ _ hHeld.2.2.2.2.2.1)).trans hHeld.2.2.2.2.2.1, (hB8.cell (World.block_lt_of_cell? _ _ hHeld.2.2.2.2.2.2.1)).trans hHeld.2.2.2.2.2.2.1, (hB8.cell (World.block_lt_of_cell? _ _ hHeld.2.2.2.2.2.2.2)).trans hHeld.2.2.2.2.2.2.2⟩ (fun hHeld => ?_)
  clear hK K
  refine norm_ (a' := ?_) ?_ ?_
  rotate_left
  · show Act.put _ (some 20) _ = _
    simp only [Act.put, List.setIfInBounds_toArray, List.set_cons_zero, List.set_cons_succ, i64_w, i32_w]
    rfl
  refine pure_ (i := 4) (N := some 7) (v := ?_) (a' := ?_) #[true, true, true, true, true, false] rfl rfl (by kernel_rfl) (fun _ _ _ h => h) (Or.inl ⟨by rfl, ?_⟩) ?_ ?_
  rotate_left
  · intro w'
    go_simp
    with_reducible rfl
  rotate_left
  · simp only [Act.put, List.setIfInBounds_toArray, List.set_cons_zero, List.set_cons_succ, i64_w, i32_w]
    rfl
  refine pure_ (i := 5) (N := some 8) (v := ?_) (a' := ?_) #[true, true, true, true, true, true] rfl rfl (by kernel_rfl) (fun _ _ _ h => h) (Or.inl ⟨by rfl, ?_⟩) ?_ ?_
  rotate_left
  · intro w'
    go_simp
    with_reducible rfl
  rotate_left
  · simp only [Act.put, List.setIfInBounds_toArray, List.set_cons_zero, List.set_cons_succ, i64_w, i32_w]
    rfl
  refine done_ (by kernel_rfl) ?_
  have H8 := Lib.hid (And.intro (blk5 (blk5 H6.out.1 hB7) hB8) (And.intro (blk5 (blk5 H6.out.2.1 hB7) hB8) (And.intro ((H6.out.2.2.1.trans (hB7.mono H6.out.2.2.1.size)).trans (hB8.mono (H6.out.2.2.1.trans (hB7.mono H6.out.2.2.1.size)).size)) (And.intro ((H6.out.2.2.2.1.below hB7).below hB8) (And.intro ((H6.out.2.2.2.2.below hB7).below hB8) (And.intro (Kd.C_below hX7 hB8) (And.intro hY8 (And.intro hx7 hy8))))))))
  clear H6 hHeld hx7 hX7 hB7 hy8 hY8 hB8
  obtain ⟨RA, hRA⟩ : ∃ R, rightS fa = R := ⟨_, rfl⟩
  obtain ⟨RB, hRB⟩ : ∃ R, rightS fb = R := ⟨_, rfl⟩
  obtain ⟨X, hX⟩ : ∃ X, encB fa = X := ⟨_, rfl⟩
  obtain ⟨Y, hY⟩ : ∃ Y, encB fb = Y := ⟨_, rfl⟩
  have HX := Lib.hid (And.intro hX (And.intro hY (And.intro (show X.length ≤ 20000000 by rw [← hX]; exact encB_len fa) (show Y.length ≤ 20000000 by rw [← hY]; exact encB_len fb))))
  rw [hX, hY] at H8 ⊢
  have tX : rightS fa = true → 8 ≤ X.length := fun h => by rw [← hX]; exact enc_pos fa h
  have tY : rightS fb = true → 8 ≤ Y.length := fun h => by rw [← hY]; exact enc_pos fb h
  have fX : rightS fa = false → X = [] := fun h => by rw [← hX]; exact none_nil fa (by rw [h]; decide)
  have fY : rightS fb = false → Y = [] := fun h => by rw [← hY]; exact none_nil fb (by rw [h]; decide)
  clear hX hY
  go_upto_region 3 with fail
  obtain ⟨S0, S1, S2, S3⟩ := cells4 H8.out.1
  obtain ⟨S4, S5, S6, S7⟩ := cells4 H8.out.2.1
  have H9 : Hid (w8.drew.heap[K0]? = _ ∧ w8.drew.heap[K1]? = _ ∧ Below w.heap.size w w8.drew ∧ SesV w8.drew _ fa ∧ SesV w8.drew _ fb ∧ Kd.C (Kd.int .u8) w8.drew X0 X.length X ∧ Kd.C (Kd.int .u8) w8.drew Y0 Y.length Y ∧ X.length ≤ x0 ∧ Y.length ≤ y0) := Lib.hid (by
    have hz := pw_below_drewN (Below.refl w8.heap.size w8) 1
    exact ⟨H8.out.1, H8.out.2.1, pw_below_drewN H8.out.2.2.1 1, H8.out.2.2.2.1.below hz, H8.out.2.2.2.2.1.below hz, Kd.C_below H8.out.2.2.2.2.2.1 hz, Kd.C_below H8.out.2.2.2.2.2.2.1 hz, H8.out.2.2.2.2.2.2.2⟩)
  clear H8
  have W9 : ∃ w9, w8.drew = w9 := ⟨_, rfl⟩
  have tXd : decide (0 < X.length) = RA := by
    cases RA with
    | true => exact decide_eq_true (by have := tX hRA; omega)
    | false => rw [fX hRA]; rfl
  have tYd : decide (0 < Y.length) = RB := by
    cases RB with
    | true => exact decide_eq_true (by have := tY hRB; omega)
    | false => rw [fY hRB]; rfl
  have tRA : (RA != RA) = false := by cases RA <;> rfl
  have tRB : (RB != RB) = false := by cases RB <;> rfl
  have HF := Lib.hid (And.intro (And.intro tX tY) (And.intro fX fY))
  clear tX tY fX fY
  refine start_ (n := 21) (S := fun w' => w'.cell? ⟨K0, 0, none⟩ = some (.slice C0 fa.1.length c0) ∧ w'.cell? ⟨K0, 1, none⟩ = some (.int .i64 fa.2.1) ∧ w'.cell? ⟨K0, 2, none⟩ = some (.slice C2 fa.2.2.1.length c2) ∧ w'.cell? ⟨K0, 3, none⟩ = some (.slice C3 fa.2.2.2.length c3) ∧ w'.cell? ⟨K1, 0, none⟩ = some (.slice D0 fb.1.length d0) ∧ w'.cell? ⟨K1, 1, none⟩ = some (.int .i64 fb.2.1) ∧ w'.cell? ⟨K1, 2, none⟩ = some (.slice D2 fb.2.2.1.length d2) ∧ w'.cell? ⟨K1, 3, none⟩ = some (.slice D3 fb.2.2.2.length d3)) (ds := []) #[false, false, false, false, false, false, false, false, false, false, false, false, false, false, false, false, false, false, false, false, false] (by kernel_rfl) rfl rfl ⟨S0, S1, S2, S3, S4, S5, S6, S7⟩ (fun hHeld => ?_)
  clear S0 S1 S2 S3 S4 S5 S6 S7
  generalize w8.drew = w9 at hHeld H9 ⊢
  refine take_ (i := 0) (N := some 21) (v := ?_) (a' := ?_) #[true, false, false, false, false, false, false, false, false, false, false, false, false, false, false, false, false, false, false, false, false] rfl rfl (by kernel_rfl) (fun _ _ _ h => h) (Or.inl ⟨by rfl, ?_⟩) hHeld ?_ ?_
  rotate_left
  · rintro w' ⟨s0, s1, s2, s3, s4, s5, s6, s7⟩
    go_simp
    with_reducible rfl
  rotate_left
  · simp only [Act.put, List.setIfInBounds_toArray, List.set_cons_zero, List.set_cons_succ, i64_w, i32_w]
    rfl
  refine take_ (i := 2) (N := some 23) (v := ?_) (a' := ?_) #[true, false, true, false, false, false, false, false, false, false, false, false, false, false, false, false, false, false, false, false, false] rfl rfl (by kernel_rfl) (fun _ _ _ h => h) (Or.inl ⟨by rfl, ?_⟩) hHeld ?_ ?_
  rotate_left
  · rintro w' ⟨s0, s1, s2, s3, s4, s5, s6, s7⟩
    go_simp
    with_reducible rfl
  rotate_left
  · simp only [Act.put, List.setIfInBounds_toArray, List.set_cons_zero, List.set_cons_succ, i64_w, i32_w]
    rfl
  refine one_ (i := 1) (N := some 22) #[true, true, true, false, false, false, false, false, false, false, false, false, false, false, false, false, false, false, false, false, false] rfl rfl (by kernel_rfl) (by decide) (fun K hK => ?_)
  refine goes_ Try.func11 (by kernel_rfl) rfl #[.agg #[.slice C0 fa.1.length c0, .int .i64 fa.2.1, .slice C2 fa.2.2.1.length c2, .slice C3 fa.2.2.2.length c3]] (by rfl) rfl rfl (by simp only [List.map_toArray, List.map_cons, List.map_nil]; rfl) ?_
  with_reducible refine (Right_any fa _ _ H9.out.2.2.2.1 HU.out.1.1).mono ?_
  rintro e m1 ⟨hq, hBm1⟩; rw [hRA] at hq; subst hq
  refine ⟨_, rfl, ?_⟩
  refine hK.out _ _ ⟨(hBm1.cell (World.block_lt_of_cell? _ _ hHeld.1)).trans hHeld.1, (hBm1.cell (World.block_lt_of_cell? _ _ hHeld.2.1)).trans hHeld.2.1, (hBm1.cell (World.block_lt_of_cell? _ _ hHeld.2.2.1)).trans hHeld.2.2.1, (hBm1.cell (World.block_lt_of_cell? _ _ hHeld.2.2.2.1)).trans hHeld.2.2.2.1, (hBm1.cell (World.block_lt_of_cell? _ _ hHeld.2.2.2.2.1)).trans hHeld.2.2.2.2.1, (hBm1.cell (World.block_lt_of_cell? _ _ hHeld.2.2.2.2.2.1)).trans hHeld.2.2.2.2.2.1, (hBm1.cell (World.block_lt_of_cell? _ _ hHeld.2.2.2.2.2.2.1)).trans hHeld.2.2.2.2.2.2.1, (hBm1.cell (World.block_lt_of_cell? _ _ hHeld.2.2.2.2.2.2.2)).trans hHeld.2.2.2.2.2.2.2⟩ (fun hHeld => ?_)
  clear hK K
  refine norm_ (a' := ?_) ?_ ?_
  rotate_left
  · show Act.put _ (some 22) _ = _
    simp only [Act.put, List.setIfInBounds_toArray, List.set_cons_zero, List.set_cons_succ, i64_w, i32_w]
    rfl
  refine one_ (i := 3) (N := some 24) #[true, true, true, true, false, false, false, false, false, false, false, false, false, false, false, false, false, false, false, false, false] rfl rfl (by kernel_rfl) (by decide) (fun K hK => ?_)
  refine goes_ Try.func12 (by kernel_rfl) rfl #[.agg #[.slice C0 fa.1.length c0, .int .i64 fa.2.1, .slice C2 fa.2.2.1.length c2, .slice C3 fa.2.2.2.length c3]] (by rfl) rfl rfl (by simp only [List.map_toArray, List.map_cons, List.map_nil]; rfl) ?_
  with_reducible refine (right_any fa _ _ (H9.out.2.2.2.1.below hBm1) HU.out.2.1 HU.out.1.1).mono ?_
  rintro e m2 ⟨hq, hBm2⟩; rw [hRA] at hq; subst hq
  refine ⟨_, rfl, ?_⟩
  refine hK.out _ _ ⟨(hBm2.cell (World.block_lt_of_cell? _ _ hHeld.1)).trans hHeld.1, (hBm2.cell (World.block_lt_of_cell? _ _ hHeld.2.1)).trans hHeld.2.1, (hBm2.cell (World.block_lt_of_cell? _ _ hHeld.2.2.1)).trans hHeld.2.2.1, (hBm2.cell (World.block_lt_of_cell? _ _ hHeld.2.2.2.1)).trans hHeld.2.2.2.1, (hBm2.cell (World.block_lt_of_cell? _ _ hHeld.2.2.2.2.1)).trans hHeld.2.2.2.2.1, (hBm2.cell (World.block_lt_of_cell? _ _ hHeld.2.2.2.2.2.1)).trans hHeld.2.2.2.2.2.1, (hBm2.cell (World.block_lt_of_cell? _ _ hHeld.2.2.2.2.2.2.1)).trans hHeld.2.2.2.2.2.2.1, (hBm2.cell (World.block_lt_of_cell? _ _ hHeld.2.2.2.2.2.2.2)).trans hHeld.2.2.2.2.2.2.2⟩ (fun hHeld => ?_)
  clear hK K
  refine norm_ (a' := ?_) ?_ ?_
  rotate_left
  · show Act.put _ (some 24) _ = _
    simp only [Act.put, List.setIfInBounds_toArray, List.set_cons_zero, List.set_cons_succ, i64_w, i32_w]
    rfl
  refine pure_ (i := 4) (N := some 25) (v := ?_) (a' := ?_) #[true, true, true, true, true, false, false, false, false, false, false, false, false, false, false, false, false, false, false, false, false] rfl rfl (by kernel_rfl) (fun _ _ _ h => h) (Or.inl ⟨by rfl, ?_⟩) ?_ ?_
  rotate_left
  · intro w'
    go_simp
    with_reducible rfl
  rotate_left
  · simp only [Act.put, List.setIfInBounds_toArray, List.set_cons_zero, List.set_cons_succ, i64_w, i32_w]
    rfl
  refine pure_ (i := 5) (N := some 26) (v := ?_) (a' := ?_) #[true, true, true, true, true, true, false, false, false, false, false, false, false, false, false, false, false, false, false, false, false] rfl rfl (by kernel_rfl) (fun _ _ _ h => h) (Or.inl ⟨by rfl, ?_⟩) ?_ ?_
  rotate_left
  · intro w'
    go_simp
    with_reducible rfl
  rotate_left
  · simp only [Act.put, List.setIfInBounds_toArray, List.set_cons_zero, List.set_cons_succ, i64_w, i32_w]
    rfl
  refine pure_ (i := 6) (N := some 27) (v := ?_) (a' := ?_) #[true, true, true, true, true, true, true, false, false, false, false, false, false, false, false, false, false, false, false, false, false] rfl rfl (by kernel_rfl) (fun _ _ _ h => h) (Or.inl ⟨by rfl, ?_⟩) ?_ ?_
  rotate_left
  · intro w'
    go_simp
    with_reducible rfl
  rotate_left
  · simp only [Act.put, List.setIfInBounds_toArray, List.set_cons_zero, List.set_cons_succ, i64_w, i32_w]
    rfl
  refine pure_ (i := 7) (N := some 28) (v := ?_) (a' := ?_) #[true, true, true, true, true, true, true, true, false, false, false, false, false, false, false, false, false, false, false, false, false] rfl rfl (by kernel_rfl) (fun _ _ _ h => h) (Or.inl ⟨by rfl, ?_⟩) ?_ ?_
  rotate_left
  · intro w'
    go_simp
    with_reducible rfl
  rotate_left
  · simp only [Act.put, List.setIfInBounds_toArray, List.set_cons_zero, List.set_cons_succ, i64_w, i32_w]
    rfl
  refine pure_ (i := 8) (N := some 29) (v := ?_) (a' := ?_) #[true, true, true, true, true, true, true, true, true, false, false, false, false, false, false, false, false, false, false, false, false] rfl rfl (by kernel_rfl) (fun _ _ _ h => h) (Or.inl ⟨by rfl, ?_⟩) ?_ ?_
  rotate_left
  · intro w'
    go_simp
    with_reducible rfl
  rotate_left
  · simp only [Act.put, List.setIfInBounds_toArray, List.set_cons_zero, List.set_cons_succ, i64_w, i32_w]
    rfl
  refine take_ (i := 9) (N := some 30) (v := ?_) (a' := ?_) #[true, true, true, true, true, true, true, true, true, true, false, false, false, false, false, false, false, false, false, false, false] rfl rfl (by kernel_rfl) (fun _ _ _ h => h) (Or.inl ⟨by rfl, ?_⟩) hHeld ?_ ?_
  rotate_left
  · rintro w' ⟨s0, s1, s2, s3, s4, s5, s6, s7⟩
    go_simp
    with_reducible rfl
  rotate_left
  · simp only [Act.put, List.setIfInBounds_toArray, List.set_cons_zero, List.set_cons_succ, i64_w, i32_w]
    rfl
  refine one_ (i := 10) (N := some 31) #[true, true, true, true, true, true, true, true, true, true, true, false, false, false, false, false, false, false, false, false, false] rfl rfl (by kernel_rfl) (by decide) (fun K hK => ?_)
  refine goes_ Try.func12 (by kernel_rfl) rfl #[.agg #[.slice C0 fa.1.length c0, .int .i64 fa.2.1, .slice C2 fa.2.2.1.length c2, .slice C3 fa.2.2.2.length c3]] (by rfl) rfl rfl (by simp only [List.map_toArray, List.map_cons, List.map_nil]; rfl) ?_
  with_reducible refine (right_any fa _ _ ((H9.out.2.2.2.1.below hBm1).below hBm2) HU.out.2.1 HU.out.1.1).mono ?_
  rintro e m3 ⟨hq, hBm3⟩; rw [hRA] at hq; subst hq
  refine ⟨_, rfl, ?_⟩
  refine hK.out _ _ ⟨(hBm3.cell (World.block_lt_of_cell? _ _ hHeld.1)).trans hHeld.1, (hBm3.cell (World.block_lt_of_cell? _ _ hHeld.2.1)).trans hHeld.2.1, (hBm3.cell (World.block_lt_of_cell? _ _ hHeld.2.2.1)).trans hHeld.2.2.1, (hBm3.cell (World.block_lt_of_cell? _ _ hHeld.2.2.2.1)).trans hHeld.2.2.2.1, (hBm3.cell (World.block_lt_of_cell? _ _ hHeld.2.2.2.2.1)).trans hHeld.2.2.2.2.1, (hBm3.cell (World.block_lt_of_cell? _ _ hHeld.2.2.2.2.2.1)).trans hHeld.2.2.2.2.2.1, (hBm3.cell (World.block_lt_of_cell? _ _ hHeld.2.2.2.2.2.2.1)).trans hHeld.2.2.2.2.2.2.1, (hBm3.cell (World.block_lt_of_cell? _ _ hHeld.2.2.2.2.2.2.2)).trans hHeld.2.2.2.2.2.2.2⟩ (fun hHeld => ?_)
  clear hK K
  refine norm_ (a' := ?_) ?_ ?_
  rotate_left
  · show Act.put _ (some 31) _ = _
    simp only [Act.put, List.setIfInBounds_toArray, List.set_cons_zero, List.set_cons_succ, i64_w, i32_w]
    rfl
  refine pure_ (i := 11) (N := some 32) (v := ?_) (a' := ?_) #[true, true, true, true, true, true, true, true, true, true, true, true, false, false, false, false, false, false, false, false, false] rfl rfl (by kernel_rfl) (fun _ _ _ h => h) (Or.inl ⟨by rfl, ?_⟩) ?_ ?_
  rotate_left
  · intro w'
    go_simp
    with_reducible rfl
  rotate_left
  · simp only [Act.put, List.setIfInBounds_toArray, List.set_cons_zero, List.set_cons_succ, i64_w, i32_w]
    rfl
  refine pure_ (i := 12) (N := some 33) (v := ?_) (a' := ?_) #[true, true, true, true, true, true, true, true, true, true, true, true, true, false, false, false, false, false, false, false, false] rfl rfl (by kernel_rfl) (fun _ _ _ h => h) (Or.inl ⟨by rfl, ?_⟩) ?_ ?_
  rotate_left
  · intro w'
    go_simp
    with_reducible rfl
  rotate_left
  · simp only [Act.put, List.setIfInBounds_toArray, List.set_cons_zero, List.set_cons_succ, i64_w, i32_w]
    rfl
  refine pure_ (i := 13) (N := some 34) (v := ?_) (a' := ?_) #[true, true, true, true, true, true, true, true, true, true, true, true, true, true, false, false, false, false, false, false, false] rfl rfl (by kernel_rfl) (fun _ _ _ h => h) (Or.inl ⟨by rfl, ?_⟩) ?_ ?_
  rotate_left
  · intro w'
    go_simp
    with_reducible rfl
  rotate_left
  · simp only [Act.put, List.setIfInBounds_toArray, List.set_cons_zero, List.set_cons_succ, i64_w, i32_w]
    rfl
  refine pure_ (i := 14) (N := some 35) (v := ?_) (a' := ?_) #[true, true, true, true, true, true, true, true, true, true, true, true, true, true, true, false, false, false, false, false, false] rfl rfl (by kernel_rfl) (fun _ _ _ h => h) (Or.inl ⟨by rfl, ?_⟩) ?_ ?_
  rotate_left
  · intro w'
    go_simp
    with_reducible rfl
  rotate_left
  · simp only [Act.put, List.setIfInBounds_toArray, List.set_cons_zero, List.set_cons_succ, i64_w, i32_w]
    rfl
  refine pure_ (i := 15) (N := some 36) (v := ?_) (a' := ?_) #[true, true, true, true, true, true, true, true, true, true, true, true, true, true, true, true, false, false, false, false, false] rfl rfl (by kernel_rfl) (fun _ _ _ h => h) (Or.inl ⟨by rfl, ?_⟩) ?_ ?_
  rotate_left
  · intro w'
    go_simp
    with_reducible rfl
  rotate_left
  · simp only [Act.put, List.setIfInBounds_toArray, List.set_cons_zero, List.set_cons_succ, i64_w, i32_w]
    rfl
  refine pure_ (i := 16) (N := some 37) (v := ?_) (a' := ?_) #[true, true, true, true, true, true, true, true, true, true, true, true, true, true, true, true, true, false, false, false, false] rfl rfl (by kernel_rfl) (fun _ _ _ h => h) (Or.inl ⟨by rfl, ?_⟩) ?_ ?_
  rotate_left
  · intro w'
    go_simp
    with_reducible rfl
  rotate_left
  · simp only [Act.put, List.setIfInBounds_toArray, List.set_cons_zero, List.set_cons_succ, i64_w, i32_w]
    rfl
  refine take_ (i := 17) (N := some 38) (v := ?_) (a' := ?_) #[true, true, true, true, true, true, true, true, true, true, true, true, true, true, true, true, true, true, false, false, false] rfl rfl (by kernel_rfl) (fun _ _ _ h => h) (Or.inl ⟨by rfl, ?_⟩) hHeld ?_ ?_
  rotate_left
  · rintro w' ⟨s0, s1, s2, s3, s4, s5, s6, s7⟩
    go_simp
    with_reducible rfl
  rotate_left
  · simp only [Act.put, List.setIfInBounds_toArray, List.set_cons_zero, List.set_cons_succ, i64_w, i32_w]
    rfl
  refine one_ (i := 18) (N := some 39) #[true, true, true, true, true, true, true, true, true, true, true, true, true, true, true, true, true, true, true, false, false] rfl rfl (by kernel_rfl) (by decide) (fun K hK => ?_)
  refine goes_ Try.func12 (by kernel_rfl) rfl #[.agg #[.slice D0 fb.1.length d0, .int .i64 fb.2.1, .slice D2 fb.2.2.1.length d2, .slice D3 fb.2.2.2.length d3]] (by rfl) rfl rfl (by simp only [List.map_toArray, List.map_cons, List.map_nil]; rfl) ?_
  with_reducible refine (right_any fb _ _ (((H9.out.2.2.2.2.1.below hBm1).below hBm2).below hBm3) HU.out.2.2 HU.out.1.2).mono ?_
  rintro e m4 ⟨hq, hBm4⟩; rw [hRB] at hq; subst hq
  refine ⟨_, rfl, ?_⟩
  refine hK.out _ _ ⟨(hBm4.cell (World.block_lt_of_cell? _ _ hHeld.1)).trans hHeld.1, (hBm4.cell (World.block_lt_of_cell? _ _ hHeld.2.1)).trans hHeld.2.1, (hBm4.cell (World.block_lt_of_cell? _ _ hHeld.2.2.1)).trans hHeld.2.2.1, (hBm4.cell (World.block_lt_of_cell? _ _ hHeld.2.2.2.1)).trans hHeld.2.2.2.1, (hBm4.cell (World.block_lt_of_cell? _ _ hHeld.2.2.2.2.1)).trans hHeld.2.2.2.2.1, (hBm4.cell (World.block_lt_of_cell? _ _ hHeld.2.2.2.2.2.1)).trans hHeld.2.2.2.2.2.1, (hBm4.cell (World.block_lt_of_cell? _ _ hHeld.2.2.2.2.2.2.1)).trans hHeld.2.2.2.2.2.2.1, (hBm4.cell (World.block_lt_of_cell? _ _ hHeld.2.2.2.2.2.2.2)).trans hHeld.2.2.2.2.2.2.2⟩ (fun hHeld => ?_)
  clear hK K
  refine norm_ (a' := ?_) ?_ ?_
  rotate_left
  · show Act.put _ (some 39) _ = _
    simp only [Act.put, List.setIfInBounds_toArray, List.set_cons_zero, List.set_cons_succ, i64_w, i32_w]
    rfl
  refine pure_ (i := 19) (N := some 40) (v := ?_) (a' := ?_) #[true, true, true, true, true, true, true, true, true, true, true, true, true, true, true, true, true, true, true, true, false] rfl rfl (by kernel_rfl) (fun _ _ _ h => h) (Or.inl ⟨by rfl, ?_⟩) ?_ ?_
  rotate_left
  · intro w'
    go_simp
    with_reducible rfl
  rotate_left
  · simp only [Act.put, List.setIfInBounds_toArray, List.set_cons_zero, List.set_cons_succ, i64_w, i32_w]
    rfl
  refine pure_ (i := 20) (N := some 41) (v := ?_) (a' := ?_) #[true, true, true, true, true, true, true, true, true, true, true, true, true, true, true, true, true, true, true, true, true] rfl rfl (by kernel_rfl) (fun _ _ _ h => h) (Or.inl ⟨by rfl, ?_⟩) ?_ ?_
  rotate_left
  · intro w'
    go_simp
    with_reducible rfl
  rotate_left
  · simp only [Act.put, List.setIfInBounds_toArray, List.set_cons_zero, List.set_cons_succ, i64_w, i32_w]
    rfl
  refine done_ (by kernel_rfl) ?_
  have H10 := Lib.hid (show m4.heap[K0]? = _ ∧ m4.heap[K1]? = _ ∧ Below w.heap.size w m4 ∧ SesV m4 _ fa ∧ SesV m4 _ fb ∧ Kd.C (Kd.int .u8) m4 X0 X.length X ∧ Kd.C (Kd.int .u8) m4 Y0 Y.length Y ∧ X.length ≤ x0 ∧ Y.length ≤ y0 from by
    have hz1 := hBm1.trans (hBm2.mono hBm1.size)
    have hz2 := hz1.trans (hBm3.mono hz1.size)
    have hz := hz2.trans (hBm4.mono hz2.size)
    exact ⟨blk5 H9.out.1 hz, blk5 H9.out.2.1 hz, H9.out.2.2.1.trans (hz.mono H9.out.2.2.1.size), H9.out.2.2.2.1.below hz, H9.out.2.2.2.2.1.below hz, Kd.C_below H9.out.2.2.2.2.2.1 hz, Kd.C_below H9.out.2.2.2.2.2.2.1 hz, H9.out.2.2.2.2.2.2.2⟩)
  clear H9 hBm1 hBm2 hBm3 hBm4 hHeld
  have HR := Lib.hid (And.intro hRA hRB)
  clear hRA hRB tXd tYd tRA tRB
  cases RA with
  | true =>
    have tX := HF.out.1.1 HR.out.1
    have tXi : 0 < X.length := by omega
    clear HF
    cases RB with
    | true =>
      have hD : decP X = (fa, 0) := by rw [← HX.out.1]; exact back fa HR.out.1 HU.out.1.1
      go_wp2_with fail
      refine (Dec_any X0 X.length x0 X m4 H10.out.2.2.2.2.2.1 H10.out.2.2.2.2.2.2.2.1 (fa, 0) hD).mono ?_
      rintro e n1 ⟨E0, e0, E2, e2, E3, e3, rfl, hZ, hBn⟩
      clear hD
      go_upto_region 6 with fail
      have h9 := heap_alloc_new n1 (.cells #[.slice E0 fa.1.length e0, .int .i64 fa.2.1, .slice E2 fa.2.2.1.length e2, .slice E3 fa.2.2.2.length e3] 29)
      have hBa : Below n1.heap.size n1 (n1.alloc (.cells #[.slice E0 fa.1.length e0, .int .i64 fa.2.1, .slice E2 fa.2.2.1.length e2, .slice E3 fa.2.2.2.length e3] 29)) := (Below.refl _ _).alloc (Nat.le_refl _) _
      have hBb := hBn.trans (hBa.mono hBn.size)
      have H11 := Lib.hid (show (n1.alloc (.cells #[.slice E0 fa.1.length e0, .int .i64 fa.2.1, .slice E2 fa.2.2.1.length e2, .slice E3 fa.2.2.2.length e3] 29)).heap[K0]? = _ ∧ (n1.alloc (.cells #[.slice E0 fa.1.length e0, .int .i64 fa.2.1, .slice E2 fa.2.2.1.length e2, .slice E3 fa.2.2.2.length e3] 29)).heap[K1]? = _ ∧ Below w.heap.size w (n1.alloc (.cells #[.slice E0 fa.1.length e0, .int .i64 fa.2.1, .slice E2 fa.2.2.1.length e2, .slice E3 fa.2.2.2.length e3] 29)) ∧ SesV (n1.alloc (.cells #[.slice E0 fa.1.length e0, .int .i64 fa.2.1, .slice E2 fa.2.2.1.length e2, .slice E3 fa.2.2.2.length e3] 29)) _ fa ∧ SesV (n1.alloc (.cells #[.slice E0 fa.1.length e0, .int .i64 fa.2.1, .slice E2 fa.2.2.1.length e2, .slice E3 fa.2.2.2.length e3] 29)) _ fb ∧ Kd.C (Kd.int .u8) (n1.alloc (.cells #[.slice E0 fa.1.length e0, .int .i64 fa.2.1, .slice E2 fa.2.2.1.length e2, .slice E3 fa.2.2.2.length e3] 29)) X0 X.length X ∧ Kd.C (Kd.int .u8) (n1.alloc (.cells #[.slice E0 fa.1.length e0, .int .i64 fa.2.1, .slice E2 fa.2.2.1.length e2, .slice E3 fa.2.2.2.length e3] 29)) Y0 Y.length Y ∧ X.length ≤ x0 ∧ Y.length ≤ y0 ∧ (n1.alloc (.cells #[.slice E0 fa.1.length e0, .int .i64 fa.2.1, .slice E2 fa.2.2.1.length e2, .slice E3 fa.2.2.2.length e3] 29)).heap[n1.heap.size]? = _ ∧ SesV (n1.alloc (.cells #[.slice E0 fa.1.length e0, .int .i64 fa.2.1, .slice E2 fa.2.2.1.length e2, .slice E3 fa.2.2.2.length e3] 29)) _ fa from
        ⟨blk5 H10.out.1 hBb, blk5 H10.out.2.1 hBb, H10.out.2.2.1.trans (hBb.mono H10.out.2.2.1.size), H10.out.2.2.2.1.below hBb, H10.out.2.2.2.2.1.below hBb, Kd.C_below H10.out.2.2.2.2.2.1 hBb, Kd.C_below H10.out.2.2.2.2.2.2.1 hBb, H10.out.2.2.2.2.2.2.2.1, H10.out.2.2.2.2.2.2.2.2, h9, hZ.below hBa⟩)
      clear h9 hBa hBb hBn hZ H10
      generalize n1.alloc (.cells #[.slice E0 fa.1.length e0, .int .i64 fa.2.1, .slice E2 fa.2.2.1.length e2, .slice E3 fa.2.2.2.length e3] 29) = n2 at H11 ⊢
      generalize n1.heap.size = K9 at H11 ⊢
      obtain ⟨S0, S1, S2, S3⟩ := cells4 H11.out.1
      obtain ⟨S4, S5, S6, S7⟩ := cells4 H11.out.2.1
      obtain ⟨S8, S9, S10, S11⟩ := cells4 H11.out.2.2.2.2.2.2.2.2.2.1
      go_wp2_with fail
      refine (right_any fa _ _ H11.out.2.2.2.1 HU.out.2.1 HU.out.1.1).mono ?_
      rintro e n3 ⟨hq, hBn⟩
      rw [HR.out.1] at hq
      subst hq
      have H12 := Lib.hid (show n3.heap[K0]? = _ ∧ n3.heap[K1]? = _ ∧ Below w.heap.size w n3 ∧ SesV n3 _ fa ∧ SesV n3 _ fb ∧ Kd.C (Kd.int .u8) n3 X0 X.length X ∧ Kd.C (Kd.int .u8) n3 Y0 Y.length Y ∧ X.length ≤ x0 ∧ Y.length ≤ y0 ∧ n3.heap[K9]? = _ ∧ SesV n3 _ fa from
        ⟨blk5 H11.out.1 hBn, blk5 H11.out.2.1 hBn, H11.out.2.2.1.trans (hBn.mono H11.out.2.2.1.size), H11.out.2.2.2.1.below hBn, H11.out.2.2.2.2.1.below hBn, Kd.C_below H11.out.2.2.2.2.2.1 hBn, Kd.C_below H11.out.2.2.2.2.2.2.1 hBn, H11.out.2.2.2.2.2.2.2.1, H11.out.2.2.2.2.2.2.2.2.1, blk5 H11.out.2.2.2.2.2.2.2.2.2.1 hBn, H11.out.2.2.2.2.2.2.2.2.2.2.below hBn⟩)
      clear S0 S1 S2 S3 S4 S5 S6 S7 S8 S9 S10 S11 H11 hBn
      obtain ⟨S0, S1, S2, S3⟩ := cells4 H12.out.1
      obtain ⟨S4, S5, S6, S7⟩ := cells4 H12.out.2.1
      obtain ⟨S8, S9, S10, S11⟩ := cells4 H12.out.2.2.2.2.2.2.2.2.2.1
      go_wp2_with fail
      · next h => exfalso; have q := HX.out.2.2.1; unfold wrap64 at h; omega
      rename_i h
      clear h
      have hwx : wrap64 ((X.length : Int) - 1) = ((X.length - 1 : Nat) : Int) := by have q := HX.out.2.2.1; unfold wrap64; omega
      obtain ⟨r, hr1, hr2, hr3⟩ := within cut 0 (wrap64 ((X.length : Int) - 1)) (by rw [hwx]; omega) (by omega) (by rw [hwx]; have q := HX.out.2.2.1; omega)
      rw [hwx] at hr3
      clear hwx
      obtain ⟨i, rfl⟩ : ∃ i : Nat, r = (i : Int) := ⟨r.toNat, by omega⟩
      have hi : i < X.length := by omega
      have hix : i ≤ x0 := by have := H12.out.2.2.2.2.2.2.2.1; omega
      clear hr2 hr3
      refine (porticobook_Within.calls _ _ _ _ _ hr1).mono ?_
      rintro e n4 ⟨rfl, q, rfl⟩
      clear hr1
      have H13 := Lib.hid (show (n3.drewN q).heap[K0]? = _ ∧ (n3.drewN q).heap[K1]? = _ ∧ Below w.heap.size w ((n3.drewN q)) ∧ SesV ((n3.drewN q)) _ fa ∧ SesV ((n3.drewN q)) _ fb ∧ Kd.C (Kd.int .u8) ((n3.drewN q)) X0 X.length X ∧ Kd.C (Kd.int .u8) ((n3.drewN q)) Y0 Y.length Y ∧ X.length ≤ x0 ∧ Y.length ≤ y0 ∧ (n3.drewN q).heap[K9]? = _ ∧ SesV ((n3.drewN q)) _ fa from by
        have hBn := pw_below_drewN (Below.refl n3.heap.size n3) q
        exact ⟨blk5 H12.out.1 hBn, blk5 H12.out.2.1 hBn, H12.out.2.2.1.trans (hBn.mono H12.out.2.2.1.size), H12.out.2.2.2.1.below hBn, H12.out.2.2.2.2.1.below hBn, Kd.C_below H12.out.2.2.2.2.2.1 hBn, Kd.C_below H12.out.2.2.2.2.2.2.1 hBn, H12.out.2.2.2.2.2.2.2.1, H12.out.2.2.2.2.2.2.2.2.1, blk5 H12.out.2.2.2.2.2.2.2.2.2.1 hBn, H12.out.2.2.2.2.2.2.2.2.2.2.below hBn⟩)
      clear S0 S1 S2 S3 S4 S5 S6 S7 S8 S9 S10 S11 H12
      generalize n3.drewN q = n4 at H13 ⊢
      go_wp2_with fail
      refine (Dec_any X0 i x0 (X.take i) n4 (C_take H13.out.2.2.2.2.2.1 (by omega)) hix (zeroS, 8) (by rw [← HX.out.1]; exact begun fa HR.out.1 i (by rw [HX.out.1]; exact hi))).mono ?_
      rintro e n5 ⟨F0, f0, F2, f2, F3, f3, rfl, hZ2, hBn⟩
      go_upto_region 9 with fail
      have H14 := Lib.hid (show (n5.alloc (.cells #[.slice F0 zeroS.1.length f0, .int .i64 zeroS.2.1, .slice F2 zeroS.2.2.1.length f2, .slice F3 zeroS.2.2.2.length f3] 29)).heap[K0]? = _ ∧ (n5.alloc (.cells #[.slice F0 zeroS.1.length f0, .int .i64 zeroS.2.1, .slice F2 zeroS.2.2.1.length f2, .slice F3 zeroS.2.2.2.length f3] 29)).heap[K1]? = _ ∧ Below w.heap.size w ((n5.alloc (.cells #[.slice F0 zeroS.1.length f0, .int .i64 zeroS.2.1, .slice F2 zeroS.2.2.1.length f2, .slice F3 zeroS.2.2.2.length f3] 29))) ∧ SesV ((n5.alloc (.cells #[.slice F0 zeroS.1.length f0, .int .i64 zeroS.2.1, .slice F2 zeroS.2.2.1.length f2, .slice F3 zeroS.2.2.2.length f3] 29))) _ fa ∧ SesV ((n5.alloc (.cells #[.slice F0 zeroS.1.length f0, .int .i64 zeroS.2.1, .slice F2 zeroS.2.2.1.length f2, .slice F3 zeroS.2.2.2.length f3] 29))) _ fb ∧ Kd.C (Kd.int .u8) ((n5.alloc (.cells #[.slice F0 zeroS.1.length f0, .int .i64 zeroS.2.1, .slice F2 zeroS.2.2.1.length f2, .slice F3 zeroS.2.2.2.length f3] 29))) X0 X.length X ∧ Kd.C (Kd.int .u8) ((n5.alloc (.cells #[.slice F0 zeroS.1.length f0, .int .i64 zeroS.2.1, .slice F2 zeroS.2.2.1.length f2, .slice F3 zeroS.2.2.2.length f3] 29))) Y0 Y.length Y ∧ X.length ≤ x0 ∧ Y.length ≤ y0 ∧ (n5.alloc (.cells #[.slice F0 zeroS.1.length f0, .int .i64 zeroS.2.1, .slice F2 zeroS.2.2.1.length f2, .slice F3 zeroS.2.2.2.length f3] 29)).heap[K9]? = _ ∧ SesV ((n5.alloc (.cells #[.slice F0 zeroS.1.length f0, .int .i64 zeroS.2.1, .slice F2 zeroS.2.2.1.length f2, .slice F3 zeroS.2.2.2.length f3] 29))) _ fa from by
        have hBn := hBn.trans (((Below.refl _ _).alloc (Nat.le_refl _) _ : Below n5.heap.size n5 (n5.alloc (.cells #[.slice F0 zeroS.1.length f0, .int .i64 zeroS.2.1, .slice F2 zeroS.2.2.1.length f2, .slice F3 zeroS.2.2.2.length f3] 29))).mono hBn.size)
        exact ⟨blk5 H13.out.1 hBn, blk5 H13.out.2.1 hBn, H13.out.2.2.1.trans (hBn.mono H13.out.2.2.1.size), H13.out.2.2.2.1.below hBn, H13.out.2.2.2.2.1.below hBn, Kd.C_below H13.out.2.2.2.2.2.1 hBn, Kd.C_below H13.out.2.2.2.2.2.2.1 hBn, H13.out.2.2.2.2.2.2.2.1, H13.out.2.2.2.2.2.2.2.2.1, blk5 H13.out.2.2.2.2.2.2.2.2.2.1 hBn, H13.out.2.2.2.2.2.2.2.2.2.2.below hBn⟩)
      clear hBn H13 hZ2
      generalize n5.heap.size = K8 at ⊢
      generalize n5.alloc (.cells #[.slice F0 zeroS.1.length f0, .int .i64 zeroS.2.1, .slice F2 zeroS.2.2.1.length f2, .slice F3 zeroS.2.2.2.length f3] 29) = n6 at H14 ⊢
      obtain ⟨S0, S1, S2, S3⟩ := cells4 H14.out.1
      obtain ⟨S4, S5, S6, S7⟩ := cells4 H14.out.2.1
      obtain ⟨S8, S9, S10, S11⟩ := cells4 H14.out.2.2.2.2.2.2.2.2.2.1
      have H15 := Lib.hid (show n6.drew.heap[K0]? = _ ∧ n6.drew.heap[K1]? = _ ∧ Below w.heap.size w (n6.drew) ∧ SesV (n6.drew) _ fa ∧ SesV (n6.drew) _ fb ∧ Kd.C (Kd.int .u8) (n6.drew) X0 X.length X ∧ Kd.C (Kd.int .u8) (n6.drew) Y0 Y.length Y ∧ X.length ≤ x0 ∧ Y.length ≤ y0 ∧ n6.drew.heap[K9]? = _ ∧ SesV (n6.drew) _ fa from by
        have hBn := pw_below_drewN (Below.refl n6.heap.size n6) 1
        exact ⟨blk5 H14.out.1 hBn, blk5 H14.out.2.1 hBn, H14.out.2.2.1.trans (hBn.mono H14.out.2.2.1.size), H14.out.2.2.2.1.below hBn, H14.out.2.2.2.2.1.below hBn, Kd.C_below H14.out.2.2.2.2.2.1 hBn, Kd.C_below H14.out.2.2.2.2.2.2.1 hBn, H14.out.2.2.2.2.2.2.2.1, H14.out.2.2.2.2.2.2.2.2.1, blk5 H14.out.2.2.2.2.2.2.2.2.2.1 hBn, H14.out.2.2.2.2.2.2.2.2.2.2.below hBn⟩)
      clear H14
      obtain ⟨E, hE⟩ : ∃ E : Bool, E = true ↔ fa = fb := by
        by_cases h : fa = fb
        · exact ⟨true, fun _ => h, fun _ => rfl⟩
        · exact ⟨false, fun h => (by cases h), fun e => absurd e h⟩
      have hxy : E = true ↔ X = Y := hE.trans ⟨fun h => by rw [← HX.out.1, ← HX.out.2.1, h], fun h => enc_inj fa fb HR.out.1 HR.out.2 HU.out.1.1 HU.out.1.2 (by rw [HX.out.1, HX.out.2.1, h])⟩
      replace hE := Lib.hid hE
      replace hxy := Lib.hid hxy
      have tEE : (E == E) = true := by cases E <;> rfl
      refine start_ (n := 29) (S := fun w' => w'.cell? ⟨K0, 0, none⟩ = some (.slice C0 fa.1.length c0) ∧ w'.cell? ⟨K0, 1, none⟩ = some (.int .i64 fa.2.1) ∧ w'.cell? ⟨K0, 2, none⟩ = some (.slice C2 fa.2.2.1.length c2) ∧ w'.cell? ⟨K0, 3, none⟩ = some (.slice C3 fa.2.2.2.length c3) ∧ w'.cell? ⟨K1, 0, none⟩ = some (.slice D0 fb.1.length d0) ∧ w'.cell? ⟨K1, 1, none⟩ = some (.int .i64 fb.2.1) ∧ w'.cell? ⟨K1, 2, none⟩ = some (.slice D2 fb.2.2.1.length d2) ∧ w'.cell? ⟨K1, 3, none⟩ = some (.slice D3 fb.2.2.2.length d3) ∧ w'.cell? ⟨K9, 0, none⟩ = some (.slice E0 fa.1.length e0) ∧ w'.cell? ⟨K9, 1, none⟩ = some (.int .i64 fa.2.1) ∧ w'.cell? ⟨K9, 2, none⟩ = some (.slice E2 fa.2.2.1.length e2) ∧ w'.cell? ⟨K9, 3, none⟩ = some (.slice E3 fa.2.2.2.length e3)) (ds := []) #[false, false, false, false, false, false, false, false, false, false, false, false, false, false, false, false, false, false, false, false, false, false, false, false, false, false, false, false, false] (by kernel_rfl) rfl rfl ⟨S0, S1, S2, S3, S4, S5, S6, S7, S8, S9, S10, S11⟩ (fun hHeld => ?_)
      clear S0 S1 S2 S3 S4 S5 S6 S7 S8 S9 S10 S11
      generalize n6.drew = n7 at hHeld H15 ⊢
      refine pure_ (i := 0) (N := some 72) (v := ?_) (a' := ?_) #[true, false, false, false, false, false, false, false, false, false, false, false, false, false, false, false, false, false, false, false, false, false, false, false, false, false, false, false, false] rfl rfl (by kernel_rfl) (fun _ _ _ h => h) (Or.inl ⟨by rfl, ?_⟩) ?_ ?_
      rotate_left
      · intro w'
        go_simp
        with_reducible rfl
      rotate_left
      · simp only [Act.put, List.setIfInBounds_toArray, List.set_cons_zero, List.set_cons_succ, i64_w, i32_w]
        rfl
      refine pure_ (i := 1) (N := some 73) (v := ?_) (a' := ?_) #[true, true, false, false, false, false, false, false, false, false, false, false, false, false, false, false, false, false, false, false, false, false, false, false, false, false, false, false, false] rfl rfl (by kernel_rfl) (fun _ _ _ h => h) (Or.inl ⟨by rfl, ?_⟩) ?_ ?_
      rotate_left
      · intro w'
        go_simp
        with_reducible rfl
      rotate_left
      · simp only [Act.put, List.setIfInBounds_toArray, List.set_cons_zero, List.set_cons_succ, i64_w, i32_w]
        rfl
      refine pure_ (i := 2) (N := some 74) (v := ?_) (a' := ?_) #[true, true, true, false, false, false, false, false, false, false, false, false, false, false, false, false, false, false, false, false, false, false, false, false, false, false, false, false, false] rfl rfl (by kernel_rfl) (fun _ _ _ h => h) (Or.inl ⟨by rfl, ?_⟩) ?_ ?_
      rotate_left
      · intro w'
        go_simp
        with_reducible rfl
      rotate_left
      · simp only [Act.put, List.setIfInBounds_toArray, List.set_cons_zero, List.set_cons_succ, i64_w, i32_w]
        rfl
      refine take_ (i := 3) (N := some 75) (v := ?_) (a' := ?_) #[true, true, true, true, false, false, false, false, false, false, false, false, false, false, false, false, false, false, false, false, false, false, false, false, false, false, false, false, false] rfl rfl (by kernel_rfl) (fun _ _ _ h => h) (Or.inl ⟨by rfl, ?_⟩) hHeld ?_ ?_
      rotate_left
      · rintro w' ⟨s0, s1, s2, s3, s4, s5, s6, s7, s8, s9, s10, s11⟩
        go_simp
        with_reducible rfl
      rotate_left
      · simp only [Act.put, List.setIfInBounds_toArray, List.set_cons_zero, List.set_cons_succ, i64_w, i32_w]
        rfl
      refine take_ (i := 4) (N := some 76) (v := ?_) (a' := ?_) #[true, true, true, true, true, false, false, false, false, false, false, false, false, false, false, false, false, false, false, false, false, false, false, false, false, false, false, false, false] rfl rfl (by kernel_rfl) (fun _ _ _ h => h) (Or.inl ⟨by rfl, ?_⟩) hHeld ?_ ?_
      rotate_left
      · rintro w' ⟨s0, s1, s2, s3, s4, s5, s6, s7, s8, s9, s10, s11⟩
        go_simp
        with_reducible rfl
      rotate_left
      · simp only [Act.put, List.setIfInBounds_toArray, List.set_cons_zero, List.set_cons_succ, i64_w, i32_w]
        rfl
      refine one_ (i := 5) (N := some 77) #[true, true, true, true, true, true, false, false, false, false, false, false, false, false, false, false, false, false, false, false, false, false, false, false, false, false, false, false, false] rfl rfl (by kernel_rfl) (by decide) (fun K hK => ?_)
      refine goes_ Try.func9 (by kernel_rfl) rfl #[.agg #[.slice E0 fa.1.length e0, .int .i64 fa.2.1, .slice E2 fa.2.2.1.length e2, .slice E3 fa.2.2.2.length e3], .agg #[.slice C0 fa.1.length c0, .int .i64 fa.2.1, .slice C2 fa.2.2.1.length c2, .slice C3 fa.2.2.2.length c3]] (by rfl) rfl rfl (by simp only [List.map_toArray, List.map_cons, List.map_nil]; rfl) ?_
      with_reducible refine (Sess_any fa fa _ _ _ H15.out.2.2.2.2.2.2.2.2.2.2 H15.out.2.2.2.1 HU.out.2.1.sized).mono ?_
      rintro e m1 ⟨b5, rfl, hq5, hBm1⟩; obtain rfl := hq5.2 rfl; clear hq5
      refine ⟨_, rfl, ?_⟩
      refine hK.out _ _ ⟨(hBm1.cell (World.block_lt_of_cell? _ _ hHeld.1)).trans hHeld.1, (hBm1.cell (World.block_lt_of_cell? _ _ hHeld.2.1)).trans hHeld.2.1, (hBm1.cell (World.block_lt_of_cell? _ _ hHeld.2.2.1)).trans hHeld.2.2.1, (hBm1.cell (World.block_lt_of_cell? _ _ hHeld.2.2.2.1)).trans hHeld.2.2.2.1, (hBm1.cell (World.block_lt_of_cell? _ _ hHeld.2.2.2.2.1)).trans hHeld.2.2.2.2.1, (hBm1.cell (World.block_lt_of_cell? _ _ hHeld.2.2.2.2.2.1)).trans hHeld.2.2.2.2.2.1, (hBm1.cell (World.block_lt_of_cell? _ _ hHeld.2.2.2.2.2.2.1)).trans hHeld.2.2.2.2.2.2.1, (hBm1.cell (World.block_lt_of_cell? _ _ hHeld.2.2.2.2.2.2.2.1)).trans hHeld.2.2.2.2.2.2.2.1, (hBm1.cell (World.block_lt_of_cell? _ _ hHeld.2.2.2.2.2.2.2.2.1)).trans hHeld.2.2.2.2.2.2.2.2.1, (hBm1.cell (World.block_lt_of_cell? _ _ hHeld.2.2.2.2.2.2.2.2.2.1)).trans hHeld.2.2.2.2.2.2.2.2.2.1, (hBm1.cell (World.block_lt_of_cell? _ _ hHeld.2.2.2.2.2.2.2.2.2.2.1)).trans hHeld.2.2.2.2.2.2.2.2.2.2.1, (hBm1.cell (World.block_lt_of_cell? _ _ hHeld.2.2.2.2.2.2.2.2.2.2.2)).trans hHeld.2.2.2.2.2.2.2.2.2.2.2⟩ (fun hHeld => ?_)
      clear hK K
      refine norm_ (a' := ?_) ?_ ?_
      rotate_left
      · show Act.put _ (some 77) _ = _
        simp only [Act.put, List.setIfInBounds_toArray, List.set_cons_zero, List.set_cons_succ, i64_w, i32_w]
        rfl
      refine pure_ (i := 6) (N := some 78) (v := ?_) (a' := ?_) #[true, true, true, true, true, true, true, false, false, false, false, false, false, false, false, false, false, false, false, false, false, false, false, false, false, false, false, false, false] rfl rfl (by kernel_rfl) (fun _ _ _ h => h) (Or.inl ⟨by rfl, ?_⟩) ?_ ?_
      rotate_left
      · intro w'
        go_simp
        with_reducible rfl
      rotate_left
      · simp only [Act.put, List.setIfInBounds_toArray, List.set_cons_zero, List.set_cons_succ, i64_w, i32_w]
        rfl
      refine pure_ (i := 7) (N := some 79) (v := ?_) (a' := ?_) #[true, true, true, true, true, true, true, true, false, false, false, false, false, false, false, false, false, false, false, false, false, false, false, false, false, false, false, false, false] rfl rfl (by kernel_rfl) (fun _ _ _ h => h) (Or.inl ⟨by rfl, ?_⟩) ?_ ?_
      rotate_left
      · intro w'
        go_simp
        with_reducible rfl
      rotate_left
      · simp only [Act.put, List.setIfInBounds_toArray, List.set_cons_zero, List.set_cons_succ, i64_w, i32_w]
        rfl
      refine take_ (i := 8) (N := some 80) (v := ?_) (a' := ?_) #[true, true, true, true, true, true, true, true, true, false, false, false, false, false, false, false, false, false, false, false, false, false, false, false, false, false, false, false, false] rfl rfl (by kernel_rfl) (fun _ _ _ h => h) (Or.inl ⟨by rfl, ?_⟩) hHeld ?_ ?_
      rotate_left
      · rintro w' ⟨s0, s1, s2, s3, s4, s5, s6, s7, s8, s9, s10, s11⟩
        go_simp
        with_reducible rfl
      rotate_left
      · simp only [Act.put, List.setIfInBounds_toArray, List.set_cons_zero, List.set_cons_succ, i64_w, i32_w]
        rfl
      refine one_ (i := 9) (N := some 81) #[true, true, true, true, true, true, true, true, true, true, false, false, false, false, false, false, false, false, false, false, false, false, false, false, false, false, false, false, false] rfl rfl (by kernel_rfl) (by decide) (fun K hK => ?_)
      refine goes_ Try.func12 (by kernel_rfl) rfl #[.agg #[.slice D0 fb.1.length d0, .int .i64 fb.2.1, .slice D2 fb.2.2.1.length d2, .slice D3 fb.2.2.2.length d3]] (by rfl) rfl rfl (by simp only [List.map_toArray, List.map_cons, List.map_nil]; rfl) ?_
      with_reducible refine (right_any fb _ _ (H15.out.2.2.2.2.1.below hBm1) HU.out.2.2 HU.out.1.2).mono ?_
      rintro e m2 ⟨hq, hBm2⟩; rw [HR.out.2] at hq; subst hq
      refine ⟨_, rfl, ?_⟩
      refine hK.out _ _ ⟨(hBm2.cell (World.block_lt_of_cell? _ _ hHeld.1)).trans hHeld.1, (hBm2.cell (World.block_lt_of_cell? _ _ hHeld.2.1)).trans hHeld.2.1, (hBm2.cell (World.block_lt_of_cell? _ _ hHeld.2.2.1)).trans hHeld.2.2.1, (hBm2.cell (World.block_lt_of_cell? _ _ hHeld.2.2.2.1)).trans hHeld.2.2.2.1, (hBm2.cell (World.block_lt_of_cell? _ _ hHeld.2.2.2.2.1)).trans hHeld.2.2.2.2.1, (hBm2.cell (World.block_lt_of_cell? _ _ hHeld.2.2.2.2.2.1)).trans hHeld.2.2.2.2.2.1, (hBm2.cell (World.block_lt_of_cell? _ _ hHeld.2.2.2.2.2.2.1)).trans hHeld.2.2.2.2.2.2.1, (hBm2.cell (World.block_lt_of_cell? _ _ hHeld.2.2.2.2.2.2.2.1)).trans hHeld.2.2.2.2.2.2.2.1, (hBm2.cell (World.block_lt_of_cell? _ _ hHeld.2.2.2.2.2.2.2.2.1)).trans hHeld.2.2.2.2.2.2.2.2.1, (hBm2.cell (World.block_lt_of_cell? _ _ hHeld.2.2.2.2.2.2.2.2.2.1)).trans hHeld.2.2.2.2.2.2.2.2.2.1, (hBm2.cell (World.block_lt_of_cell? _ _ hHeld.2.2.2.2.2.2.2.2.2.2.1)).trans hHeld.2.2.2.2.2.2.2.2.2.2.1, (hBm2.cell (World.block_lt_of_cell? _ _ hHeld.2.2.2.2.2.2.2.2.2.2.2)).trans hHeld.2.2.2.2.2.2.2.2.2.2.2⟩ (fun hHeld => ?_)
      clear hK K
      refine norm_ (a' := ?_) ?_ ?_
      rotate_left
      · show Act.put _ (some 81) _ = _
        simp only [Act.put, List.setIfInBounds_toArray, List.set_cons_zero, List.set_cons_succ, i64_w, i32_w]
        rfl
      refine pure_ (i := 10) (N := some 82) (v := ?_) (a' := ?_) #[true, true, true, true, true, true, true, true, true, true, true, false, false, false, false, false, false, false, false, false, false, false, false, false, false, false, false, false, false] rfl rfl (by kernel_rfl) (fun _ _ _ h => h) (Or.inl ⟨by rfl, ?_⟩) ?_ ?_
      rotate_left
      · intro w'
        go_simp
        with_reducible rfl
      rotate_left
      · simp only [Act.put, List.setIfInBounds_toArray, List.set_cons_zero, List.set_cons_succ, i64_w, i32_w]
        rfl
      refine pure_ (i := 11) (N := some 83) (v := ?_) (a' := ?_) #[true, true, true, true, true, true, true, true, true, true, true, true, false, false, false, false, false, false, false, false, false, false, false, false, false, false, false, false, false] rfl rfl (by kernel_rfl) (fun _ _ _ h => h) (Or.inl ⟨by rfl, ?_⟩) ?_ ?_
      rotate_left
      · intro w'
        go_simp
        with_reducible rfl
      rotate_left
      · simp only [Act.put, List.setIfInBounds_toArray, List.set_cons_zero, List.set_cons_succ, i64_w, i32_w]
        rfl
      refine pure_ (i := 12) (N := some 84) (v := ?_) (a' := ?_) #[true, true, true, true, true, true, true, true, true, true, true, true, true, false, false, false, false, false, false, false, false, false, false, false, false, false, false, false, false] rfl rfl (by kernel_rfl) (fun _ _ _ h => h) (Or.inl ⟨by rfl, ?_⟩) ?_ ?_
      rotate_left
      · intro w'
        go_simp
        with_reducible rfl
      rotate_left
      · simp only [Act.put, List.setIfInBounds_toArray, List.set_cons_zero, List.set_cons_succ, i64_w, i32_w]
        rfl
      refine pure_ (i := 13) (N := some 85) (v := ?_) (a' := ?_) #[true, true, true, true, true, true, true, true, true, true, true, true, true, true, false, false, false, false, false, false, false, false, false, false, false, false, false, false, false] rfl rfl (by kernel_rfl) (fun _ _ _ h => h) (Or.inl ⟨by rfl, ?_⟩) ?_ ?_
      rotate_left
      · intro w'
        go_simp
        with_reducible rfl
      rotate_left
      · simp only [Act.put, List.setIfInBounds_toArray, List.set_cons_zero, List.set_cons_succ, i64_w, i32_w]
        rfl
      refine take_ (i := 15) (N := some 87) (v := ?_) (a' := ?_) #[true, true, true, true, true, true, true, true, true, true, true, true, true, true, false, true, false, false, false, false, false, false, false, false, false, false, false, false, false] rfl rfl (by kernel_rfl) (fun _ _ _ h => h) (Or.inl ⟨by rfl, ?_⟩) hHeld ?_ ?_
      rotate_left
      · rintro w' ⟨s0, s1, s2, s3, s4, s5, s6, s7, s8, s9, s10, s11⟩
        go_simp
        with_reducible rfl
      rotate_left
      · simp only [Act.put, List.setIfInBounds_toArray, List.set_cons_zero, List.set_cons_succ, i64_w, i32_w]
        rfl
      refine take_ (i := 16) (N := some 88) (v := ?_) (a' := ?_) #[true, true, true, true, true, true, true, true, true, true, true, true, true, true, false, true, true, false, false, false, false, false, false, false, false, false, false, false, false] rfl rfl (by kernel_rfl) (fun _ _ _ h => h) (Or.inl ⟨by rfl, ?_⟩) hHeld ?_ ?_
      rotate_left
      · rintro w' ⟨s0, s1, s2, s3, s4, s5, s6, s7, s8, s9, s10, s11⟩
        go_simp
        with_reducible rfl
      rotate_left
      · simp only [Act.put, List.setIfInBounds_toArray, List.set_cons_zero, List.set_cons_succ, i64_w, i32_w]
        rfl
      refine one_ (i := 14) (N := some 86) #[true, true, true, true, true, true, true, true, true, true, true, true, true, true, true, true, true, false, false, false, false, false, false, false, false, false, false, false, false] rfl rfl (by kernel_rfl) (by decide) (fun K hK => ?_)
      refine goes_ Try.func14 (by kernel_rfl) rfl #[.slice X0 X.length x0, .slice Y0 Y.length y0] (by rfl) rfl rfl (by simp only [List.map_toArray, List.map_cons, List.map_nil]; rfl) ?_
      with_reducible refine (SameB_any X0 x0 X Y0 y0 Y _ (Kd.C_below H15.out.2.2.2.2.2.1 (hBm1.trans (hBm2.mono hBm1.size))) H15.out.2.2.2.2.2.2.2.1 (Kd.C_below H15.out.2.2.2.2.2.2.1 (hBm1.trans (hBm2.mono hBm1.size))) H15.out.2.2.2.2.2.2.2.2.1 (by have := HX.out.2.2.1; omega)).mono ?_
      rintro e m3 ⟨b14, rfl, hq14, hBm3⟩; obtain rfl : E = b14 := (bsame hq14 hxy.out).symm; clear hq14
      refine ⟨_, rfl, ?_⟩
      refine hK.out _ _ ⟨(hBm3.cell (World.block_lt_of_cell? _ _ hHeld.1)).trans hHeld.1, (hBm3.cell (World.block_lt_of_cell? _ _ hHeld.2.1)).trans hHeld.2.1, (hBm3.cell (World.block_lt_of_cell? _ _ hHeld.2.2.1)).trans hHeld.2.2.1, (hBm3.cell (World.block_lt_of_cell? _ _ hHeld.2.2.2.1)).trans hHeld.2.2.2.1, (hBm3.cell (World.block_lt_of_cell? _ _ hHeld.2.2.2.2.1)).trans hHeld.2.2.2.2.1, (hBm3.cell (World.block_lt_of_cell? _ _ hHeld.2.2.2.2.2.1)).trans hHeld.2.2.2.2.2.1, (hBm3.cell (World.block_lt_of_cell? _ _ hHeld.2.2.2.2.2.2.1)).trans hHeld.2.2.2.2.2.2.1, (hBm3.cell (World.block_lt_of_cell? _ _ hHeld.2.2.2.2.2.2.2.1)).trans hHeld.2.2.2.2.2.2.2.1, (hBm3.cell (World.block_lt_of_cell? _ _ hHeld.2.2.2.2.2.2.2.2.1)).trans hHeld.2.2.2.2.2.2.2.2.1, (hBm3.cell (World.block_lt_of_cell? _ _ hHeld.2.2.2.2.2.2.2.2.2.1)).trans hHeld.2.2.2.2.2.2.2.2.2.1, (hBm3.cell (World.block_lt_of_cell? _ _ hHeld.2.2.2.2.2.2.2.2.2.2.1)).trans hHeld.2.2.2.2.2.2.2.2.2.2.1, (hBm3.cell (World.block_lt_of_cell? _ _ hHeld.2.2.2.2.2.2.2.2.2.2.2)).trans hHeld.2.2.2.2.2.2.2.2.2.2.2⟩ (fun hHeld => ?_)
      clear hK K
      refine norm_ (a' := ?_) ?_ ?_
      rotate_left
      · show Act.put _ (some 86) _ = _
        simp only [Act.put, List.setIfInBounds_toArray, List.set_cons_zero, List.set_cons_succ, i64_w, i32_w]
        rfl
      refine one_ (i := 17) (N := some 89) #[true, true, true, true, true, true, true, true, true, true, true, true, true, true, true, true, true, true, false, false, false, false, false, false, false, false, false, false, false] rfl rfl (by kernel_rfl) (by decide) (fun K hK => ?_)
      refine goes_ Try.func9 (by kernel_rfl) rfl #[.agg #[.slice C0 fa.1.length c0, .int .i64 fa.2.1, .slice C2 fa.2.2.1.length c2, .slice C3 fa.2.2.2.length c3], .agg #[.slice D0 fb.1.length d0, .int .i64 fb.2.1, .slice D2 fb.2.2.1.length d2, .slice D3 fb.2.2.2.length d3]] (by rfl) rfl rfl (by simp only [List.map_toArray, List.map_cons, List.map_nil]; rfl) ?_
      with_reducible refine (Sess_any fa fb _ _ _ (H15.out.2.2.2.1.below ((hBm1.trans (hBm2.mono hBm1.size)).trans (hBm3.mono (hBm1.trans (hBm2.mono hBm1.size)).size))) (H15.out.2.2.2.2.1.below ((hBm1.trans (hBm2.mono hBm1.size)).trans (hBm3.mono (hBm1.trans (hBm2.mono hBm1.size)).size))) HU.out.2.1.sized).mono ?_
      rintro e m4 ⟨b17, rfl, hq17, hBm4⟩; obtain rfl : E = b17 := (bsame hq17 hE.out).symm; clear hq17
      refine ⟨_, rfl, ?_⟩
      refine hK.out _ _ ⟨(hBm4.cell (World.block_lt_of_cell? _ _ hHeld.1)).trans hHeld.1, (hBm4.cell (World.block_lt_of_cell? _ _ hHeld.2.1)).trans hHeld.2.1, (hBm4.cell (World.block_lt_of_cell? _ _ hHeld.2.2.1)).trans hHeld.2.2.1, (hBm4.cell (World.block_lt_of_cell? _ _ hHeld.2.2.2.1)).trans hHeld.2.2.2.1, (hBm4.cell (World.block_lt_of_cell? _ _ hHeld.2.2.2.2.1)).trans hHeld.2.2.2.2.1, (hBm4.cell (World.block_lt_of_cell? _ _ hHeld.2.2.2.2.2.1)).trans hHeld.2.2.2.2.2.1, (hBm4.cell (World.block_lt_of_cell? _ _ hHeld.2.2.2.2.2.2.1)).trans hHeld.2.2.2.2.2.2.1, (hBm4.cell (World.block_lt_of_cell? _ _ hHeld.2.2.2.2.2.2.2.1)).trans hHeld.2.2.2.2.2.2.2.1, (hBm4.cell (World.block_lt_of_cell? _ _ hHeld.2.2.2.2.2.2.2.2.1)).trans hHeld.2.2.2.2.2.2.2.2.1, (hBm4.cell (World.block_lt_of_cell? _ _ hHeld.2.2.2.2.2.2.2.2.2.1)).trans hHeld.2.2.2.2.2.2.2.2.2.1, (hBm4.cell (World.block_lt_of_cell? _ _ hHeld.2.2.2.2.2.2.2.2.2.2.1)).trans hHeld.2.2.2.2.2.2.2.2.2.2.1, (hBm4.cell (World.block_lt_of_cell? _ _ hHeld.2.2.2.2.2.2.2.2.2.2.2)).trans hHeld.2.2.2.2.2.2.2.2.2.2.2⟩ (fun hHeld => ?_)
      clear hK K
      refine norm_ (a' := ?_) ?_ ?_
      rotate_left
      · show Act.put _ (some 89) _ = _
        simp only [Act.put, List.setIfInBounds_toArray, List.set_cons_zero, List.set_cons_succ, i64_w, i32_w]
        rfl
      refine pure_ (i := 18) (N := some 90) (v := ?_) (a' := ?_) #[true, true, true, true, true, true, true, true, true, true, true, true, true, true, true, true, true, true, true, false, false, false, false, false, false, false, false, false, false] rfl rfl (by kernel_rfl) (fun _ _ _ h => h) (Or.inl ⟨by rfl, ?_⟩) ?_ ?_
      rotate_left
      · intro w'
        go_simp
        with_reducible rfl
      rotate_left
      · simp only [Act.put, List.setIfInBounds_toArray, List.set_cons_zero, List.set_cons_succ, i64_w, i32_w]
        rfl
      refine pure_ (i := 19) (N := some 91) (v := ?_) (a' := ?_) #[true, true, true, true, true, true, true, true, true, true, true, true, true, true, true, true, true, true, true, true, false, false, false, false, false, false, false, false, false] rfl rfl (by kernel_rfl) (fun _ _ _ h => h) (Or.inl ⟨by rfl, ?_⟩) ?_ ?_
      rotate_left
      · intro w'
        go_simp
        with_reducible rfl
      rotate_left
      · simp only [Act.put, List.setIfInBounds_toArray, List.set_cons_zero, List.set_cons_succ, i64_w, i32_w]
        rfl
      refine pure_ (i := 20) (N := some 92) (v := ?_) (a' := ?_) #[true, true, true, true, true, true, true, true, true, true, true, true, true, true, true, true, true, true, true, true, true, false, false, false, false, false, false, false, false] rfl rfl (by kernel_rfl) (fun _ _ _ h => h) (Or.inl ⟨by rfl, ?_⟩) ?_ ?_
      rotate_left
      · intro w'
        go_simp
        with_reducible rfl
      rotate_left
      · simp only [Act.put, List.setIfInBounds_toArray, List.set_cons_zero, List.set_cons_succ, i64_w, i32_w]
        rfl
      refine pure_ (i := 21) (N := some 93) (v := ?_) (a' := ?_) #[true, true, true, true, true, true, true, true, true, true, true, true, true, true, true, true, true, true, true, true, true, true, false, false, false, false, false, false, false] rfl rfl (by kernel_rfl) (fun _ _ _ h => h) (Or.inl ⟨by rfl, ?_⟩) ?_ ?_
      rotate_left
      · intro w'
        go_simp
        with_reducible rfl
      rotate_left
      · simp only [Act.put, List.setIfInBounds_toArray, List.set_cons_zero, List.set_cons_succ, i64_w, i32_w]
        rfl
      refine pure_ (i := 22) (N := some 94) (v := ?_) (a' := ?_) #[true, true, true, true, true, true, true, true, true, true, true, true, true, true, true, true, true, true, true, true, true, true, true, false, false, false, false, false, false] rfl rfl (by kernel_rfl) (fun _ _ _ h => h) (Or.inl ⟨by rfl, ?_⟩) ?_ ?_
      rotate_left
      · intro w'
        go_simp
        with_reducible rfl
      rotate_left
      · simp only [Act.put, List.setIfInBounds_toArray, List.set_cons_zero, List.set_cons_succ, i64_w, i32_w]
        rfl
      refine pure_ (i := 23) (N := some 95) (v := ?_) (a' := ?_) #[true, true, true, true, true, true, true, true, true, true, true, true, true, true, true, true, true, true, true, true, true, true, true, true, false, false, false, false, false] rfl rfl (by kernel_rfl) (fun _ _ _ h => h) (Or.inl ⟨by rfl, ?_⟩) ?_ ?_
      rotate_left
      · intro w'
        go_simp
        with_reducible rfl
      rotate_left
      · simp only [Act.put, List.setIfInBounds_toArray, List.set_cons_zero, List.set_cons_succ, i64_w, i32_w]
        rfl
      refine pure_ (i := 24) (N := some 96) (v := ?_) (a' := ?_) #[true, true, true, true, true, true, true, true, true, true, true, true, true, true, true, true, true, true, true, true, true, true, true, true, true, false, false, false, false] rfl rfl (by kernel_rfl) (fun _ _ _ h => h) (Or.inl ⟨by rfl, ?_⟩) ?_ ?_
      rotate_left
      · intro w'
        go_simp
        with_reducible rfl
      rotate_left
      · simp only [Act.put, List.setIfInBounds_toArray, List.set_cons_zero, List.set_cons_succ, i64_w, i32_w]
        rfl
      refine pure_ (i := 25) (N := some 97) (v := ?_) (a' := ?_) #[true, true, true, true, true, true, true, true, true, true, true, true, true, true, true, true, true, true, true, true, true, true, true, true, true, true, false, false, false] rfl rfl (by kernel_rfl) (fun _ _ _ h => h) (Or.inl ⟨by rfl, ?_⟩) ?_ ?_
      rotate_left
      · intro w'
        go_simp
        with_reducible rfl
      rotate_left
      · simp only [Act.put, List.setIfInBounds_toArray, List.set_cons_zero, List.set_cons_succ, i64_w, i32_w]
        rfl
      refine one_ (i := 26) (N := some 98) #[true, true, true, true, true, true, true, true, true, true, true, true, true, true, true, true, true, true, true, true, true, true, true, true, true, true, true, false, false] rfl rfl (by kernel_rfl) (by decide) (fun K hK => ?_)
      refine goes_ Try.func3 (by kernel_rfl) rfl #[] (by rfl) rfl rfl (by simp only [List.map_toArray, List.map_nil]) ?_
      with_reducible refine (CodeRuns_any _).mono ?_
      rintro e m5 ⟨rfl, hBm5⟩
      refine ⟨_, rfl, ?_⟩
      refine hK.out _ _ ⟨(hBm5.cell (World.block_lt_of_cell? _ _ hHeld.1)).trans hHeld.1, (hBm5.cell (World.block_lt_of_cell? _ _ hHeld.2.1)).trans hHeld.2.1, (hBm5.cell (World.block_lt_of_cell? _ _ hHeld.2.2.1)).trans hHeld.2.2.1, (hBm5.cell (World.block_lt_of_cell? _ _ hHeld.2.2.2.1)).trans hHeld.2.2.2.1, (hBm5.cell (World.block_lt_of_cell? _ _ hHeld.2.2.2.2.1)).trans hHeld.2.2.2.2.1, (hBm5.cell (World.block_lt_of_cell? _ _ hHeld.2.2.2.2.2.1)).trans hHeld.2.2.2.2.2.1, (hBm5.cell (World.block_lt_of_cell? _ _ hHeld.2.2.2.2.2.2.1)).trans hHeld.2.2.2.2.2.2.1, (hBm5.cell (World.block_lt_of_cell? _ _ hHeld.2.2.2.2.2.2.2.1)).trans hHeld.2.2.2.2.2.2.2.1, (hBm5.cell (World.block_lt_of_cell? _ _ hHeld.2.2.2.2.2.2.2.2.1)).trans hHeld.2.2.2.2.2.2.2.2.1, (hBm5.cell (World.block_lt_of_cell? _ _ hHeld.2.2.2.2.2.2.2.2.2.1)).trans hHeld.2.2.2.2.2.2.2.2.2.1, (hBm5.cell (World.block_lt_of_cell? _ _ hHeld.2.2.2.2.2.2.2.2.2.2.1)).trans hHeld.2.2.2.2.2.2.2.2.2.2.1, (hBm5.cell (World.block_lt_of_cell? _ _ hHeld.2.2.2.2.2.2.2.2.2.2.2)).trans hHeld.2.2.2.2.2.2.2.2.2.2.2⟩ (fun hHeld => ?_)
      clear hK K
      refine norm_ (a' := ?_) ?_ ?_
      rotate_left
      · show Act.put _ (some 98) _ = _
        simp only [Act.put, List.setIfInBounds_toArray, List.set_cons_zero, List.set_cons_succ, i64_w, i32_w]
        rfl
      refine pure_ (i := 27) (N := some 99) (v := ?_) (a' := ?_) #[true, true, true, true, true, true, true, true, true, true, true, true, true, true, true, true, true, true, true, true, true, true, true, true, true, true, true, true, false] rfl rfl (by kernel_rfl) (fun _ _ _ h => h) (Or.inl ⟨by rfl, ?_⟩) ?_ ?_
      rotate_left
      · intro w'
        go_simp
        with_reducible rfl
      rotate_left
      · simp only [Act.put, List.setIfInBounds_toArray, List.set_cons_zero, List.set_cons_succ, i64_w, i32_w]
        rfl
      refine pure_ (i := 28) (N := some 6) (v := ?_) (a' := ?_) #[true, true, true, true, true, true, true, true, true, true, true, true, true, true, true, true, true, true, true, true, true, true, true, true, true, true, true, true, true] rfl rfl (by kernel_rfl) (fun _ _ _ h => h) (Or.inl ⟨by rfl, ?_⟩) ?_ ?_
      rotate_left
      · intro w'
        go_simp
        with_reducible rfl
      rotate_left
      · simp only [Act.put, List.setIfInBounds_toArray, List.set_cons_zero, List.set_cons_succ, i64_w, i32_w]
        rfl
      refine done_ (by kernel_rfl) ?_
      have H16 := H15.out.2.2.1
      have H16 := H16.trans (hBm1.mono H16.size)
      have H16 := H16.trans (hBm2.mono H16.size)
      have H16 := H16.trans (hBm3.mono H16.size)
      have H16 := H16.trans (hBm4.mono H16.size)
      have H16 := H16.trans (hBm5.mono H16.size)
      clear H15 hHeld hBm1 hBm2 hBm5 hBm3 hBm4
      have H16 := Lib.hid H16
      go_wp2_with fail
      go_ret
      exact ⟨rfl, H16.out⟩
    | false =>
      have hD : decP X = (fa, 0) := by rw [← HX.out.1]; exact back fa HR.out.1 HU.out.1.1
      go_wp2_with fail
      refine (Dec_any X0 X.length x0 X m4 H10.out.2.2.2.2.2.1 H10.out.2.2.2.2.2.2.2.1 (fa, 0) hD).mono ?_
      rintro e n1 ⟨E0, e0, E2, e2, E3, e3, rfl, hZ, hBn⟩
      clear hD
      go_upto_region 6 with fail
      have h9 := heap_alloc_new n1 (.cells #[.slice E0 fa.1.length e0, .int .i64 fa.2.1, .slice E2 fa.2.2.1.length e2, .slice E3 fa.2.2.2.length e3] 29)
      have hBa : Below n1.heap.size n1 (n1.alloc (.cells #[.slice E0 fa.1.length e0, .int .i64 fa.2.1, .slice E2 fa.2.2.1.length e2, .slice E3 fa.2.2.2.length e3] 29)) := (Below.refl _ _).alloc (Nat.le_refl _) _
      have hBb := hBn.trans (hBa.mono hBn.size)
      have H11 := Lib.hid (show (n1.alloc (.cells #[.slice E0 fa.1.length e0, .int .i64 fa.2.1, .slice E2 fa.2.2.1.length e2, .slice E3 fa.2.2.2.length e3] 29)).heap[K0]? = _ ∧ (n1.alloc (.cells #[.slice E0 fa.1.length e0, .int .i64 fa.2.1, .slice E2 fa.2.2.1.length e2, .slice E3 fa.2.2.2.length e3] 29)).heap[K1]? = _ ∧ Below w.heap.size w (n1.alloc (.cells #[.slice E0 fa.1.length e0, .int .i64 fa.2.1, .slice E2 fa.2.2.1.length e2, .slice E3 fa.2.2.2.length e3] 29)) ∧ SesV (n1.alloc (.cells #[.slice E0 fa.1.length e0, .int .i64 fa.2.1, .slice E2 fa.2.2.1.length e2, .slice E3 fa.2.2.2.length e3] 29)) _ fa ∧ SesV (n1.alloc (.cells #[.slice E0 fa.1.length e0, .int .i64 fa.2.1, .slice E2 fa.2.2.1.length e2, .slice E3 fa.2.2.2.length e3] 29)) _ fb ∧ Kd.C (Kd.int .u8) (n1.alloc (.cells #[.slice E0 fa.1.length e0, .int .i64 fa.2.1, .slice E2 fa.2.2.1.length e2, .slice E3 fa.2.2.2.length e3] 29)) X0 X.length X ∧ Kd.C (Kd.int .u8) (n1.alloc (.cells #[.slice E0 fa.1.length e0, .int .i64 fa.2.1, .slice E2 fa.2.2.1.length e2, .slice E3 fa.2.2.2.length e3] 29)) Y0 Y.length Y ∧ X.length ≤ x0 ∧ Y.length ≤ y0 ∧ (n1.alloc (.cells #[.slice E0 fa.1.length e0, .int .i64 fa.2.1, .slice E2 fa.2.2.1.length e2, .slice E3 fa.2.2.2.length e3] 29)).heap[n1.heap.size]? = _ ∧ SesV (n1.alloc (.cells #[.slice E0 fa.1.length e0, .int .i64 fa.2.1, .slice E2 fa.2.2.1.length e2, .slice E3 fa.2.2.2.length e3] 29)) _ fa from
        ⟨blk5 H10.out.1 hBb, blk5 H10.out.2.1 hBb, H10.out.2.2.1.trans (hBb.mono H10.out.2.2.1.size), H10.out.2.2.2.1.below hBb, H10.out.2.2.2.2.1.below hBb, Kd.C_below H10.out.2.2.2.2.2.1 hBb, Kd.C_below H10.out.2.2.2.2.2.2.1 hBb, H10.out.2.2.2.2.2.2.2.1, H10.out.2.2.2.2.2.2.2.2, h9, hZ.below hBa⟩)
      clear h9 hBa hBb hBn hZ H10
      generalize n1.alloc (.cells #[.slice E0 fa.1.length e0, .int .i64 fa.2.1, .slice E2 fa.2.2.1.length e2, .slice E3 fa.2.2.2.length e3] 29) = n2 at H11 ⊢
      generalize n1.heap.size = K9 at H11 ⊢
      obtain ⟨S0, S1, S2, S3⟩ := cells4 H11.out.1
      obtain ⟨S4, S5, S6, S7⟩ := cells4 H11.out.2.1
      obtain ⟨S8, S9, S10, S11⟩ := cells4 H11.out.2.2.2.2.2.2.2.2.2.1
      go_wp2_with fail
      refine (right_any fa _ _ H11.out.2.2.2.1 HU.out.2.1 HU.out.1.1).mono ?_
      rintro e n3 ⟨hq, hBn⟩
      rw [HR.out.1] at hq
      subst hq
      have H12 := Lib.hid (show n3.heap[K0]? = _ ∧ n3.heap[K1]? = _ ∧ Below w.heap.size w n3 ∧ SesV n3 _ fa ∧ SesV n3 _ fb ∧ Kd.C (Kd.int .u8) n3 X0 X.length X ∧ Kd.C (Kd.int .u8) n3 Y0 Y.length Y ∧ X.length ≤ x0 ∧ Y.length ≤ y0 ∧ n3.heap[K9]? = _ ∧ SesV n3 _ fa from
        ⟨blk5 H11.out.1 hBn, blk5 H11.out.2.1 hBn, H11.out.2.2.1.trans (hBn.mono H11.out.2.2.1.size), H11.out.2.2.2.1.below hBn, H11.out.2.2.2.2.1.below hBn, Kd.C_below H11.out.2.2.2.2.2.1 hBn, Kd.C_below H11.out.2.2.2.2.2.2.1 hBn, H11.out.2.2.2.2.2.2.2.1, H11.out.2.2.2.2.2.2.2.2.1, blk5 H11.out.2.2.2.2.2.2.2.2.2.1 hBn, H11.out.2.2.2.2.2.2.2.2.2.2.below hBn⟩)
      clear S0 S1 S2 S3 S4 S5 S6 S7 S8 S9 S10 S11 H11 hBn
      obtain ⟨S0, S1, S2, S3⟩ := cells4 H12.out.1
      obtain ⟨S4, S5, S6, S7⟩ := cells4 H12.out.2.1
      obtain ⟨S8, S9, S10, S11⟩ := cells4 H12.out.2.2.2.2.2.2.2.2.2.1
      go_wp2_with fail
      · next h => exfalso; have q := HX.out.2.2.1; unfold wrap64 at h; omega
      rename_i h
      clear h
      have hwx : wrap64 ((X.length : Int) - 1) = ((X.length - 1 : Nat) : Int) := by have q := HX.out.2.2.1; unfold wrap64; omega
      obtain ⟨r, hr1, hr2, hr3⟩ := within cut 0 (wrap64 ((X.length : Int) - 1)) (by rw [hwx]; omega) (by omega) (by rw [hwx]; have q := HX.out.2.2.1; omega)
      rw [hwx] at hr3
      clear hwx
      obtain ⟨i, rfl⟩ : ∃ i : Nat, r = (i : Int) := ⟨r.toNat, by omega⟩
      have hi : i < X.length := by omega
      have hix : i ≤ x0 := by have := H12.out.2.2.2.2.2.2.2.1; omega
      clear hr2 hr3
      refine (porticobook_Within.calls _ _ _ _ _ hr1).mono ?_
      rintro e n4 ⟨rfl, q, rfl⟩
      clear hr1
      have H13 := Lib.hid (show (n3.drewN q).heap[K0]? = _ ∧ (n3.drewN q).heap[K1]? = _ ∧ Below w.heap.size w ((n3.drewN q)) ∧ SesV ((n3.drewN q)) _ fa ∧ SesV ((n3.drewN q)) _ fb ∧ Kd.C (Kd.int .u8) ((n3.drewN q)) X0 X.length X ∧ Kd.C (Kd.int .u8) ((n3.drewN q)) Y0 Y.length Y ∧ X.length ≤ x0 ∧ Y.length ≤ y0 ∧ (n3.drewN q).heap[K9]? = _ ∧ SesV ((n3.drewN q)) _ fa from by
        have hBn := pw_below_drewN (Below.refl n3.heap.size n3) q
        exact ⟨blk5 H12.out.1 hBn, blk5 H12.out.2.1 hBn, H12.out.2.2.1.trans (hBn.mono H12.out.2.2.1.size), H12.out.2.2.2.1.below hBn, H12.out.2.2.2.2.1.below hBn, Kd.C_below H12.out.2.2.2.2.2.1 hBn, Kd.C_below H12.out.2.2.2.2.2.2.1 hBn, H12.out.2.2.2.2.2.2.2.1, H12.out.2.2.2.2.2.2.2.2.1, blk5 H12.out.2.2.2.2.2.2.2.2.2.1 hBn, H12.out.2.2.2.2.2.2.2.2.2.2.below hBn⟩)
      clear S0 S1 S2 S3 S4 S5 S6 S7 S8 S9 S10 S11 H12
      generalize n3.drewN q = n4 at H13 ⊢
      go_wp2_with fail
      refine (Dec_any X0 i x0 (X.take i) n4 (C_take H13.out.2.2.2.2.2.1 (by omega)) hix (zeroS, 8) (by rw [← HX.out.1]; exact begun fa HR.out.1 i (by rw [HX.out.1]; exact hi))).mono ?_
      rintro e n5 ⟨F0, f0, F2, f2, F3, f3, rfl, hZ2, hBn⟩
      go_upto_region 9 with fail
      have H14 := Lib.hid (show (n5.alloc (.cells #[.slice F0 zeroS.1.length f0, .int .i64 zeroS.2.1, .slice F2 zeroS.2.2.1.length f2, .slice F3 zeroS.2.2.2.length f3] 29)).heap[K0]? = _ ∧ (n5.alloc (.cells #[.slice F0 zeroS.1.length f0, .int .i64 zeroS.2.1, .slice F2 zeroS.2.2.1.length f2, .slice F3 zeroS.2.2.2.length f3] 29)).heap[K1]? = _ ∧ Below w.heap.size w ((n5.alloc (.cells #[.slice F0 zeroS.1.length f0, .int .i64 zeroS.2.1, .slice F2 zeroS.2.2.1.length f2, .slice F3 zeroS.2.2.2.length f3] 29))) ∧ SesV ((n5.alloc (.cells #[.slice F0 zeroS.1.length f0, .int .i64 zeroS.2.1, .slice F2 zeroS.2.2.1.length f2, .slice F3 zeroS.2.2.2.length f3] 29))) _ fa ∧ SesV ((n5.alloc (.cells #[.slice F0 zeroS.1.length f0, .int .i64 zeroS.2.1, .slice F2 zeroS.2.2.1.length f2, .slice F3 zeroS.2.2.2.length f3] 29))) _ fb ∧ Kd.C (Kd.int .u8) ((n5.alloc (.cells #[.slice F0 zeroS.1.length f0, .int .i64 zeroS.2.1, .slice F2 zeroS.2.2.1.length f2, .slice F3 zeroS.2.2.2.length f3] 29))) X0 X.length X ∧ Kd.C (Kd.int .u8) ((n5.alloc (.cells #[.slice F0 zeroS.1.length f0, .int .i64 zeroS.2.1, .slice F2 zeroS.2.2.1.length f2, .slice F3 zeroS.2.2.2.length f3] 29))) Y0 Y.length Y ∧ X.length ≤ x0 ∧ Y.length ≤ y0 ∧ (n5.alloc (.cells #[.slice F0 zeroS.1.length f0, .int .i64 zeroS.2.1, .slice F2 zeroS.2.2.1.length f2, .slice F3 zeroS.2.2.2.length f3] 29)).heap[K9]? = _ ∧ SesV ((n5.alloc (.cells #[.slice F0 zeroS.1.length f0, .int .i64 zeroS.2.1, .slice F2 zeroS.2.2.1.length f2, .slice F3 zeroS.2.2.2.length f3] 29))) _ fa from by
        have hBn := hBn.trans (((Below.refl _ _).alloc (Nat.le_refl _) _ : Below n5.heap.size n5 (n5.alloc (.cells #[.slice F0 zeroS.1.length f0, .int .i64 zeroS.2.1, .slice F2 zeroS.2.2.1.length f2, .slice F3 zeroS.2.2.2.length f3] 29))).mono hBn.size)
        exact ⟨blk5 H13.out.1 hBn, blk5 H13.out.2.1 hBn, H13.out.2.2.1.trans (hBn.mono H13.out.2.2.1.size), H13.out.2.2.2.1.below hBn, H13.out.2.2.2.2.1.below hBn, Kd.C_below H13.out.2.2.2.2.2.1 hBn, Kd.C_below H13.out.2.2.2.2.2.2.1 hBn, H13.out.2.2.2.2.2.2.2.1, H13.out.2.2.2.2.2.2.2.2.1, blk5 H13.out.2.2.2.2.2.2.2.2.2.1 hBn, H13.out.2.2.2.2.2.2.2.2.2.2.below hBn⟩)
      clear hBn H13 hZ2
      generalize n5.heap.size = K8 at ⊢
      generalize n5.alloc (.cells #[.slice F0 zeroS.1.length f0, .int .i64 zeroS.2.1, .slice F2 zeroS.2.2.1.length f2, .slice F3 zeroS.2.2.2.length f3] 29) = n6 at H14 ⊢
      obtain ⟨S0, S1, S2, S3⟩ := cells4 H14.out.1
      obtain ⟨S4, S5, S6, S7⟩ := cells4 H14.out.2.1
      obtain ⟨S8, S9, S10, S11⟩ := cells4 H14.out.2.2.2.2.2.2.2.2.2.1
      have H15 := Lib.hid (show n6.drew.heap[K0]? = _ ∧ n6.drew.heap[K1]? = _ ∧ Below w.heap.size w (n6.drew) ∧ SesV (n6.drew) _ fa ∧ SesV (n6.drew) _ fb ∧ Kd.C (Kd.int .u8) (n6.drew) X0 X.length X ∧ Kd.C (Kd.int .u8) (n6.drew) Y0 Y.length Y ∧ X.length ≤ x0 ∧ Y.length ≤ y0 ∧ n6.drew.heap[K9]? = _ ∧ SesV (n6.drew) _ fa from by
        have hBn := pw_below_drewN (Below.refl n6.heap.size n6) 1
        exact ⟨blk5 H14.out.1 hBn, blk5 H14.out.2.1 hBn, H14.out.2.2.1.trans (hBn.mono H14.out.2.2.1.size), H14.out.2.2.2.1.below hBn, H14.out.2.2.2.2.1.below hBn, Kd.C_below H14.out.2.2.2.2.2.1 hBn, Kd.C_below H14.out.2.2.2.2.2.2.1 hBn, H14.out.2.2.2.2.2.2.2.1, H14.out.2.2.2.2.2.2.2.2.1, blk5 H14.out.2.2.2.2.2.2.2.2.2.1 hBn, H14.out.2.2.2.2.2.2.2.2.2.2.below hBn⟩)
      clear H14
      refine start_ (n := 29) (S := fun w' => w'.cell? ⟨K0, 0, none⟩ = some (.slice C0 fa.1.length c0) ∧ w'.cell? ⟨K0, 1, none⟩ = some (.int .i64 fa.2.1) ∧ w'.cell? ⟨K0, 2, none⟩ = some (.slice C2 fa.2.2.1.length c2) ∧ w'.cell? ⟨K0, 3, none⟩ = some (.slice C3 fa.2.2.2.length c3) ∧ w'.cell? ⟨K1, 0, none⟩ = some (.slice D0 fb.1.length d0) ∧ w'.cell? ⟨K1, 1, none⟩ = some (.int .i64 fb.2.1) ∧ w'.cell? ⟨K1, 2, none⟩ = some (.slice D2 fb.2.2.1.length d2) ∧ w'.cell? ⟨K1, 3, none⟩ = some (.slice D3 fb.2.2.2.length d3) ∧ w'.cell? ⟨K9, 0, none⟩ = some (.slice E0 fa.1.length e0) ∧ w'.cell? ⟨K9, 1, none⟩ = some (.int .i64 fa.2.1) ∧ w'.cell? ⟨K9, 2, none⟩ = some (.slice E2 fa.2.2.1.length e2) ∧ w'.cell? ⟨K9, 3, none⟩ = some (.slice E3 fa.2.2.2.length e3)) (ds := []) #[false, false, false, false, false, false, false, false, false, false, false, false, false, false, false, false, false, false, false, false, false, false, false, false, false, false, false, false, false] (by kernel_rfl) rfl rfl ⟨S0, S1, S2, S3, S4, S5, S6, S7, S8, S9, S10, S11⟩ (fun hHeld => ?_)
      clear S0 S1 S2 S3 S4 S5 S6 S7 S8 S9 S10 S11
      generalize n6.drew = n7 at hHeld H15 ⊢
      refine pure_ (i := 0) (N := some 72) (v := ?_) (a' := ?_) #[true, false, false, false, false, false, false, false, false, false, false, false, false, false, false, false, false, false, false, false, false, false, false, false, false, false, false, false, false] rfl rfl (by kernel_rfl) (fun _ _ _ h => h) (Or.inl ⟨by rfl, ?_⟩) ?_ ?_
      rotate_left
      · intro w'
        go_simp
        with_reducible rfl
      rotate_left
      · simp only [Act.put, List.setIfInBounds_toArray, List.set_cons_zero, List.set_cons_succ, i64_w, i32_w]
        rfl
      refine pure_ (i := 1) (N := some 73) (v := ?_) (a' := ?_) #[true, true, false, false, false, false, false, false, false, false, false, false, false, false, false, false, false, false, false, false, false, false, false, false, false, false, false, false, false] rfl rfl (by kernel_rfl) (fun _ _ _ h => h) (Or.inl ⟨by rfl, ?_⟩) ?_ ?_
      rotate_left
      · intro w'
        go_simp
        with_reducible rfl
      rotate_left
      · simp only [Act.put, List.setIfInBounds_toArray, List.set_cons_zero, List.set_cons_succ, i64_w, i32_w]
        rfl
      refine pure_ (i := 2) (N := some 74) (v := ?_) (a' := ?_) #[true, true, true, false, false, false, false, false, false, false, false, false, false, false, false, false, false, false, false, false, false, false, false, false, false, false, false, false, false] rfl rfl (by kernel_rfl) (fun _ _ _ h => h) (Or.inl ⟨by rfl, ?_⟩) ?_ ?_
      rotate_left
      · intro w'
        go_simp
        with_reducible rfl
      rotate_left
      · simp only [Act.put, List.setIfInBounds_toArray, List.set_cons_zero, List.set_cons_succ, i64_w, i32_w]
        rfl
      refine take_ (i := 3) (N := some 75) (v := ?_) (a' := ?_) #[true, true, true, true, false, false, false, false, false, false, false, false, false, false, false, false, false, false, false, false, false, false, false, false, false, false, false, false, false] rfl rfl (by kernel_rfl) (fun _ _ _ h => h) (Or.inl ⟨by rfl, ?_⟩) hHeld ?_ ?_
      rotate_left
      · rintro w' ⟨s0, s1, s2, s3, s4, s5, s6, s7, s8, s9, s10, s11⟩
        go_simp
        with_reducible rfl
      rotate_left
      · simp only [Act.put, List.setIfInBounds_toArray, List.set_cons_zero, List.set_cons_succ, i64_w, i32_w]
        rfl
      refine take_ (i := 4) (N := some 76) (v := ?_) (a' := ?_) #[true, true, true, true, true, false, false, false, false, false, false, false, false, false, false, false, false, false, false, false, false, false, false, false, false, false, false, false, false] rfl rfl (by kernel_rfl) (fun _ _ _ h => h) (Or.inl ⟨by rfl, ?_⟩) hHeld ?_ ?_
      rotate_left
      · rintro w' ⟨s0, s1, s2, s3, s4, s5, s6, s7, s8, s9, s10, s11⟩
        go_simp
        with_reducible rfl
      rotate_left
      · simp only [Act.put, List.setIfInBounds_toArray, List.set_cons_zero, List.set_cons_succ, i64_w, i32_w]
        rfl
      refine one_ (i := 5) (N := some 77) #[true, true, true, true, true, true, false, false, false, false, false, false, false, false, false, false, false, false, false, false, false, false, false, false, false, false, false, false, false] rfl rfl (by kernel_rfl) (by decide) (fun K hK => ?_)
      refine goes_ Try.func9 (by kernel_rfl) rfl #[.agg #[.slice E0 fa.1.length e0, .int .i64 fa.2.1, .slice E2 fa.2.2.1.length e2, .slice E3 fa.2.2.2.length e3], .agg #[.slice C0 fa.1.length c0, .int .i64 fa.2.1, .slice C2 fa.2.2.1.length c2, .slice C3 fa.2.2.2.length c3]] (by rfl) rfl rfl (by simp only [List.map_toArray, List.map_cons, List.map_nil]; rfl) ?_
      with_reducible refine (Sess_any fa fa _ _ _ H15.out.2.2.2.2.2.2.2.2.2.2 H15.out.2.2.2.1 HU.out.2.1.sized).mono ?_
      rintro e m1 ⟨b5, rfl, hq5, hBm1⟩; obtain rfl := hq5.2 rfl; clear hq5
      refine ⟨_, rfl, ?_⟩
      refine hK.out _ _ ⟨(hBm1.cell (World.block_lt_of_cell? _ _ hHeld.1)).trans hHeld.1, (hBm1.cell (World.block_lt_of_cell? _ _ hHeld.2.1)).trans hHeld.2.1, (hBm1.cell (World.block_lt_of_cell? _ _ hHeld.2.2.1)).trans hHeld.2.2.1, (hBm1.cell (World.block_lt_of_cell? _ _ hHeld.2.2.2.1)).trans hHeld.2.2.2.1, (hBm1.cell (World.block_lt_of_cell? _ _ hHeld.2.2.2.2.1)).trans hHeld.2.2.2.2.1, (hBm1.cell (World.block_lt_of_cell? _ _ hHeld.2.2.2.2.2.1)).trans hHeld.2.2.2.2.2.1, (hBm1.cell (World.block_lt_of_cell? _ _ hHeld.2.2.2.2.2.2.1)).trans hHeld.2.2.2.2.2.2.1, (hBm1.cell (World.block_lt_of_cell? _ _ hHeld.2.2.2.2.2.2.2.1)).trans hHeld.2.2.2.2.2.2.2.1, (hBm1.cell (World.block_lt_of_cell? _ _ hHeld.2.2.2.2.2.2.2.2.1)).trans hHeld.2.2.2.2.2.2.2.2.1, (hBm1.cell (World.block_lt_of_cell? _ _ hHeld.2.2.2.2.2.2.2.2.2.1)).trans hHeld.2.2.2.2.2.2.2.2.2.1, (hBm1.cell (World.block_lt_of_cell? _ _ hHeld.2.2.2.2.2.2.2.2.2.2.1)).trans hHeld.2.2.2.2.2.2.2.2.2.2.1, (hBm1.cell (World.block_lt_of_cell? _ _ hHeld.2.2.2.2.2.2.2.2.2.2.2)).trans hHeld.2.2.2.2.2.2.2.2.2.2.2⟩ (fun hHeld => ?_)
      clear hK K
      refine norm_ (a' := ?_) ?_ ?_
      rotate_left
      · show Act.put _ (some 77) _ = _
        simp only [Act.put, List.setIfInBounds_toArray, List.set_cons_zero, List.set_cons_succ, i64_w, i32_w]
        rfl
      refine pure_ (i := 6) (N := some 78) (v := ?_) (a' := ?_) #[true, true, true, true, true, true, true, false, false, false, false, false, false, false, false, false, false, false, false, false, false, false, false, false, false, false, false, false, false] rfl rfl (by kernel_rfl) (fun _ _ _ h => h) (Or.inl ⟨by rfl, ?_⟩) ?_ ?_
      rotate_left
      · intro w'
        go_simp
        with_reducible rfl
      rotate_left
      · simp only [Act.put, List.setIfInBounds_toArray, List.set_cons_zero, List.set_cons_succ, i64_w, i32_w]
        rfl
      refine pure_ (i := 7) (N := some 79) (v := ?_) (a' := ?_) #[true, true, true, true, true, true, true, true, false, false, false, false, false, false, false, false, false, false, false, false, false, false, false, false, false, false, false, false, false] rfl rfl (by kernel_rfl) (fun _ _ _ h => h) (Or.inl ⟨by rfl, ?_⟩) ?_ ?_
      rotate_left
      · intro w'
        go_simp
        with_reducible rfl
      rotate_left
      · simp only [Act.put, List.setIfInBounds_toArray, List.set_cons_zero, List.set_cons_succ, i64_w, i32_w]
        rfl
      refine take_ (i := 8) (N := some 80) (v := ?_) (a' := ?_) #[true, true, true, true, true, true, true, true, true, false, false, false, false, false, false, false, false, false, false, false, false, false, false, false, false, false, false, false, false] rfl rfl (by kernel_rfl) (fun _ _ _ h => h) (Or.inl ⟨by rfl, ?_⟩) hHeld ?_ ?_
      rotate_left
      · rintro w' ⟨s0, s1, s2, s3, s4, s5, s6, s7, s8, s9, s10, s11⟩
        go_simp
        with_reducible rfl
      rotate_left
      · simp only [Act.put, List.setIfInBounds_toArray, List.set_cons_zero, List.set_cons_succ, i64_w, i32_w]
        rfl
      refine one_ (i := 9) (N := some 81) #[true, true, true, true, true, true, true, true, true, true, false, false, false, false, false, false, false, false, false, false, false, false, false, false, false, false, false, false, false] rfl rfl (by kernel_rfl) (by decide) (fun K hK => ?_)
      refine goes_ Try.func12 (by kernel_rfl) rfl #[.agg #[.slice D0 fb.1.length d0, .int .i64 fb.2.1, .slice D2 fb.2.2.1.length d2, .slice D3 fb.2.2.2.length d3]] (by rfl) rfl rfl (by simp only [List.map_toArray, List.map_cons, List.map_nil]; rfl) ?_
      with_reducible refine (right_any fb _ _ (H15.out.2.2.2.2.1.below hBm1) HU.out.2.2 HU.out.1.2).mono ?_
      rintro e m2 ⟨hq, hBm2⟩; rw [HR.out.2] at hq; subst hq
      refine ⟨_, rfl, ?_⟩
      refine hK.out _ _ ⟨(hBm2.cell (World.block_lt_of_cell? _ _ hHeld.1)).trans hHeld.1, (hBm2.cell (World.block_lt_of_cell? _ _ hHeld.2.1)).trans hHeld.2.1, (hBm2.cell (World.block_lt_of_cell? _ _ hHeld.2.2.1)).trans hHeld.2.2.1, (hBm2.cell (World.block_lt_of_cell? _ _ hHeld.2.2.2.1)).trans hHeld.2.2.2.1, (hBm2.cell (World.block_lt_of_cell? _ _ hHeld.2.2.2.2.1)).trans hHeld.2.2.2.2.1, (hBm2.cell (World.block_lt_of_cell? _ _ hHeld.2.2.2.2.2.1)).trans hHeld.2.2.2.2.2.1, (hBm2.cell (World.block_lt_of_cell? _ _ hHeld.2.2.2.2.2.2.1)).trans hHeld.2.2.2.2.2.2.1, (hBm2.cell (World.block_lt_of_cell? _ _ hHeld.2.2.2.2.2.2.2.1)).trans hHeld.2.2.2.2.2.2.2.1, (hBm2.cell (World.block_lt_of_cell? _ _ hHeld.2.2.2.2.2.2.2.2.1)).trans hHeld.2.2.2.2.2.2.2.2.1, (hBm2.cell (World.block_lt_of_cell? _ _ hHeld.2.2.2.2.2.2.2.2.2.1)).trans hHeld.2.2.2.2.2.2.2.2.2.1, (hBm2.cell (World.block_lt_of_cell? _ _ hHeld.2.2.2.2.2.2.2.2.2.2.1)).trans hHeld.2.2.2.2.2.2.2.2.2.2.1, (hBm2.cell (World.block_lt_of_cell? _ _ hHeld.2.2.2.2.2.2.2.2.2.2.2)).trans hHeld.2.2.2.2.2.2.2.2.2.2.2⟩ (fun hHeld => ?_)
      clear hK K
      refine norm_ (a' := ?_) ?_ ?_
      rotate_left
      · show Act.put _ (some 81) _ = _
        simp only [Act.put, List.setIfInBounds_toArray, List.set_cons_zero, List.set_cons_succ, i64_w, i32_w]
        rfl
      refine pure_ (i := 10) (N := some 82) (v := ?_) (a' := ?_) #[true, true, true, true, true, true, true, true, true, true, true, false, false, false, false, false, false, false, false, false, false, false, false, false, false, false, false, false, false] rfl rfl (by kernel_rfl) (fun _ _ _ h => h) (Or.inl ⟨by rfl, ?_⟩) ?_ ?_
      rotate_left
      · intro w'
        go_simp
        with_reducible rfl
      rotate_left
      · simp only [Act.put, List.setIfInBounds_toArray, List.set_cons_zero, List.set_cons_succ, i64_w, i32_w]
        rfl
      refine pure_ (i := 11) (N := some 83) (v := ?_) (a' := ?_) #[true, true, true, true, true, true, true, true, true, true, true, true, false, false, false, false, false, false, false, false, false, false, false, false, false, false, false, false, false] rfl rfl (by kernel_rfl) (fun _ _ _ h => h) (Or.inl ⟨by rfl, ?_⟩) ?_ ?_
      rotate_left
      · intro w'
        go_simp
        with_reducible rfl
      rotate_left
      · simp only [Act.put, List.setIfInBounds_toArray, List.set_cons_zero, List.set_cons_succ, i64_w, i32_w]
        rfl
      refine pure_ (i := 12) (N := some 84) (v := undef) (a' := ?_) #[true, true, true, true, true, true, true, true, true, true, true, true, true, false, false, false, false, false, false, false, false, false, false, false, false, false, false, false, false] rfl rfl (by kernel_rfl) (fun _ _ _ h => h) (Or.inr ⟨by rfl, rfl⟩) ?_ ?_
      rotate_left
      · simp only [Act.put, List.setIfInBounds_toArray, List.set_cons_zero, List.set_cons_succ, i64_w, i32_w]
        rfl
      refine pure_ (i := 13) (N := some 85) (v := undef) (a' := ?_) #[true, true, true, true, true, true, true, true, true, true, true, true, true, true, false, false, false, false, false, false, false, false, false, false, false, false, false, false, false] rfl rfl (by kernel_rfl) (fun _ _ _ h => h) (Or.inr ⟨by rfl, rfl⟩) ?_ ?_
      rotate_left
      · simp only [Act.put, List.setIfInBounds_toArray, List.set_cons_zero, List.set_cons_succ, i64_w, i32_w]
        rfl
      refine pure_ (i := 14) (N := some 86) (v := undef) (a' := ?_) #[true, true, true, true, true, true, true, true, true, true, true, true, true, true, true, false, false, false, false, false, false, false, false, false, false, false, false, false, false] rfl rfl (by kernel_rfl) (fun _ _ _ h => h) (Or.inr ⟨by rfl, rfl⟩) ?_ ?_
      rotate_left
      · simp only [Act.put, List.setIfInBounds_toArray, List.set_cons_zero, List.set_cons_succ, i64_w, i32_w]
        rfl
      refine pure_ (i := 15) (N := some 87) (v := undef) (a' := ?_) #[true, true, true, true, true, true, true, true, true, true, true, true, true, true, true, true, false, false, false, false, false, false, false, false, false, false, false, false, false] rfl rfl (by kernel_rfl) (fun _ _ _ h => h) (Or.inr ⟨by rfl, rfl⟩) ?_ ?_
      rotate_left
      · simp only [Act.put, List.setIfInBounds_toArray, List.set_cons_zero, List.set_cons_succ, i64_w, i32_w]
        rfl
      refine pure_ (i := 16) (N := some 88) (v := undef) (a' := ?_) #[true, true, true, true, true, true, true, true, true, true, true, true, true, true, true, true, true, false, false, false, false, false, false, false, false, false, false, false, false] rfl rfl (by kernel_rfl) (fun _ _ _ h => h) (Or.inr ⟨by rfl, rfl⟩) ?_ ?_
      rotate_left
      · simp only [Act.put, List.setIfInBounds_toArray, List.set_cons_zero, List.set_cons_succ, i64_w, i32_w]
        rfl
      refine pure_ (i := 17) (N := some 89) (v := undef) (a' := ?_) #[true, true, true, true, true, true, true, true, true, true, true, true, true, true, true, true, true, true, false, false, false, false, false, false, false, false, false, false, false] rfl rfl (by kernel_rfl) (fun _ _ _ h => h) (Or.inr ⟨by rfl, rfl⟩) ?_ ?_
      rotate_left
      · simp only [Act.put, List.setIfInBounds_toArray, List.set_cons_zero, List.set_cons_succ, i64_w, i32_w]
        rfl
      refine pure_ (i := 18) (N := some 90) (v := undef) (a' := ?_) #[true, true, true, true, true, true, true, true, true, true, true, true, true, true, true, true, true, true, true, false, false, false, false, false, false, false, false, false, false] rfl rfl (by kernel_rfl) (fun _ _ _ h => h) (Or.inr ⟨by rfl, rfl⟩) ?_ ?_
      rotate_left
      · simp only [Act.put, List.setIfInBounds_toArray, List.set_cons_zero, List.set_cons_succ, i64_w, i32_w]
        rfl
      refine pure_ (i := 19) (N := some 91) (v := ?_) (a' := ?_) #[true, true, true, true, true, true, true, true, true, true, true, true, true, true, true, true, true, true, true, true, false, false, false, false, false, false, false, false, false] rfl rfl (by kernel_rfl) (fun _ _ _ h => h) (Or.inl ⟨by rfl, ?_⟩) ?_ ?_
      rotate_left
      · intro w'
        go_simp
        with_reducible rfl
      rotate_left
      · simp only [Act.put, List.setIfInBounds_toArray, List.set_cons_zero, List.set_cons_succ, i64_w, i32_w]
        rfl
      refine pure_ (i := 20) (N := some 92) (v := ?_) (a' := ?_) #[true, true, true, true, true, true, true, true, true, true, true, true, true, true, true, true, true, true, true, true, true, false, false, false, false, false, false, false, false] rfl rfl (by kernel_rfl) (fun _ _ _ h => h) (Or.inl ⟨by rfl, ?_⟩) ?_ ?_
      rotate_left
      · intro w'
        go_simp
        with_reducible rfl
      rotate_left
      · simp only [Act.put, List.setIfInBounds_toArray, List.set_cons_zero, List.set_cons_succ, i64_w, i32_w]
        rfl
      refine pure_ (i := 21) (N := some 93) (v := ?_) (a' := ?_) #[true, true, true, true, true, true, true, true, true, true, true, true, true, true, true, true, true, true, true, true, true, true, false, false, false, false, false, false, false] rfl rfl (by kernel_rfl) (fun _ _ _ h => h) (Or.inl ⟨by rfl, ?_⟩) ?_ ?_
      rotate_left
      · intro w'
        go_simp
        with_reducible rfl
      rotate_left
      · simp only [Act.put, List.setIfInBounds_toArray, List.set_cons_zero, List.set_cons_succ, i64_w, i32_w]
        rfl
      refine pure_ (i := 22) (N := some 94) (v := ?_) (a' := ?_) #[true, true, true, true, true, true, true, true, true, true, true, true, true, true, true, true, true, true, true, true, true, true, true, false, false, false, false, false, false] rfl rfl (by kernel_rfl) (fun _ _ _ h => h) (Or.inl ⟨by rfl, ?_⟩) ?_ ?_
      rotate_left
      · intro w'
        go_simp
        with_reducible rfl
      rotate_left
      · simp only [Act.put, List.setIfInBounds_toArray, List.set_cons_zero, List.set_cons_succ, i64_w, i32_w]
        rfl
      refine pure_ (i := 23) (N := some 95) (v := ?_) (a' := ?_) #[true, true, true, true, true, true, true, true, true, true, true, true, true, true, true, true, true, true, true, true, true, true, true, true, false, false, false, false, false] rfl rfl (by kernel_rfl) (fun _ _ _ h => h) (Or.inl ⟨by rfl, ?_⟩) ?_ ?_
      rotate_left
      · intro w'
        go_simp
        with_reducible rfl
      rotate_left
      · simp only [Act.put, List.setIfInBounds_toArray, List.set_cons_zero, List.set_cons_succ, i64_w, i32_w]
        rfl
      refine pure_ (i := 24) (N := some 96) (v := ?_) (a' := ?_) #[true, true, true, true, true, true, true, true, true, true, true, true, true, true, true, true, true, true, true, true, true, true, true, true, true, false, false, false, false] rfl rfl (by kernel_rfl) (fun _ _ _ h => h) (Or.inl ⟨by rfl, ?_⟩) ?_ ?_
      rotate_left
      · intro w'
        go_simp
        with_reducible rfl
      rotate_left
      · simp only [Act.put, List.setIfInBounds_toArray, List.set_cons_zero, List.set_cons_succ, i64_w, i32_w]
        rfl
      refine pure_ (i := 25) (N := some 97) (v := ?_) (a' := ?_) #[true, true, true, true, true, true, true, true, true, true, true, true, true, true, true, true, true, true, true, true, true, true, true, true, true, true, false, false, false] rfl rfl (by kernel_rfl) (fun _ _ _ h => h) (Or.inl ⟨by rfl, ?_⟩) ?_ ?_
      rotate_left
      · intro w'
        go_simp
        with_reducible rfl
      rotate_left
      · simp only [Act.put, List.setIfInBounds_toArray, List.set_cons_zero, List.set_cons_succ, i64_w, i32_w]
        rfl
      refine one_ (i := 26) (N := some 98) #[true, true, true, true, true, true, true, true, true, true, true, true, true, true, true, true, true, true, true, true, true, true, true, true, true, true, true, false, false] rfl rfl (by kernel_rfl) (by decide) (fun K hK => ?_)
      refine goes_ Try.func3 (by kernel_rfl) rfl #[] (by rfl) rfl rfl (by simp only [List.map_toArray, List.map_nil]) ?_
      with_reducible refine (CodeRuns_any _).mono ?_
      rintro e m5 ⟨rfl, hBm5⟩
      refine ⟨_, rfl, ?_⟩
      refine hK.out _ _ ⟨(hBm5.cell (World.block_lt_of_cell? _ _ hHeld.1)).trans hHeld.1, (hBm5.cell (World.block_lt_of_cell? _ _ hHeld.2.1)).trans hHeld.2.1, (hBm5.cell (World.block_lt_of_cell? _ _ hHeld.2.2.1)).trans hHeld.2.2.1, (hBm5.cell (World.block_lt_of_cell? _ _ hHeld.2.2.2.1)).trans hHeld.2.2.2.1, (hBm5.cell (World.block_lt_of_cell? _ _ hHeld.2.2.2.2.1)).trans hHeld.2.2.2.2.1, (hBm5.cell (World.block_lt_of_cell? _ _ hHeld.2.2.2.2.2.1)).trans hHeld.2.2.2.2.2.1, (hBm5.cell (World.block_lt_of_cell? _ _ hHeld.2.2.2.2.2.2.1)).trans hHeld.2.2.2.2.2.2.1, (hBm5.cell (World.block_lt_of_cell? _ _ hHeld.2.2.2.2.2.2.2.1)).trans hHeld.2.2.2.2.2.2.2.1, (hBm5.cell (World.block_lt_of_cell? _ _ hHeld.2.2.2.2.2.2.2.2.1)).trans hHeld.2.2.2.2.2.2.2.2.1, (hBm5.cell (World.block_lt_of_cell? _ _ hHeld.2.2.2.2.2.2.2.2.2.1)).trans hHeld.2.2.2.2.2.2.2.2.2.1, (hBm5.cell (World.block_lt_of_cell? _ _ hHeld.2.2.2.2.2.2.2.2.2.2.1)).trans hHeld.2.2.2.2.2.2.2.2.2.2.1, (hBm5.cell (World.block_lt_of_cell? _ _ hHeld.2.2.2.2.2.2.2.2.2.2.2)).trans hHeld.2.2.2.2.2.2.2.2.2.2.2⟩ (fun hHeld => ?_)
      clear hK K
      refine norm_ (a' := ?_) ?_ ?_
      rotate_left
      · show Act.put _ (some 98) _ = _
        simp only [Act.put, List.setIfInBounds_toArray, List.set_cons_zero, List.set_cons_succ, i64_w, i32_w]
        rfl
      refine pure_ (i := 27) (N := some 99) (v := ?_) (a' := ?_) #[true, true, true, true, true, true, true, true, true, true, true, true, true, true, true, true, true, true, true, true, true, true, true, true, true, true, true, true, false] rfl rfl (by kernel_rfl) (fun _ _ _ h => h) (Or.inl ⟨by rfl, ?_⟩) ?_ ?_
      rotate_left
      · intro w'
        go_simp
        with_reducible rfl
      rotate_left
      · simp only [Act.put, List.setIfInBounds_toArray, List.set_cons_zero, List.set_cons_succ, i64_w, i32_w]
        rfl
      refine pure_ (i := 28) (N := some 6) (v := ?_) (a' := ?_) #[true, true, true, true, true, true, true, true, true, true, true, true, true, true, true, true, true, true, true, true, true, true, true, true, true, true, true, true, true] rfl rfl (by kernel_rfl) (fun _ _ _ h => h) (Or.inl ⟨by rfl, ?_⟩) ?_ ?_
      rotate_left
      · intro w'
        go_simp
        with_reducible rfl
      rotate_left
      · simp only [Act.put, List.setIfInBounds_toArray, List.set_cons_zero, List.set_cons_succ, i64_w, i32_w]
        rfl
      refine done_ (by kernel_rfl) ?_
      have H16 := H15.out.2.2.1
      have H16 := H16.trans (hBm1.mono H16.size)
      have H16 := H16.trans (hBm2.mono H16.size)
      have H16 := H16.trans (hBm5.mono H16.size)
      clear H15 hHeld hBm1 hBm2 hBm5
      have H16 := Lib.hid H16
      go_wp2_with fail
      go_ret
      exact ⟨rfl, H16.out⟩
  | false =>
    have fX := HF.out.2.1 HR.out.1
    have tXi : X.length = 0 := by rw [fX]; rfl
    clear HF
    have hC : Kd.C (Kd.int .u8) m4 X0 0 [] := by have := H10.out.2.2.2.2.2.1; rw [fX] at this; exact this
    go_wp2_with fail
    refine (Dec_any X0 0 x0 [] m4 hC (Nat.zero_le _) (zeroS, 8) decP_nil).mono ?_
    rintro e n1 ⟨E0, e0, E2, e2, E3, e3, rfl, hZ, hBn⟩
    go_upto_region 6 with fail
    have h9 := heap_alloc_new n1 (.cells #[.slice E0 zeroS.1.length e0, .int .i64 zeroS.2.1, .slice E2 zeroS.2.2.1.length e2, .slice E3 zeroS.2.2.2.length e3] 29)
    have hBa : Below n1.heap.size n1 (n1.alloc (.cells #[.slice E0 zeroS.1.length e0, .int .i64 zeroS.2.1, .slice E2 zeroS.2.2.1.length e2, .slice E3 zeroS.2.2.2.length e3] 29)) := (Below.refl _ _).alloc (Nat.le_refl _) _
    have hBb := hBn.trans (hBa.mono hBn.size)
    have H11 := Lib.hid (show (n1.alloc (.cells #[.slice E0 zeroS.1.length e0, .int .i64 zeroS.2.1, .slice E2 zeroS.2.2.1.length e2, .slice E3 zeroS.2.2.2.length e3] 29)).heap[K0]? = _ ∧ (n1.alloc (.cells #[.slice E0 zeroS.1.length e0, .int .i64 zeroS.2.1, .slice E2 zeroS.2.2.1.length e2, .slice E3 zeroS.2.2.2.length e3] 29)).heap[K1]? = _ ∧ Below w.heap.size w (n1.alloc (.cells #[.slice E0 zeroS.1.length e0, .int .i64 zeroS.2.1, .slice E2 zeroS.2.2.1.length e2, .slice E3 zeroS.2.2.2.length e3] 29)) ∧ SesV (n1.alloc (.cells #[.slice E0 zeroS.1.length e0, .int .i64 zeroS.2.1, .slice E2 zeroS.2.2.1.length e2, .slice E3 zeroS.2.2.2.length e3] 29)) _ fa ∧ SesV (n1.alloc (.cells #[.slice E0 zeroS.1.length e0, .int .i64 zeroS.2.1, .slice E2 zeroS.2.2.1.length e2, .slice E3 zeroS.2.2.2.length e3] 29)) _ fb ∧ Kd.C (Kd.int .u8) (n1.alloc (.cells #[.slice E0 zeroS.1.length e0, .int .i64 zeroS.2.1, .slice E2 zeroS.2.2.1.length e2, .slice E3 zeroS.2.2.2.length e3] 29)) X0 X.length X ∧ Kd.C (Kd.int .u8) (n1.alloc (.cells #[.slice E0 zeroS.1.length e0, .int .i64 zeroS.2.1, .slice E2 zeroS.2.2.1.length e2, .slice E3 zeroS.2.2.2.length e3] 29)) Y0 Y.length Y ∧ X.length ≤ x0 ∧ Y.length ≤ y0 ∧ (n1.alloc (.cells #[.slice E0 zeroS.1.length e0, .int .i64 zeroS.2.1, .slice E2 zeroS.2.2.1.length e2, .slice E3 zeroS.2.2.2.length e3] 29)).heap[n1.heap.size]? = _ ∧ SesV (n1.alloc (.cells #[.slice E0 zeroS.1.length e0, .int .i64 zeroS.2.1, .slice E2 zeroS.2.2.1.length e2, .slice E3 zeroS.2.2.2.length e3] 29)) _ zeroS from
      ⟨blk5 H10.out.1 hBb, blk5 H10.out.2.1 hBb, H10.out.2.2.1.trans (hBb.mono H10.out.2.2.1.size), H10.out.2.2.2.1.below hBb, H10.out.2.2.2.2.1.below hBb, Kd.C_below H10.out.2.2.2.2.2.1 hBb, Kd.C_below H10.out.2.2.2.2.2.2.1 hBb, H10.out.2.2.2.2.2.2.2.1, H10.out.2.2.2.2.2.2.2.2, h9, hZ.below hBa⟩)
    clear h9 hBa hBb hBn hZ H10
    generalize n1.alloc (.cells #[.slice E0 zeroS.1.length e0, .int .i64 zeroS.2.1, .slice E2 zeroS.2.2.1.length e2, .slice E3 zeroS.2.2.2.length e3] 29) = n2 at H11 ⊢
    generalize n1.heap.size = K9 at H11 ⊢
    obtain ⟨S0, S1, S2, S3⟩ := cells4 H11.out.1
    obtain ⟨S4, S5, S6, S7⟩ := cells4 H11.out.2.1
    obtain ⟨S8, S9, S10, S11⟩ := cells4 H11.out.2.2.2.2.2.2.2.2.2.1
    go_wp2_with fail
    refine (right_any fa _ _ H11.out.2.2.2.1 HU.out.2.1 HU.out.1.1).mono ?_
    rintro e n3 ⟨hq, hBn⟩
    rw [HR.out.1] at hq
    subst hq
    have H12 := Lib.hid (show n3.heap[K0]? = _ ∧ n3.heap[K1]? = _ ∧ Below w.heap.size w n3 ∧ SesV n3 _ fa ∧ SesV n3 _ fb ∧ Kd.C (Kd.int .u8) n3 X0 X.length X ∧ Kd.C (Kd.int .u8) n3 Y0 Y.length Y ∧ X.length ≤ x0 ∧ Y.length ≤ y0 ∧ n3.heap[K9]? = _ ∧ SesV n3 _ zeroS from
      ⟨blk5 H11.out.1 hBn, blk5 H11.out.2.1 hBn, H11.out.2.2.1.trans (hBn.mono H11.out.2.2.1.size), H11.out.2.2.2.1.below hBn, H11.out.2.2.2.2.1.below hBn, Kd.C_below H11.out.2.2.2.2.2.1 hBn, Kd.C_below H11.out.2.2.2.2.2.2.1 hBn, H11.out.2.2.2.2.2.2.2.1, H11.out.2.2.2.2.2.2.2.2.1, blk5 H11.out.2.2.2.2.2.2.2.2.2.1 hBn, H11.out.2.2.2.2.2.2.2.2.2.2.below hBn⟩)
    clear S0 S1 S2 S3 S4 S5 S6 S7 S8 S9 S10 S11 H11 hBn
    obtain ⟨S0, S1, S2, S3⟩ := cells4 H12.out.1
    obtain ⟨S4, S5, S6, S7⟩ := cells4 H12.out.2.1
    obtain ⟨S8, S9, S10, S11⟩ := cells4 H12.out.2.2.2.2.2.2.2.2.2.1
    go_wp2_with fail
    refine (Sess_any zeroS zeroS _ _ _ H12.out.2.2.2.2.2.2.2.2.2.2 (SesV.zero _) ⟨by simp [zeroS], by simp [zeroS], by simp [zeroS], by simp [zeroS]⟩).mono ?_
    rintro e n4 ⟨bq, rfl, hbq, hBn⟩
    obtain rfl := hbq.2 rfl
    have H13 := Lib.hid (H12.out.2.2.1.trans (hBn.mono H12.out.2.2.1.size))
    clear S0 S1 S2 S3 S4 S5 S6 S7 S8 S9 S10 S11 H12 hBn
    go_wp2_with fail
    refine (CodeRuns_any _).mono ?_
    rintro e n5 ⟨rfl, hBn⟩
    have H14 := Lib.hid (H13.out.trans (hBn.mono H13.out.size))
    clear H13 hBn
    go_wp2_with fail
    go_ret
    exact ⟨rfl, H14.out⟩
end Go.Proofs.Ytgbhejkgnfkfgaa.Cd
