-- Printed by a program of this session's own (wip/tools: a turned copy of the kit's print).
import Derived.Test.YtnpmmmgaghhndaaPLifeWordsx0
import Derived.Test.YtnpmmmgaghhndaaAliveLifeWords
import Derived.Test.YtnpmmmgaghhndaaPLifeWordsx1
namespace Go.Proofs.Ytnpmmmgaghhndaa.PLifeWords
open Go.Proofs.Ytnpmmmgaghhndaa.Given
open Go.RowKit Go.Proofs.YtnpmmmgaghhndaaW.PrintWords Go.Proofs.YtnpmmmgaghhndaaW.PrintLast Go.Proofs.YtnpmmmgaghhndaaW.PrintMore
attribute [local go_sem] max2_int min2_int max_two min_two max_three min_three max_four min_four   -- for this text's walks alone
set_option linter.unusedVariables false
set_option linter.unusedSimpArgs false

/-! ### porticolaw19_LifeWords: function 6 -/
mutual
noncomputable def porticolaw19_LifeWords.l0 : Nat → Int → Bool → Bool → Int → List (S23) → Int → Option (Bool)
  | 0, _, _, _, _, _, _ => none
  | k + 1, x0, x1, x2, x3, x9, x10 => (porticobook_Within.f x0 0 9).bind fun t133 => (if x10 < t133 then ((some (([(⟨3, 3⟩ : S23), (⟨2, 3⟩ : S23)] : List (S23)) : List (S23))).bind fun y134 => (if x9.length + y134.length < 8796093022208 then (porticolaw19_LifeWords.l0 k x0 x1 x2 x3 (x9 ++ y134) (wrap64 (x10 + 1))) else (none))) else (if x1 = true then (if x9.length < 8796093022208 then (porticolaw19_LifeWords.j1 k x1 x2 x3 (x9 ++ [(⟨3, 3⟩ : S23)])) else (none)) else (porticolaw19_LifeWords.j1 k x1 x2 x3 x9)))
noncomputable def porticolaw19_LifeWords.j1 : Nat → Bool → Bool → Int → List (S23) → Option (Bool)
  | 0, _, _, _, _ => none
  | k + 1, x1, x2, x3, x9 => if x2 = true then (if x9.length < 8796093022208 then (porticolaw19_LifeWords.j2 k x1 x2 x3 (x9 ++ [(⟨4, 3⟩ : S23)]) 0) else (none)) else (if x1 = true then (porticolaw19_LifeWords.j2 k x1 x2 x3 x9 0) else (porticolaw19_LifeWords.j2 k x1 x2 x3 x9 1))
noncomputable def porticolaw19_LifeWords.j2 : Nat → Bool → Bool → Int → List (S23) → Int → Option (Bool)
  | 0, _, _, _, _, _ => none
  | k + 1, x1, x2, x3, x9, x11 => (porticobook_Within.f x3 1 4).bind fun t146 => ((some (([] : List (S23)) : List (S23))).bind fun y147 => (if y147.length + x9.length < 8796093022208 then ((some (y147 ++ x9 : List (S23))).bind fun y150 => (if y150.length < 8796093022208 then ((some (y150 ++ [(⟨t146, 3⟩ : S23)] : List (S23))).bind fun y153 => (if x2 = true then (porticolaw19_LifeWords.j3 k x9 x11 t146 y153 false) else (if x1 = true then (if t146 = 2 then (porticolaw19_LifeWords.j3 k x9 x11 t146 y153 true) else (if t146 = 4 then (porticolaw19_LifeWords.j3 k x9 x11 t146 y153 true) else (porticolaw19_LifeWords.j3 k x9 x11 t146 y153 false))) else (if t146 = 3 then (porticolaw19_LifeWords.j3 k x9 x11 t146 y153 true) else (porticolaw19_LifeWords.j3 k x9 x11 t146 y153 (t146 == 4)))))) else (none))) else (none)))
noncomputable def porticolaw19_LifeWords.j3 : Nat → List (S23) → Int → Int → List (S23) → Bool → Option (Bool)
  | 0, _, _, _, _, _ => none
  | k + 1, x9, x11, x12, x13, x14 => (some (([(⟨x12, 3⟩ : S23)] : List (S23)) : List (S23))).bind fun y156 => (if y156.length + x9.length < 8796093022208 then ((life_Right.f x9).bind fun t162 => (if t162 = true then ((life_Alive.f x9).bind fun t163 => (if (t163.length : Int) = x11 then ((life_Right.f x13).bind fun t166 => (if (t166 == x14) = true then ((life_Right.f (y156 ++ x9)).bind fun t167 => (if t167 = true then (none) else ((life_Of.f k x9 3).bind fun t168 => (if (t168.length : Int) = (x9.length : Int) then ((porticolaw19_LifeRuns.f k).bind fun t171 => (some t171)) else (none))))) else (none))) else (none))) else (none))) else (none))
end
noncomputable def porticolaw19_LifeWords.f (k : Nat) (a0 : Int) (a1 : Bool) (a2 : Bool) (a3 : Int) : Option (Bool) := porticolaw19_LifeWords.l0 k a0 a1 a2 a3 (([(⟨1, 3⟩ : S23)] : List (S23))) 0
theorem porticolaw19_LifeWords.mono_l : ∀ k, (∀ y0 y1 y2 y3 y4 y5, LeO (porticolaw19_LifeWords.l0 k y0 y1 y2 y3 y4 y5) (porticolaw19_LifeWords.l0 (k + 1) y0 y1 y2 y3 y4 y5)) ∧ (∀ y0 y1 y2 y3, LeO (porticolaw19_LifeWords.j1 k y0 y1 y2 y3) (porticolaw19_LifeWords.j1 (k + 1) y0 y1 y2 y3)) ∧ (∀ y0 y1 y2 y3 y4, LeO (porticolaw19_LifeWords.j2 k y0 y1 y2 y3 y4) (porticolaw19_LifeWords.j2 (k + 1) y0 y1 y2 y3 y4)) ∧ (∀ y0 y1 y2 y3 y4, LeO (porticolaw19_LifeWords.j3 k y0 y1 y2 y3 y4) (porticolaw19_LifeWords.j3 (k + 1) y0 y1 y2 y3 y4))
  | 0 => ⟨fun _ _ _ _ _ _ r h => by simp [porticolaw19_LifeWords.l0] at h, fun _ _ _ _ r h => by simp [porticolaw19_LifeWords.j1] at h, fun _ _ _ _ _ r h => by simp [porticolaw19_LifeWords.j2] at h, fun _ _ _ _ _ r h => by simp [porticolaw19_LifeWords.j3] at h⟩
  | k + 1 => by
    obtain ⟨ih0, ih1, ih2, ih3⟩ := porticolaw19_LifeWords.mono_l k
    refine ⟨?_, ?_, ?_, ?_⟩
    · intro y0 y1 y2 y3 y4 y5
      unfold porticolaw19_LifeWords.l0
      repeat' first
      | (with_reducible exact ih0 _ _ _ _ _ _)
      | (with_reducible exact ih1 _ _ _ _)
      | (with_reducible exact ih2 _ _ _ _ _)
      | (with_reducible exact ih3 _ _ _ _ _)
      | (with_reducible exact life_Of.mono _ _ _)
      | (with_reducible exact porticolaw19_LifeRuns.mono _)
      | (with_reducible exact LeO.refl _)
      | (with_reducible exact LeO.none _)
      | (with_reducible refine LeO.ite ?_ ?_)
      | (with_reducible refine LeO.bind ?_ (fun _ => ?_))
      | exact ih0 _ _ _ _ _ _
      | exact ih1 _ _ _ _
      | exact ih2 _ _ _ _ _
      | exact ih3 _ _ _ _ _
      | exact life_Of.mono _ _ _
      | exact porticolaw19_LifeRuns.mono _
      | exact LeO.none _
      | refine LeO.ite ?_ ?_
      | refine LeO.bind ?_ (fun _ => ?_)
    · intro y0 y1 y2 y3
      unfold porticolaw19_LifeWords.j1
      repeat' first
      | (with_reducible exact ih0 _ _ _ _ _ _)
      | (with_reducible exact ih1 _ _ _ _)
      | (with_reducible exact ih2 _ _ _ _ _)
      | (with_reducible exact ih3 _ _ _ _ _)
      | (with_reducible exact life_Of.mono _ _ _)
      | (with_reducible exact porticolaw19_LifeRuns.mono _)
      | (with_reducible exact LeO.refl _)
      | (with_reducible exact LeO.none _)
      | (with_reducible refine LeO.ite ?_ ?_)
      | (with_reducible refine LeO.bind ?_ (fun _ => ?_))
      | exact ih0 _ _ _ _ _ _
      | exact ih1 _ _ _ _
      | exact ih2 _ _ _ _ _
      | exact ih3 _ _ _ _ _
      | exact life_Of.mono _ _ _
      | exact porticolaw19_LifeRuns.mono _
      | exact LeO.none _
      | refine LeO.ite ?_ ?_
      | refine LeO.bind ?_ (fun _ => ?_)
    · intro y0 y1 y2 y3 y4
      unfold porticolaw19_LifeWords.j2
      repeat' first
      | (with_reducible exact ih0 _ _ _ _ _ _)
      | (with_reducible exact ih1 _ _ _ _)
      | (with_reducible exact ih2 _ _ _ _ _)
      | (with_reducible exact ih3 _ _ _ _ _)
      | (with_reducible exact life_Of.mono _ _ _)
      | (with_reducible exact porticolaw19_LifeRuns.mono _)
      | (with_reducible exact LeO.refl _)
      | (with_reducible exact LeO.none _)
      | (with_reducible refine LeO.ite ?_ ?_)
      | (with_reducible refine LeO.bind ?_ (fun _ => ?_))
      | exact ih0 _ _ _ _ _ _
      | exact ih1 _ _ _ _
      | exact ih2 _ _ _ _ _
      | exact ih3 _ _ _ _ _
      | exact life_Of.mono _ _ _
      | exact porticolaw19_LifeRuns.mono _
      | exact LeO.none _
      | refine LeO.ite ?_ ?_
      | refine LeO.bind ?_ (fun _ => ?_)
    · intro y0 y1 y2 y3 y4
      unfold porticolaw19_LifeWords.j3
      repeat' first
      | (with_reducible exact ih0 _ _ _ _ _ _)
      | (with_reducible exact ih1 _ _ _ _)
      | (with_reducible exact ih2 _ _ _ _ _)
      | (with_reducible exact ih3 _ _ _ _ _)
      | (with_reducible exact life_Of.mono _ _ _)
      | (with_reducible exact porticolaw19_LifeRuns.mono _)
      | (with_reducible exact LeO.refl _)
      | (with_reducible exact LeO.none _)
      | (with_reducible refine LeO.ite ?_ ?_)
      | (with_reducible refine LeO.bind ?_ (fun _ => ?_))
      | exact ih0 _ _ _ _ _ _
      | exact ih1 _ _ _ _
      | exact ih2 _ _ _ _ _
      | exact ih3 _ _ _ _ _
      | exact life_Of.mono _ _ _
      | exact porticolaw19_LifeRuns.mono _
      | exact LeO.none _
      | refine LeO.ite ?_ ?_
      | refine LeO.bind ?_ (fun _ => ?_)
theorem porticolaw19_LifeWords.mono : ∀ a0 a1 a2 a3 k, LeO (porticolaw19_LifeWords.f k a0 a1 a2 a3) (porticolaw19_LifeWords.f (k + 1) a0 a1 a2 a3) := by
  intro a0 a1 a2 a3 k
  obtain ⟨ih0, ih1, ih2, ih3⟩ := porticolaw19_LifeWords.mono_l k
  unfold porticolaw19_LifeWords.f
  repeat' first
      | (with_reducible exact ih0 _ _ _ _ _ _)
      | (with_reducible exact ih1 _ _ _ _)
      | (with_reducible exact ih2 _ _ _ _ _)
      | (with_reducible exact ih3 _ _ _ _ _)
      | (with_reducible exact life_Of.mono _ _ _)
      | (with_reducible exact porticolaw19_LifeRuns.mono _)
      | (with_reducible exact LeO.refl _)
      | (with_reducible exact LeO.none _)
      | (with_reducible refine LeO.ite ?_ ?_)
      | (with_reducible refine LeO.bind ?_ (fun _ => ?_))
      | exact ih0 _ _ _ _ _ _
      | exact ih1 _ _ _ _
      | exact ih2 _ _ _ _ _
      | exact ih3 _ _ _ _ _
      | exact life_Of.mono _ _ _
      | exact porticolaw19_LifeRuns.mono _
      | exact LeO.none _
      | refine LeO.ite ?_ ?_
      | refine LeO.bind ?_ (fun _ => ?_)
set_option maxHeartbeats 8000000 in
set_option maxRecDepth 100000 in
theorem porticolaw19_LifeWords.calls (k : Nat) (a0 : Int) (a1 : Bool) (a2 : Bool) (a3 : Int) (r : Bool) (w : World) (h : porticolaw19_LifeWords.f k a0 a1 a2 a3 = some r) :
    Calls Try.prog 6 #[.int .i64 a0, .bool a1, .bool a2, .int .i64 a3] w fun e w' => e = .returned (.bool r) ∧ Below w.heap.size w w' := by
  have hu23 := Try.underlying23
  have HB := Aside0.mk (Below.refl w.heap.size w)
  have H : (porticolaw19_LifeWords.l0 k a0 a1 a2 a3 (([(⟨1, 3⟩ : S23)] : List (S23))) 0) = some r := h
  clear h
  obtain ⟨y130, hy130⟩ : ∃ y_ : List (S23), y_ = (([(⟨1, 3⟩ : S23)] : List (S23))) := ⟨_, rfl⟩
  replace H : (porticolaw19_LifeWords.l0 k a0 a1 a2 a3 y130 0) = some r := by first | (rw [hy130]; with_reducible exact H) | (have H2_ := (Option.bind_some _ _).symm.trans H; rw [hy130]; with_reducible exact H2_) | (have H2_ := (Option.bind_some _ _).symm.trans H; with_reducible exact H2_) | with_reducible exact H | (rw [hy130]; exact H) | exact H
  have Ny130 := Aside0.mk hy130
  clear hy130
  have H' := Aside0.mk H
  clear H
  go_enter Try.func6, Try.ntmps6
  go_wp2_with (first | ((with_reducible refine gate_dst (N := 17) rfl ?_); (try (refine gate_guard (by rfl) ?_; dsimp only)); refine Kd.R_lit k23 _ 23 ?hg (N := 17) ?hd (xs := ([(⟨1, 3⟩ : S23)] : List (S23))) (inner := [.int .i64 1, .int .i64 3]) (ok := fun _ => True) (okp := fun _ => True) ?hr ?hp (fun _ hk => hk) trivial (Below.refl _ _) (Nat.le_refl _) (by simp) ?_; (case hd => rfl); (case hg => rfl); (case hr => first | (go_simp; done) | (go_simp; rfl)); (case hp => exact (Reps.c2 (show Kd.M k23 _ _ _ (⟨1, 3⟩ : S23) [.int .i64 1, .int .i64 3] from (k23_mkM _ _ _ (⟨1, 3⟩ : S23) )) (Reps.none _ _))); intro v131 w5 ho6 hb hg_ hnew_; clear hg_ hnew_; (first | rw [← Ny130.out] at ho6 | (simp only [Int.reduceToNat] at ho6; rw [← Ny130.out] at ho6)); have n0_ := Aside0.mk (Kd.R_lower ho6 (below_size (by repeat (first | (with_reducible first | exact HB.out | apply below_alloc | apply pw_below_drewN | apply below_drew1) | exact HB.out)))); have n1_ := Aside0.mk (below_step (by repeat (first | (with_reducible first | exact HB.out | apply below_alloc | apply pw_below_drewN | apply below_drew1) | exact HB.out)) hb); clear HB; have HO132 := n0_; have HB := n1_; clear n0_ n1_; clear hb ho6))
  go_loopg [9, 10] k (fun kq v9 v10 w' => ∃ (x9_1 : List (S23)) (x10_1 : Int), v10 = .int .i64 x10_1 ∧ Aside0 (porticolaw19_LifeWords.l0 kq a0 a1 a2 a3 x9_1 x10_1 = some r) ∧ Aside0 (kq ≤ k) ∧ Aside0 (Kd.R k23 23 w' w.heap.size (fun _ => True) v9 x9_1) ∧ Aside0 (Below w.heap.size w w'))
  case atStart => exact ⟨(y130), (0), (by first | rfl | (simp; done) | (simp [*]; done)), H', ⟨Nat.le_refl _⟩, ⟨by (with_reducible repeat (first | apply Kd.R_alloc | apply Kd.R_drewN | apply Kd.R_drew)); exact HO132.out⟩, ⟨by repeat (first | (with_reducible first | exact HB.out | apply below_alloc | apply pw_below_drewN | apply below_drew1) | exact HB.out)⟩⟩
  case round =>
    clear H'
    try clear c2
    try clear p2
    try clear c6
    obtain ⟨x9_1, x10_1, rfl, HA, HK1, HO_9, HB⟩ := hrel
    cases gk with
    | zero => exact absurd HA.out (by simp [porticolaw19_LifeWords.l0])
    | succ k1 =>
      have H := HA.out
      clear HA
      simp only [porticolaw19_LifeWords.l0] at H
      replace H := Option.bind_eq_some_iff.mp H
      obtain ⟨t133, A70, H⟩ := H
      replace H : (if x10_1 < t133 then ((some (([(⟨3, 3⟩ : S23), (⟨2, 3⟩ : S23)] : List (S23)) : List (S23))).bind fun y134 => (if x9_1.length + y134.length < 8796093022208 then (porticolaw19_LifeWords.l0 k1 a0 a1 a2 a3 (x9_1 ++ y134) (wrap64 (x10_1 + 1))) else (none))) else (if a1 = true then (if x9_1.length < 8796093022208 then (porticolaw19_LifeWords.j1 k1 a1 a2 a3 (x9_1 ++ [(⟨3, 3⟩ : S23)])) else (none)) else (porticolaw19_LifeWords.j1 k1 a1 a2 a3 x9_1))) = some r := H
      have A7 := Aside0.mk A70
      clear A70
      by_cases c8 : x10_1 < t133
      · rw [if_pos c8] at H
        have c8b0 : decide (x10_1 < t133) = true := decide_eq_true c8
        clear c8
        obtain ⟨y134, hy134⟩ : ∃ y_ : List (S23), y_ = (([(⟨3, 3⟩ : S23), (⟨2, 3⟩ : S23)] : List (S23))) := ⟨_, rfl⟩
        replace H : (if x9_1.length + y134.length < 8796093022208 then (porticolaw19_LifeWords.l0 k1 a0 a1 a2 a3 (x9_1 ++ y134) (wrap64 (x10_1 + 1))) else (none)) = some r := by first | (rw [hy134]; with_reducible exact H) | (have H2_ := (Option.bind_some _ _).symm.trans H; rw [hy134]; with_reducible exact H2_) | (have H2_ := (Option.bind_some _ _).symm.trans H; with_reducible exact H2_) | with_reducible exact H | (rw [hy134]; exact H) | exact H
        have Ny134 := Aside0.mk hy134
        clear hy134
        by_cases c9 : x9_1.length + y134.length < 8796093022208
        · rw [if_pos c9] at H
          have LMc9 := Aside0.mk c9
          clear c9
          obtain ⟨y137, hy137⟩ : ∃ y_ : List (S23), y_ = (x9_1 ++ y134) := ⟨_, rfl⟩
          replace H : (porticolaw19_LifeWords.l0 k1 a0 a1 a2 a3 y137 (wrap64 (x10_1 + 1))) = some r := by first | (rw [hy137]; with_reducible exact H) | (have H2_ := (Option.bind_some _ _).symm.trans H; rw [hy137]; with_reducible exact H2_) | (have H2_ := (Option.bind_some _ _).symm.trans H; with_reducible exact H2_) | with_reducible exact H | (rw [hy137]; exact H) | exact H
          have Ny137 := Aside0.mk hy137
          clear hy137
          have H' := Aside0.mk H
          clear H
          go_wp2_with (first | ((with_reducible refine gate_callee (f := 12) rfl ?_); refine goesL_ (some 20) rfl rfl Try.func12 (by kernel_rfl) rfl #[.int .i64 a0, .int .i64 0, .int .i64 9] rfl (by (try simp only [List.map_toArray, List.map_cons, List.map_nil]); first | done | rfl | (simp only [List.length_drop, List.length_take]; rfl)) ?_; (with_reducible refine (porticobook_Within.calls a0 0 9 t133 _ A7.out).mono ?_); rintro e w' ⟨rfl, ⟨nd, rfl⟩⟩; refine ⟨_, rfl, ?_⟩) | ((with_reducible refine gate_dst (N := 27) rfl ?_); (try (refine gate_guard (by rfl) ?_; dsimp only)); refine Kd.R_lit k23 _ 23 ?hg (N := 27) ?hd (xs := ([(⟨3, 3⟩ : S23), (⟨2, 3⟩ : S23)] : List (S23))) (inner := [.int .i64 3, .int .i64 3, .int .i64 2, .int .i64 3]) (ok := fun _ => True) (okp := fun _ => True) ?hr ?hp (fun _ hk => hk) trivial (Below.refl _ _) (Nat.le_refl _) (by simp) ?_; (case hd => rfl); (case hg => rfl); (case hr => first | (go_simp; done) | (go_simp; rfl)); (case hp => exact (Reps.c2 (show Kd.M k23 _ _ _ (⟨3, 3⟩ : S23) [.int .i64 3, .int .i64 3] from (k23_mkM _ _ _ (⟨3, 3⟩ : S23) )) (Reps.c2 (show Kd.M k23 _ _ _ (⟨2, 3⟩ : S23) [.int .i64 2, .int .i64 3] from (k23_mkM _ _ _ (⟨2, 3⟩ : S23) )) (Reps.none _ _)))); intro v135 w10 ho11 hb hg_ hnew_; clear hg_ hnew_; (first | rw [← Ny134.out] at ho11 | (simp only [Int.reduceToNat] at ho11; rw [← Ny134.out] at ho11)); have n0_ := Aside0.mk (Kd.R_elder' (by (with_reducible repeat (first | apply Kd.R_alloc | apply Kd.R_drewN | apply Kd.R_drew)); exact HO_9.out) (Kd.R_base ho11) hb); have n1_ := Aside0.mk (Kd.R_lower (Kd.R_new' ho11 (Kd.R_lt (by (with_reducible repeat (first | apply Kd.R_alloc | apply Kd.R_drewN | apply Kd.R_drew)); exact HO_9.out))) (below_size (by repeat (first | (with_reducible first | exact HB.out | apply below_alloc | apply pw_below_drewN | apply below_drew1) | exact HB.out)))); have n2_ := Aside0.mk (below_step (by repeat (first | (with_reducible first | exact HB.out | apply below_alloc | apply pw_below_drewN | apply below_drew1) | exact HB.out)) hb); clear HO_9; clear HB; have HO_9 := n0_; have HO136 := n1_; have HB := n2_; clear n0_ n1_ n2_; clear hb ho11; obtain ⟨Ao13, co13, eo13⟩ := Kd.R_slice HO136.out; subst eo13) | ((with_reducible refine gate_builtin (b := .append) (xs := #[.tmp 24, .tmp 27]) rfl ?_); (try (refine gate_guard (by rfl) ?_; dsimp only)); at_builtin; refine Kd.R_append_rows k23 (w0 := w) w.heap.size rfl (.tmp 24) (.tmp 27) 24 23 (.agg #[(.int .i64 0), (.int .i64 0)]) 16 rfl Try.underlying24 info23 rfl (by decide) (by omega) u9 x9_1 y134 _ _ _ (fun k_ => some k_ ≠ (.slice Ao13 y134.length co13 : Value).ownBlock) (fun _ => False) rfl rfl ?aO ?aR (fun _ _ h => h) (fun _ h => h.elim) ?aF ?aB ?aS ?aL ?_; (case aR => repeat (first | exact (Kd.R_reads' HO136.out).2.2 | (with_reducible refine Kd.C_alloc ?_ _) | (with_reducible refine Kd.C_drewN ?_ _) | (with_reducible refine Kd.C_drew ?_))); (case aB => exact (by repeat (first | (with_reducible first | exact HB.out | apply below_alloc | apply pw_below_drewN | apply below_drew1) | exact HB.out))); (case aF => exact (fun k_ hk => Kd.fresh' (Kd.R_lt (by (with_reducible repeat (first | apply Kd.R_alloc | apply Kd.R_drewN | apply Kd.R_drew)); exact HO136.out)) k_ hk)); (case aO => exact (by (with_reducible repeat (first | apply Kd.R_alloc | apply Kd.R_drewN | apply Kd.R_drew)); exact Kd.R_mono HO_9.out (fun _ hk => hk.2))); (case aS => exact (below_size (by repeat (first | (with_reducible first | exact HB.out | apply below_alloc | apply pw_below_drewN | apply below_drew1) | exact HB.out)))); (case aL => have := LMc9.out; omega); intro v138 w12 ho hb hg hat; rw [← Ny137.out] at ho; have n0_ := Aside0.mk (Kd.R_after (ok := (fun _ => True)) (by (with_reducible repeat (first | apply Kd.R_alloc | apply Kd.R_drewN | apply Kd.R_drew)); exact HO136.out) hg hat); have n1_ := Aside0.mk (hb); have n2_ := Aside0.mk (ho); clear HO136; clear HB; clear HO_9; have HO136 := n0_; have HB := n1_; have HO139 := n2_; clear n0_ n1_ n2_; clear ho hb hg hat))
          go_roundg k1
          case measure => have := HK1.out; omega
          case rel => exact ⟨(y137), (wrap64 (x10_1 + 1)), (by first | rfl | (simp; done) | (simp [*]; done)), H', ⟨by have := HK1.out; omega⟩, ⟨by (with_reducible repeat (first | apply Kd.R_alloc | apply Kd.R_drewN | apply Kd.R_drew)); exact Kd.R_mono HO139.out (fun _ hk => trivial)⟩, ⟨by repeat (first | (with_reducible first | exact HB.out | apply below_alloc | apply pw_below_drewN | apply below_drew1) | exact HB.out)⟩⟩
        · rw [if_neg c9] at H
          exact absurd H (by simp)
      · rw [if_neg c8] at H
        have c8b0 : decide (x10_1 < t133) = false := decide_eq_false c8
        clear c8
        have HC14 := Aside0.mk H
        clear H
        go_upto_if 29 with (first | ((with_reducible refine gate_callee (f := 12) rfl ?_); refine goesL_ (some 20) rfl rfl Try.func12 (by kernel_rfl) rfl #[.int .i64 a0, .int .i64 0, .int .i64 9] rfl (by (try simp only [List.map_toArray, List.map_cons, List.map_nil]); first | done | rfl | (simp only [List.length_drop, List.length_take]; rfl)) ?_; (with_reducible refine (porticobook_Within.calls a0 0 9 t133 _ A7.out).mono ?_); rintro e w' ⟨rfl, ⟨nd, rfl⟩⟩; refine ⟨_, rfl, ?_⟩))
        (try simp only [Act.put, List.setIfInBounds_toArray, List.set_cons_zero, List.set_cons_succ])
        go_cut [9] (fun v9 wc => ∃ (kq : Nat) (x9_13 : List (S23)), Aside0 (porticolaw19_LifeWords.j1 kq a1 a2 a3 x9_13 = some r) ∧ Aside0 (kq ≤ k1) ∧ Aside0 (Kd.R k23 23 wc w.heap.size (fun _ => True) v9 x9_13) ∧ Aside0 (Below w.heap.size w wc))
        case first =>
          have H := HC14.out
          clear HC14
          by_cases c15 : a1 = true
          · subst c15
            have H1 : (if x9_1.length < 8796093022208 then (porticolaw19_LifeWords.j1 k1 true a2 a3 (x9_1 ++ [(⟨3, 3⟩ : S23)])) else (none)) = some r := by rw [if_pos rfl] at H; exact H
            clear H
            have H := H1
            clear H1
            by_cases c16 : x9_1.length < 8796093022208
            · rw [if_pos c16] at H
              have LMc16 := Aside0.mk c16
              clear c16
              obtain ⟨y140, hy140⟩ : ∃ y_ : List (S23), y_ = (x9_1 ++ [(⟨3, 3⟩ : S23)]) := ⟨_, rfl⟩
              replace H : (porticolaw19_LifeWords.j1 k1 true a2 a3 y140) = some r := by first | (rw [hy140]; with_reducible exact H) | (have H2_ := (Option.bind_some _ _).symm.trans H; rw [hy140]; with_reducible exact H2_) | (have H2_ := (Option.bind_some _ _).symm.trans H; with_reducible exact H2_) | with_reducible exact H | (rw [hy140]; exact H) | exact H
              have Ny140 := Aside0.mk hy140
              clear hy140
              have H' := Aside0.mk H
              clear H
              go_wp2_with (first | ((with_reducible refine gate_builtin (b := .append) (xs := #[.tmp 30, .tmp 32]) rfl ?_); (try (refine gate_guard (by rfl) ?_; dsimp only)); at_builtin; refine Kd.R_append k23 (w0 := w) w.heap.size rfl (.tmp 30) (.tmp 32) 24 23 (.agg #[(.int .i64 0), (.int .i64 0)]) 16 rfl Try.underlying24 info23 rfl (by decide) (by omega) u9 x9_1 (⟨3, 3⟩ : S23) [.int .i64 3, .int .i64 3] (fun _ => True) (fun _ => False) rfl rfl ?aP (fun _ hk => hk.elim) ?aF ?aO ?aB ?aS ?aL ?_; (case aP => exact k23_mkM _ _ _ (⟨3, 3⟩ : S23)); (case aB => exact (by repeat (first | (with_reducible first | exact HB.out | apply below_alloc | apply pw_below_drewN | apply below_drew1) | exact HB.out))); (case aF => exact (fun _ _ => trivial)); (case aO => exact (by (with_reducible repeat (first | apply Kd.R_alloc | apply Kd.R_drewN | apply Kd.R_drew)); exact HO_9.out)); (case aS => exact (below_size (by repeat (first | (with_reducible first | exact HB.out | apply below_alloc | apply pw_below_drewN | apply below_drew1) | exact HB.out)))); (case aL => have := LMc16.out; omega); intro v141 w17 ho hb hg hat; rw [← Ny140.out] at ho; have n0_ := Aside0.mk (hb); have n1_ := Aside0.mk (ho); clear HB; clear HO_9; have HB := n0_; have HO142 := n1_; clear n0_ n1_; clear ho hb hg hat))
              go_meet
              case rel => exact ⟨_, (y140), H', ⟨by have := HK1.out; first | omega | exact Nat.le_refl _⟩, ⟨by (with_reducible repeat (first | apply Kd.R_alloc | apply Kd.R_drewN | apply Kd.R_drew)); exact HO142.out⟩, ⟨by repeat (first | (with_reducible first | exact HB.out | apply below_alloc | apply pw_below_drewN | apply below_drew1) | exact HB.out)⟩⟩
            · rw [if_neg c16] at H
              exact absurd H (by simp)
          · replace c15 := Bool.eq_false_iff.mpr c15
            subst c15
            have H1 : (porticolaw19_LifeWords.j1 k1 false a2 a3 x9_1) = some r := by rw [if_neg (show ¬ (false = true) by decide)] at H; exact H
            clear H
            have H := H1
            clear H1
            have H' := Aside0.mk H
            clear H
            go_wp2
            go_meet
            case rel => exact ⟨_, (x9_1), H', ⟨by have := HK1.out; first | omega | exact Nat.le_refl _⟩, ⟨by (with_reducible repeat (first | apply Kd.R_alloc | apply Kd.R_drewN | apply Kd.R_drew)); exact HO_9.out⟩, ⟨by repeat (first | (with_reducible first | exact HB.out | apply below_alloc | apply pw_below_drewN | apply below_drew1) | exact HB.out)⟩⟩
        case rest =>
          clear HC14
          try clear c1
          try clear c2
          try clear p2
          try clear c6
          try clear p6
          try clear c8
          try clear c8b0
          try clear c9
          try clear c12
          try clear c15
          try clear c16
          try clear p2
          obtain ⟨kq, x9_13, HA, HJ13, HO_9, HB⟩ := hcut
          cases kq with
          | zero => exact absurd HA.out (by simp [porticolaw19_LifeWords.j1])
          | succ kj13 =>
            have H := HA.out
            clear HA
            simp only [porticolaw19_LifeWords.j1] at H
            have HC18 := Aside0.mk H
            clear H
            go_upto_if 34 with (fail)
            go_cut [9, 11] (fun v9 v11 wc => ∃ (kq : Nat) (x9_17 : List (S23)) (x11_17 : Int), v11 = .int .i64 x11_17 ∧ Aside0 (porticolaw19_LifeWords.j2 kq a1 a2 a3 x9_17 x11_17 = some r) ∧ Aside0 (kq ≤ kj13) ∧ Aside0 (Kd.R k23 23 wc w.heap.size (fun _ => True) v9 x9_17) ∧ Aside0 (Below w.heap.size w wc))
            case first =>
              have H := HC18.out
              clear HC18
              by_cases c19 : a2 = true
              · subst c19
                have H1 : (if x9_13.length < 8796093022208 then (porticolaw19_LifeWords.j2 kj13 a1 true a3 (x9_13 ++ [(⟨4, 3⟩ : S23)]) 0) else (none)) = some r := by rw [if_pos rfl] at H; exact H
                clear H
                have H := H1
                clear H1
                by_cases c20 : x9_13.length < 8796093022208
                · rw [if_pos c20] at H
                  have LMc20 := Aside0.mk c20
                  clear c20
                  obtain ⟨y143, hy143⟩ : ∃ y_ : List (S23), y_ = (x9_13 ++ [(⟨4, 3⟩ : S23)]) := ⟨_, rfl⟩
                  replace H : (porticolaw19_LifeWords.j2 kj13 a1 true a3 y143 0) = some r := by first | (rw [hy143]; with_reducible exact H) | (have H2_ := (Option.bind_some _ _).symm.trans H; rw [hy143]; with_reducible exact H2_) | (have H2_ := (Option.bind_some _ _).symm.trans H; with_reducible exact H2_) | with_reducible exact H | (rw [hy143]; exact H) | exact H
                  have Ny143 := Aside0.mk hy143
                  clear hy143
                  have H' := Aside0.mk H
                  clear H
                  go_wp2_with (first | ((with_reducible refine gate_builtin (b := .append) (xs := #[.tmp 35, .tmp 37]) rfl ?_); (try (refine gate_guard (by rfl) ?_; dsimp only)); at_builtin; refine Kd.R_append k23 (w0 := w) w.heap.size rfl (.tmp 35) (.tmp 37) 24 23 (.agg #[(.int .i64 0), (.int .i64 0)]) 16 rfl Try.underlying24 info23 rfl (by decide) (by omega) u9 x9_13 (⟨4, 3⟩ : S23) [.int .i64 4, .int .i64 3] (fun _ => True) (fun _ => False) rfl rfl ?aP (fun _ hk => hk.elim) ?aF ?aO ?aB ?aS ?aL ?_; (case aP => exact k23_mkM _ _ _ (⟨4, 3⟩ : S23)); (case aB => exact (by repeat (first | (with_reducible first | exact HB.out | apply below_alloc | apply pw_below_drewN | apply below_drew1) | exact HB.out))); (case aF => exact (fun _ _ => trivial)); (case aO => exact (by (with_reducible repeat (first | apply Kd.R_alloc | apply Kd.R_drewN | apply Kd.R_drew)); exact HO_9.out)); (case aS => exact (below_size (by repeat (first | (with_reducible first | exact HB.out | apply below_alloc | apply pw_below_drewN | apply below_drew1) | exact HB.out)))); (case aL => have := LMc20.out; omega); intro v144 w21 ho hb hg hat; rw [← Ny143.out] at ho; have n0_ := Aside0.mk (hb); have n1_ := Aside0.mk (ho); clear HB; clear HO_9; have HB := n0_; have HO145 := n1_; clear n0_ n1_; clear ho hb hg hat))
                  go_meet
                  case rel => exact ⟨_, (y143), (0), (by first | rfl | (simp; done) | (simp [*]; done)), H', ⟨by have := HK1.out; have := HJ13.out; first | omega | exact Nat.le_refl _⟩, ⟨by (with_reducible repeat (first | apply Kd.R_alloc | apply Kd.R_drewN | apply Kd.R_drew)); exact HO145.out⟩, ⟨by repeat (first | (with_reducible first | exact HB.out | apply below_alloc | apply pw_below_drewN | apply below_drew1) | exact HB.out)⟩⟩
                · rw [if_neg c20] at H
                  exact absurd H (by simp)
              · replace c19 := Bool.eq_false_iff.mpr c19
                subst c19
                have H1 : (if a1 = true then (porticolaw19_LifeWords.j2 kj13 a1 false a3 x9_13 0) else (porticolaw19_LifeWords.j2 kj13 a1 false a3 x9_13 1)) = some r := by rw [if_neg (show ¬ (false = true) by decide)] at H; exact H
                clear H
                have H := H1
                clear H1
                by_cases c22 : a1 = true
                · subst c22
                  have H1 : (porticolaw19_LifeWords.j2 kj13 true false a3 x9_13 0) = some r := by rw [if_pos rfl] at H; exact H
                  clear H
                  have H := H1
                  clear H1
                  have H' := Aside0.mk H
                  clear H
                  go_wp2
                  go_meet
                  case rel => exact ⟨_, (x9_13), (0), (by first | rfl | (simp; done) | (simp [*]; done)), H', ⟨by have := HK1.out; have := HJ13.out; first | omega | exact Nat.le_refl _⟩, ⟨by (with_reducible repeat (first | apply Kd.R_alloc | apply Kd.R_drewN | apply Kd.R_drew)); exact HO_9.out⟩, ⟨by repeat (first | (with_reducible first | exact HB.out | apply below_alloc | apply pw_below_drewN | apply below_drew1) | exact HB.out)⟩⟩
                · replace c22 := Bool.eq_false_iff.mpr c22
                  subst c22
                  have H1 : (porticolaw19_LifeWords.j2 kj13 false false a3 x9_13 1) = some r := by rw [if_neg (show ¬ (false = true) by decide)] at H; exact H
                  clear H
                  have H := H1
                  clear H1
                  have H' := Aside0.mk H
                  clear H
                  go_wp2
                  go_meet
                  case rel => exact ⟨_, (x9_13), (1), (by first | rfl | (simp; done) | (simp [*]; done)), H', ⟨by have := HK1.out; have := HJ13.out; first | omega | exact Nat.le_refl _⟩, ⟨by (with_reducible repeat (first | apply Kd.R_alloc | apply Kd.R_drewN | apply Kd.R_drew)); exact HO_9.out⟩, ⟨by repeat (first | (with_reducible first | exact HB.out | apply below_alloc | apply pw_below_drewN | apply below_drew1) | exact HB.out)⟩⟩
            case rest =>
              clear HC18
              try clear c1
              try clear c2
              try clear p2
              try clear c6
              try clear p6
              try clear c8
              try clear c8b0
              try clear c9
              try clear c12
              try clear c15
              try clear c16
              try clear c19
              try clear c20
              try clear c22
              try clear p2
              try clear p6
              obtain ⟨kq, x9_17, x11_17, rfl, HA, HJ17, HO_9, HB⟩ := hcut
              cases kq with
              | zero => exact absurd HA.out (by simp [porticolaw19_LifeWords.j2])
              | succ kj17 =>
                have H := HA.out
                clear HA
                simp only [porticolaw19_LifeWords.j2] at H
                replace H := Option.bind_eq_some_iff.mp H
                obtain ⟨t146, A230, H⟩ := H
                replace H : ((some (([] : List (S23)) : List (S23))).bind fun y147 => (if y147.length + x9_17.length < 8796093022208 then ((some (y147 ++ x9_17 : List (S23))).bind fun y150 => (if y150.length < 8796093022208 then ((some (y150 ++ [(⟨t146, 3⟩ : S23)] : List (S23))).bind fun y153 => (if a2 = true then (porticolaw19_LifeWords.j3 kj17 x9_17 x11_17 t146 y153 false) else (if a1 = true then (if t146 = 2 then (porticolaw19_LifeWords.j3 kj17 x9_17 x11_17 t146 y153 true) else (if t146 = 4 then (porticolaw19_LifeWords.j3 kj17 x9_17 x11_17 t146 y153 true) else (porticolaw19_LifeWords.j3 kj17 x9_17 x11_17 t146 y153 false))) else (if t146 = 3 then (porticolaw19_LifeWords.j3 kj17 x9_17 x11_17 t146 y153 true) else (porticolaw19_LifeWords.j3 kj17 x9_17 x11_17 t146 y153 (t146 == 4)))))) else (none))) else (none))) = some r := H
                have A23 := Aside0.mk A230
                clear A230
                obtain ⟨y147, hy147⟩ : ∃ y_ : List (S23), y_ = (([] : List (S23))) := ⟨_, rfl⟩
                replace H : (if y147.length + x9_17.length < 8796093022208 then ((some (y147 ++ x9_17 : List (S23))).bind fun y150 => (if y150.length < 8796093022208 then ((some (y150 ++ [(⟨t146, 3⟩ : S23)] : List (S23))).bind fun y153 => (if a2 = true then (porticolaw19_LifeWords.j3 kj17 x9_17 x11_17 t146 y153 false) else (if a1 = true then (if t146 = 2 then (porticolaw19_LifeWords.j3 kj17 x9_17 x11_17 t146 y153 true) else (if t146 = 4 then (porticolaw19_LifeWords.j3 kj17 x9_17 x11_17 t146 y153 true) else (porticolaw19_LifeWords.j3 kj17 x9_17 x11_17 t146 y153 false))) else (if t146 = 3 then (porticolaw19_LifeWords.j3 kj17 x9_17 x11_17 t146 y153 true) else (porticolaw19_LifeWords.j3 kj17 x9_17 x11_17 t146 y153 (t146 == 4)))))) else (none))) else (none)) = some r := by first | (rw [hy147]; with_reducible exact H) | (have H2_ := (Option.bind_some _ _).symm.trans H; rw [hy147]; with_reducible exact H2_) | (have H2_ := (Option.bind_some _ _).symm.trans H; with_reducible exact H2_) | with_reducible exact H | (rw [hy147]; exact H) | exact H
                have Ny147 := Aside0.mk hy147
                clear hy147
                by_cases c24 : y147.length + x9_17.length < 8796093022208
                · rw [if_pos c24] at H
                  have LMc24 := Aside0.mk c24
                  clear c24
                  obtain ⟨y150, hy150⟩ : ∃ y_ : List (S23), y_ = (y147 ++ x9_17) := ⟨_, rfl⟩
                  replace H : (if y150.length < 8796093022208 then ((some (y150 ++ [(⟨t146, 3⟩ : S23)] : List (S23))).bind fun y153 => (if a2 = true then (porticolaw19_LifeWords.j3 kj17 x9_17 x11_17 t146 y153 false) else (if a1 = true then (if t146 = 2 then (porticolaw19_LifeWords.j3 kj17 x9_17 x11_17 t146 y153 true) else (if t146 = 4 then (porticolaw19_LifeWords.j3 kj17 x9_17 x11_17 t146 y153 true) else (porticolaw19_LifeWords.j3 kj17 x9_17 x11_17 t146 y153 false))) else (if t146 = 3 then (porticolaw19_LifeWords.j3 kj17 x9_17 x11_17 t146 y153 true) else (porticolaw19_LifeWords.j3 kj17 x9_17 x11_17 t146 y153 (t146 == 4)))))) else (none)) = some r := by first | (rw [hy150]; with_reducible exact H) | (have H2_ := (Option.bind_some _ _).symm.trans H; rw [hy150]; with_reducible exact H2_) | (have H2_ := (Option.bind_some _ _).symm.trans H; with_reducible exact H2_) | with_reducible exact H | (rw [hy150]; exact H) | exact H
                  have Ny150 := Aside0.mk hy150
                  clear hy150
                  by_cases c25 : y150.length < 8796093022208
                  · rw [if_pos c25] at H
                    have LMc25 := Aside0.mk c25
                    clear c25
                    obtain ⟨y153, hy153⟩ : ∃ y_ : List (S23), y_ = (y150 ++ [(⟨t146, 3⟩ : S23)]) := ⟨_, rfl⟩
                    replace H : (if a2 = true then (porticolaw19_LifeWords.j3 kj17 x9_17 x11_17 t146 y153 false) else (if a1 = true then (if t146 = 2 then (porticolaw19_LifeWords.j3 kj17 x9_17 x11_17 t146 y153 true) else (if t146 = 4 then (porticolaw19_LifeWords.j3 kj17 x9_17 x11_17 t146 y153 true) else (porticolaw19_LifeWords.j3 kj17 x9_17 x11_17 t146 y153 false))) else (if t146 = 3 then (porticolaw19_LifeWords.j3 kj17 x9_17 x11_17 t146 y153 true) else (porticolaw19_LifeWords.j3 kj17 x9_17 x11_17 t146 y153 (t146 == 4))))) = some r := by first | (rw [hy153]; with_reducible exact H) | (have H2_ := (Option.bind_some _ _).symm.trans H; rw [hy153]; with_reducible exact H2_) | (have H2_ := (Option.bind_some _ _).symm.trans H; with_reducible exact H2_) | with_reducible exact H | (rw [hy153]; exact H) | exact H
                    have Ny153 := Aside0.mk hy153
                    clear hy153
                    have HC26 := Aside0.mk H
                    clear H
                    go_upto_region 15 with (first | ((with_reducible refine gate_callee (f := 12) rfl ?_); refine goesL_ (some 42) rfl rfl Try.func12 (by kernel_rfl) rfl #[.int .i64 a3, .int .i64 1, .int .i64 4] rfl (by (try simp only [List.map_toArray, List.map_cons, List.map_nil]); first | done | rfl | (simp only [List.length_drop, List.length_take]; rfl)) ?_; (with_reducible refine (porticobook_Within.calls a3 1 4 t146 _ A23.out).mono ?_); rintro e w' ⟨rfl, ⟨nd, rfl⟩⟩; refine ⟨_, rfl, ?_⟩) | ((with_reducible refine gate_dst (N := 43) rfl ?_); (try (refine gate_guard (by rfl) ?_; dsimp only)); refine Kd.R_lit k23 _ 23 ?hg (N := 43) ?hd (xs := ([] : List (S23))) (inner := []) (ok := fun _ => True) (okp := fun _ => True) ?hr ?hp (fun _ hk => hk) trivial (Below.refl _ _) (Nat.le_refl _) (by simp) ?_; (case hd => rfl); (case hg => rfl); (case hr => first | (go_simp; done) | (go_simp; rfl)); (case hp => exact (Reps.none _ _)); intro v148 w27 ho28 hb hg_ hnew_; clear hg_ hnew_; (first | rw [← Ny147.out] at ho28 | (simp only [Int.reduceToNat] at ho28; rw [← Ny147.out] at ho28)); have n0_ := Aside0.mk (Kd.R_elder' (by (with_reducible repeat (first | apply Kd.R_alloc | apply Kd.R_drewN | apply Kd.R_drew)); exact HO_9.out) (Kd.R_base ho28) hb); have n1_ := Aside0.mk (Kd.R_lower (Kd.R_new' ho28 (Kd.R_lt (by (with_reducible repeat (first | apply Kd.R_alloc | apply Kd.R_drewN | apply Kd.R_drew)); exact HO_9.out))) (below_size (by repeat (first | (with_reducible first | exact HB.out | apply below_alloc | apply pw_below_drewN | apply below_drew1) | exact HB.out)))); have n2_ := Aside0.mk (below_step (by repeat (first | (with_reducible first | exact HB.out | apply below_alloc | apply pw_below_drewN | apply below_drew1) | exact HB.out)) hb); clear HO_9; clear HB; have HO_9 := n0_; have HO149 := n1_; have HB := n2_; clear n0_ n1_ n2_; clear hb ho28; obtain ⟨Ao30, co30, eo30⟩ := Kd.R_slice HO_9.out; subst eo30) | ((with_reducible refine gate_builtin (b := .append) (xs := #[.tmp 43, .tmp 44]) rfl ?_); (try (refine gate_guard (by rfl) ?_; dsimp only)); at_builtin; refine Kd.R_append_rows k23 (w0 := w) w.heap.size rfl (.tmp 43) (.tmp 44) 24 23 (.agg #[(.int .i64 0), (.int .i64 0)]) 16 rfl Try.underlying24 info23 rfl (by decide) (by omega) v148 y147 x9_17 _ _ _ (fun k_ => some k_ ≠ (.slice Ao30 x9_17.length co30 : Value).ownBlock) (fun _ => False) rfl rfl ?aO ?aR (fun _ _ h => h) (fun _ h => h.elim) ?aF ?aB ?aS ?aL ?_; (case aR => repeat (first | exact (Kd.R_reads' HO_9.out).2.2 | (with_reducible refine Kd.C_alloc ?_ _) | (with_reducible refine Kd.C_drewN ?_ _) | (with_reducible refine Kd.C_drew ?_))); (case aB => exact (by repeat (first | (with_reducible first | exact HB.out | apply below_alloc | apply pw_below_drewN | apply below_drew1) | exact HB.out))); (case aF => exact (fun k_ hk => Kd.fresh' (Kd.R_lt (by (with_reducible repeat (first | apply Kd.R_alloc | apply Kd.R_drewN | apply Kd.R_drew)); exact HO_9.out)) k_ hk)); (case aO => exact (by (with_reducible repeat (first | apply Kd.R_alloc | apply Kd.R_drewN | apply Kd.R_drew)); exact Kd.R_mono HO149.out (fun _ hk => hk.2))); (case aS => exact (below_size (by repeat (first | (with_reducible first | exact HB.out | apply below_alloc | apply pw_below_drewN | apply below_drew1) | exact HB.out)))); (case aL => have := LMc24.out; omega); intro v151 w29 ho hb hg hat; rw [← Ny150.out] at ho; have n0_ := Aside0.mk (Kd.R_after (ok := (fun _ => True)) (by (with_reducible repeat (first | apply Kd.R_alloc | apply Kd.R_drewN | apply Kd.R_drew)); exact HO_9.out) hg hat); have n1_ := Aside0.mk (hb); have n2_ := Aside0.mk (ho); clear HO_9; clear HB; clear HO149; have HO_9 := n0_; have HB := n1_; have HO152 := n2_; clear n0_ n1_ n2_; clear ho hb hg hat) | ((with_reducible refine gate_builtin (b := .append) (xs := #[.tmp 45, .tmp 48]) rfl ?_); (try (refine gate_guard (by rfl) ?_; dsimp only)); at_builtin; refine Kd.R_append k23 (w0 := w) w.heap.size rfl (.tmp 45) (.tmp 48) 24 23 (.agg #[(.int .i64 0), (.int .i64 0)]) 16 rfl Try.underlying24 info23 rfl (by decide) (by omega) v151 y150 (⟨t146, 3⟩ : S23) [.int .i64 t146, .int .i64 3] (fun k_ => some k_ ≠ (.slice Ao30 x9_17.length co30 : Value).ownBlock) (fun _ => False) rfl rfl ?aP (fun _ hk => hk.elim) ?aF ?aO ?aB ?aS ?aL ?_; (case aP => exact k23_mkM _ _ _ (⟨t146, 3⟩ : S23)); (case aB => exact (by repeat (first | (with_reducible first | exact HB.out | apply below_alloc | apply pw_below_drewN | apply below_drew1) | exact HB.out))); (case aF => exact (fun k_ hk => Kd.fresh' (Kd.R_lt (by (with_reducible repeat (first | apply Kd.R_alloc | apply Kd.R_drewN | apply Kd.R_drew)); exact HO_9.out)) k_ hk)); (case aO => exact (by (with_reducible repeat (first | apply Kd.R_alloc | apply Kd.R_drewN | apply Kd.R_drew)); exact HO152.out)); (case aS => exact (below_size (by repeat (first | (with_reducible first | exact HB.out | apply below_alloc | apply pw_below_drewN | apply below_drew1) | exact HB.out)))); (case aL => have := LMc25.out; omega); intro v154 w31 ho hb hg hat; rw [← Ny153.out] at ho; have n0_ := Aside0.mk (Kd.R_after (ok := (fun _ => True)) (by (with_reducible repeat (first | apply Kd.R_alloc | apply Kd.R_drewN | apply Kd.R_drew)); exact HO_9.out) hg hat); have n1_ := Aside0.mk (hb); have n2_ := Aside0.mk (ho); clear HO_9; clear HB; clear HO152; have HO_9 := n0_; have HB := n1_; have HO155 := n2_; clear n0_ n1_ n2_; clear ho hb hg hat))
                    (try simp only [Act.put, List.setIfInBounds_toArray, List.set_cons_zero, List.set_cons_succ])
                    go_cut [14] (fun v14 wc => ∃ (kq : Nat) (x14_25 : Bool), v14 = .bool x14_25 ∧ Aside0 (porticolaw19_LifeWords.j3 kq x9_17 x11_17 t146 y153 x14_25 = some r) ∧ Aside0 (kq ≤ kj17) ∧ Aside0 (Kd.R k23 23 wc w.heap.size (fun k_ => some k_ ≠ (v154 : Value).ownBlock) (.slice Ao30 x9_17.length co30) x9_17) ∧ Aside0 (Kd.R k23 23 wc w.heap.size (fun k_ => some k_ ≠ ((.slice Ao30 x9_17.length co30) : Value).ownBlock) v154 y153) ∧ Aside0 (Below w.heap.size w wc))
                    case first =>
                      have H := HC26.out
                      clear HC26
                      by_cases c32 : a2 = true
                      · subst c32
                        have H1 : (porticolaw19_LifeWords.j3 kj17 x9_17 x11_17 t146 y153 false) = some r := by rw [if_pos rfl] at H; exact H
                        clear H
                        have H := H1
                        clear H1
                        have H' := Aside0.mk H
                        clear H
                        go_wp2
                        go_meet
                        case rel => exact ⟨_, (false), (by first | rfl | (simp; done) | (simp [*]; done)), H', ⟨by have := HK1.out; have := HJ13.out; have := HJ17.out; first | omega | exact Nat.le_refl _⟩, ⟨by (with_reducible repeat (first | apply Kd.R_alloc | apply Kd.R_drewN | apply Kd.R_drew)); exact Kd.R_mono HO_9.out (fun _ hk => hk.2)⟩, ⟨by (with_reducible repeat (first | apply Kd.R_alloc | apply Kd.R_drewN | apply Kd.R_drew)); exact HO155.out⟩, ⟨by repeat (first | (with_reducible first | exact HB.out | apply below_alloc | apply pw_below_drewN | apply below_drew1) | exact HB.out)⟩⟩
                      · replace c32 := Bool.eq_false_iff.mpr c32
                        subst c32
                        have H1 : (if a1 = true then (if t146 = 2 then (porticolaw19_LifeWords.j3 kj17 x9_17 x11_17 t146 y153 true) else (if t146 = 4 then (porticolaw19_LifeWords.j3 kj17 x9_17 x11_17 t146 y153 true) else (porticolaw19_LifeWords.j3 kj17 x9_17 x11_17 t146 y153 false))) else (if t146 = 3 then (porticolaw19_LifeWords.j3 kj17 x9_17 x11_17 t146 y153 true) else (porticolaw19_LifeWords.j3 kj17 x9_17 x11_17 t146 y153 (t146 == 4)))) = some r := by rw [if_neg (show ¬ (false = true) by decide)] at H; exact H
                        clear H
                        have H := H1
                        clear H1
                        by_cases c33 : a1 = true
                        · subst c33
                          have H1 : (if t146 = 2 then (porticolaw19_LifeWords.j3 kj17 x9_17 x11_17 t146 y153 true) else (if t146 = 4 then (porticolaw19_LifeWords.j3 kj17 x9_17 x11_17 t146 y153 true) else (porticolaw19_LifeWords.j3 kj17 x9_17 x11_17 t146 y153 false))) = some r := by rw [if_pos rfl] at H; exact H
                          clear H
                          have H := H1
                          clear H1
                          by_cases c34 : t146 = 2
                          · rw [if_pos c34] at H
                            have c34b0 : (t146 == 2) = true := beq_iff_eq.mpr c34
                            have c34b1 : (t146 != 2) = false := bne_eq_false_iff_eq.mpr c34
                            clear c34
                            (first | rw [c34b0] | (simp only [i64_w, i32_w]; rw [c34b0]) | rw [c34b1] | skip)
                            have H' := Aside0.mk H
                            clear H
                            go_wp2
                            go_meet
                            case rel => exact ⟨_, (true), (by first | rfl | (simp; done) | (simp [*]; done)), H', ⟨by have := HK1.out; have := HJ13.out; have := HJ17.out; first | omega | exact Nat.le_refl _⟩, ⟨by (with_reducible repeat (first | apply Kd.R_alloc | apply Kd.R_drewN | apply Kd.R_drew)); exact Kd.R_mono HO_9.out (fun _ hk => hk.2)⟩, ⟨by (with_reducible repeat (first | apply Kd.R_alloc | apply Kd.R_drewN | apply Kd.R_drew)); exact HO155.out⟩, ⟨by repeat (first | (with_reducible first | exact HB.out | apply below_alloc | apply pw_below_drewN | apply below_drew1) | exact HB.out)⟩⟩
                          · rw [if_neg c34] at H
                            have c34b0 : (t146 == 2) = false := beq_eq_false_iff_ne.mpr c34
                            have c34b1 : (t146 != 2) = true := bne_iff_ne.mpr c34
                            (first | rw [c34b0] | (simp only [i64_w, i32_w]; rw [c34b0]) | rw [c34b1] | skip)
                            by_cases c35 : t146 = 4
                            · rw [if_pos c35] at H
                              have c35b0 : (t146 == 4) = true := beq_iff_eq.mpr c35
                              have c35b1 : (t146 != 4) = false := bne_eq_false_iff_eq.mpr c35
                              clear c35
                              have H' := Aside0.mk H
                              clear H
                              go_wp2
                              go_meet
                              case rel => exact ⟨_, (true), (by first | rfl | (simp; done) | (simp [*]; done)), H', ⟨by have := HK1.out; have := HJ13.out; have := HJ17.out; first | omega | exact Nat.le_refl _⟩, ⟨by (with_reducible repeat (first | apply Kd.R_alloc | apply Kd.R_drewN | apply Kd.R_drew)); exact Kd.R_mono HO_9.out (fun _ hk => hk.2)⟩, ⟨by (with_reducible repeat (first | apply Kd.R_alloc | apply Kd.R_drewN | apply Kd.R_drew)); exact HO155.out⟩, ⟨by repeat (first | (with_reducible first | exact HB.out | apply below_alloc | apply pw_below_drewN | apply below_drew1) | exact HB.out)⟩⟩
                            · rw [if_neg c35] at H
                              have c35b0 : (t146 == 4) = false := beq_eq_false_iff_ne.mpr c35
                              have c35b1 : (t146 != 4) = true := bne_iff_ne.mpr c35
                              have H' := Aside0.mk H
                              clear H
                              go_wp2
                              go_meet
                              case rel => exact ⟨_, (false), (by first | rfl | (simp; done) | (simp [*]; done)), H', ⟨by have := HK1.out; have := HJ13.out; have := HJ17.out; first | omega | exact Nat.le_refl _⟩, ⟨by (with_reducible repeat (first | apply Kd.R_alloc | apply Kd.R_drewN | apply Kd.R_drew)); exact Kd.R_mono HO_9.out (fun _ hk => hk.2)⟩, ⟨by (with_reducible repeat (first | apply Kd.R_alloc | apply Kd.R_drewN | apply Kd.R_drew)); exact HO155.out⟩, ⟨by repeat (first | (with_reducible first | exact HB.out | apply below_alloc | apply pw_below_drewN | apply below_drew1) | exact HB.out)⟩⟩
                        · replace c33 := Bool.eq_false_iff.mpr c33
                          subst c33
                          have H1 : (if t146 = 3 then (porticolaw19_LifeWords.j3 kj17 x9_17 x11_17 t146 y153 true) else (porticolaw19_LifeWords.j3 kj17 x9_17 x11_17 t146 y153 (t146 == 4))) = some r := by rw [if_neg (show ¬ (false = true) by decide)] at H; exact H
                          clear H
                          have H := H1
                          clear H1
                          by_cases c36 : t146 = 3
                          · rw [if_pos c36] at H
                            have c36b0 : (t146 == 3) = true := beq_iff_eq.mpr c36
                            have c36b1 : (t146 != 3) = false := bne_eq_false_iff_eq.mpr c36
                            clear c36
                            have H' := Aside0.mk H
                            clear H
                            go_wp2
                            go_meet
                            case rel => exact ⟨_, (true), (by first | rfl | (simp; done) | (simp [*]; done)), H', ⟨by have := HK1.out; have := HJ13.out; have := HJ17.out; first | omega | exact Nat.le_refl _⟩, ⟨by (with_reducible repeat (first | apply Kd.R_alloc | apply Kd.R_drewN | apply Kd.R_drew)); exact Kd.R_mono HO_9.out (fun _ hk => hk.2)⟩, ⟨by (with_reducible repeat (first | apply Kd.R_alloc | apply Kd.R_drewN | apply Kd.R_drew)); exact HO155.out⟩, ⟨by repeat (first | (with_reducible first | exact HB.out | apply below_alloc | apply pw_below_drewN | apply below_drew1) | exact HB.out)⟩⟩
                          · rw [if_neg c36] at H
                            have c36b0 : (t146 == 3) = false := beq_eq_false_iff_ne.mpr c36
                            have c36b1 : (t146 != 3) = true := bne_iff_ne.mpr c36
                            have H' := Aside0.mk H
                            clear H
                            go_wp2
                            go_meet
                            case rel => exact ⟨_, ((t146 == 4)), (by first | rfl | (simp; done) | (simp [*]; done)), H', ⟨by have := HK1.out; have := HJ13.out; have := HJ17.out; first | omega | exact Nat.le_refl _⟩, ⟨by (with_reducible repeat (first | apply Kd.R_alloc | apply Kd.R_drewN | apply Kd.R_drew)); exact Kd.R_mono HO_9.out (fun _ hk => hk.2)⟩, ⟨by (with_reducible repeat (first | apply Kd.R_alloc | apply Kd.R_drewN | apply Kd.R_drew)); exact HO155.out⟩, ⟨by repeat (first | (with_reducible first | exact HB.out | apply below_alloc | apply pw_below_drewN | apply below_drew1) | exact HB.out)⟩⟩
                    case rest =>
                      clear HC26
                      try clear c1
                      try clear c2
                      try clear p2
                      try clear c3
                      try clear c6
                      try clear p6
                      try clear c8
                      try clear c8b0
                      try clear c9
                      try clear c12
                      try clear c15
                      try clear c16
                      try clear c19
                      try clear c20
                      try clear c22
                      try clear c24
                      try clear c25
                      try clear c32
                      try clear c33
                      try clear c34
                      try clear c34b0
                      try clear c34b1
                      try clear c35
                      try clear c35b0
                      try clear c35b1
                      try clear c36
                      try clear c36b0
                      try clear c36b1
                      try clear p2
                      try clear p6
                      obtain ⟨kq, x14_25, rfl, HA, HJ25, HO_9, HO_13, HB⟩ := hcut
                      cases kq with
                      | zero => exact absurd HA.out (by simp [porticolaw19_LifeWords.j3])
                      | succ kj25 =>
                        have H := HA.out
                        clear HA
                        simp only [porticolaw19_LifeWords.j3] at H
                        obtain ⟨y156, hy156⟩ : ∃ y_ : List (S23), y_ = (([(⟨t146, 3⟩ : S23)] : List (S23))) := ⟨_, rfl⟩
                        replace H : (if y156.length + x9_17.length < 8796093022208 then ((life_Right.f x9_17).bind fun t162 => (if t162 = true then ((life_Alive.f x9_17).bind fun t163 => (if (t163.length : Int) = x11_17 then ((life_Right.f y153).bind fun t166 => (if (t166 == x14_25) = true then ((life_Right.f (y156 ++ x9_17)).bind fun t167 => (if t167 = true then (none) else ((life_Of.f kj25 x9_17 3).bind fun t168 => (if (t168.length : Int) = (x9_17.length : Int) then ((porticolaw19_LifeRuns.f kj25).bind fun t171 => (some t171)) else (none))))) else (none))) else (none))) else (none))) else (none)) = some r := by first | (rw [hy156]; with_reducible exact H) | (have H2_ := (Option.bind_some _ _).symm.trans H; rw [hy156]; with_reducible exact H2_) | (have H2_ := (Option.bind_some _ _).symm.trans H; with_reducible exact H2_) | with_reducible exact H | (rw [hy156]; exact H) | exact H
                        have Ny156 := Aside0.mk hy156
                        clear hy156
                        by_cases c37 : y156.length + x9_17.length < 8796093022208
                        · rw [if_pos c37] at H
                          have LMc37 := Aside0.mk c37
                          clear c37
                          obtain ⟨y159, hy159⟩ : ∃ y_ : List (S23), y_ = (y156 ++ x9_17) := ⟨_, rfl⟩
                          replace H : ((life_Right.f x9_17).bind fun t162 => (if t162 = true then ((life_Alive.f x9_17).bind fun t163 => (if (t163.length : Int) = x11_17 then ((life_Right.f y153).bind fun t166 => (if (t166 == x14_25) = true then ((life_Right.f y159).bind fun t167 => (if t167 = true then (none) else ((life_Of.f kj25 x9_17 3).bind fun t168 => (if (t168.length : Int) = (x9_17.length : Int) then ((porticolaw19_LifeRuns.f kj25).bind fun t171 => (some t171)) else (none))))) else (none))) else (none))) else (none))) = some r := by first | (rw [hy159]; with_reducible exact H) | (have H2_ := (Option.bind_some _ _).symm.trans H; rw [hy159]; with_reducible exact H2_) | (have H2_ := (Option.bind_some _ _).symm.trans H; with_reducible exact H2_) | with_reducible exact H | (rw [hy159]; exact H) | exact H
                          have Ny159 := Aside0.mk hy159
                          clear hy159
                          replace H := Option.bind_eq_some_iff.mp H
                          obtain ⟨t162, A380, H⟩ := H
                          replace H : (if t162 = true then ((life_Alive.f x9_17).bind fun t163 => (if (t163.length : Int) = x11_17 then ((life_Right.f y153).bind fun t166 => (if (t166 == x14_25) = true then ((life_Right.f y159).bind fun t167 => (if t167 = true then (none) else ((life_Of.f kj25 x9_17 3).bind fun t168 => (if (t168.length : Int) = (x9_17.length : Int) then ((porticolaw19_LifeRuns.f kj25).bind fun t171 => (some t171)) else (none))))) else (none))) else (none))) else (none)) = some r := H
                          have A38 := Aside0.mk A380
                          clear A380
                          by_cases c39 : t162 = true
                          · subst c39
                            have H1 : ((life_Alive.f x9_17).bind fun t163 => (if (t163.length : Int) = x11_17 then ((life_Right.f y153).bind fun t166 => (if (t166 == x14_25) = true then ((life_Right.f y159).bind fun t167 => (if t167 = true then (none) else ((life_Of.f kj25 x9_17 3).bind fun t168 => (if (t168.length : Int) = (x9_17.length : Int) then ((porticolaw19_LifeRuns.f kj25).bind fun t171 => (some t171)) else (none))))) else (none))) else (none))) = some r := by rw [if_pos rfl] at H; exact H
                            clear H
                            have H := H1
                            clear H1
                            replace H := Option.bind_eq_some_iff.mp H
                            obtain ⟨t163, A400, H⟩ := H
                            replace H : (if (t163.length : Int) = x11_17 then ((life_Right.f y153).bind fun t166 => (if (t166 == x14_25) = true then ((life_Right.f y159).bind fun t167 => (if t167 = true then (none) else ((life_Of.f kj25 x9_17 3).bind fun t168 => (if (t168.length : Int) = (x9_17.length : Int) then ((porticolaw19_LifeRuns.f kj25).bind fun t171 => (some t171)) else (none))))) else (none))) else (none)) = some r := H
                            have A40 := Aside0.mk A400
                            clear A400
                            by_cases c41 : (t163.length : Int) = x11_17
                            · rw [if_pos c41] at H
                              have c41b0 : ((t163.length : Int) == x11_17) = true := beq_iff_eq.mpr c41
                              have c41b1 : ((t163.length : Int) != x11_17) = false := bne_eq_false_iff_eq.mpr c41
                              clear c41
                              replace H := Option.bind_eq_some_iff.mp H
                              obtain ⟨t166, A420, H⟩ := H
                              replace H : (if (t166 == x14_25) = true then ((life_Right.f y159).bind fun t167 => (if t167 = true then (none) else ((life_Of.f kj25 x9_17 3).bind fun t168 => (if (t168.length : Int) = (x9_17.length : Int) then ((porticolaw19_LifeRuns.f kj25).bind fun t171 => (some t171)) else (none))))) else (none)) = some r := H
                              have A42 := Aside0.mk A420
                              clear A420
                              by_cases c43 : (t166 == x14_25) = true
                              · rw [if_pos c43] at H
                                have c43b0 : (t166 == x14_25) = true := c43
                                (try (have c43b1 : decide (t166 = x14_25) = true := by simpa using c43))
                                (try (have c43b2 : (t166 == x14_25) = true := by simpa using c43))
                                clear c43
                                replace H := Option.bind_eq_some_iff.mp H
                                obtain ⟨t167, A440, H⟩ := H
                                replace H : (if t167 = true then (none) else ((life_Of.f kj25 x9_17 3).bind fun t168 => (if (t168.length : Int) = (x9_17.length : Int) then ((porticolaw19_LifeRuns.f kj25).bind fun t171 => (some t171)) else (none)))) = some r := H
                                have A44 := Aside0.mk A440
                                clear A440
                                by_cases c45 : t167 = true
                                · subst c45
                                  have H1 : (none) = some r := by rw [if_pos rfl] at H; exact H
                                  clear H
                                  have H := H1
                                  clear H1
                                  exact absurd H (by simp)
                                · replace c45 := Bool.eq_false_iff.mpr c45
                                  subst c45
                                  have H1 : ((life_Of.f kj25 x9_17 3).bind fun t168 => (if (t168.length : Int) = (x9_17.length : Int) then ((porticolaw19_LifeRuns.f kj25).bind fun t171 => (some t171)) else (none))) = some r := by rw [if_neg (show ¬ (false = true) by decide)] at H; exact H
                                  clear H
                                  have H := H1
                                  clear H1
                                  replace H := Option.bind_eq_some_iff.mp H
                                  obtain ⟨t168, A460, H⟩ := H
                                  replace H : (if (t168.length : Int) = (x9_17.length : Int) then ((porticolaw19_LifeRuns.f kj25).bind fun t171 => (some t171)) else (none)) = some r := H
                                  have A46 := Aside0.mk A460
                                  clear A460
                                  by_cases c47 : (t168.length : Int) = (x9_17.length : Int)
                                  · rw [if_pos c47] at H
                                    have c47b0 : ((t168.length : Int) == (x9_17.length : Int)) = true := beq_iff_eq.mpr c47
                                    have c47b1 : ((t168.length : Int) != (x9_17.length : Int)) = false := bne_eq_false_iff_eq.mpr c47
                                    have c47b2 : (t168.length == x9_17.length) = true := by first | simpa using c47 | (simp at c47 ⊢; omega)
                                    clear c47
                                    replace H := Option.bind_eq_some_iff.mp H
                                    obtain ⟨t171, A480, H⟩ := H
                                    replace H : (some t171) = some r := H
                                    have A48 := Aside0.mk A480
                                    clear A480
                                    obtain rfl := Option.some.inj H
                                    go_wp2_with (first | ((with_reducible refine gate_dst (N := 77) rfl ?_); (try (refine gate_guard (by rfl) ?_; dsimp only)); refine Kd.R_lit k23 _ 23 ?hg (N := 77) ?hd (xs := ([(⟨t146, 3⟩ : S23)] : List (S23))) (inner := [.int .i64 t146, .int .i64 3]) (ok := fun _ => True) (okp := fun _ => True) ?hr ?hp (fun _ hk => hk) trivial (Below.refl _ _) (Nat.le_refl _) (by simp) ?_; (case hd => rfl); (case hg => rfl); (case hr => first | (go_simp; done) | (go_simp; rfl)); (case hp => exact (Reps.c2 (show Kd.M k23 _ _ _ (⟨t146, 3⟩ : S23) [.int .i64 t146, .int .i64 3] from (k23_mkM _ _ _ (⟨t146, 3⟩ : S23) )) (Reps.none _ _))); intro v157 w49 ho50 hb hg_ hnew_; clear hg_ hnew_; (first | rw [← Ny156.out] at ho50 | (simp only [Int.reduceToNat] at ho50; rw [← Ny156.out] at ho50)); have n0_ := Aside0.mk (Kd.R_elder' (by (with_reducible repeat (first | apply Kd.R_alloc | apply Kd.R_drewN | apply Kd.R_drew)); exact HO_9.out) (Kd.R_base ho50) hb); have n1_ := Aside0.mk (Kd.R_elder' (by (with_reducible repeat (first | apply Kd.R_alloc | apply Kd.R_drewN | apply Kd.R_drew)); exact HO_13.out) (Kd.R_base ho50) hb); have n2_ := Aside0.mk (Kd.R_lower (Kd.R_new' (Kd.R_new' ho50 (Kd.R_lt (by (with_reducible repeat (first | apply Kd.R_alloc | apply Kd.R_drewN | apply Kd.R_drew)); exact HO_9.out))) (Kd.R_lt (by (with_reducible repeat (first | apply Kd.R_alloc | apply Kd.R_drewN | apply Kd.R_drew)); exact HO_13.out))) (below_size (by repeat (first | (with_reducible first | exact HB.out | apply below_alloc | apply pw_below_drewN | apply below_drew1) | exact HB.out)))); have n3_ := Aside0.mk (below_step (by repeat (first | (with_reducible first | exact HB.out | apply below_alloc | apply pw_below_drewN | apply below_drew1) | exact HB.out)) hb); clear HO_9; clear HO_13; clear HB; have HO_9 := n0_; have HO_13 := n1_; have HO158 := n2_; have HB := n3_; clear n0_ n1_ n2_ n3_; clear hb ho50) | ((with_reducible refine gate_builtin (b := .append) (xs := #[.tmp 77, .tmp 78]) rfl ?_); (try (refine gate_guard (by rfl) ?_; dsimp only)); at_builtin; refine Kd.R_append_rows k23 (w0 := w) w.heap.size rfl (.tmp 77) (.tmp 78) 24 23 (.agg #[(.int .i64 0), (.int .i64 0)]) 16 rfl Try.underlying24 info23 rfl (by decide) (by omega) v157 y156 x9_17 _ _ _ (fun k_ => some k_ ≠ (.slice Ao30 x9_17.length co30 : Value).ownBlock ∧ some k_ ≠ (v154 : Value).ownBlock) (fun _ => False) rfl rfl ?aO ?aR (fun _ _ h => h) (fun _ h => h.elim) ?aF ?aB ?aS ?aL ?_; (case aR => repeat (first | exact (Kd.R_reads' HO_9.out).2.2 | (with_reducible refine Kd.C_alloc ?_ _) | (with_reducible refine Kd.C_drewN ?_ _) | (with_reducible refine Kd.C_drew ?_))); (case aB => exact (by repeat (first | (with_reducible first | exact HB.out | apply below_alloc | apply pw_below_drewN | apply below_drew1) | exact HB.out))); (case aF => exact (fun k_ hk => ⟨Kd.fresh' (Kd.R_lt (by (with_reducible repeat (first | apply Kd.R_alloc | apply Kd.R_drewN | apply Kd.R_drew)); exact HO_9.out)) k_ hk, Kd.fresh' (Kd.R_lt (by (with_reducible repeat (first | apply Kd.R_alloc | apply Kd.R_drewN | apply Kd.R_drew)); exact HO_13.out)) k_ hk⟩)); (case aO => exact (by (with_reducible repeat (first | apply Kd.R_alloc | apply Kd.R_drewN | apply Kd.R_drew)); exact Kd.R_mono HO158.out (fun _ hk => by first | exact ⟨hk.1.2, hk.2⟩ | simp_all))); (case aS => exact (below_size (by repeat (first | (with_reducible first | exact HB.out | apply below_alloc | apply pw_below_drewN | apply below_drew1) | exact HB.out)))); (case aL => have := LMc37.out; omega); intro v160 w51 ho hb hg hat; rw [← Ny159.out] at ho; have n0_ := Aside0.mk (Kd.R_after (ok := (fun k_ => some k_ ≠ (v154 : Value).ownBlock)) (by (with_reducible repeat (first | apply Kd.R_alloc | apply Kd.R_drewN | apply Kd.R_drew)); exact HO_9.out) hg hat); have n1_ := Aside0.mk (Kd.R_after (ok := (fun k_ => some k_ ≠ (.slice Ao30 x9_17.length co30 : Value).ownBlock)) (by (with_reducible repeat (first | apply Kd.R_alloc | apply Kd.R_drewN | apply Kd.R_drew)); exact HO_13.out) hg hat); have n2_ := Aside0.mk (hb); have n3_ := Aside0.mk (ho); clear HO_9; clear HO_13; clear HB; clear HO158; have HO_9 := n0_; have HO_13 := n1_; have HB := n2_; have HO161 := n3_; clear n0_ n1_ n2_ n3_; clear ho hb hg hat) | ((with_reducible refine gate_callee (f := 8) rfl ?_); refine goesL_ (some 81) rfl rfl Try.func8 (by kernel_rfl) rfl #[.slice Ao30 x9_17.length co30] rfl (by (try simp only [List.map_toArray, List.map_cons, List.map_nil]); first | done | rfl | (simp only [List.length_drop, List.length_take]; rfl)) ?_; (with_reducible refine (life_Right.calls _ _ x9_17 true _ ?side1 ?side2 A38.out).mono ?_); (case side1 => repeat (first | exact (Kd.R_reads' HO_9.out).2.2 | (with_reducible refine Kd.C_alloc ?_ _) | (with_reducible refine Kd.C_drewN ?_ _) | (with_reducible refine Kd.C_drew ?_))); (case side2 => exact (Kd.R_reads' HO_9.out).2.1); rintro e w52 ⟨rfl, hb⟩; refine ⟨_, rfl, ?_⟩; have n0_ := Aside0.mk (Kd.R_below (by (with_reducible repeat (first | apply Kd.R_alloc | apply Kd.R_drewN | apply Kd.R_drew)); exact HO_9.out) hb); have n1_ := Aside0.mk (Kd.R_below (by (with_reducible repeat (first | apply Kd.R_alloc | apply Kd.R_drewN | apply Kd.R_drew)); exact HO_13.out) hb); have n2_ := Aside0.mk (Kd.R_below (by (with_reducible repeat (first | apply Kd.R_alloc | apply Kd.R_drewN | apply Kd.R_drew)); exact HO161.out) hb); have n3_ := Aside0.mk (below_step (by repeat (first | (with_reducible first | exact HB.out | apply below_alloc | apply pw_below_drewN | apply below_drew1) | exact HB.out)) hb); clear HO_9; clear HO_13; clear HO161; clear HB; have HO_9 := n0_; have HO_13 := n1_; have HO161 := n2_; have HB := n3_; clear n0_ n1_ n2_ n3_; (try clear hb); (try clear hb2); (try clear hk); (try clear hi)) | (go_at_call 10; (with_reducible refine (life_Alive.calls _ _ x9_17 t163 _ ?side1 ?side2 A40.out).mono ?_); (case side1 => repeat (first | exact (Kd.R_reads' HO_9.out).2.2 | (with_reducible refine Kd.C_alloc ?_ _) | (with_reducible refine Kd.C_drewN ?_ _) | (with_reducible refine Kd.C_drew ?_))); (case side2 => exact (Kd.R_reads' HO_9.out).2.1); rintro e w53 ⟨v164, rfl, ho0, hb⟩; have n0_ := Aside0.mk (Kd.R_below (by (with_reducible repeat (first | apply Kd.R_alloc | apply Kd.R_drewN | apply Kd.R_drew)); exact HO_9.out) hb); have n1_ := Aside0.mk (Kd.R_below (by (with_reducible repeat (first | apply Kd.R_alloc | apply Kd.R_drewN | apply Kd.R_drew)); exact HO_13.out) hb); have n2_ := Aside0.mk (Kd.R_below (by (with_reducible repeat (first | apply Kd.R_alloc | apply Kd.R_drewN | apply Kd.R_drew)); exact HO161.out) hb); have n3_ := Aside0.mk (Kd.R_lower ho0 (below_size (by repeat (first | (with_reducible first | exact HB.out | apply below_alloc | apply pw_below_drewN | apply below_drew1) | exact HB.out)))); have n4_ := Aside0.mk (below_step (by repeat (first | (with_reducible first | exact HB.out | apply below_alloc | apply pw_below_drewN | apply below_drew1) | exact HB.out)) hb); clear HO_9; clear HO_13; clear HO161; clear HB; have HO_9 := n0_; have HO_13 := n1_; have HO161 := n2_; have HO165 := n3_; have HB := n4_; clear n0_ n1_ n2_ n3_ n4_; (try clear hb); (try clear hb2); (try clear hk); (try clear hi); (try clear ho0); obtain ⟨Ao54, co54, eo54⟩ := Kd.R_slice HO165.out; subst eo54; obtain ⟨Ao55, co55, eo55⟩ := Kd.R_slice HO_13.out; subst eo55) | (go_at_call 8; (with_reducible refine (life_Right.calls _ _ y153 t166 _ ?side1 ?side2 A42.out).mono ?_); (case side1 => repeat (first | exact (Kd.R_reads' HO_13.out).2.2 | (with_reducible refine Kd.C_alloc ?_ _) | (with_reducible refine Kd.C_drewN ?_ _) | (with_reducible refine Kd.C_drew ?_))); (case side2 => exact (Kd.R_reads' HO_13.out).2.1); rintro e w56 ⟨rfl, hb⟩; have n0_ := Aside0.mk (Kd.R_below (by (with_reducible repeat (first | apply Kd.R_alloc | apply Kd.R_drewN | apply Kd.R_drew)); exact HO_9.out) hb); have n1_ := Aside0.mk (Kd.R_below (by (with_reducible repeat (first | apply Kd.R_alloc | apply Kd.R_drewN | apply Kd.R_drew)); exact HO_13.out) hb); have n2_ := Aside0.mk (Kd.R_below (by (with_reducible repeat (first | apply Kd.R_alloc | apply Kd.R_drewN | apply Kd.R_drew)); exact HO161.out) hb); have n3_ := Aside0.mk (Kd.R_below (by (with_reducible repeat (first | apply Kd.R_alloc | apply Kd.R_drewN | apply Kd.R_drew)); exact HO165.out) hb); have n4_ := Aside0.mk (below_step (by repeat (first | (with_reducible first | exact HB.out | apply below_alloc | apply pw_below_drewN | apply below_drew1) | exact HB.out)) hb); clear HO_9; clear HO_13; clear HO161; clear HO165; clear HB; have HO_9 := n0_; have HO_13 := n1_; have HO161 := n2_; have HO165 := n3_; have HB := n4_; clear n0_ n1_ n2_ n3_ n4_; (try clear hb); (try clear hb2); (try clear hk); (try clear hi); obtain ⟨Ao57, co57, eo57⟩ := Kd.R_slice HO161.out; subst eo57) | (go_at_call 8; (with_reducible refine (life_Right.calls _ _ y159 false _ ?side1 ?side2 A44.out).mono ?_); (case side1 => repeat (first | exact (Kd.R_reads' HO161.out).2.2 | (with_reducible refine Kd.C_alloc ?_ _) | (with_reducible refine Kd.C_drewN ?_ _) | (with_reducible refine Kd.C_drew ?_))); (case side2 => exact (Kd.R_reads' HO161.out).2.1); rintro e w58 ⟨rfl, hb⟩; have n0_ := Aside0.mk (Kd.R_below (by (with_reducible repeat (first | apply Kd.R_alloc | apply Kd.R_drewN | apply Kd.R_drew)); exact HO_9.out) hb); have n1_ := Aside0.mk (Kd.R_below (by (with_reducible repeat (first | apply Kd.R_alloc | apply Kd.R_drewN | apply Kd.R_drew)); exact HO_13.out) hb); have n2_ := Aside0.mk (Kd.R_below (by (with_reducible repeat (first | apply Kd.R_alloc | apply Kd.R_drewN | apply Kd.R_drew)); exact HO161.out) hb); have n3_ := Aside0.mk (Kd.R_below (by (with_reducible repeat (first | apply Kd.R_alloc | apply Kd.R_drewN | apply Kd.R_drew)); exact HO165.out) hb); have n4_ := Aside0.mk (below_step (by repeat (first | (with_reducible first | exact HB.out | apply below_alloc | apply pw_below_drewN | apply below_drew1) | exact HB.out)) hb); clear HO_9; clear HO_13; clear HO161; clear HO165; clear HB; have HO_9 := n0_; have HO_13 := n1_; have HO161 := n2_; have HO165 := n3_; have HB := n4_; clear n0_ n1_ n2_ n3_ n4_; (try clear hb); (try clear hb2); (try clear hk); (try clear hi)) | (go_at_call 11; (with_reducible refine (life_Of.calls kj25 _ _ x9_17 3 t168 _ ?side1 ?side2 A46.out).mono ?_); (case side1 => repeat (first | exact (Kd.R_reads' HO_9.out).2.2 | (with_reducible refine Kd.C_alloc ?_ _) | (with_reducible refine Kd.C_drewN ?_ _) | (with_reducible refine Kd.C_drew ?_))); (case side2 => exact (Kd.R_reads' HO_9.out).2.1); rintro e w59 ⟨v169, rfl, ho0, hb⟩; have n0_ := Aside0.mk (Kd.R_below (by (with_reducible repeat (first | apply Kd.R_alloc | apply Kd.R_drewN | apply Kd.R_drew)); exact HO_9.out) hb); have n1_ := Aside0.mk (Kd.R_below (by (with_reducible repeat (first | apply Kd.R_alloc | apply Kd.R_drewN | apply Kd.R_drew)); exact HO_13.out) hb); have n2_ := Aside0.mk (Kd.R_below (by (with_reducible repeat (first | apply Kd.R_alloc | apply Kd.R_drewN | apply Kd.R_drew)); exact HO161.out) hb); have n3_ := Aside0.mk (Kd.R_elder' (by (with_reducible repeat (first | apply Kd.R_alloc | apply Kd.R_drewN | apply Kd.R_drew)); exact HO165.out) (Kd.R_base ho0) hb); have n4_ := Aside0.mk (Kd.R_lower (Kd.R_new' ho0 (Kd.R_lt (by (with_reducible repeat (first | apply Kd.R_alloc | apply Kd.R_drewN | apply Kd.R_drew)); exact HO165.out))) (below_size (by repeat (first | (with_reducible first | exact HB.out | apply below_alloc | apply pw_below_drewN | apply below_drew1) | exact HB.out)))); have n5_ := Aside0.mk (below_step (by repeat (first | (with_reducible first | exact HB.out | apply below_alloc | apply pw_below_drewN | apply below_drew1) | exact HB.out)) hb); clear HO_9; clear HO_13; clear HO161; clear HO165; clear HB; have HO_9 := n0_; have HO_13 := n1_; have HO161 := n2_; have HO165 := n3_; have HO170 := n4_; have HB := n5_; clear n0_ n1_ n2_ n3_ n4_ n5_; (try clear hb); (try clear hb2); (try clear hk); (try clear hi); (try clear ho0); obtain ⟨Ao60, co60, eo60⟩ := Kd.R_slice HO170.out; subst eo60) | (go_at_call 3; (with_reducible refine (porticolaw19_LifeRuns.calls kj25  t171 _ A48.out).mono ?_); rintro e w61 ⟨rfl, hb⟩; have n0_ := Aside0.mk (Kd.R_below (by (with_reducible repeat (first | apply Kd.R_alloc | apply Kd.R_drewN | apply Kd.R_drew)); exact HO_9.out) hb); have n1_ := Aside0.mk (Kd.R_below (by (with_reducible repeat (first | apply Kd.R_alloc | apply Kd.R_drewN | apply Kd.R_drew)); exact HO_13.out) hb); have n2_ := Aside0.mk (Kd.R_below (by (with_reducible repeat (first | apply Kd.R_alloc | apply Kd.R_drewN | apply Kd.R_drew)); exact HO161.out) hb); have n3_ := Aside0.mk (Kd.R_below (by (with_reducible repeat (first | apply Kd.R_alloc | apply Kd.R_drewN | apply Kd.R_drew)); exact HO165.out) hb); have n4_ := Aside0.mk (Kd.R_below (by (with_reducible repeat (first | apply Kd.R_alloc | apply Kd.R_drewN | apply Kd.R_drew)); exact HO170.out) hb); have n5_ := Aside0.mk (below_step (by repeat (first | (with_reducible first | exact HB.out | apply below_alloc | apply pw_below_drewN | apply below_drew1) | exact HB.out)) hb); clear HO_9; clear HO_13; clear HO161; clear HO165; clear HO170; clear HB; have HO_9 := n0_; have HO_13 := n1_; have HO161 := n2_; have HO165 := n3_; have HO170 := n4_; have HB := n5_; clear n0_ n1_ n2_ n3_ n4_ n5_; (try clear hb); (try clear hb2); (try clear hk); (try clear hi)))
                                    go_ret
                                    exact ⟨by first | rfl | (simp [errW_none, errW_some] <;> rfl) | (simp [*, errW_none, errW_some] <;> rfl), by repeat (first | (with_reducible first | exact HB.out | apply below_alloc | apply pw_below_drewN | apply below_drew1) | exact HB.out)⟩
                                  · rw [if_neg c47] at H
                                    exact absurd H (by simp)
                              · rw [if_neg c43] at H
                                exact absurd H (by simp)
                            · rw [if_neg c41] at H
                              exact absurd H (by simp)
                          · replace c39 := Bool.eq_false_iff.mpr c39
                            subst c39
                            have H1 : (none) = some r := by rw [if_neg (show ¬ (false = true) by decide)] at H; exact H
                            clear H
                            have H := H1
                            clear H1
                            exact absurd H (by simp)
                        · rw [if_neg c37] at H
                          exact absurd H (by simp)
                  · rw [if_neg c25] at H
                    exact absurd H (by simp)
                · rw [if_neg c24] at H
                  exact absurd H (by simp)

/-- THE ONE PURE STATEMENT of porticolaw19_LifeWords: yours. -/
def porticolaw19_LifeWords.Pure : Prop := ∀ (a0 : Int) (a1 : Bool) (a2 : Bool) (a3 : Int), (Lit.int .i64 a0).wf = true → (Lit.int .i64 a3).wf = true → ∃ k, porticolaw19_LifeWords.f k a0 a1 a2 a3 = some true
theorem porticolaw19_LifeWords.walk (P : porticolaw19_LifeWords.Pure) (a0 : Int) (a1 : Bool) (a2 : Bool) (a3 : Int) (w : World) (w0 : (Lit.int .i64 a0).wf = true) (w3 : (Lit.int .i64 a3).wf = true) :
    Calls Try.prog 6 #[.int .i64 a0, .bool a1, .bool a2, .int .i64 a3] w fun e w' => e = .returned (.bool true) ∧ Below w.heap.size w w' := by
  obtain ⟨k, h⟩ := P a0 a1 a2 a3 w0 w3
  refine (porticolaw19_LifeWords.calls k a0 a1 a2 a3 true w h).mono ?_
  rintro e w' ⟨rfl, hd⟩
  exact ⟨rfl, hd⟩

end Go.Proofs.Ytnpmmmgaghhndaa.PLifeWords
