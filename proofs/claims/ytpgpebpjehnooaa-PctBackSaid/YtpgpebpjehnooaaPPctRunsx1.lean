-- Printed by a program of this session's own (wip/tools: a turned copy of the kit's print).
import Derived.Test.YtpgpebpjehnooaaPPctRunsx0
namespace Go.Proofs.Ytpgpebpjehnooaa.PPctRuns
open Go.Proofs.Ytpgpebpjehnooaa.Given
open Go.RowKit Go.Proofs.YtpgpebpjehnooaaW.PrintWords Go.Proofs.YtpgpebpjehnooaaW.PrintLast Go.Proofs.YtpgpebpjehnooaaW.PrintMore
attribute [local go_sem] max2_int min2_int max_two min_two max_three min_three max_four min_four   -- for this text's walks alone
set_option linter.unusedVariables false
set_option linter.unusedSimpArgs false

/-! ### porticolaw3_PctRuns: function 3 -/
def porticolaw3_PctRuns.f  : Option (Bool) := (pct_Decode.f (⟨#[37, 50, 102]⟩ : ByteArray)).bind fun bt101 => ((pct_Decode.f (⟨#[37, 52]⟩ : ByteArray)).bind fun bt103 => ((pct_Decode.f (⟨#[97, 32, 98]⟩ : ByteArray)).bind fun bt105 => ((pct_Decode.f (⟨#[37, 52, 49]⟩ : ByteArray)).bind fun bt107 => ((pct_Encode.f (⟨#[97, 32, 98, 47]⟩ : ByteArray)).bind fun t109 => (if t109.toList = ([97, 37, 50, 48, 98, 37, 50, 70] : List UInt8) then (if bt101.1.toList = ([47] : List UInt8) then (if bt101.2 = true then (if bt103.2 = true then (none) else (if bt105.2 = true then (none) else (if bt107.1.toList = ([65] : List UInt8) then (some bt107.2) else (none)))) else (none)) else (none)) else (none))))))
set_option maxHeartbeats 8000000 in
set_option maxRecDepth 100000 in
theorem porticolaw3_PctRuns.calls  (r : Bool) (w : World) (h : porticolaw3_PctRuns.f  = some r) :
    Calls Try.prog 3 #[] w fun e w' => e = .returned (.bool r) ∧ Below w.heap.size w w' := by
  have HB := Aside0.mk (Below.refl w.heap.size w)
  have H : ((pct_Decode.f (⟨#[37, 50, 102]⟩ : ByteArray)).bind fun bt101 => ((pct_Decode.f (⟨#[37, 52]⟩ : ByteArray)).bind fun bt103 => ((pct_Decode.f (⟨#[97, 32, 98]⟩ : ByteArray)).bind fun bt105 => ((pct_Decode.f (⟨#[37, 52, 49]⟩ : ByteArray)).bind fun bt107 => ((pct_Encode.f (⟨#[97, 32, 98, 47]⟩ : ByteArray)).bind fun t109 => (if t109.toList = ([97, 37, 50, 48, 98, 37, 50, 70] : List UInt8) then (if bt101.1.toList = ([47] : List UInt8) then (if bt101.2 = true then (if bt103.2 = true then (none) else (if bt105.2 = true then (none) else (if bt107.1.toList = ([65] : List UInt8) then (some bt107.2) else (none)))) else (none)) else (none)) else (none))))))) = some r := h
  clear h
  replace H := Option.bind_eq_some_iff.mp H
  obtain ⟨⟨t101, t102⟩, A10, H⟩ := H
  replace H : ((pct_Decode.f (⟨#[37, 52]⟩ : ByteArray)).bind fun bt103 => ((pct_Decode.f (⟨#[97, 32, 98]⟩ : ByteArray)).bind fun bt105 => ((pct_Decode.f (⟨#[37, 52, 49]⟩ : ByteArray)).bind fun bt107 => ((pct_Encode.f (⟨#[97, 32, 98, 47]⟩ : ByteArray)).bind fun t109 => (if t109.toList = ([97, 37, 50, 48, 98, 37, 50, 70] : List UInt8) then (if t101.toList = ([47] : List UInt8) then (if t102 = true then (if bt103.2 = true then (none) else (if bt105.2 = true then (none) else (if bt107.1.toList = ([65] : List UInt8) then (some bt107.2) else (none)))) else (none)) else (none)) else (none)))))) = some r := H
  have A1 := Aside0.mk A10
  clear A10
  replace H := Option.bind_eq_some_iff.mp H
  obtain ⟨⟨t103, t104⟩, A20, H⟩ := H
  replace H : ((pct_Decode.f (⟨#[97, 32, 98]⟩ : ByteArray)).bind fun bt105 => ((pct_Decode.f (⟨#[37, 52, 49]⟩ : ByteArray)).bind fun bt107 => ((pct_Encode.f (⟨#[97, 32, 98, 47]⟩ : ByteArray)).bind fun t109 => (if t109.toList = ([97, 37, 50, 48, 98, 37, 50, 70] : List UInt8) then (if t101.toList = ([47] : List UInt8) then (if t102 = true then (if t104 = true then (none) else (if bt105.2 = true then (none) else (if bt107.1.toList = ([65] : List UInt8) then (some bt107.2) else (none)))) else (none)) else (none)) else (none))))) = some r := H
  have A2 := Aside0.mk A20
  clear A20
  replace H := Option.bind_eq_some_iff.mp H
  obtain ⟨⟨t105, t106⟩, A30, H⟩ := H
  replace H : ((pct_Decode.f (⟨#[37, 52, 49]⟩ : ByteArray)).bind fun bt107 => ((pct_Encode.f (⟨#[97, 32, 98, 47]⟩ : ByteArray)).bind fun t109 => (if t109.toList = ([97, 37, 50, 48, 98, 37, 50, 70] : List UInt8) then (if t101.toList = ([47] : List UInt8) then (if t102 = true then (if t104 = true then (none) else (if t106 = true then (none) else (if bt107.1.toList = ([65] : List UInt8) then (some bt107.2) else (none)))) else (none)) else (none)) else (none)))) = some r := H
  have A3 := Aside0.mk A30
  clear A30
  replace H := Option.bind_eq_some_iff.mp H
  obtain ⟨⟨t107, t108⟩, A40, H⟩ := H
  replace H : ((pct_Encode.f (⟨#[97, 32, 98, 47]⟩ : ByteArray)).bind fun t109 => (if t109.toList = ([97, 37, 50, 48, 98, 37, 50, 70] : List UInt8) then (if t101.toList = ([47] : List UInt8) then (if t102 = true then (if t104 = true then (none) else (if t106 = true then (none) else (if t107.toList = ([65] : List UInt8) then (some t108) else (none)))) else (none)) else (none)) else (none))) = some r := H
  have A4 := Aside0.mk A40
  clear A40
  replace H := Option.bind_eq_some_iff.mp H
  obtain ⟨t109, A50, H⟩ := H
  replace H : (if t109.toList = ([97, 37, 50, 48, 98, 37, 50, 70] : List UInt8) then (if t101.toList = ([47] : List UInt8) then (if t102 = true then (if t104 = true then (none) else (if t106 = true then (none) else (if t107.toList = ([65] : List UInt8) then (some t108) else (none)))) else (none)) else (none)) else (none)) = some r := H
  have A5 := Aside0.mk A50
  clear A50
  by_cases c6 : t109.toList = ([97, 37, 50, 48, 98, 37, 50, 70] : List UInt8)
  · rw [if_pos c6] at H
    have c6b0 : (t109.toList == ([97, 37, 50, 48, 98, 37, 50, 70] : List UInt8)) = true := beq_iff_eq.mpr c6
    have c6b1 : (t109.toList != ([97, 37, 50, 48, 98, 37, 50, 70] : List UInt8)) = false := bne_eq_false_iff_eq.mpr c6
    clear c6
    by_cases c7 : t101.toList = ([47] : List UInt8)
    · rw [if_pos c7] at H
      have c7b0 : (t101.toList == ([47] : List UInt8)) = true := beq_iff_eq.mpr c7
      have c7b1 : (t101.toList != ([47] : List UInt8)) = false := bne_eq_false_iff_eq.mpr c7
      clear c7
      by_cases c8 : t102 = true
      · subst c8
        have H1 : (if t104 = true then (none) else (if t106 = true then (none) else (if t107.toList = ([65] : List UInt8) then (some t108) else (none)))) = some r := by rw [if_pos rfl] at H; exact H
        clear H
        have H := H1
        clear H1
        by_cases c9 : t104 = true
        · subst c9
          have H1 : (none) = some r := by rw [if_pos rfl] at H; exact H
          clear H
          have H := H1
          clear H1
          exact absurd H (by simp)
        · replace c9 := Bool.eq_false_iff.mpr c9
          subst c9
          have H1 : (if t106 = true then (none) else (if t107.toList = ([65] : List UInt8) then (some t108) else (none))) = some r := by rw [if_neg (show ¬ (false = true) by decide)] at H; exact H
          clear H
          have H := H1
          clear H1
          by_cases c10 : t106 = true
          · subst c10
            have H1 : (none) = some r := by rw [if_pos rfl] at H; exact H
            clear H
            have H := H1
            clear H1
            exact absurd H (by simp)
          · replace c10 := Bool.eq_false_iff.mpr c10
            subst c10
            have H1 : (if t107.toList = ([65] : List UInt8) then (some t108) else (none)) = some r := by rw [if_neg (show ¬ (false = true) by decide)] at H; exact H
            clear H
            have H := H1
            clear H1
            by_cases c11 : t107.toList = ([65] : List UInt8)
            · rw [if_pos c11] at H
              have c11b0 : (t107.toList == ([65] : List UInt8)) = true := beq_iff_eq.mpr c11
              have c11b1 : (t107.toList != ([65] : List UInt8)) = false := bne_eq_false_iff_eq.mpr c11
              clear c11
              obtain rfl := Option.some.inj H
              go_enter Try.func3, Try.ntmps3
              go_wp2_with (first | ((with_reducible refine gate_callee (f := 6) rfl ?_); refine goesL_ (some 10) rfl rfl Try.func6 (by kernel_rfl) rfl #[.string (⟨#[37, 50, 102]⟩ : ByteArray)] rfl (by (try simp only [List.map_toArray, List.map_cons, List.map_nil]); first | done | rfl | (simp only [List.length_drop, List.length_take]; rfl)) ?_; (with_reducible refine (pct_Decode.calls (⟨#[37, 50, 102]⟩ : ByteArray) t101 true _ A1.out).mono ?_); rintro e w12 ⟨rfl, hb⟩; refine ⟨_, rfl, ?_⟩; have n0_ := Aside0.mk (below_step (by repeat (first | (with_reducible first | exact HB.out | apply below_alloc | apply pw_below_drewN | apply below_drew1) | exact HB.out)) hb); clear HB; have HB := n0_; clear n0_; (try clear hb); (try clear hb2); (try clear hk); (try clear hi)) | ((with_reducible refine gate_callee (f := 6) rfl ?_); refine goesL_ (some 14) rfl rfl Try.func6 (by kernel_rfl) rfl #[.string (⟨#[37, 52]⟩ : ByteArray)] rfl (by (try simp only [List.map_toArray, List.map_cons, List.map_nil]); first | done | rfl | (simp only [List.length_drop, List.length_take]; rfl)) ?_; (with_reducible refine (pct_Decode.calls (⟨#[37, 52]⟩ : ByteArray) t103 false _ A2.out).mono ?_); rintro e w13 ⟨rfl, hb⟩; refine ⟨_, rfl, ?_⟩; have n0_ := Aside0.mk (below_step (by repeat (first | (with_reducible first | exact HB.out | apply below_alloc | apply pw_below_drewN | apply below_drew1) | exact HB.out)) hb); clear HB; have HB := n0_; clear n0_; (try clear hb); (try clear hb2); (try clear hk); (try clear hi)) | ((with_reducible refine gate_callee (f := 6) rfl ?_); refine goesL_ (some 18) rfl rfl Try.func6 (by kernel_rfl) rfl #[.string (⟨#[97, 32, 98]⟩ : ByteArray)] rfl (by (try simp only [List.map_toArray, List.map_cons, List.map_nil]); first | done | rfl | (simp only [List.length_drop, List.length_take]; rfl)) ?_; (with_reducible refine (pct_Decode.calls (⟨#[97, 32, 98]⟩ : ByteArray) t105 false _ A3.out).mono ?_); rintro e w14 ⟨rfl, hb⟩; refine ⟨_, rfl, ?_⟩; have n0_ := Aside0.mk (below_step (by repeat (first | (with_reducible first | exact HB.out | apply below_alloc | apply pw_below_drewN | apply below_drew1) | exact HB.out)) hb); clear HB; have HB := n0_; clear n0_; (try clear hb); (try clear hb2); (try clear hk); (try clear hi)) | ((with_reducible refine gate_callee (f := 6) rfl ?_); refine goesL_ (some 22) rfl rfl Try.func6 (by kernel_rfl) rfl #[.string (⟨#[37, 52, 49]⟩ : ByteArray)] rfl (by (try simp only [List.map_toArray, List.map_cons, List.map_nil]); first | done | rfl | (simp only [List.length_drop, List.length_take]; rfl)) ?_; (with_reducible refine (pct_Decode.calls (⟨#[37, 52, 49]⟩ : ByteArray) t107 t108 _ A4.out).mono ?_); rintro e w15 ⟨rfl, hb⟩; refine ⟨_, rfl, ?_⟩; have n0_ := Aside0.mk (below_step (by repeat (first | (with_reducible first | exact HB.out | apply below_alloc | apply pw_below_drewN | apply below_drew1) | exact HB.out)) hb); clear HB; have HB := n0_; clear n0_; (try clear hb); (try clear hb2); (try clear hk); (try clear hi)) | ((with_reducible refine gate_callee (f := 7) rfl ?_); refine goesL_ (some 25) rfl rfl Try.func7 (by kernel_rfl) rfl #[.string (⟨#[97, 32, 98, 47]⟩ : ByteArray)] rfl (by (try simp only [List.map_toArray, List.map_cons, List.map_nil]); first | done | rfl | (simp only [List.length_drop, List.length_take]; rfl)) ?_; (with_reducible refine (pct_Encode.calls (⟨#[97, 32, 98, 47]⟩ : ByteArray) t109 _ A5.out).mono ?_); rintro e w16 ⟨rfl, hb⟩; refine ⟨_, rfl, ?_⟩; have n0_ := Aside0.mk (below_step (by repeat (first | (with_reducible first | exact HB.out | apply below_alloc | apply pw_below_drewN | apply below_drew1) | exact HB.out)) hb); clear HB; have HB := n0_; clear n0_; (try clear hb); (try clear hb2); (try clear hk); (try clear hi)))
              go_ret
              exact ⟨by first | rfl | (simp [errW_none, errW_some] <;> rfl) | (simp [*, errW_none, errW_some] <;> rfl), by repeat (first | (with_reducible first | exact HB.out | apply below_alloc | apply pw_below_drewN | apply below_drew1) | exact HB.out)⟩
            · rw [if_neg c11] at H
              exact absurd H (by simp)
      · replace c8 := Bool.eq_false_iff.mpr c8
        subst c8
        have H1 : (none) = some r := by rw [if_neg (show ¬ (false = true) by decide)] at H; exact H
        clear H
        have H := H1
        clear H1
        exact absurd H (by simp)
    · rw [if_neg c7] at H
      exact absurd H (by simp)
  · rw [if_neg c6] at H
    exact absurd H (by simp)

/-- THE ONE PURE STATEMENT of porticolaw3_PctRuns: yours. -/
def porticolaw3_PctRuns.Pure : Prop := porticolaw3_PctRuns.f  = some true
theorem porticolaw3_PctRuns.walk (P : porticolaw3_PctRuns.Pure)  (w : World)  :
    Calls Try.prog 3 #[] w fun e w' => e = .returned (.bool true) ∧ Below w.heap.size w w' := by
  have h := P  
  refine (porticolaw3_PctRuns.calls  true w h).mono ?_
  rintro e w' ⟨rfl, hd⟩
  exact ⟨rfl, hd⟩

end Go.Proofs.Ytpgpebpjehnooaa.PPctRuns
