/- CodeRuns: the walk. -/
import Derived.Test.YtgbhejkgnfkfgaaDecodeCodeRuns
import Derived.Test.YtgbhejkgnfkfgaaPCodeRunsx7
set_option linter.unusedVariables false
set_option linter.unusedSimpArgs false
namespace Go.Proofs.Ytgbhejkgnfkfgaa.Cd
open Go.RowKit Go.Proofs.Ytgbhejkgnfkfgaa.Given Go.Proofs.YtgbhejkgnfkfgaaW.PrintWords Go.Proofs.YtgbhejkgnfkfgaaW.PrintLast Go.Proofs.YtgbhejkgnfkfgaaW.PrintMore Go.Proofs.Ytgbhejkgnfkfgaa.PCodeRuns

theorem Sessions_any (k : Nat) (s t : Ses) (v u : Value) (w : World) (h : SesV w v s) (h2 : SesV w u t) (r : Bool) (hf : porticolaw24_sessions.f k s.1 s.2.1 s.2.2.1 s.2.2.2 t.1 t.2.1 t.2.2.1 t.2.2.2 = some r) : Calls Try.prog 9 #[v, u] w fun e w' => e = .returned (.bool r) ∧ Below w.heap.size w w' := by
  obtain ⟨A0, c0, A2, c2, A3, c3, rfl, hc, a0, a2, a3⟩ := h
  obtain ⟨B0, d0, B2, d2, B3, d3, rfl, hd, b0, b2, b3⟩ := h2
  exact porticolaw24_sessions.calls k A0 c0 s.1 s.2.1 A2 c2 s.2.2.1 A3 c3 s.2.2.2 B0 d0 t.1 t.2.1 B2 d2 t.2.2.1 B3 d3 t.2.2.2 r w a0 hc.1 a2 hc.2.1 a3 hc.2.2 b0 hd.1 b2 hd.2.1 b3 hd.2.2 hf
def ses1 : Ses := ([⟨⟨#[47]⟩, 0⟩], 0, [], [])
def byt1 : List Int := [0, 0, 0, 29, 0, 0, 0, 49, 0, 0, 0, 1, 0, 0, 0, 1, 47, 0, 0, 0, 0, 0, 0, 0, 0, 0, 0, 0, 0, 0, 0, 0, 0, 0, 0, 0, 0]
set_option maxRecDepth 100000 in
theorem enc1 : code_Encode.f 60 ses1.1 ses1.2.1 ses1.2.2.1 ses1.2.2.2 = some byt1 := by kernel_rfl
set_option maxRecDepth 100000 in
theorem dec1 : dec 60 byt1 = some (ses1, 0) := by kernel_rfl
set_option maxRecDepth 100000 in
theorem same1 : porticolaw24_sessions.f 60 ses1.1 ses1.2.1 ses1.2.2.1 ses1.2.2.2 ses1.1 ses1.2.1 ses1.2.2.1 ses1.2.2.2 = some true := by kernel_rfl
theorem mark_lit (w : World) (m : S24) : Kd.C k24 (w.alloc (.cells #[.string m.f0, .int .u64 m.f1] 24)) (some ⟨w.heap.size, 0, none⟩) ([m] : List S24).length [m] := by
  refine ⟨rfl, by show 1 ≤ 9223372036854775807; omega, fun _ => ⟨⟨w.heap.size, 0, none⟩, rfl, fun j p hj => ?_⟩⟩
  have hj0 : j = 0 := by
    rcases j with _ | j
    · rfl
    · simp at hj
  subst hj0
  cases hj
  refine ⟨_, rfl, k24_mk _ m, fun i u hu => ?_⟩
  have hc := heap_alloc_new w (.cells #[.string m.f0, .int .u64 m.f1] 24)
  rcases i with _ | _ | i
  · cases hu
    exact (blk_cell hc 0).trans rfl
  · cases hu
    exact (blk_cell hc 1).trans rfl
  · simp at hu
theorem ses_lit (w : World) (m : S24) : SesV (w.alloc (.cells #[.string m.f0, .int .u64 m.f1] 24)) (.agg #[.slice (some ⟨w.heap.size, 0, none⟩) 1 1, .int .i64 0, .slice none 0 0, .slice none 0 0]) ([m], 0, [], []) :=
  ⟨_, 1, none, 0, none, 0, rfl, ⟨Nat.le_refl _, Nat.le_refl _, Nat.le_refl _⟩, mark_lit w m, Kd.C_nil _ _, Kd.C_nil _ _⟩
set_option maxHeartbeats 8000000 in
set_option maxRecDepth 100000 in
theorem CodeRuns_any (w : World) : Calls Try.prog 3 #[] w fun e w' => e = .returned (.bool true) ∧ Below w.heap.size w w' := by
  go_enter Try.func3, Try.ntmps3
  go_upto_region 2 with fail
  have h1 := ses_lit w ⟨⟨#[47]⟩, 0⟩
  have hB1 : Below w.heap.size w (w.alloc (.cells #[.string ⟨#[47]⟩, .int .u64 0] 24)) := (Below.refl _ _).alloc (Nat.le_refl _) _
  have hB2 := hB1.alloc hB1.size (.cells #[.slice (some ⟨w.heap.size, 0, none⟩) 1 1, .int .i64 0, .slice none 0 0, .slice none 0 0] 29)
  have h2 := h1.below ((Below.refl _ _).alloc (Nat.le_refl _) (.cells #[.slice (some ⟨w.heap.size, 0, none⟩) 1 1, .int .i64 0, .slice none 0 0, .slice none 0 0] 29))
  have hk := heap_alloc_new (w.alloc (.cells #[.string ⟨#[47]⟩, .int .u64 0] 24)) (.cells #[.slice (some ⟨w.heap.size, 0, none⟩) 1 1, .int .i64 0, .slice none 0 0, .slice none 0 0] 29)
  rw [show (w.alloc (.cells #[.string ⟨#[47]⟩, .int .u64 0] 24)).heap.size = w.heap.size + 1 from by simp] at hk
  have H2 : Hid (SesV ((w.alloc (.cells #[.string ⟨#[47]⟩, .int .u64 0] 24)).alloc (.cells #[.slice (some ⟨w.heap.size, 0, none⟩) 1 1, .int .i64 0, .slice none 0 0, .slice none 0 0] 29)) (.agg #[.slice (some ⟨w.heap.size, 0, none⟩) 1 1, .int .i64 0, .slice none 0 0, .slice none 0 0]) ses1 ∧ Below w.heap.size w ((w.alloc (.cells #[.string ⟨#[47]⟩, .int .u64 0] 24)).alloc (.cells #[.slice (some ⟨w.heap.size, 0, none⟩) 1 1, .int .i64 0, .slice none 0 0, .slice none 0 0] 29))) := Lib.hid ⟨h2, hB2⟩
  clear h1 hB1 hB2 h2
  generalize (w.alloc (.cells #[.string ⟨#[47]⟩, .int .u64 0] 24)).alloc (.cells #[.slice (some ⟨w.heap.size, 0, none⟩) 1 1, .int .i64 0, .slice none 0 0, .slice none 0 0] 29) = w2 at hk H2 ⊢
  generalize hK : w.heap.size + 1 = K at hk ⊢
  have y0 : w2.cell? ⟨K, 0, none⟩ = some (.slice (some ⟨w.heap.size, 0, none⟩) 1 1) := (blk_cell hk 0).trans rfl
  have y1 : w2.cell? ⟨K, 1, none⟩ = some (.int .i64 0) := (blk_cell hk 1).trans rfl
  have y2 : w2.cell? ⟨K, 2, none⟩ = some (.slice none 0 0) := (blk_cell hk 2).trans rfl
  have y3 : w2.cell? ⟨K, 3, none⟩ = some (.slice none 0 0) := (blk_cell hk 3).trans rfl
  have HK := Lib.hid hk
  clear hk
  go_wp2_with fail
  refine (Encode_any 60 ses1 _ w2 H2.out.1 byt1 enc1).mono ?_
  rintro e w3 ⟨A3, c3, rfl, hl3, hC3, hB3⟩
  have H3 := Lib.hid (And.intro (H2.out.1.below hB3) (And.intro (H2.out.2.trans (hB3.mono H2.out.2.size)) (And.intro (blk5 HK.out hB3) (And.intro hl3 hC3))))
  clear H2 HK hl3 hC3 hB3 y0 y1 y2 y3
  go_wp2_with fail
  refine (Decode_any 60 A3 byt1.length c3 byt1 w3 H3.out.2.2.2.2 H3.out.2.2.2.1 (ses1, 0) dec1).mono ?_
  rintro e w4 ⟨v4, rfl, hS4, hB4⟩
  obtain ⟨A0, c0, A2, c2, A5, c5, rfl, hrest⟩ := hS4
  have hS4 : SesV w4 (.agg #[.slice A0 ses1.1.length c0, .int .i64 ses1.2.1, .slice A2 ses1.2.2.1.length c2, .slice A5 ses1.2.2.2.length c5]) ses1 := ⟨A0, c0, A2, c2, A5, c5, rfl, hrest⟩
  have H4 := Lib.hid (And.intro (H3.out.1.below hB4) (And.intro (H3.out.2.1.trans (hB4.mono H3.out.2.1.size)) (And.intro (blk5 H3.out.2.2.1 hB4) hS4)))
  clear H3 hB4 hS4 hrest
  go_upto_region 4 with fail
  rw [show byt1.length = 37 from rfl]
  have hB5 : Below w4.heap.size w4 (w4.alloc (.cells #[.slice A0 ses1.1.length c0, .int .i64 ses1.2.1, .slice A2 ses1.2.2.1.length c2, .slice A5 ses1.2.2.2.length c5] 29)) := (Below.refl _ _).alloc (Nat.le_refl _) _
  have h5 := heap_alloc_new w4 (.cells #[.slice A0 ses1.1.length c0, .int .i64 ses1.2.1, .slice A2 ses1.2.2.1.length c2, .slice A5 ses1.2.2.2.length c5] 29)
  have H5 := Lib.hid (And.intro (H4.out.1.below hB5) (And.intro (H4.out.2.1.trans (hB5.mono H4.out.2.1.size)) (And.intro (blk5 H4.out.2.2.1 hB5) (H4.out.2.2.2.below hB5))))
  clear H4 hB5
  generalize w4.alloc (.cells #[.slice A0 ses1.1.length c0, .int .i64 ses1.2.1, .slice A2 ses1.2.2.1.length c2, .slice A5 ses1.2.2.2.length c5] 29) = w5 at h5 H5 ⊢
  generalize w4.heap.size = K5 at h5 ⊢
  have s0 : w5.cell? ⟨K5, 0, none⟩ = some (.slice A0 ses1.1.length c0) := (blk_cell h5 0).trans rfl
  have s1 : w5.cell? ⟨K5, 1, none⟩ = some (.int .i64 ses1.2.1) := (blk_cell h5 1).trans rfl
  have s2 : w5.cell? ⟨K5, 2, none⟩ = some (.slice A2 ses1.2.2.1.length c2) := (blk_cell h5 2).trans rfl
  have s3 : w5.cell? ⟨K5, 3, none⟩ = some (.slice A5 ses1.2.2.2.length c5) := (blk_cell h5 3).trans rfl
  have y0 : w5.cell? ⟨K, 0, none⟩ = some (.slice (some ⟨w.heap.size, 0, none⟩) 1 1) := (blk_cell H5.out.2.2.1 0).trans rfl
  have y1 : w5.cell? ⟨K, 1, none⟩ = some (.int .i64 0) := (blk_cell H5.out.2.2.1 1).trans rfl
  have y2 : w5.cell? ⟨K, 2, none⟩ = some (.slice none 0 0) := (blk_cell H5.out.2.2.1 2).trans rfl
  have y3 : w5.cell? ⟨K, 3, none⟩ = some (.slice none 0 0) := (blk_cell H5.out.2.2.1 3).trans rfl
  clear h5
  go_wp2_with fail
  refine (Sessions_any 60 ses1 ses1 _ _ w5 H5.out.2.2.2 H5.out.1 true same1).mono ?_
  rintro e w6 ⟨rfl, hB6⟩
  have H6 := Lib.hid (H5.out.2.1.trans (hB6.mono H5.out.2.1.size))
  clear H5 hB6 s0 s1 s2 s3 y0 y1 y2 y3
  go_wp2_with fail
  go_ret
  exact ⟨rfl, H6.out⟩
end Go.Proofs.Ytgbhejkgnfkfgaa.Cd
