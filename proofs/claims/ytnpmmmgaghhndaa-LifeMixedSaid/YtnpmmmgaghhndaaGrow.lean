/- LifeMixed's own grow. -/
import Derived.Test.YtnpmmmgaghhndaaMixedPure
set_option linter.unusedSimpArgs false
set_option linter.unusedVariables false
namespace Go.Proofs.Ytnpmmmgaghhndaa.Lf
open Go.RowKit Go.Maps Go.Proofs.Ytnpmmmgaghhndaa.PLifeBegins Go.Proofs.YtnpmmmgaghhndaaW.PrintWords Go.Proofs.YtnpmmmgaghhndaaW.PrintLast Go.Proofs.YtnpmmmgaghhndaaW.PrintMore Go.Proofs.Ytnpmmmgaghhndaa.Given Go.Proofs.Ytnpmmmgaghhndaa.Mv

theorem RL_one (w : World) (B : Nat) (e : Ev) (hb : B ≤ w.heap.size) : RL (w.alloc (.cells #[.int .i64 e.f0, .int .i64 e.f1] 23)) B (.slice (some ⟨w.heap.size, 0, none⟩) 1 1) [e] :=
  ⟨fun _ _ => trivial, [.int .i64 e.f0, .int .i64 e.f1], World.ownsRow_lit w #[.int .i64 e.f0, .int .i64 e.f1] 1 hb (by decide) rfl, ⟨rfl, fun j p hj => by
    rcases j with _ | j
    · cases hj
      exact k23_mkM _ _ _ e
    · simp at hj⟩⟩
set_option maxHeartbeats 4000000 in
set_option maxRecDepth 100000 in
theorem Grow_any (A : Option Addr) (c : Nat) (nums : List Int) (num : Int) (w : World) (hr : Kd.C (Kd.int .i64) w A nums.length nums) (hc : nums.length ≤ c) (hnum : 1 ≤ num) : Calls Try.prog 15 #[.slice A nums.length c, .int .i64 num] w fun e w' => ∃ (A' : Option Addr) (c' : Nat) (out : List Ev) (s : Int), e = .returned (.slice A' out.length c') ∧ Hid (RL w' w.heap.size (.slice A' out.length c') out ∧ Gr num out s ∧ out.length ≤ 10 ∧ Below w.heap.size w w') := by
  have HA := Lib.hid (And.intro hr (And.intro hc hnum))
  clear hr hc hnum
  go_enter Try.func15, Try.ntmps15
  go_wp2_with fail
  have H1 : Hid (Below w.heap.size w (w.alloc (.cells #[.int .i64 1, .int .i64 num] 23)) ∧ RL (w.alloc (.cells #[.int .i64 1, .int .i64 num] 23)) w.heap.size (.slice (some ⟨w.heap.size, 0, none⟩) 1 1) [⟨1, num⟩]) := Lib.hid ⟨(Below.refl _ _).alloc (Nat.le_refl _) _, RL_one w _ ⟨1, num⟩ (Nat.le_refl _)⟩
  generalize w.alloc (.cells #[.int .i64 1, .int .i64 num] 23) = w1 at H1 ⊢
  go_loopw [5, 6, 7] (fun t5 t6 t7 wr => ∃ (i k c' : Nat) (A' : Option Addr) (out : List Ev) (s : Int), t5 = .slice A' k c' ∧ t6 = .int .i64 s ∧ t7 = .int .i64 (i : Int) ∧ i ≤ 9 ∧ Hid (k = out.length ∧ RL wr w.heap.size (.slice A' k c') out ∧ Gr num out s ∧ out.length ≤ i + 1 ∧ Below w.heap.size w wr)) (fun _ _ t _ => match t with | .int _ q => (9 - q).toNat | _ => 0)
  case atStart => exact ⟨0, 1, 1, _, [⟨1, num⟩], 1, rfl, rfl, rfl, by omega, Lib.hid ⟨rfl, H1.out.2, Gr.begin num HA.out.2.2, by simp, H1.out.1⟩⟩
  case round =>
    obtain ⟨i, k, c', A', out, s, rfl, rfl, rfl, hi, HI⟩ := hrel
    clear H1
    have i0 : (0 : Int) ≤ (i : Int) := by omega
    have i9 : (i : Int) ≤ 9 := by omega
    have hk := HI.out.1
    subst hk
    by_cases d1 : i < nums.length
    · by_cases d2 : i < 9
      · have i1 : (i : Int) < (nums.length : Int) := by omega
        have i2 : (i : Int) < 9 := by omega
        obtain ⟨ad, cs, e0, _, hK, hcl⟩ := Kd.C_get (Kd.C_below HA.out.1 HI.out.2.2.2.2) 0 (i : Int) i0 (by omega)
        subst e0
        obtain ⟨x, hx⟩ : ∃ x, nums.getD (i : Int).toNat 0 = x := ⟨_, rfl⟩
        rw [hx] at hK
        have hK' : cs = [.int .i64 x] := hK
        subst hK'
        have y0 := hcl 0 _ rfl
        rw [show (i : Int).toNat * (Kd.int .i64).sz + 0 = i from by show (i : Int).toNat * 1 + 0 = i; omega] at y0
        clear hK hcl hx
        go_wp2_with fail
        obtain ⟨kd, hk1, hk2, hk3⟩ := within x 2 4 (by omega) (by omega) (by omega)
        refine (porticobook_Within.calls _ _ _ _ _ hk1).mono ?_
        rintro e9 n5 ⟨rfl, q, rfl⟩
        have hz := pw_below_drewN (Below.refl wr.heap.size wr) q
        have HI2 := Lib.hid (show RL (wr.drewN q) w.heap.size (.slice A' out.length c') out ∧ Gr num out s ∧ out.length ≤ i + 1 ∧ Below w.heap.size w (wr.drewN q) from ⟨Kd.R_below HI.out.2.1 hz, HI.out.2.2.1, HI.out.2.2.2.1, HI.out.2.2.2.2.trans (hz.mono HI.out.2.2.2.2.size)⟩)
        clear hk1 HI y0 hz
        generalize wr.drewN q = w2 at HI2 ⊢
        have c14 := Next_any s kd w2
        obtain ⟨nx, hnx⟩ : ∃ nx, nextP s kd = nx := ⟨_, rfl⟩
        rw [hnx] at c14
        have HS := Lib.hid hnx
        clear hnx
        obtain ⟨n1, ok⟩ := nx
        simp only at c14
        replace c14 := Lib.hid c14
        cases ok with
        | false =>
          go_wp2_with (refine c14.out.mono ?_; rintro e9 w9 ⟨rfl, rfl⟩)
          go_roundw
          case rel => exact ⟨i + 1, out.length, c', A', out, s, rfl, rfl, by go_num, by omega, Lib.hid ⟨rfl, HI2.out.1, HI2.out.2.1, by have := HI2.out.2.2.1; omega, HI2.out.2.2.2⟩⟩
          case measure => simp; omega
        | true =>
          have hg := HI2.out.2.1.more HA.out.2.2 kd (by omega) (by rw [HS.out])
          rw [HS.out] at hg
          have HG := Lib.hid hg
          clear hg
          go_wp2_with (first | (refine c14.out.mono ?_; rintro e9 w9 ⟨rfl, rfl⟩) | (at_builtin; refine Kd.R_append k23 (w0 := w) w.heap.size rfl (.tmp 37) (.tmp 41) 24 23 (.agg #[(.int .i64 0), (.int .i64 0)]) 16 rfl Try.underlying24 info23 rfl (by decide) (by omega) (.slice A' out.length c') out (⟨kd, num⟩ : Ev) [.int .i64 kd, .int .i64 num] (fun _ => True) (fun _ => False) rfl rfl (k23_mkM _ _ _ (⟨kd, num⟩ : Ev)) (fun _ hk => hk.elim) (fun _ _ => trivial) HI2.out.1 HI2.out.2.2.2 HI2.out.2.2.2.size (by have := HI2.out.2.2.1; omega) ?_; intro v7 w7 hr7 hb7 hg7 ho7; obtain ⟨A7, c7, rfl⟩ := Kd.R_slice hr7))
          have H7 : Hid (out.length + 1 = (out ++ [(⟨kd, num⟩ : Ev)]).length ∧ RL w7 w.heap.size (.slice A7 (out.length + 1) c7) (out ++ [⟨kd, num⟩]) ∧ Gr num (out ++ [⟨kd, num⟩]) n1 ∧ (out ++ [(⟨kd, num⟩ : Ev)]).length ≤ i + 1 + 1 ∧ Below w.heap.size w w7) := Lib.hid ⟨by simp, by have h8 := hr7; rw [List.length_append] at h8; exact h8, HG.out, by have := HI2.out.2.2.1; simp; omega, hb7⟩
          clear hr7 hb7 hg7 ho7
          go_roundw
          case rel => exact ⟨i + 1, out.length + 1, c7, A7, _, n1, rfl, rfl, by go_num, by omega, H7⟩
          case measure => simp; omega
      · have i2 : ¬ (i : Int) < 9 := by omega
        have i1 : (i : Int) < (nums.length : Int) := by omega
        go_wp2_with fail
        go_ret
        exact ⟨A', c', out, rfl, s, Lib.hid ⟨HI.out.2.1, HI.out.2.2.1, by have := HI.out.2.2.2.1; omega, HI.out.2.2.2.2⟩⟩
    · have i1 : ¬ (i : Int) < (nums.length : Int) := by omega
      go_wp2_with fail
      go_ret
      exact ⟨A', c', out, rfl, s, Lib.hid ⟨HI.out.2.1, HI.out.2.2.1, by have := HI.out.2.2.2.1; omega, HI.out.2.2.2.2⟩⟩
end Go.Proofs.Ytnpmmmgaghhndaa.Lf
