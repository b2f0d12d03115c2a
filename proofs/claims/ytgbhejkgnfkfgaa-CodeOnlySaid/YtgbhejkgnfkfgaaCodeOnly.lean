/- CodeOnly: the walk. -/
import Derived.Test.YtgbhejkgnfkfgaaBytes24
set_option linter.unusedVariables false
set_option linter.unusedSimpArgs false
namespace Go.Proofs.Ytgbhejkgnfkfgaa.Cd
open Go.RowKit Go.Proofs.Ytgbhejkgnfkfgaa.Given Go.Proofs.YtgbhejkgnfkfgaaW.PrintWords Go.Proofs.YtgbhejkgnfkfgaaW.PrintLast Go.Proofs.YtgbhejkgnfkfgaaW.PrintMore Go.Proofs.Ytgbhejkgnfkfgaa.PCodeRuns

abbrev RB (w : World) (base : Nat) (v : Value) (l : List Int) : Prop := Kd.R (Kd.int .u8) 5 w base (fun _ => True) v l
abbrev QB (w : World) (base : Nat) (v : Value) (l : List Int) : Prop := Kd.Q (Kd.int .u8) 5 w base (fun _ => True) v l
theorem rb_made (w : World) (base : Nat) (hb : base ≤ w.heap.size) : RB (w.alloc (.cells #[] 5)) base (.slice (some ⟨w.heap.size, 0, none⟩) 0 0) [] :=
  Kd.R_of_own (enc := Value.int .u8) (h1 := fun _ => rfl) (World.ownsRow_made (base := base) (e := 5) (size := 1) w #[] 0 hb (by decide) (by rfl)) (fun _ _ => trivial)
theorem xor_u8 (b x : Int) (hb : 0 ≤ b ∧ b < 256) (hx : 0 ≤ x ∧ x < 256) : (0 ≤ bits .xor .u8 b x ∧ bits .xor .u8 b x < 256) ∧ (x ≠ 0 → bits .xor .u8 b x ≠ b) := by
  obtain ⟨m, rfl⟩ := Int.eq_ofNat_of_zero_le hb.1
  obtain ⟨n, rfl⟩ := Int.eq_ofNat_of_zero_le hx.1
  have hm : m < 2 ^ 8 := by omega
  have hn : n < 2 ^ 8 := by omega
  have h1 := Nat.xor_lt_two_pow hm hn
  have e : bits .xor .u8 (m : Int) (n : Int) = ((m ^^^ n : Nat) : Int) := by
    simp only [bits, BitVec.ofInt_natCast, BitVec.toNat_xor, BitVec.toNat_ofNat]
    rw [show m % 2 ^ IntKind.u8.bits = m from Nat.mod_eq_of_lt hm, show n % 2 ^ IntKind.u8.bits = n from Nat.mod_eq_of_lt hn, IntKind.wrap_u8]
    omega
  rw [e]
  refine ⟨by omega, fun h0 h => h0 ?_⟩
  have h : m ^^^ n = m := by omega
  have h2 : m ^^^ (m ^^^ n) = m ^^^ m := congrArg (m ^^^ ·) h
  rw [← Nat.xor_assoc, Nat.xor_self, Nat.zero_xor] at h2
  omega
theorem encB_byte (s : Ses) : ∀ x ∈ encB s, 0 ≤ x ∧ x < 256 := by
  unfold encB
  by_cases h : rightS s = true
  · rw [if_pos h]
    exact app_byte (app_byte (nb_byte _) (nb_byte _)) (body_byte s)
  · rw [if_neg h]
    intro x hx
    cases hx
theorem turned_xor (s : Ses) (X : List Int) (hX : encB s = X) (i : Nat) (hi : i < X.length) (x : Int) (hx : 0 ≤ x ∧ x < 256) (h0 : x ≠ 0) (v : Ses) : encB v ≠ X.set i (bits .xor .u8 (rdOf 0 X (i : Int)) x) := by
  have hr : rdOf 0 X (i : Int) = X[i] := by simp [rdOf, List.getD_eq_getElem?_getD, hi]
  have hs : rightS s = true := by
    by_cases h : rightS s = true
    · exact h
    · rw [← hX, none_nil s h] at hi
      exact absurd hi (by simp)
  subst hX
  have hb := encB_byte s _ (List.getElem_mem hi)
  obtain ⟨h1, h2⟩ := xor_u8 _ x hb hx
  rw [hr]
  exact turned_no s v hs i hi _ h1 (h2 h0)
attribute [local go_sem] max2_int min2_int max_two min_two
set_option maxHeartbeats 4000000 in
set_option maxRecDepth 1000000 in
theorem CodeOnly_any (s : Ses) (vs : Value) (RA : Option Addr) (rc : Nat) (raw : List Int) (at_ x how : Int) (w : World) (hs : SesV w vs s) (us : U64 s) (hraw : Kd.C (Kd.int .u8) w RA raw.length raw) (hrc : raw.length ≤ rc) (hx : 0 ≤ x ∧ x < 256) : Calls Try.prog 5 #[vs, .slice RA raw.length rc, .int .i64 at_, .int .u8 x, .int .i64 how] w fun e w' => e = .returned (.bool true) ∧ Below w.heap.size w w' := by
  obtain ⟨A0, a0, A2, a2, A3, a3, rfl, hs⟩ := hs
  have HV : Hid (SesV w (.agg #[.slice A0 s.1.length a0, .int .i64 s.2.1, .slice A2 s.2.2.1.length a2, .slice A3 s.2.2.2.length a3]) s ∧ Kd.C (Kd.int .u8) w RA raw.length raw ∧ raw.length ≤ rc) := Lib.hid ⟨⟨A0, a0, A2, a2, A3, a3, rfl, hs⟩, hraw, hrc⟩
  have HU := Lib.hid (And.intro (few_U64 s us) (And.intro (few_Few s) hx))
  clear hs us hraw hx
  go_enter Try.func5, Try.ntmps5
  go_wp2_with fail
  have HA : Hid (Below w.heap.size w ((w.alloc (.cells #[.slice A0 s.1.length a0, .int .i64 s.2.1, .slice A2 s.2.2.1.length a2, .slice A3 s.2.2.2.length a3] 29)).alloc (.cells #[] 5)) ∧ RB ((w.alloc (.cells #[.slice A0 s.1.length a0, .int .i64 s.2.1, .slice A2 s.2.2.1.length a2, .slice A3 s.2.2.2.length a3] 29)).alloc (.cells #[] 5)) w.heap.size (.slice (some ⟨w.heap.size + 1, 0, none⟩) 0 0) []) := Lib.hid (by
    have hB0 : Below w.heap.size w (w.alloc (.cells #[.slice A0 s.1.length a0, .int .i64 s.2.1, .slice A2 s.2.2.1.length a2, .slice A3 s.2.2.2.length a3] 29)) := (Below.refl _ _).alloc (Nat.le_refl _) _
    refine ⟨hB0.alloc hB0.size _, ?_⟩
    have := rb_made (w.alloc (.cells #[.slice A0 s.1.length a0, .int .i64 s.2.1, .slice A2 s.2.2.1.length a2, .slice A3 s.2.2.2.length a3] 29)) w.heap.size hB0.size
    rwa [show (w.alloc (.cells #[.slice A0 s.1.length a0, .int .i64 s.2.1, .slice A2 s.2.2.1.length a2, .slice A3 s.2.2.2.length a3] 29)).heap.size = w.heap.size + 1 from by simp] at this)
  generalize ((w.alloc (.cells #[.slice A0 s.1.length a0, .int .i64 s.2.1, .slice A2 s.2.2.1.length a2, .slice A3 s.2.2.2.length a3] 29)).alloc (.cells #[] 5)) = w1 at HA ⊢
  refine (Few_any s _ _ (HV.out.1.below HA.out.1)).mono ?_
  rintro e w2 ⟨C0, c0, C2, c2, C3, c3, rfl, hS, hB2⟩
  have HS := Lib.hid (And.intro hS.v hB2)
  clear hS hB2
  go_wp2_with fail
  refine (Enc_any (fewS s) _ _ HS.out.1 HU.out.1).mono ?_
  rintro e w3 ⟨X0, x0, rfl, hx3, hX, hB3⟩
  obtain ⟨fs, hfs⟩ : ∃ f, fewS s = f := ⟨_, rfl⟩
  rw [hfs] at HU HS hX hx3 ⊢
  have hXl := encB_len fs
  obtain ⟨X, hXe⟩ : ∃ X, encB fs = X := ⟨_, rfl⟩
  rw [hXe] at hX hx3 hXl ⊢
  have H3 : Hid (RB w3 w.heap.size (.slice (some ⟨w.heap.size + 1, 0, none⟩) 0 0) [] ∧ Kd.C (Kd.int .u8) w3 X0 X.length X ∧ Below w.heap.size w w3 ∧ X.length ≤ 20000000) := Lib.hid (by
    have hb := HA.out.1.trans (HS.out.2.mono HA.out.1.size)
    exact ⟨Kd.R_below (Kd.R_below HA.out.2 HS.out.2) hB3, hX, hb.trans (hB3.mono hb.size), hXl⟩)
  have HX := Lib.hid hXe
  clear hfs hXe HA HS hX hx3 hB3 hXl
  go_upto_if 29 with (at_builtin; refine Kd.R_append_row (Value.int .u8) 0 (w0 := w) (h1 := fun _ => rfl) w.heap.size rfl (.tmp 20) (.tmp 23) 30 5 (.int .u8 0) 1 rfl Try.underlying30 info8 rfl (by decide) _ [] X X0 X.length x0 (fun _ => True) rfl rfl (fun _ _ => trivial) H3.out.1 H3.out.2.1 H3.out.2.2.1 H3.out.2.2.1.size (by have := H3.out.2.2.2; simp; omega) ?_; intro v1 w4 hR hb hg hat; obtain ⟨A1, c1, rfl⟩ := Kd.R_slice hR)
  have hR : RB w4 w.heap.size (.slice A1 X.length c1) X := hR
  have H4 : Hid (RB w4 w.heap.size (.slice A1 X.length c1) X ∧ Below w.heap.size w w4 ∧ X.length ≤ 20000000) := Lib.hid ⟨hR, hb, H3.out.2.2.2⟩
  clear hR hb hg hat H3
  obtain ⟨own, hown⟩ : ∃ b : Bool, decide (0 < X.length) = b := ⟨_, rfl⟩
  rw [hown]
  go_cut [11] (fun t11 wc => ∃ (A : Option Addr) (c nB : Nat), t11 = .slice A nB c ∧ Hid (∃ B : List Int, nB = B.length ∧ RB wc w.heap.size (.slice A B.length c) B ∧ Below w.heap.size w wc ∧ B.length ≤ 20000000 ∧ (own = true → B = X)))
  case first =>
    cases own with
    | true =>
      go_wp2_with fail
      go_meet
      exact ⟨A1, c1, X.length, rfl, Lib.hid ⟨X, rfl, H4.out.1, H4.out.2.1, H4.out.2.2, fun _ => rfl⟩⟩
    | false =>
      obtain ⟨m, hm⟩ : ∃ m : Nat, (if (120 : Int) < (raw.length : Int) then 120 else (raw.length : Int)) = (m : Int) := ⟨min raw.length 120, by split <;> omega⟩
      have hm1 : m ≤ raw.length := by split at hm <;> omega
      have hm2 : m ≤ rc := by have := HV.out.2.2; omega
      have hm3 : m ≤ 120 := by split at hm <;> omega
      go_wp2_with (at_builtin; refine Kd.R_append_row (Value.int .u8) 0 (w0 := w) (h1 := fun _ => rfl) w.heap.size rfl (.tmp 30) (.tmp 35) 30 5 (.int .u8 0) 1 rfl Try.underlying30 info8 rfl (by decide) _ X (raw.take m) RA m rc (fun _ => True) rfl rfl (fun _ _ => trivial) H4.out.1 (C_take (Kd.C_below HV.out.2.1 H4.out.2.1) hm1) H4.out.2.1 H4.out.2.1.size (by have := H4.out.2.2; simp; omega) ?_; intro v5 w5 hR hb hg hat; obtain ⟨A5, c5, rfl⟩ := Kd.R_slice hR)
      go_meet
      have hl : (X ++ raw.take m).length ≤ 20000000 := by
        have : X.length = 0 := by have := of_decide_eq_false hown; omega
        rw [List.length_append, List.length_take]
        omega
      exact ⟨A5, c5, X.length + m, rfl, Lib.hid ⟨X ++ raw.take m, by rw [List.length_append, List.length_take]; omega, hR, hb, hl, fun h => by cases h⟩⟩
  case rest =>
  obtain ⟨A6, c6, nB, rfl, H6⟩ := hcut
  obtain ⟨B, rfl, H6x⟩ := H6.out
  have H7 := Lib.hid H6x
  clear H6 H6x
  clear H4
  by_cases hB0 : B.length = 0
  · have e0 : B = [] := List.eq_nil_of_length_eq_zero hB0
    subst e0
    go_wp2_with fail
    refine (Dec_any none 0 0 [] wc ⟨rfl, by omega, fun h => by omega⟩ (Nat.le_refl _) (zeroS, 8) decP_nil).mono ?_
    rintro e w7 ⟨E0, e0, E2, e2, E3, e3, rfl, hZ, hB7⟩
    have H8 := Lib.hid (H7.out.2.1.trans (hB7.mono H7.out.2.1.size))
    clear hZ hB7 H7
    go_wp2_with fail
    refine (CodeRuns_any _).mono ?_
    rintro e w8 ⟨rfl, hB8⟩
    have H9 := Lib.hid (show Below w.heap.size w w8 from by
      have h1 := H8.out.alloc H8.out.size (.cells #[.slice E0 zeroS.1.length e0, .int .i64 zeroS.2.1, .slice E2 zeroS.2.2.1.length e2, .slice E3 zeroS.2.2.2.length e3] 29)
      exact h1.trans (hB8.mono h1.size))
    clear hB8 H8
    go_wp2_with fail
    go_ret
    exact ⟨rfl, H9.out⟩
  · have hB1 : 0 < B.length := by omega
    have hB2 : (0 : Int) < (B.length : Int) := by omega
    have hB3 : (B.length : Int) ≤ 20000000 := by have := H7.out.2.2.1; omega
    obtain ⟨g, o, cap, e, hg1, hg2, _⟩ := Kd.Q_form (Kd.Q_of_R H7.out.1) hB1
    injection e with e1 e2 e3
    subst e1 e3
    clear e2 hg1 hg2
    go_wp2_with fail
    obtain ⟨r, hr1, hr2, hr3⟩ := within at_ 0 ((B.length : Int) - 1) (by omega) (by omega) (by have := H7.out.2.2.1; omega)
    obtain ⟨i, rfl⟩ : ∃ i : Nat, r = (i : Int) := ⟨r.toNat, by omega⟩
    have hi : i < B.length := by omega
    clear hr2 hr3
    refine (porticobook_Within.calls _ _ _ _ _ hr1).mono ?_
    rintro e n4 ⟨rfl, q, rfl⟩
    clear hr1
    have H8 := Lib.hid (show RB (wc.drewN q) w.heap.size _ B ∧ Below w.heap.size w (wc.drewN q) ∧ B.length ≤ 20000000 ∧ (own = true → B = X) from ⟨Kd.R_drewN H7.out.1 q, pw_below_drewN H7.out.2.1 q, H7.out.2.2⟩)
    clear H7
    generalize wc.drewN q = n4 at H8 ⊢
    go_wp2_with fail
    obtain ⟨r, hr1, hr2, hr3⟩ := within how 0 3 (by omega) (by omega) (by omega)
    refine (porticobook_Within.calls _ _ _ _ _ hr1).mono ?_
    rintro e n5 ⟨rfl, q, rfl⟩
    clear hr1
    have H9 := Lib.hid (show RB (n4.drewN q) w.heap.size _ B ∧ Below w.heap.size w (n4.drewN q) ∧ B.length ≤ 20000000 ∧ (own = true → B = X) from ⟨Kd.R_drewN H8.out.1 q, pw_below_drewN H8.out.2.1 q, H8.out.2.2⟩)
    clear H8
    generalize n4.drewN q = n5 at H9 ⊢
    go_upto_block 0 with fail
    go_cut [11, 16] (fun t11 t16 wc => ∃ (g' o' c' nB : Nat) (tr : Bool), t11 = .slice (some ⟨g', o', none⟩) nB c' ∧ t16 = .bool tr ∧ Hid (∃ B' : List Int, nB = B'.length ∧ QB wc w.heap.size (.slice (some ⟨g', o', none⟩) B'.length c') B' ∧ Below w.heap.size w wc ∧ B'.length ≤ 30000000 ∧ (tr = true → ∀ v, encB v ≠ B')))
    case first =>
      have hr : r = 0 ∨ r = 1 ∨ r = 2 ∨ r = 3 := by omega
      clear hr2 hr3
      have hi2 : (i : Int) < (B.length : Int) := by omega
      have hi3 : (0 : Int) ≤ (i : Int) := by omega
      rcases hr with rfl | rfl | rfl | rfl
      · obtain ⟨y0, z0⟩ := Kd.Q_cell (h1 := fun _ => rfl) 0 (Kd.Q_of_R H9.out.1) (i : Int) hi3 hi2
        rw [Int.toNat_natCast] at y0 z0
        obtain ⟨b, hb⟩ : ∃ b, rdOf 0 B (i : Int) = b := ⟨_, rfl⟩
        rw [hb] at y0
        replace hb := Lib.hid hb
        have HP : Hid (QB (n5.setCell ⟨g, o + i, none⟩ (.int .u8 (bits .xor .u8 b x))) w.heap.size (.slice (some ⟨g, o, none⟩) (B.set i (bits .xor .u8 b x)).length c6) (B.set i (bits .xor .u8 b x)) ∧ Below w.heap.size w (n5.setCell ⟨g, o + i, none⟩ (.int .u8 (bits .xor .u8 b x)))) := Lib.hid (by
          have := (Kd.Q_putg (h1 := fun _ => rfl) (Kd.Q_of_R H9.out.1) (i : Int) hi3 hi2 (bits .xor .u8 b x)).1
          rw [Int.toNat_natCast] at this
          refine ⟨by rw [List.length_set]; exact this, H9.out.2.1.setCell (Kd.Q_base (Kd.Q_of_R H9.out.1) g rfl) _⟩)
        cases own with
        | false =>
          go_wp2_with fail
          go_meet
          exact ⟨g, o, c6, B.length, false, rfl, rfl, Lib.hid ⟨_, by rw [List.length_set], HP.out.1, HP.out.2, by rw [List.length_set]; have := H9.out.2.2.1; omega, fun h => by cases h⟩⟩
        | true =>
          go_wp2_with fail
          go_meet
          exact ⟨g, o, c6, B.length, (x != 0), rfl, rfl, Lib.hid ⟨_, by rw [List.length_set], HP.out.1, HP.out.2, by rw [List.length_set]; have := H9.out.2.2.1; omega, fun h0 v => by
            have hBX : B = X := by simpa using H9.out.2.2.2
            rw [← hb.out]
            exact turned_xor fs B (HX.out.trans hBX.symm) i hi x HU.out.2.2 (by simpa using h0) v⟩⟩
      · have hi4 : i ≤ c6 := by
          obtain ⟨_, h2, _⟩ := Kd.Q_reads' (Kd.Q_of_R H9.out.1)
          omega
        go_wp2_with fail
        go_meet
        have hl : (B.take i).length = i := by rw [List.length_take]; omega
        exact ⟨g, o, c6, i, false, rfl, rfl, Lib.hid ⟨B.take i, hl.symm, by rw [hl]; exact Kd.Q_take (Kd.Q_of_R H9.out.1) (by omega), H9.out.2.1, by have := H9.out.2.2.1; omega, fun h => by cases h⟩⟩
      · obtain ⟨m, hm⟩ : ∃ m : Nat, (if (20 : Int) < (raw.length : Int) then 20 else (raw.length : Int)) = (m : Int) := ⟨min raw.length 20, by split <;> omega⟩
        have hm1 : m ≤ raw.length := by split at hm <;> omega
        have hm2 : m ≤ rc := by have := HV.out.2.2; omega
        have hm3 : m ≤ 20 := by split at hm <;> omega
        go_wp2_with (at_builtin; refine Kd.R_append_row (Value.int .u8) 0 (w0 := w) (h1 := fun _ => rfl) w.heap.size rfl (.tmp 77) (.tmp 82) 30 5 (.int .u8 0) 1 rfl Try.underlying30 info8 rfl (by decide) _ B (raw.take m) RA m rc (fun _ => True) rfl rfl (fun _ _ => trivial) H9.out.1 (C_take (Kd.C_below HV.out.2.1 H9.out.2.1) hm1) H9.out.2.1 H9.out.2.1.size (by have := H9.out.2.2.1; simp; omega) ?_; intro v5 w5 hR hb hg hat; obtain ⟨g5, o5, c5, rfl, _⟩ := Kd.Q_form (Kd.Q_of_R hR) (by rw [List.length_append]; omega))
        go_meet
        have hl : (B ++ raw.take m).length = B.length + m := by rw [List.length_append, List.length_take]; omega
        exact ⟨g5, o5, c5, B.length + m, false, rfl, rfl, Lib.hid ⟨B ++ raw.take m, hl.symm, Kd.Q_of_R hR, hb, by have := H9.out.2.2.1; omega, fun h => by cases h⟩⟩
      · go_wp2_with fail
        go_meet
        exact ⟨g, o, c6, B.length, false, rfl, rfl, Lib.hid ⟨B, rfl, Kd.Q_of_R H9.out.1, H9.out.2.1, by have := H9.out.2.2.1; omega, fun h => by cases h⟩⟩
    case rest =>
    obtain ⟨g', o', c', nB, tr, rfl, rfl, H10⟩ := hcut
    obtain ⟨B', rfl, H10x⟩ := H10.out
    have H11 := Lib.hid H10x
    clear H10 H10x H9
    go_wp2_with fail
    obtain ⟨_, hc1, hC⟩ := Kd.Q_reads' H11.out.1
    refine (RoomyB_any ⟨g', o', none⟩ c' B' wc hC (by have := H11.out.2.2.1; omega) 7).mono ?_
    rintro e w12 ⟨r0, rfl, hBk, hB12, _⟩
    have H12 := Lib.hid (show Blk w12 r0 (B' ++ List.replicate 80 7) ∧ Kd.C (Kd.int .u8) w12 (some ⟨g', o', none⟩) B'.length B' ∧ Below w.heap.size w w12 ∧ B'.length ≤ 30000000 ∧ B'.length ≤ c' ∧ (tr = true → ∀ v, encB v ≠ B') from ⟨hBk, Kd.C_below hC hB12, H11.out.2.1.trans (hB12.mono H11.out.2.1.size), H11.out.2.2.1, hc1, H11.out.2.2.2⟩)
    clear H11 hBk hB12 hC hc1
    have hq1 : B'.length ≤ B'.length + 80 := by omega
    have hq2 : (B'.length : Int) ≤ 30000000 := by have := H12.out.2.2.2.1; omega
    have hq3 : (0 : Int) ≤ (B'.length : Int) := by omega
    have hC : Kd.C (Kd.int .u8) w12 (some ⟨r0, 0, none⟩) B'.length B' := by
      have := C_blk H12.out.1 (m := B'.length) (by simp) (by simp; omega)
      rwa [List.take_left] at this
    rcases decP_cases B' with ⟨v, hd, hev, huv⟩ | hd
    · have tr0 : tr = false := by
        cases tr with
        | false => rfl
        | true => exact absurd hev (H12.out.2.2.2.2.2 rfl v)
      subst tr0
      have HE := Lib.hid (And.intro hev huv)
      clear hev huv
      go_wp2_with fail
      refine (Dec_any (some ⟨r0, 0, none⟩) B'.length (B'.length + 80) B' w12 hC hq1 (v, 0) hd).mono ?_
      clear hC hd
      rintro e n1 ⟨E0, e0, E2, e2, E3, e3, rfl, hZ, hBn⟩
      go_wp2_with fail
      have H13 := Lib.hid (show Blk (n1.alloc (.cells #[.slice E0 v.1.length e0, .int .i64 v.2.1, .slice E2 v.2.2.1.length e2, .slice E3 v.2.2.2.length e3] 29)) r0 (B' ++ List.replicate 80 7) ∧ Kd.C (Kd.int .u8) (n1.alloc (.cells #[.slice E0 v.1.length e0, .int .i64 v.2.1, .slice E2 v.2.2.1.length e2, .slice E3 v.2.2.2.length e3] 29)) (some ⟨g', o', none⟩) B'.length B' ∧ Below w.heap.size w (n1.alloc (.cells #[.slice E0 v.1.length e0, .int .i64 v.2.1, .slice E2 v.2.2.1.length e2, .slice E3 v.2.2.2.length e3] 29)) ∧ (n1.alloc (.cells #[.slice E0 v.1.length e0, .int .i64 v.2.1, .slice E2 v.2.2.1.length e2, .slice E3 v.2.2.2.length e3] 29)).heap[n1.heap.size]? = _ ∧ SesV (n1.alloc (.cells #[.slice E0 v.1.length e0, .int .i64 v.2.1, .slice E2 v.2.2.1.length e2, .slice E3 v.2.2.2.length e3] 29)) _ v from by
        have hBa : Below n1.heap.size n1 (n1.alloc (.cells #[.slice E0 v.1.length e0, .int .i64 v.2.1, .slice E2 v.2.2.1.length e2, .slice E3 v.2.2.2.length e3] 29)) := (Below.refl _ _).alloc (Nat.le_refl _) _
        have hBb := hBn.trans (hBa.mono hBn.size)
        exact ⟨blk5 H12.out.1 hBb, Kd.C_below H12.out.2.1 hBb, H12.out.2.2.1.trans (hBb.mono H12.out.2.2.1.size), heap_alloc_new n1 _, hZ.below hBa⟩)
      clear hZ hBn
      generalize (n1.alloc (.cells #[.slice E0 v.1.length e0, .int .i64 v.2.1, .slice E2 v.2.2.1.length e2, .slice E3 v.2.2.2.length e3] 29)) = n2 at H13 ⊢
      generalize n1.heap.size = K9 at H13 ⊢
      refine (IntactB_any r0 (some ⟨g', o', none⟩) c' B' n2 7 H13.out.1 H13.out.2.1 H12.out.2.2.2.2.1 (by have := H12.out.2.2.2.1; omega)).mono ?_
      rintro e n3 ⟨rfl, hB3⟩
      have H14 := Lib.hid (show Kd.C (Kd.int .u8) n3 (some ⟨g', o', none⟩) B'.length B' ∧ Below w.heap.size w n3 ∧ n3.heap[K9]? = _ ∧ SesV n3 _ v from ⟨Kd.C_below H13.out.2.1 hB3, H13.out.2.2.1.trans (hB3.mono H13.out.2.2.1.size), blk5 H13.out.2.2.2.1 hB3, H13.out.2.2.2.2.below hB3⟩)
      clear H13 hB3
      obtain ⟨S0, S1, S2, S3⟩ := cells4 H14.out.2.2.1
      go_wp2_with fail
      refine (Enc_any v _ _ H14.out.2.2.2 HE.out.2).mono ?_
      rintro e n4 ⟨Y0, y0, rfl, hy, hY, hB4⟩
      rw [HE.out.1] at hy hY
      rw [HE.out.1]
      have H15 := Lib.hid (show Kd.C (Kd.int .u8) n4 Y0 B'.length B' ∧ B'.length ≤ y0 ∧ Kd.C (Kd.int .u8) n4 (some ⟨g', o', none⟩) B'.length B' ∧ Below w.heap.size w n4 from ⟨hY, hy, Kd.C_below H14.out.1 hB4, H14.out.2.1.trans (hB4.mono H14.out.2.1.size)⟩)
      clear H14 S0 S1 S2 S3 hY hy hB4
      go_wp2_with fail
      refine (SameB_any Y0 y0 B' (some ⟨g', o', none⟩) c' B' n4 H15.out.1 H15.out.2.1 H15.out.2.2.1 H12.out.2.2.2.2.1 (by have := H12.out.2.2.2.1; omega)).mono ?_
      rintro e n5 ⟨b, rfl, hb, hB5⟩
      obtain rfl := hb.2 rfl
      have H16 := Lib.hid (H15.out.2.2.2.trans (hB5.mono H15.out.2.2.2.size))
      clear H15 hb hB5
      go_wp2_with fail
      refine (CodeRuns_any _).mono ?_
      rintro e n6 ⟨rfl, hB6⟩
      have H17 := Lib.hid (H16.out.trans (hB6.mono H16.out.size))
      clear H16 hB6
      go_wp2_with fail
      go_ret
      exact ⟨rfl, H17.out⟩
    · go_wp2_with fail
      refine (Dec_any (some ⟨r0, 0, none⟩) B'.length (B'.length + 80) B' w12 hC hq1 (zeroS, 8) hd).mono ?_
      clear hC hd
      rintro e n1 ⟨E0, e0, E2, e2, E3, e3, rfl, hZ, hBn⟩
      go_wp2_with fail
      have H13 := Lib.hid (show Blk (n1.alloc (.cells #[.slice E0 zeroS.1.length e0, .int .i64 zeroS.2.1, .slice E2 zeroS.2.2.1.length e2, .slice E3 zeroS.2.2.2.length e3] 29)) r0 (B' ++ List.replicate 80 7) ∧ Kd.C (Kd.int .u8) (n1.alloc (.cells #[.slice E0 zeroS.1.length e0, .int .i64 zeroS.2.1, .slice E2 zeroS.2.2.1.length e2, .slice E3 zeroS.2.2.2.length e3] 29)) (some ⟨g', o', none⟩) B'.length B' ∧ Below w.heap.size w (n1.alloc (.cells #[.slice E0 zeroS.1.length e0, .int .i64 zeroS.2.1, .slice E2 zeroS.2.2.1.length e2, .slice E3 zeroS.2.2.2.length e3] 29)) ∧ (n1.alloc (.cells #[.slice E0 zeroS.1.length e0, .int .i64 zeroS.2.1, .slice E2 zeroS.2.2.1.length e2, .slice E3 zeroS.2.2.2.length e3] 29)).heap[n1.heap.size]? = _ ∧ SesV (n1.alloc (.cells #[.slice E0 zeroS.1.length e0, .int .i64 zeroS.2.1, .slice E2 zeroS.2.2.1.length e2, .slice E3 zeroS.2.2.2.length e3] 29)) _ zeroS from by
        have hBa : Below n1.heap.size n1 (n1.alloc (.cells #[.slice E0 zeroS.1.length e0, .int .i64 zeroS.2.1, .slice E2 zeroS.2.2.1.length e2, .slice E3 zeroS.2.2.2.length e3] 29)) := (Below.refl _ _).alloc (Nat.le_refl _) _
        have hBb := hBn.trans (hBa.mono hBn.size)
        exact ⟨blk5 H12.out.1 hBb, Kd.C_below H12.out.2.1 hBb, H12.out.2.2.1.trans (hBb.mono H12.out.2.2.1.size), heap_alloc_new n1 _, hZ.below hBa⟩)
      clear hZ hBn
      generalize (n1.alloc (.cells #[.slice E0 zeroS.1.length e0, .int .i64 zeroS.2.1, .slice E2 zeroS.2.2.1.length e2, .slice E3 zeroS.2.2.2.length e3] 29)) = n2 at H13 ⊢
      generalize n1.heap.size = K9 at H13 ⊢
      refine (IntactB_any r0 (some ⟨g', o', none⟩) c' B' n2 7 H13.out.1 H13.out.2.1 H12.out.2.2.2.2.1 (by have := H12.out.2.2.2.1; omega)).mono ?_
      rintro e n3 ⟨rfl, hB3⟩
      have H14 := Lib.hid (show Kd.C (Kd.int .u8) n3 (some ⟨g', o', none⟩) B'.length B' ∧ Below w.heap.size w n3 ∧ n3.heap[K9]? = _ ∧ SesV n3 _ zeroS from ⟨Kd.C_below H13.out.2.1 hB3, H13.out.2.2.1.trans (hB3.mono H13.out.2.2.1.size), blk5 H13.out.2.2.2.1 hB3, H13.out.2.2.2.2.below hB3⟩)
      clear H13 hB3
      obtain ⟨S0, S1, S2, S3⟩ := cells4 H14.out.2.2.1
      go_wp2_with fail
      refine (Sess_any zeroS zeroS _ _ _ H14.out.2.2.2 (SesV.zero _) ⟨by simp [zeroS], by simp [zeroS], by simp [zeroS], by simp [zeroS]⟩).mono ?_
      rintro e n4 ⟨bq, rfl, hbq, hBn⟩
      obtain rfl := hbq.2 rfl
      have H16 := Lib.hid (H14.out.2.1.trans (hBn.mono H14.out.2.1.size))
      clear S0 S1 S2 S3 H14 hBn
      go_wp2_with fail
      refine (CodeRuns_any _).mono ?_
      rintro e n6 ⟨rfl, hB6⟩
      have H17 := Lib.hid (H16.out.trans (hB6.mono H16.out.size))
      clear H16 hB6
      go_wp2_with fail
      go_ret
      exact ⟨rfl, H17.out⟩
end Go.Proofs.Ytgbhejkgnfkfgaa.Cd
