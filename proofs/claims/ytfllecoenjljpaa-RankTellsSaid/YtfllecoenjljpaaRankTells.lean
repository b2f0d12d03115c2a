/- RankTells: the walk. -/
import Derived.Test.YtfllecoenjljpaaRefRankTells
import Derived.Test.YtfllecoenjljpaaMapV
import Derived.Deep.RegionHeld
set_option linter.unusedSimpArgs false
set_option linter.unusedVariables false
namespace Go.Proofs.Ytfllecoenjljpaa.TotRankTells
open Go.RowKit Go.Maps Go.Proofs.Ytfllecoenjljpaa.Given Go.Proofs.Ytfllecoenjljpaa.PRankTells Go.Proofs.YtfllecoenjljpaaW.PrintWords Go.Proofs.YtfllecoenjljpaaW.PrintLast Go.Proofs.YtfllecoenjljpaaW.PrintMore Go.Proofs.Ytfllecoenjljpaa.OrdRankTells Go.Proofs.Ytfllecoenjljpaa.SortRankTells Go.Proofs.Ytfllecoenjljpaa.Sl Go.Proofs.Ytfllecoenjljpaa.Mv

theorem intKeyed : Keyed Try.prog 3 := int_keyed Try.underlying3
abbrev ki (n : Int) : Lit := .int .i64 n
theorem ki_key {x : Int} (h : (Lit.int .i64 x).wf = true) : keyOf Try.prog 3 (.int .i64 x) = some (ki x) := keyOf_int_mk Try.underlying3 h
theorem ki_inj {a b : Int} : ki a = ki b ↔ a = b := ⟨fun h => by injection h, fun h => by rw [h]⟩
theorem zeroB (w : World) : (zeroValue 4).run Try.prog w = .ok (.bool false) w := by kernel_rfl
theorem wf_in0 {n : Int} (h : 1 ≤ n ∧ n ≤ 1000) : (Lit.int .i64 n).wf = true := by
  simp [Lit.wf, IntKind.min, IntKind.max, IntKind.signed, IntKind.bits]; omega
theorem wf_in {n : Int} (h : 0 ≤ n ∧ n < 100) : (Lit.int .i64 n).wf = true := by
  have h1 : IntKind.i64.min ≤ n ∧ n ≤ IntKind.i64.max := by
    have e1 : IntKind.i64.min = -9223372036854775808 := by kernel_rfl
    have e2 : IntKind.i64.max = 9223372036854775807 := by kernel_rfl
    rw [e1, e2]
    omega
  simpa [Lit.wf] using h1
/-- What was met. -/
def Met6 (w : World) (b i : Nat) (S : List Int) : Prop := ∃ k m f, k ≤ i ∧ MapV 3 w b k m f ∧ ∀ x : Int, f (ki x) = if x ∈ S.take i then some (.bool true) else none
theorem Met6.below {w w' : World} {b i : Nat} {S : List Int} (h : Met6 w b i S) (hB : Below w.heap.size w w') : Met6 w' b i S := by
  obtain ⟨k, m, f, h1, h2, h3⟩ := h
  exact ⟨k, m, f, h1, h2.below hB, h3⟩
/-- Who is first of those ahead of i. -/
def Fst (ls : Ls) (i : Nat) (F : Int) : Prop := (i = 0 → F = -1) ∧ (0 < i → 0 ≤ F ∧ F < i ∧ ∀ x : Int, 0 ≤ x → x < i → x ≠ F → ltp ls F x)
theorem Fst.yes {ls : Ls} {i : Nat} {F : Int} (h : Fst ls i F) (hc : F < 0 ∨ cz ls i F < 0) : Fst ls (i + 1) i := by
  refine ⟨fun h => by omega, fun _ => ⟨by omega, by omega, fun x h0 h1 h2 => ?_⟩⟩
  by_cases e : i = 0
  · omega
  · obtain ⟨g0, g1, g2⟩ := h.2 (by omega)
    have hd : cz ls i F < 0 := hc.resolve_left (by omega)
    by_cases e2 : x = F
    · rw [e2]; exact .inl hd
    · exact ltp_trans (.inl hd) (g2 x h0 (by omega) e2)
theorem Fst.no {ls : Ls} {i : Nat} {F : Int} (h : Fst ls i F) (h0 : 0 ≤ F) (hc : ¬ cz ls i F < 0) : Fst ls (i + 1) F := by
  have hi : 0 < i := by
    by_cases e : i = 0
    · have := h.1 e; omega
    · omega
  obtain ⟨g0, g1, g2⟩ := h.2 hi
  refine ⟨fun h => by omega, fun _ => ⟨g0, by omega, fun x h0 h1 h2 => ?_⟩⟩
  by_cases e : x = (i : Int)
  · rw [e]
    have := (good_z ls).anti (i : Int) F
    unfold ltp
    omega
  · exact g2 x h0 (by omega) h2
theorem cell_below {w w' : World} {a : Addr} {u : Value} (hB : Below w.heap.size w w') (h : w.cell? a = some u) : w'.cell? a = some u := (World.cell?_of_block (hB.block _ (World.block_lt_of_cell? _ _ h))).trans h
theorem rd_get1 (l : List Int) (i : Nat) (hi : i < l.length) : rd l (i : Int) = l[i] := by
  unfold rd
  rw [List.getD_eq_getElem?_getD]
  simp [List.getElem?_eq_getElem hi]
theorem Met6.new {w : World} {b i : Nat} {S : List Int} (h : Met6 w b i S) (hi : i < S.length) (hnd : S.Nodup) (hw : (Lit.int .i64 S[i]).wf = true) : (Instr.lookup 40 (.map (some b)) (.int .i64 S[i]) false).run Try.prog w = .ok (.bool false) w := by
  obtain ⟨k, m, f, h1, h2, h3⟩ := h
  have h4 := h2.get intKeyed Try.underlying40 (zeroB w) (ki_key hw)
  have h5 : S[i] ∉ S.take i := fun e => by
    obtain ⟨j, hj, hj2⟩ := List.mem_take_iff_getElem.1 e
    have := (List.nodup_iff_pairwise_ne.1 hnd)
    have h6 := List.pairwise_iff_getElem.1 this j i (by omega) hi (by omega)
    exact h6 hj2
  rw [h3, if_neg h5] at h4
  exact h4
theorem Met6.put {w : World} {b i : Nat} {S : List Int} (h : Met6 w b i S) (hi : i < S.length) (h100 : i ≤ 1000) (hw : (Lit.int .i64 S[i]).wf = true) : ∃ w', (Instr.mapUpdate 40 (.map (some b)) (.int .i64 S[i]) (.bool true)).run Try.prog w = .ok () w' ∧ Met6 w' b (i + 1) S ∧ w.grownBy w' (some b) := by
  classical
  obtain ⟨k, m, f, h1, h2, h3⟩ := h
  obtain ⟨w', r1, r2, r3⟩ := h2.put intKeyed Try.underlying40 (by unfold maxLen; omega) (ki_key hw) (.bool true) (fun kl => if kl = ki S[i] then some (.bool true) else f kl) (if_pos rfl) (fun kl h => if_neg h)
  refine ⟨w', r1, ⟨k + 1, _, _, by omega, r2, fun x => ?_⟩, r3⟩
  have ht : S.take (i + 1) = S.take i ++ [S[i]] := by rw [List.take_add_one, List.getElem?_eq_getElem hi]; rfl
  rw [ht]
  by_cases e : x = S[i]
  · rw [if_pos (by rw [e]), if_pos (by rw [e]; exact List.mem_append_right _ (List.mem_singleton_self _))]
  · rw [if_neg (fun h => e (ki_inj.1 h)), h3]
    by_cases m : x ∈ S.take i
    · rw [if_pos m, if_pos (List.mem_append_left _ m)]
    · rw [if_neg m, if_neg (fun h => (List.mem_append.1 h).elim m (fun h => e (List.mem_singleton.1 h)))]
theorem Met6.lt {w : World} {b i : Nat} {S : List Int} (h : Met6 w b i S) : b < w.heap.size := by
  obtain ⟨k, m, f, h1, h2, h3⟩ := h
  exact h2.lt
attribute [local go_sem] max2_int min2_int max_two min_two
set_option maxHeartbeats 8000000 in
set_option maxRecDepth 100000 in
theorem RankTells_any (A0 : Option Addr) (c0 : Nat) (ks : List S31) (A1 : Option Addr) (c1 : Nat) (raw : Ls) (w : World) (hr0 : Kd.C k31 w A0 ks.length ks) (hc0 : ks.length ≤ c0) (hr1 : Kd.C KL w A1 raw.length raw) (hc1 : raw.length ≤ c1) (hks : ∀ x ∈ ks, x.f1.length * 8 ≤ 140737488351232) : Calls Try.prog 5 #[.slice A0 ks.length c0, .slice A1 raw.length c1] w fun e w' => e = .returned (.bool true) ∧ Below w.heap.size w w' := by
  obtain ⟨L, hLf, hL1, hL2⟩ := some_ok 100 (by omega) ks raw hks
  have HC := Lib.hid (porticolaw6_some.calls 100 A0 c0 ks A1 c1 raw L w hr0 hc0 hr1 hc1 hLf)
  have hLx : ∀ x ∈ L, x.length ≤ 20 := fun x h => by have := hL2 x h; omega
  have HLX := Lib.hid hLx
  clear hr0 hc0 hr1 hc1 hks hLf hL2 hLx
  go_enter Try.func5, Try.ntmps5
  go_wp2_with fail
  refine HC.out.mono ?_
  rintro e w1 ⟨v1, rfl, hS, hB⟩
  obtain ⟨A, c, rfl⟩ := Kd.S_slice hS
  have h1 := Kd.S_reads' hS
  have H1 := Lib.hid (And.intro h1.2.1 (And.intro h1.2.2 hB))
  clear HC hS hB h1
  go_wp2_with fail
  refine (Sorted_any A c L w1 H1.out.2.1 H1.out.1 HLX.out (by omega)).mono ?_
  rintro e w2 ⟨v2, rfl, hR, hB⟩
  obtain ⟨S, hS⟩ : ∃ S, sortL L = S := ⟨_, rfl⟩
  rw [hS] at hR
  obtain ⟨A2, c2, rfl⟩ := Kd.R_slice hR
  have hSo := inOrder_ex L
  rw [hS] at hSo
  have hSl : S.length = L.length := by rw [hSo.1.length_eq, places_len]
  have h2 := Kd.R_reads' hR
  obtain ⟨n, hn⟩ : ∃ n, L.length = n := ⟨_, rfl⟩
  rw [hSl, hn] at h2 ⊢
  have hn11 : (n : Int) ≤ 11 := by omega
  have H2 : Hid (Kd.C KL w2 A n L ∧ Kd.C (Kd.int .i64) w2 A2 n S ∧ n ≤ c2 ∧ Below w.heap.size w w2 ∧ L.length = n ∧ S.length = n ∧ (∀ x ∈ S, 0 ≤ x ∧ x < n) ∧ S.Nodup ∧ S.Pairwise (ltp L) ∧ (0 < n → ∃ F t, S = F :: t)) := Lib.hid ⟨by rw [← hn]; exact Kd.C_below H1.out.2.1 hB, h2.2.2, h2.2.1, H1.out.2.2.trans (hB.mono H1.out.2.2.size), hn, by rw [hSl, hn], fun x hx => by
    have := places_mem.1 (hSo.1.mem_iff.1 hx)
    omega, hSo.1.nodup_iff.2 (places_nodup _), hSo.2, fun h0 => by
    cases e : S with
    | nil => rw [e] at hSl; simp at hSl; omega
    | cons F t => exact ⟨F, t, rfl⟩⟩
  have hnn : ((n : Int) != (n : Int)) = false := by simp
  have hmm := @Go.RowKit.run_makeMap Try.prog
  have HLC := Lib.hid H1.out.1
  have HL20 : Hid (L.length < 20) := Lib.hid (by omega)
  clear H1 hR hB hS hSo hSl h2 hL1 hn
  go_upto_block 0 with fail
  clear hmm
  obtain ⟨b, hb⟩ : ∃ b, w2.heap.size = b := ⟨_, rfl⟩
  have hBa : Below w2.heap.size w2 (w2.alloc (.map #[] 0)) := (Below.refl _ _).alloc (Nat.le_refl _) _
  have H3 : Hid (Below w2.heap.size w2 (w2.alloc (.map #[] 0)) ∧ Met6 (w2.alloc (.map #[] 0)) b 0 S) := Lib.hid ⟨hBa, 0, 0, fun _ => none, Nat.le_refl _, by rw [← hb]; exact MapV.made w2 _, fun x => by simp⟩
  rw [hb]
  generalize w2.alloc (.map #[] 0) = w3 at H3 ⊢
  clear hBa
  have HBZ := Lib.hid hb
  clear hb
  have HI0 : Hid (∀ W, Below w2.heap.size w2 W → Kd.C KL W A L.length L ∧ Kd.C (Kd.int .i64) W A2 n S) := Lib.hid fun W hB => ⟨Kd.C_below (by rw [H2.out.2.2.2.2.1]; exact H2.out.1) hB, Kd.C_below H2.out.2.1 hB⟩
  go_cut [8] (fun t8 wc => ∃ F : Int, t8 = .int .i64 F ∧ Hid (Below w2.heap.size w2 wc ∧ Fst L n F))
  case first =>
    go_wp2_with fail
    go_loopw [8, 25] (fun t8 t25 wr => ∃ (i : Nat) (F : Int), t8 = .int .i64 F ∧ t25 = .int .i64 (i : Int) ∧ i ≤ n ∧ Hid (Below w2.heap.size w2 wr ∧ Met6 wr b i S ∧ Fst L i F)) (fun _ t _ => match t with | .int _ q => (n - q).toNat | _ => 0)
    case atStart => exact ⟨0, -1, rfl, rfl, by omega, Lib.hid ⟨H3.out.1, H3.out.2, fun _ => rfl, fun h => by omega⟩⟩
    case round =>
      clear H3
      obtain ⟨i, F, rfl, rfl, hi, HI⟩ := hrel
      have i0 : (0 : Int) ≤ (i : Int) := by omega
      by_cases d1 : i < n
      · have d1i : (i : Int) < (n : Int) := by omega
        go_upto_block 1 with fail
        go_cut [8] (fun t8 wc => ∃ F : Int, t8 = .int .i64 F ∧ Hid (Below w2.heap.size w2 wc ∧ Met6 wc b (i + 1) S ∧ Fst L (i + 1) F))
        case first =>
          go_upto_block 2 with fail
          go_cut [] (fun wc => Hid (Below w2.heap.size w2 wc ∧ Met6 wc b i S))
          case first =>
-- DEV<
            go_wp2_with fail
            go_loopw [30] (fun t30 wq => ∃ j : Nat, t30 = .int .i64 (j : Int) ∧ j ≤ n ∧ Hid (Below w2.heap.size w2 wq ∧ Met6 wq b i S)) (fun t _ => match t with | .int _ q => (n - q).toNat | _ => 0)
            case atStart => exact ⟨0, rfl, by omega, Lib.hid ⟨HI.out.1, HI.out.2.1⟩⟩
            case round =>
              clear HI
              obtain ⟨j, rfl, hj, HJ⟩ := hrel
              have j0 : (0 : Int) ≤ (j : Int) := by omega
              by_cases d2 : j < n
              · have d2i : (j : Int) < (n : Int) := by omega
                have hLn := H2.out.2.2.2.2.1
                have hCL := (HI0.out wr HJ.out.1).1
                obtain ⟨ad, A3, c3, e1, y1, l3, g3⟩ := at_LL hCL (i : Int) i0 (by omega)
                obtain ⟨ad4, A4, c4, e4, y2, l4, g4⟩ := at_LL hCL (j : Int) j0 (by omega)
                have e5 := e1.symm.trans e4
                injection e5 with e5
                subst e5 e1
                obtain ⟨C, hC⟩ : ∃ C, cz L (i : Int) (j : Int) = C := ⟨_, rfl⟩
                have HC1 : Hid (∀ W', Below wr.heap.size wr W' → Calls Try.prog 8 #[.slice A3 (gl L (i : Int)).length c3, .slice A4 (gl L (j : Int)).length c4] W' fun e w' => e = .returned (.int .i64 C) ∧ Below W'.heap.size W' w') := Lib.hid fun W' hB => by
                  rw [← hC]
                  exact cmp_any A3 c3 (gl L i) A4 c4 (gl L j) W' (Kd.C_below g3 hB) l3 (Kd.C_below g4 hB) l4 (gl_len HLX.out i) (gl_len HLX.out j)
                have HC2 : Hid (∀ W', Below wr.heap.size wr W' → Calls Try.prog 15 #[.slice A3 (gl L (i : Int)).length c3, .slice A4 (gl L (j : Int)).length c4] W' fun e w' => e = .returned (.int .i64 C) ∧ Below W'.heap.size W' w') := Lib.hid fun W' hB => by
                  rw [← hC]
                  exact ref_any A3 c3 (gl L i) A4 c4 (gl L j) W' (Kd.C_below g3 hB) l3 (Kd.C_below g4 hB) l4 (gl_len HLX.out i) (gl_len HLX.out j)
                obtain ⟨V3, hV3⟩ : ∃ V, Value.slice A3 (gl L (i : Int)).length c3 = V := ⟨_, rfl⟩
                obtain ⟨V4, hV4⟩ : ∃ V, Value.slice A4 (gl L (j : Int)).length c4 = V := ⟨_, rfl⟩
                rw [hV3] at HC1 HC2 y1
                rw [hV4] at HC1 HC2 y2
                rw [show (i : Int).toNat = i from by omega] at y1
                rw [show (j : Int).toNat = j from by omega] at y2
                have HKEEP : Hid (∀ W', Below wr.heap.size wr W' → W'.cell? (ad.add i) = some V3 ∧ W'.cell? (ad.add j) = some V4 ∧ Below wr.heap.size wr W') := Lib.hid fun W' hB => by
                  exact ⟨cell_below hB y1, cell_below hB y2, hB⟩
                have hcc : (C != C) = false := by simp
                clear e4 hCL hLn hC hV3 hV4 g3 g4 l3 l4 y1 y2
                go_upto_region 13 with fail
                go_region_held (fun w' => w'.cell? (ad.add i) = some V3 ∧ w'.cell? (ad.add j) = some V4 ∧ Below wr.heap.size wr w') (first | exact HKEEP.out _ HBb.out | exact HKEEP.out _ HBa.out | exact HKEEP.out _ (pw_below_drewN (Below.refl _ _) 1)) ((first
                  | (go_at_call 8; refine (HC1.out _ (pw_below_drewN (Below.refl _ _) 1)).mono ?_; rintro e w8 ⟨rfl, hB⟩; have HBa := Lib.hid ((pw_below_drewN (Below.refl wr.heap.size wr) 1).trans (hB.mono (pw_below_drewN (Below.refl wr.heap.size wr) 1).size)); clear hB)
                  | (go_at_call 15; refine (HC2.out _ HBa.out).mono ?_; rintro e w9 ⟨rfl, hB⟩; have HBb := Lib.hid (HBa.out.trans (hB.mono HBa.out.size)); clear hB)))
                all_goals
                  go_wp2_with fail
                  go_roundw
                  case rel => exact ⟨j + 1, by go_num, by omega, Lib.hid ⟨HJ.out.1.trans (HBb.out.mono HJ.out.1.size), HJ.out.2.below HBb.out⟩⟩
                  case measure => simp; omega
              · have d2i : ¬ (j : Int) < (n : Int) := by omega
                go_wp2_with fail
                go_meet
                exact HJ
-- DEV>
          case rest =>
          obtain ⟨wx, rfl⟩ : ∃ x, x = wc := ⟨_, rfl⟩
          have HX := Lib.hid (And.intro hcut.out.1 (And.intro hcut.out.2 HI.out.2.2))
          clear hcut HI
          go_upto_region 16 with fail
          go_cut [66] (fun t66 wc => ∃ T : Bool, t66 = .bool T ∧ Hid ((T = true ↔ F < 0 ∨ cz L (i : Int) F < 0) ∧ Below wx.heap.size wx wc))
          case first =>
-- DEV2<
            by_cases f0 : F < 0
            · have f0d : decide (F < 0) = true := decide_eq_true f0
              go_quiet (fail)
              go_wp2_with fail
              go_meet
              exact ⟨true, rfl, Lib.hid ⟨⟨fun _ => .inl f0, fun _ => rfl⟩, pw_below_drewN (Below.refl _ _) _⟩⟩
            · have f0d : decide (F < 0) = false := decide_eq_false f0
              have F0 : (0 : Int) ≤ F := by omega
              have hFi : F < (i : Int) := by
                have h5 := HX.out.2.2
                by_cases e : i = 0
                · have := h5.1 e; omega
                · exact (h5.2 (by omega)).2.1
              have Fn : F < (n : Int) := by omega
              have hLn := H2.out.2.2.2.2.1
              have hCL := (HI0.out wx HX.out.1).1
              obtain ⟨ad, A3, c3, e1, y1, l3, g3⟩ := at_LL hCL (i : Int) i0 (by omega)
              obtain ⟨ad4, A4, c4, e4, y2, l4, g4⟩ := at_LL hCL F F0 (by omega)
              have e5 := e1.symm.trans e4
              injection e5 with e5
              subst e5 e1
              obtain ⟨C, hC⟩ : ∃ C, cz L (i : Int) F = C := ⟨_, rfl⟩
              have HC2 : Hid (∀ W', Below wx.heap.size wx W' → Calls Try.prog 15 #[.slice A3 (gl L (i : Int)).length c3, .slice A4 (gl L F).length c4] W' fun e w' => e = .returned (.int .i64 C) ∧ Below W'.heap.size W' w') := Lib.hid fun W' hB => by
                rw [← hC]
                exact ref_any A3 c3 (gl L i) A4 c4 (gl L F) W' (Kd.C_below g3 hB) l3 (Kd.C_below g4 hB) l4 (gl_len HLX.out i) (gl_len HLX.out F)
              obtain ⟨V3, hV3⟩ : ∃ V, Value.slice A3 (gl L (i : Int)).length c3 = V := ⟨_, rfl⟩
              obtain ⟨V4, hV4⟩ : ∃ V, Value.slice A4 (gl L F).length c4 = V := ⟨_, rfl⟩
              rw [hV3] at HC2 y1
              rw [hV4] at HC2 y2
              rw [show (i : Int).toNat = i from by omega] at y1
              have HKEEP : Hid (∀ W', Below wx.heap.size wx W' → W'.cell? (ad.add i) = some V3 ∧ W'.cell? (ad.add F.toNat) = some V4 ∧ Below wx.heap.size wx W') := Lib.hid fun W' hB => ⟨cell_below hB y1, cell_below hB y2, hB⟩
              have HCC := Lib.hid hC
              obtain ⟨D, hD⟩ : ∃ D, decide (C < 0) = D := ⟨_, rfl⟩
              have HD := Lib.hid hD
              clear e4 hCL hLn hC hV3 hV4 g3 g4 l3 l4 y1 y2 hFi f0
              go_region_held (fun w' => w'.cell? (ad.add i) = some V3 ∧ w'.cell? (ad.add F.toNat) = some V4 ∧ Below wx.heap.size wx w') (first | exact HKEEP.out _ HBa.out | exact HKEEP.out _ (pw_below_drewN (Below.refl _ _) 1)) ((go_at_call 15; refine (HC2.out _ (pw_below_drewN (Below.refl _ _) 1)).mono ?_; rintro e w8 ⟨rfl, hB⟩; have HBa := Lib.hid ((pw_below_drewN (Below.refl wx.heap.size wx) 1).trans (hB.mono (pw_below_drewN (Below.refl wx.heap.size wx) 1).size)); clear hB))
              all_goals
                go_wp2_with fail
                go_meet
                exact ⟨D, rfl, Lib.hid ⟨by rw [HCC.out]; exact ⟨fun h => .inr (of_decide_eq_true (HD.out.trans h)), fun h => HD.out.symm.trans (decide_eq_true (h.resolve_left (by omega)))⟩, HBa.out⟩⟩
-- DEV2>
          case rest =>
          obtain ⟨wy, rfl⟩ : ∃ x, x = wc := ⟨_, rfl⟩
          obtain ⟨T, rfl, HT⟩ := hcut
          have HY : Hid (Below w2.heap.size w2 wy ∧ Met6 wy b i S) := Lib.hid ⟨HX.out.1.trans (HT.out.2.mono HX.out.1.size), HX.out.2.1.below HT.out.2⟩
          have HF := Lib.hid (And.intro HX.out.2.2 HT.out.1)
          clear HX HT
          have HN : Hid (i < S.length ∧ S.Nodup ∧ (Lit.int .i64 (rd S (i : Int))).wf = true ∧ (∀ (h : i < S.length), rd S (i : Int) = S[i]) ∧ 0 ≤ rd S (i : Int) ∧ rd S (i : Int) < n) := Lib.hid (by
            have e := H2.out.2.2.2.2.2.1
            have hi9 : i < S.length := by omega
            have hr := rd_get1 S i hi9
            have hm := H2.out.2.2.2.2.2.2.1 S[i] (List.getElem_mem hi9)
            exact ⟨hi9, H2.out.2.2.2.2.2.2.2.1, by rw [hr]; exact wf_in ⟨hm.1, by omega⟩, fun _ => hr, by rw [hr]; exact hm.1, by rw [hr]; exact hm.2⟩)
          obtain ⟨ad2, e2, y5⟩ := Kd.at_int (HI0.out wy HY.out.1).2 (i : Int) i0 d1i
          rw [show (i : Int).toNat = i from by omega] at y5
          subst e2
          obtain ⟨x, hx⟩ : ∃ x, rd S (i : Int) = x := ⟨_, rfl⟩
          have x0 : (0 : Int) ≤ x := by rw [← hx]; exact HN.out.2.2.2.2.1
          have xn : x < (n : Int) := by rw [← hx]; exact HN.out.2.2.2.2.2
          have x0d : decide (x < 0) = false := decide_eq_false (by omega)
          have xnd : decide (x ≥ (n : Int)) = false := decide_eq_false (by omega)
          have lk := HY.out.2.new HN.out.1 HN.out.2.1 (by rw [← HN.out.2.2.2.1 HN.out.1]; exact HN.out.2.2.1)
          obtain ⟨w5, r5, m5, g5⟩ := HY.out.2.put HN.out.1 (by omega) (by rw [← HN.out.2.2.2.1 HN.out.1]; exact HN.out.2.2.1)
          rw [← HN.out.2.2.2.1 HN.out.1, hx] at lk r5
          rw [hx] at y5
          have H5 : Hid (Below w2.heap.size w2 w5 ∧ Met6 w5 b (i + 1) S) := Lib.hid ⟨HY.out.1.grown g5 HY.out.1.size (fun k hk => by cases hk; rw [HBZ.out]; exact Nat.le_refl _), m5⟩
          have HX9 := Lib.hid hx
          clear m5 g5 hx
          have HFF : Hid ((T = false → Fst L (i + 1) F) ∧ (T = true → Fst L (i + 1) (i : Int))) := Lib.hid ⟨fun e => by
            have h1 : ¬ (F < 0 ∨ cz L (i : Int) F < 0) := fun h => by rw [HF.out.2.2 h] at e; cases e
            exact HF.out.1.no (by omega) (fun h => h1 (.inr h)), fun e => HF.out.1.yes (HF.out.2.1 e)⟩
          clear HF
          cases T
          · have HF2 := Lib.hid (HFF.out.1 rfl)
            go_upto_region 21 with fail
            by_cases d0 : (0 : Int) < (i : Int)
            · have d0d : decide ((i : Int) > 0) = true := decide_eq_true (by omega)
              obtain ⟨q, hqe⟩ : ∃ q : Nat, i = q + 1 := ⟨i - 1, by omega⟩
              subst hqe
              have q0 : (0 : Int) ≤ (q : Int) := by omega
              have qn : (q : Int) < (n : Int) := by omega
              have hqi : q < q + 1 := by omega
              have jn : (q : Int) + 1 < (n : Int) := by omega
              have j0b : (0 : Int) ≤ (q : Int) + 1 := by omega
              have jra : IntKind.i64.wrap ((q : Int) + 1) = (q : Int) + 1 := by rw [IntKind.wrap_i64]; omega
              have jrb : IntKind.i64.wrap (q : Int) = (q : Int) := by rw [IntKind.wrap_i64]; omega
              have jto : ((q : Int) + 1).toNat = q + 1 := by omega
              have hCS := (HI0.out w5 H5.out.1).2
              have hCL := (HI0.out w5 H5.out.1).1
              obtain ⟨ad5, e5, y5⟩ := Kd.at_int hCS ((q + 1 : Nat) : Int) i0 d1i
              obtain ⟨ad6, e6, y6⟩ := Kd.at_int hCS (q : Int) q0 qn
              injection e5 with e5
              injection e6 with e6
              subst e5 e6
              obtain ⟨p, hp⟩ : ∃ p, rd S (q : Int) = p := ⟨_, rfl⟩
              have hsl : S.length = n := H2.out.2.2.2.2.2.1
              have hpS : S[q]'(by omega) = p := by rw [← hp]; exact (rd_get1 S q (by omega)).symm
              have hxS : S[q + 1]'(by omega) = x := by rw [← HX9.out]; exact (HN.out.2.2.2.1 HN.out.1).symm
              have hlt : ltp L p x := by
                have h6 := List.pairwise_iff_getElem.1 H2.out.2.2.2.2.2.2.2.2.1 q (q + 1) (by omega) (by omega) hqi
                rwa [hpS, hxS] at h6
              have hpm := H2.out.2.2.2.2.2.2.1 p (by rw [← hpS]; exact List.getElem_mem _)
              have p0 : (0 : Int) ≤ p := hpm.1
              have pn : p < (n : Int) := hpm.2
              rw [hp] at y6
              rw [HX9.out] at y5
              rw [show ((q + 1 : Nat) : Int).toNat = q + 1 from by omega, show ad2.add (q + 1) = ⟨ad2.block, ad2.off + (q + 1), none⟩ from by simp [Addr.add]] at y5
              rw [show (q : Int).toNat = q from by omega] at y6
              have hLn := H2.out.2.2.2.2.1
              obtain ⟨ad, A3, c3, e1, y1, l3, g3⟩ := at_LL hCL p p0 (by omega)
              obtain ⟨ad4, A4, c4, e4, y2, l4, g4⟩ := at_LL hCL x x0 (by omega)
              have e7 := e1.symm.trans e4
              injection e7 with e7
              subst e7 e1
              obtain ⟨C, hC⟩ : ∃ C, cz L p x = C := ⟨_, rfl⟩
              have hlt2 : C < 0 ∨ (C = 0 ∧ p < x) := by rw [← hC]; exact hlt
              have HC2 : Hid (∀ W', Below w5.heap.size w5 W' → Calls Try.prog 15 #[.slice A3 (gl L p).length c3, .slice A4 (gl L x).length c4] W' fun e w' => e = .returned (.int .i64 C) ∧ Below W'.heap.size W' w') := Lib.hid fun W' hB => by
                rw [← hC]
                exact ref_any A3 c3 (gl L p) A4 c4 (gl L x) W' (Kd.C_below g3 hB) l3 (Kd.C_below g4 hB) l4 (gl_len HLX.out p) (gl_len HLX.out x)
              obtain ⟨V3, hV3⟩ : ∃ V, Value.slice A3 (gl L p).length c3 = V := ⟨_, rfl⟩
              obtain ⟨V4, hV4⟩ : ∃ V, Value.slice A4 (gl L x).length c4 = V := ⟨_, rfl⟩
              rw [hV3] at HC2 y1
              rw [hV4] at HC2 y2
              have HKEEP : Hid (∀ W', Below w5.heap.size w5 W' → W'.cell? ⟨ad2.block, ad2.off + (q + 1), none⟩ = some (.int .i64 x) ∧ W'.cell? (ad2.add q) = some (.int .i64 p) ∧ W'.cell? (ad.add p.toNat) = some V3 ∧ W'.cell? (ad.add x.toNat) = some V4 ∧ Below w5.heap.size w5 W') := Lib.hid fun W' hB => ⟨cell_below hB y5, cell_below hB y6, cell_below hB y1, cell_below hB y2, hB⟩
              clear e4 hCL hCS hLn hC hV3 hV4 g3 g4 l3 l4 y1 y2 y5 y6 hlt hpm hpS hxS hp hsl lk r5 HN
              go_upto_region 22 with fail
              go_region_held (fun w' => w'.cell? ⟨ad2.block, ad2.off + (q + 1), none⟩ = some (.int .i64 x) ∧ w'.cell? (ad2.add q) = some (.int .i64 p) ∧ w'.cell? (ad.add p.toNat) = some V3 ∧ w'.cell? (ad.add x.toNat) = some V4 ∧ Below w5.heap.size w5 w') (first | exact HKEEP.out _ HBa.out | exact HKEEP.out _ (pw_below_drewN (Below.refl _ _) 1)) ((go_at_call 15; refine (HC2.out _ (pw_below_drewN (Below.refl _ _) 1)).mono ?_; rintro e w8 ⟨rfl, hB⟩; have HBa := Lib.hid ((pw_below_drewN (Below.refl w5.heap.size w5) 1).trans (hB.mono (pw_below_drewN (Below.refl w5.heap.size w5) 1).size)); clear hB))
              all_goals
                obtain ⟨y5, y6, _, _, _⟩ := HKEEP.out w8 HBa.out
                have H8 : Hid (∀ m, Below w2.heap.size w2 (w8.drewN m) ∧ Met6 (w8.drewN m) b (q + 1 + 1) S) := Lib.hid fun m => ⟨pw_below_drewN (H5.out.1.trans (HBa.out.mono H5.out.1.size)) m, (H5.out.2.below HBa.out).below (pw_below_drewN (Below.refl _ _) m)⟩
                have c1d : decide (C > 0) = false := decide_eq_false (by omega)
                clear HKEEP HC2
                go_upto_region 23 with fail
                by_cases c2 : C = 0
                · have c2d : (C == 0) = true := by simpa using c2
                  have c3d : decide (p > x) = false := decide_eq_false (by omega)
                  clear c2 hlt2
                  go_quiet (fail)
                  go_wp2_with fail
                  go_meet
                  exact ⟨_, rfl, Lib.hid ⟨(H8.out _).1, (H8.out _).2, HF2.out⟩⟩
                · have c2d : (C == 0) = false := by simpa using c2
                  clear c2 hlt2
                  go_quiet (fail)
                  go_wp2_with fail
                  go_meet
                  exact ⟨_, rfl, Lib.hid ⟨(H8.out _).1, (H8.out _).2, HF2.out⟩⟩
            · have d0d : decide ((i : Int) > 0) = false := decide_eq_false (by omega)
              go_wp2_with fail
              go_meet
              exact ⟨_, rfl, Lib.hid ⟨H5.out.1, H5.out.2, HF2.out⟩⟩
-- DEV<
          · have HF2 := Lib.hid (HFF.out.2 rfl)
            go_upto_region 21 with fail
            by_cases d0 : (0 : Int) < (i : Int)
            · have d0d : decide ((i : Int) > 0) = true := decide_eq_true (by omega)
              obtain ⟨q, hqe⟩ : ∃ q : Nat, i = q + 1 := ⟨i - 1, by omega⟩
              subst hqe
              have q0 : (0 : Int) ≤ (q : Int) := by omega
              have qn : (q : Int) < (n : Int) := by omega
              have hqi : q < q + 1 := by omega
              have jn : (q : Int) + 1 < (n : Int) := by omega
              have j0b : (0 : Int) ≤ (q : Int) + 1 := by omega
              have jra : IntKind.i64.wrap ((q : Int) + 1) = (q : Int) + 1 := by rw [IntKind.wrap_i64]; omega
              have jrb : IntKind.i64.wrap (q : Int) = (q : Int) := by rw [IntKind.wrap_i64]; omega
              have jto : ((q : Int) + 1).toNat = q + 1 := by omega
              have hCS := (HI0.out w5 H5.out.1).2
              have hCL := (HI0.out w5 H5.out.1).1
              obtain ⟨ad5, e5, y5⟩ := Kd.at_int hCS ((q + 1 : Nat) : Int) i0 d1i
              obtain ⟨ad6, e6, y6⟩ := Kd.at_int hCS (q : Int) q0 qn
              injection e5 with e5
              injection e6 with e6
              subst e5 e6
              obtain ⟨p, hp⟩ : ∃ p, rd S (q : Int) = p := ⟨_, rfl⟩
              have hsl : S.length = n := H2.out.2.2.2.2.2.1
              have hpS : S[q]'(by omega) = p := by rw [← hp]; exact (rd_get1 S q (by omega)).symm
              have hxS : S[q + 1]'(by omega) = x := by rw [← HX9.out]; exact (HN.out.2.2.2.1 HN.out.1).symm
              have hlt : ltp L p x := by
                have h6 := List.pairwise_iff_getElem.1 H2.out.2.2.2.2.2.2.2.2.1 q (q + 1) (by omega) (by omega) hqi
                rwa [hpS, hxS] at h6
              have hpm := H2.out.2.2.2.2.2.2.1 p (by rw [← hpS]; exact List.getElem_mem _)
              have p0 : (0 : Int) ≤ p := hpm.1
              have pn : p < (n : Int) := hpm.2
              rw [hp] at y6
              rw [HX9.out] at y5
              rw [show ((q + 1 : Nat) : Int).toNat = q + 1 from by omega, show ad2.add (q + 1) = ⟨ad2.block, ad2.off + (q + 1), none⟩ from by simp [Addr.add]] at y5
              rw [show (q : Int).toNat = q from by omega] at y6
              have hLn := H2.out.2.2.2.2.1
              obtain ⟨ad, A3, c3, e1, y1, l3, g3⟩ := at_LL hCL p p0 (by omega)
              obtain ⟨ad4, A4, c4, e4, y2, l4, g4⟩ := at_LL hCL x x0 (by omega)
              have e7 := e1.symm.trans e4
              injection e7 with e7
              subst e7 e1
              obtain ⟨C, hC⟩ : ∃ C, cz L p x = C := ⟨_, rfl⟩
              have hlt2 : C < 0 ∨ (C = 0 ∧ p < x) := by rw [← hC]; exact hlt
              have HC2 : Hid (∀ W', Below w5.heap.size w5 W' → Calls Try.prog 15 #[.slice A3 (gl L p).length c3, .slice A4 (gl L x).length c4] W' fun e w' => e = .returned (.int .i64 C) ∧ Below W'.heap.size W' w') := Lib.hid fun W' hB => by
                rw [← hC]
                exact ref_any A3 c3 (gl L p) A4 c4 (gl L x) W' (Kd.C_below g3 hB) l3 (Kd.C_below g4 hB) l4 (gl_len HLX.out p) (gl_len HLX.out x)
              obtain ⟨V3, hV3⟩ : ∃ V, Value.slice A3 (gl L p).length c3 = V := ⟨_, rfl⟩
              obtain ⟨V4, hV4⟩ : ∃ V, Value.slice A4 (gl L x).length c4 = V := ⟨_, rfl⟩
              rw [hV3] at HC2 y1
              rw [hV4] at HC2 y2
              have HKEEP : Hid (∀ W', Below w5.heap.size w5 W' → W'.cell? ⟨ad2.block, ad2.off + (q + 1), none⟩ = some (.int .i64 x) ∧ W'.cell? (ad2.add q) = some (.int .i64 p) ∧ W'.cell? (ad.add p.toNat) = some V3 ∧ W'.cell? (ad.add x.toNat) = some V4 ∧ Below w5.heap.size w5 W') := Lib.hid fun W' hB => ⟨cell_below hB y5, cell_below hB y6, cell_below hB y1, cell_below hB y2, hB⟩
              clear e4 hCL hCS hLn hC hV3 hV4 g3 g4 l3 l4 y1 y2 y5 y6 hlt hpm hpS hxS hp hsl lk r5 HN
              go_upto_region 22 with fail
              go_region_held (fun w' => w'.cell? ⟨ad2.block, ad2.off + (q + 1), none⟩ = some (.int .i64 x) ∧ w'.cell? (ad2.add q) = some (.int .i64 p) ∧ w'.cell? (ad.add p.toNat) = some V3 ∧ w'.cell? (ad.add x.toNat) = some V4 ∧ Below w5.heap.size w5 w') (first | exact HKEEP.out _ HBa.out | exact HKEEP.out _ (pw_below_drewN (Below.refl _ _) 1)) ((go_at_call 15; refine (HC2.out _ (pw_below_drewN (Below.refl _ _) 1)).mono ?_; rintro e w8 ⟨rfl, hB⟩; have HBa := Lib.hid ((pw_below_drewN (Below.refl w5.heap.size w5) 1).trans (hB.mono (pw_below_drewN (Below.refl w5.heap.size w5) 1).size)); clear hB))
              all_goals
                obtain ⟨y5, y6, _, _, _⟩ := HKEEP.out w8 HBa.out
                have H8 : Hid (∀ m, Below w2.heap.size w2 (w8.drewN m) ∧ Met6 (w8.drewN m) b (q + 1 + 1) S) := Lib.hid fun m => ⟨pw_below_drewN (H5.out.1.trans (HBa.out.mono H5.out.1.size)) m, (H5.out.2.below HBa.out).below (pw_below_drewN (Below.refl _ _) m)⟩
                have c1d : decide (C > 0) = false := decide_eq_false (by omega)
                clear HKEEP HC2
                go_upto_region 23 with fail
                by_cases c2 : C = 0
                · have c2d : (C == 0) = true := by simpa using c2
                  have c3d : decide (p > x) = false := decide_eq_false (by omega)
                  clear c2 hlt2
                  go_quiet (fail)
                  go_wp2_with fail
                  go_meet
                  exact ⟨_, rfl, Lib.hid ⟨(H8.out _).1, (H8.out _).2, HF2.out⟩⟩
                · have c2d : (C == 0) = false := by simpa using c2
                  clear c2 hlt2
                  go_quiet (fail)
                  go_wp2_with fail
                  go_meet
                  exact ⟨_, rfl, Lib.hid ⟨(H8.out _).1, (H8.out _).2, HF2.out⟩⟩
            · have d0d : decide ((i : Int) > 0) = false := decide_eq_false (by omega)
              go_wp2_with fail
              go_meet
              exact ⟨_, rfl, Lib.hid ⟨H5.out.1, H5.out.2, HF2.out⟩⟩
-- DEV>
        case rest =>
        clear HI
        obtain ⟨F, rfl, HI⟩ := hcut
        go_wp2_with fail
        go_roundw
        case rel => exact ⟨i + 1, F, rfl, by go_num, by omega, HI⟩
        case measure => simp; omega
      · have d1i : ¬ (i : Int) < (n : Int) := by omega
        obtain rfl : i = n := by omega
        go_wp2_with fail
        go_meet
        exact ⟨F, rfl, Lib.hid ⟨HI.out.1, HI.out.2.2⟩⟩
  case rest =>
  obtain ⟨wx, rfl⟩ : ∃ x, x = wc := ⟨_, rfl⟩
  obtain ⟨F, rfl, HI⟩ := hcut
  obtain ⟨r, hr, hr0, hr1⟩ := first_ok 300 (by omega) L HL20.out HLX.out
  have hrF : r = F := by
    have hn := H2.out.2.2.2.2.1
    have hF := HI.out.2
    by_cases e : n = 0
    · rw [hr0 (by omega), hF.1 e]
    · obtain ⟨a0, a1, a2⟩ := hr1 (by omega)
      obtain ⟨b0, b1, b2⟩ := hF.2 (by omega)
      by_cases e2 : r = F
      · exact e2
      · exact (ltp_irrefl (ltp_trans (a2 F b0 (by omega) (fun h => e2 h.symm)) (b2 r a0 (by omega) e2))).elim
  subst hrF
  have HFc : Hid (Calls Try.prog 9 #[.slice A n c] wx fun e w' => e = .returned (.int .i64 r) ∧ Below wx.heap.size wx w') := Lib.hid (by
    have hn := H2.out.2.2.2.2.1
    have h := rank_First.calls 300 A c L r wx (HI0.out wx HI.out.1).1 HLC.out hr
    rwa [hn] at h)
  have hrr : (r == r) = true := by simp
  clear hr hr0 hr1
  go_wp2_with fail
  refine HFc.out.mono ?_
  rintro e w8 ⟨rfl, hB⟩
  have H8 := Lib.hid hB
  clear hB HFc
  go_wp2_with fail
  refine (porticolaw6_RankRuns.calls 12 true w8 (runs 0)).mono ?_
  rintro e w9 ⟨rfl, hB⟩
  have H9 : Hid (Below w.heap.size w w9) := Lib.hid (by
    have h0 := H2.out.2.2.2.1
    have h1 := h0.trans (HI.out.1.mono h0.size)
    have h2 := h1.trans (H8.out.mono h1.size)
    exact h2.trans (hB.mono h2.size))
  clear hB
  go_wp2_with fail
  go_ret
  exact ⟨rfl, H9.out⟩
end Go.Proofs.Ytfllecoenjljpaa.TotRankTells
