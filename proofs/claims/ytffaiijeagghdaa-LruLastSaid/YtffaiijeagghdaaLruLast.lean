/- LruLast: the walk. -/
import Derived.Test.YtffaiijeagghdaaLruLaw
set_option linter.unusedVariables false
set_option linter.unusedSimpArgs false
namespace Go.Proofs.Ytffaiijeagghdaa.Lr
open Go.RowKit Go.Proofs.YtffaiijeagghdaaW.PrintWords Go.Proofs.YtffaiijeagghdaaW.PrintLast Go.Proofs.Ytffaiijeagghdaa.Sl Go.Proofs.Ytffaiijeagghdaa.PLruPlays

theorem spot_int {w : World} (a : Addr) (x : Nat) (h : a.spot = some x) (v : Int) (hc : w.cell? a = some (.int .i64 v)) : False := by
  obtain ⟨b, o, sp⟩ := a
  dsimp only at h
  subst h
  unfold World.cell? at hc
  dsimp only at hc
  split at hc
  · simp at hc
  · cases hc
theorem ints_cell {w : World} {A : Option Addr} {l : List Int} (h : Kd.C (Kd.int .i64) w A l.length l) (i : Nat) (hi : i < l.length) : ∃ b o, A = some ⟨b, o, none⟩ ∧ w.cell? ⟨b, o + i, none⟩ = some (.int .i64 l[i]) := by
  have key : ∀ k, (hk : k < l.length) → ∃ ad, A = some ad ∧ w.cell? (ad.add k) = some (.int .i64 l[k]) := fun k hk => by
    obtain ⟨ad, cs, e, _, hK, hc⟩ := Kd.C_get h 0 (k : Int) (by omega) (by omega)
    have hK' : cs = [.int .i64 (l.getD (k : Int).toNat 0)] := hK
    subst hK'
    have hg : l.getD (k : Int).toNat 0 = l[k] := by simp [List.getD_eq_getElem?_getD, hk]
    have := hc 0 _ rfl
    rw [hg] at this
    have hs : (k : Int).toNat * (Kd.int .i64).sz + 0 = k := by show (k : Int).toNat * 1 + 0 = k; omega
    rw [hs] at this
    exact ⟨ad, e, this⟩
  obtain ⟨ad0, e0, h0⟩ := key 0 (by omega)
  obtain ⟨ad, e, h1⟩ := key i hi
  rw [e0] at e
  injection e with e
  subst e
  obtain ⟨b, o, sp⟩ := ad0
  cases sp with
  | none =>
    refine ⟨b, o, e0, ?_⟩
    rwa [show (⟨b, o, none⟩ : Addr).add i = ⟨b, o + i, none⟩ from by unfold Addr.add; split <;> simp_all] at h1
  | some x =>
    exfalso
    rw [show (⟨b, o, some x⟩ : Addr).add 0 = ⟨b, o, some x⟩ from by unfold Addr.add; simp] at h0
    exact spot_int _ x rfl _ h0
set_option maxHeartbeats 4000000 in
set_option maxRecDepth 100000 in
theorem LruLast_any (room : Int) (A : Option Addr) (c : Nat) (ns : List Int) (w : World) (hr : Kd.C (Kd.int .i64) w A ns.length ns) (hc : ns.length ≤ c) : Calls Try.prog 4 #[.int .i64 room, .slice A ns.length c] w fun en w' => en = .returned (.bool true) ∧ Below w.heap.size w w' := by
  have hp : ∀ (g : Nat) (w : World), (binOp .eql 22 (.pointer (some ⟨g, 0, none⟩)) (.pointer none)).run Try.prog w = .ok (.bool false) w := fun g w => rfl
  have hw := wi_spec 5 room (by omega) (by omega)
  obtain ⟨r, hr5⟩ : ∃ r, wi 5 room = r := ⟨_, rfl⟩
  rw [hr5] at hw
  have HW := Lib.hid hw
  obtain ⟨m, hm, hm1, hm2, hm3⟩ : ∃ m : Nat, min (ns.length : Int) 30 = (m : Int) ∧ m ≤ ns.length ∧ m ≤ 30 ∧ (m = ns.length ∨ m = 30) := ⟨min ns.length 30, by omega, by omega, by omega, by omega⟩
  have HM := Lib.hid (And.intro hm1 (And.intro hm2 hm3))
  have HNS := Lib.hid hr
  have hm0 : (0 : Int) ≤ (m : Int) := by omega
  have hm30 : (m : Int) ≤ 30 := by omega
  clear hr hc hw hm1 hm2 hm3 hr5
  go_enter Try.func4, Try.ntmps4
  go_wp2_with fail
  refine (porticobook_Within.calls room 0 5 _ w HW.out.1).mono ?_
  rintro e w1 ⟨rfl, ⟨q1, rfl⟩⟩
  go_wp2_with fail
  refine (New_any (r : Int) (w.drewN q1)).mono ?_
  rintro e w2 ⟨g, rfl, h2, hg, hB2⟩
  rw [show max (r : Int) 0 = (r : Int) by omega] at h2
  have H2 : Hid (LS w w2 g (r : Int) (.slice none 0 0) []) := Lib.hid ⟨h2, (pw_below_drewN (Below.refl _ _) q1).trans hB2, hg, fun k hk => by cases hk⟩
  clear h2 hg hB2
  go_upto_block 0 with fail
  go_cut [7] (fun t7 wc => ∃ (v : Value) (L : List H), Hid (LS w wc g (r : Int) v L ∧ L.reverse = (nub (puts ns m)).take r))
  case first =>
   go_wp2_with fail
   go_loopw [7] (fun t7 wr => ∃ (i : Nat) (v : Value) (L : List H), t7 = .int .i64 (i : Int) ∧ i ≤ m ∧ Hid (LS w wr g (r : Int) v L ∧ L.reverse = (nub (puts ns i)).take r)) (fun t _ => match t with | .int _ i => (30 - i).toNat | _ => 0)
   case atStart => exact ⟨0, _, [], rfl, by omega, Lib.hid ⟨H2.out, by simp [puts, nub]⟩⟩
   case round =>
     obtain ⟨i, v, L, rfl, hi, HI⟩ := hrel
     clear H2
     have q0 : (0 : Int) ≤ (i : Int) := by omega
     by_cases d1 : i < m
     · have q1 : (i : Int) < (ns.length : Int) := by have := HM.out; omega
       have q2 : (i : Int) < 30 := by have := HM.out; omega
       have hil : i < ns.length := by have := HM.out; omega
       obtain ⟨b, o, hA, hcell⟩ := ints_cell HNS.out i hil
       subst hA
       have y1 : wr.cell? ⟨b, o + i, none⟩ = some (.int .i64 ns[i]) := (HI.out.1.low.cell (lt_of_cell hcell)).trans hcell
       have hwi := wi_spec 9 ns[i] (by omega) (by omega)
       obtain ⟨x, hx⟩ : ∃ x, wi 9 ns[i] = x := ⟨_, rfl⟩
       rw [hx] at hwi
       have HWI := Lib.hid hwi
       have HXX := Lib.hid hx
       clear hcell hwi hx
       go_wp2_with fail
       refine (porticobook_Within.calls ns[i] 0 9 _ wr HWI.out.1).mono ?_
       rintro e w3 ⟨rfl, ⟨q3, rfl⟩⟩
       have HI3 := Lib.hid (And.intro (HI.out.1.drewN q3) HI.out.2)
       clear HI y1
       generalize wr.drewN q3 = w3 at HI3 ⊢
       have hx9 : (x : Int) ≤ 9 := HWI.out.2
       have hx0 : (0 : Int) ≤ (x : Int) := by omega
       have hconv := letter w3 x
       go_wp2_with fail
       clear hconv
       have HI4 := Lib.hid (And.intro (HI3.out.1.alloc (.cells #[.int .u8 (97 + (x : Int))] 5)) HI3.out.2)
       clear HI3
       have hLr : L.length ≤ 5 := by
         have := congrArg List.length HI4.out.2
         rw [List.length_reverse, List.length_take] at this
         have h5 := HW.out.2
         omega
       refine (Put_any g r v L (lb x) (i : Int) _ HI4.out.1.cache (by omega) (by have := HW.out.2; omega)).mono ?_
       rintro e w4 ⟨A4, c4, v4, rfl, hr4, hc4, hU4, hn4, hf4⟩
       have H4 : Hid (LS w w4 g (r : Int) v4 (putL (r : Int) L (lb x) (i : Int)) ∧ (putL (r : Int) L (lb x) (i : Int)).reverse = (nub (puts ns (i + 1))).take r) := Lib.hid (by
         refine ⟨HI4.out.1.upd hc4 hU4 hn4, ?_⟩
         have := put_nub r L _ HI4.out.2 (lb x) (i : Int)
         rw [this]
         simp only [puts]
         rw [show ns.getD i 0 = ns[i] from by simp [List.getD_eq_getElem?_getD, hil], HXX.out])
       clear hr4 hc4 hU4 hn4 hf4 HI4 hLr
       go_wp2_with fail
       go_roundw
       case rel => exact ⟨i + 1, v4, _, by go_num, by omega, H4⟩
       case measure => first | (simp; omega) | simp
     · obtain rfl : i = m := by omega
       rcases HM.out.2.2 with d2 | d2
       · have q1 : ¬ (i : Int) < (ns.length : Int) := by omega
         clear d2
         go_wp2_with fail
         go_meet
         case rel => exact ⟨v, L, HI⟩
       · have q2 : ¬ (i : Int) < 30 := by omega
         clear d2
         by_cases d3 : (i : Int) < (ns.length : Int)
         · go_wp2_with fail
           go_meet
           case rel => exact ⟨v, L, HI⟩
         · go_wp2_with fail
           go_meet
           case rel => exact ⟨v, L, HI⟩
  case rest =>
   obtain ⟨v, L, H3⟩ := hcut
   clear H2
   go_upto_block 2 with fail
   go_cut [8] (fun t8 wc => ∃ (A : Option Addr) (c : Nat) (W : List ByteArray), t8 = .slice A W.length c ∧ Hid (LT w wc g (r : Int) v L (.slice A W.length c) W ∧ W = ((nub (puts ns m)).take r).map (·.1)))
   case first =>
    go_wp2_with fail
    go_loopw [8, 9] (fun t8 t9 wr => ∃ (j : Nat) (A : Option Addr) (c nW : Nat), t8 = .slice A nW c ∧ t9 = .int .i64 ((j : Int) - 1) ∧ j ≤ m ∧ nW = (nub ((puts ns m).take (m - j))).length ∧ nW ≤ r ∧ Hid (LT w wr g (r : Int) v L (.slice A nW c) ((nub ((puts ns m).take (m - j))).map (·.1)))) (fun _ t _ => match t with | .int _ i => (i + 1).toNat | _ => 0)
    case atStart => exact ⟨m, none, 0, 0, rfl, rfl, Nat.le_refl _, by simp [nub], by omega, Lib.hid ⟨H3.out.1, by rw [Nat.sub_self]; exact Sl.nil _ _ _, fun k hk => by cases hk⟩⟩
    case round =>
      obtain ⟨j, A2, c2, nW, rfl, rfl, hj, hnW, hnr, HI⟩ := hrel
      have HN := Lib.hid hnW
      have hjI : (j : Int) ≤ (m : Int) := by omega
      have H3' := H3
      clear H3 hnW
      rcases j with _ | i
      · have HI2 : Hid (LT w wr g (r : Int) v L (.slice A2 nW c2) ((nub (puts ns m)).map (·.1)) ∧ nW = ((nub (puts ns m)).map (·.1)).length) := by
          have e1 : (puts ns m).take (m - 0) = puts ns m := List.take_of_length_le (by rw [puts_length]; omega)
          have h1 := HI.out
          have h2 := HN.out
          rw [e1] at h1 h2
          exact Lib.hid ⟨h1, by rw [List.length_map]; exact h2⟩
        have e2 : (nub (puts ns m)).take r = nub (puts ns m) := List.take_of_length_le (by have := HI2.out.2; rw [List.length_map] at this; omega)
        have HE := Lib.hid e2
        clear HI HN e2
        go_wp2_with fail
        go_meet
        case rel => exact ⟨A2, c2, _, by rw [← HI2.out.2], Lib.hid (by rw [HE.out]; exact ⟨by rw [← HI2.out.2]; exact HI2.out.1, rfl⟩)⟩
      · by_cases d1 : nW < r
        · have e1 : (((i + 1 : Nat) : Int) - 1) = (i : Int) := by omega
          rw [e1]
          have q0 : (0 : Int) ≤ (i : Int) := by omega
          have q1 : (nW : Int) < (r : Int) := by omega
          have q2 : (i : Int) < (ns.length : Int) := by have := HM.out; omega
          have hil : i < ns.length := by have := HM.out; omega
          obtain ⟨b, o, hA, hcell⟩ := ints_cell HNS.out i hil
          subst hA
          have y1 : wr.cell? ⟨b, o + i, none⟩ = some (.int .i64 ns[i]) := (HI.out.ls.low.cell (lt_of_cell hcell)).trans hcell
          have hwi := wi_spec 9 ns[i] (by omega) (by omega)
          obtain ⟨x, hx⟩ : ∃ x, wi 9 ns[i] = x := ⟨_, rfl⟩
          rw [hx] at hwi
          have HWI := Lib.hid hwi
          have HXX := Lib.hid hx
          clear hcell hwi hx e1
          go_wp2_with fail
          refine (porticobook_Within.calls ns[i] 0 9 _ wr HWI.out.1).mono ?_
          rintro e w3 ⟨rfl, ⟨q3, rfl⟩⟩
          have HI3 := Lib.hid (HI.out.below (pw_below_drewN (Below.refl _ _) q3))
          clear HI y1
          generalize wr.drewN q3 = w3 at HI3 ⊢
          have hx9 : (x : Int) ≤ 9 := HWI.out.2
          have hx0 : (0 : Int) ≤ (x : Int) := by omega
          have hconv := letter w3 x
          have HI4 := Lib.hid (HI3.out.below ((Below.refl _ _).alloc (Nat.le_refl _) (.cells #[.int .u8 (97 + (x : Int))] 5)))
          go_wp2_with fail
          clear hconv HI3
          generalize w3.alloc (.cells #[.int .u8 (97 + (x : Int))] 5) = w4 at HI4 ⊢
          generalize w3.heap.size = K3
          obtain ⟨W, hW⟩ : ∃ W, (nub ((puts ns m).take (m - (i + 1)))).map (·.1) = W := ⟨_, rfl⟩
          rw [hW] at HI4
          have hWl : nW = W.length := by rw [← hW, List.length_map]; exact HN.out
          have HWW := Lib.hid (And.intro hW hWl)
          clear hW hWl
          go_upto_if 81 with fail
          go_loopw [11, 69] (fun t11 t69 wq => ∃ q : Nat, q ≤ W.length ∧ t69 = .int .i64 (q : Int) ∧ t11 = .bool (inB W q (lb x)) ∧ Hid (LT w wq g (r : Int) v L (.slice A2 nW c2) W)) (fun _ t _ => match t with | .int _ i => (nW - i).toNat | _ => 0)
          case atStart => exact ⟨0, by omega, rfl, rfl, HI4⟩
          case round =>
            obtain ⟨q, hq, rfl, rfl, HQ⟩ := hrel
            clear HI4
            have f0 : (0 : Int) ≤ (q : Int) := by omega
            by_cases f1 : q < W.length
            · have f2 : (q : Int) < (nW : Int) := by have := HWW.out.2; omega
              have f3 : (q : Int) ≤ 10 := by have := HW.out.2; have := HWW.out.2; omega
              have hn0 : 0 < nW := by omega
              obtain ⟨qb, qo, qc, e5, _⟩ := (by have := HQ.out.row; rw [HWW.out.2] at this; exact this : SRow wr (.slice A2 W.length c2) W).form1 (by omega)
              injection e5 with e5 _ _
              subst e5
              have y5 : wr.cell? ⟨qb, qo + q, none⟩ = some (.string W[q]) := by
                have := HQ.out.row
                rw [HWW.out.2] at this
                exact Sl.cell this q _ (by rw [List.getElem?_map, List.getElem?_eq_getElem f1]; rfl)
              have HS := Lib.hid (inB_succ W q (lb x) f1)
              obtain ⟨b, hb⟩ : ∃ b, inB W q (lb x) = b := ⟨_, rfl⟩
              rw [hb] at HS ⊢
              obtain ⟨b2, hb2⟩ : ∃ b2, (W[q].toList == (lb x).toList) = b2 := ⟨_, rfl⟩
              rw [hb2] at HS
              clear hb
              cases b
              · go_wp2_with fail
                go_roundw
                case rel => exact ⟨q + 1, by omega, by go_num, by rw [HS.out]; simp, HQ⟩
                case measure => first | (simp; omega) | simp
              · clear hb2
                go_wp2_with fail
                go_roundw
                case rel => exact ⟨q + 1, by omega, by go_num, by rw [HS.out]; simp, HQ⟩
                case measure => first | (simp; omega) | simp
            · have f2 : ¬ (q : Int) < (nW : Int) := by have := HWW.out.2; omega
              obtain rfl : q = W.length := by omega
              have hst := puts_step ns m i (by omega)
              rw [show ns.getD i 0 = ns[i] from by simp [List.getD_eq_getElem?_getD, hil], HXX.out] at hst
              have hsn := nub_snoc ((puts ns m).take (m - (i + 1))) (lb x, (i : Int))
              rw [← hst] at hsn
              have hin := inB_all (nub ((puts ns m).take (m - (i + 1)))) (lb x)
              rw [HWW.out.1, nub_in] at hin
              obtain ⟨b, hb⟩ : ∃ b, inB W W.length (lb x) = b := ⟨_, rfl⟩
              rw [hb] at hin ⊢
              have HSN := Lib.hid hsn
              have HIN := Lib.hid hin
              clear hst hsn hin hb
              cases b
              · have hno : ¬ ∃ y ∈ (puts ns m).take (m - (i + 1)), y.1 = lb x := fun h => by have := HIN.out.2 h; simp at this
                have hsn := HSN.out
                rw [if_neg hno] at hsn
                have HSN2 := Lib.hid hsn
                clear hsn hno HSN HIN
                have HQ2 := Lib.hid (HQ.out.below ((Below.refl _ _).alloc (Nat.le_refl _) (.cells #[.string (lb x)] 9)))
                have HA := Lib.hid (heap_alloc_new wr (.cells #[.string (lb x)] 9))
                go_wp2_with (at_builtin; refine wpl_append_str rfl (.tmp 82) (.tmp 84) rfl (.slice A2 nW c2) W (lb x) wr.heap.size 1 rfl rfl HQ2.out.row HA.out (by have := HWW.out.2; have := HW.out.2; omega) ?_)
                rintro A6 c6 w6 hr6 hg6 ho6
                have hl6 : W.length + 1 = nW + 1 := by rw [HWW.out.2]
                have H6 : Hid (LT w w6 g (r : Int) v L (.slice A6 (nW + 1) c6) (W ++ [lb x])) := Lib.hid (by
                  have := HQ2.out.app hg6 hr6 (by simpa using ho6)
                  rw [← hl6]
                  exact this)
                have hmem : (lb x, (i : Int)) ∈ (nub (puts ns m)).take r := by
                  have h1 := nub_prefix ((puts ns m).take (m - i)) ((puts ns m).drop (m - i))
                  rw [List.take_append_drop, HSN2.out] at h1
                  have h2 := List.prefix_iff_eq_take.1 h1
                  have h3 : (lb x, (i : Int)) ∈ (nub (puts ns m)).take (nW + 1) := by
                    have : (nub ((puts ns m).take (m - (i + 1))) ++ [(lb x, (i : Int))]).length = nW + 1 := by rw [List.length_append, ← HN.out]; rfl
                    rw [this] at h2
                    rw [← h2]
                    simp
                  exact (List.take_subset_take_left _ (by omega)) h3
                have HHas := Lib.hid (has_nub H3'.out.2 hmem)
                clear hr6 hg6 ho6 hmem HQ2 HA HQ
                rw [hl6]
                clear hl6
                go_wp2_with fail
                have hh := Has_any g (r : Int) v L (lb x) w6 H6.out.ls.cache (by have := congrArg List.length H3'.out.2; rw [List.length_reverse, List.length_take] at this; have := HW.out.2; omega)
                rw [HHas.out] at hh
                refine hh.mono ?_
                rintro e w7 ⟨rfl, hB7⟩
                have H7 := Lib.hid (H6.out.below hB7)
                clear hh hB7 H6
                unfold hasV
                go_wp2_with fail
                go_roundw
                case rel => exact ⟨i, A6, c6, nW + 1, rfl, rfl, by omega, by rw [HSN2.out, List.length_append, ← HN.out]; rfl, by omega, Lib.hid (by rw [HSN2.out, List.map_append, HWW.out.1]; exact H7.out)⟩
                case measure => first | (simp; omega) | simp
              · have hsn := HSN.out
                rw [if_pos (HIN.out.1 rfl)] at hsn
                have HSN2 := Lib.hid hsn
                clear hsn HSN HIN
                go_wp2_with fail
                go_roundw
                case rel => exact ⟨i, A2, c2, nW, rfl, rfl, by omega, by rw [HSN2.out]; exact HN.out, hnr, Lib.hid (by rw [HSN2.out, HWW.out.1]; exact HQ.out)⟩
                case measure => first | (simp; omega) | simp
        · have e1 : (((i + 1 : Nat) : Int) - 1) = (i : Int) := by omega
          rw [e1]
          have q0 : (0 : Int) ≤ (i : Int) := by omega
          have q1 : ¬ (nW : Int) < (r : Int) := by omega
          have e2 : (nub (puts ns m)).take r = nub ((puts ns m).take (m - (i + 1))) := by
            have h1 := nub_prefix ((puts ns m).take (m - (i + 1))) ((puts ns m).drop (m - (i + 1)))
            rw [List.take_append_drop] at h1
            have h2 := List.prefix_iff_eq_take.1 h1
            rw [← HN.out, show nW = r by omega] at h2
            exact h2.symm
          have HE := Lib.hid e2
          have HN2 : Hid (nW = ((nub ((puts ns m).take (m - (i + 1)))).map (·.1)).length) := Lib.hid (by rw [List.length_map]; exact HN.out)
          clear e1 e2
          go_wp2_with fail
          go_meet
          case rel => exact ⟨A2, c2, _, by rw [← HN2.out], Lib.hid ⟨by rw [← HN2.out]; exact HI.out, by rw [HE.out]⟩⟩
   case rest =>
    obtain ⟨A2, c2, W, rfl, H4⟩ := hcut
    have H3' := H3
    clear H3
    have hLn : (L.map (·.1)).reverse = W := by
      have h1 := H3'.out.2
      rw [H4.out.2, ← h1, List.map_reverse]
    have hLl : L.length = W.length := by rw [← hLn]; simp
    have hWr : W.length ≤ 5 := by
      have h1 := congrArg List.length H4.out.2
      rw [List.length_map, List.length_take] at h1
      have := HW.out.2
      omega
    have HLN := Lib.hid (And.intro hLn (And.intro hLl hWr))
    have HL4 := Lib.hid H4.out.1
    clear hLn hLl hWr H4 H3'
    go_wp2_with fail
    refine (Names_any g (r : Int) v L wc HL4.out.ls.cache (by have := HLN.out; omega)).mono ?_
    rintro e w7 ⟨A7, c7, rfl, h7, hB7, hf7⟩
    rw [HLN.out.1] at h7
    have H8 : Hid (LT w w7 g (r : Int) v L (.slice A2 W.length c2) W ∧ SRow w7 (.slice A7 L.length c7) W) := Lib.hid ⟨HL4.out.below hB7, h7⟩
    clear h7 hB7 hf7 HL4
    go_wp2_with fail
    refine (Same_strs _ _ _ _ _ _ W _ H8.out.2 H8.out.1.row HLN.out.2.1 rfl (by have := HLN.out; omega)).mono ?_
    rintro e w8 ⟨rfl, q8, rfl⟩
    have H9 := Lib.hid (H8.out.1.below (pw_below_drewN (Below.refl _ _) q8))
    clear H8
    go_wp2_with fail
    refine (LruRuns_any _).mono ?_
    rintro e w9 ⟨rfl, hB⟩
    go_wp2_with fail
    go_ret
    exact ⟨rfl, H9.out.ls.low.trans (hB.mono H9.out.ls.low.size)⟩
end Go.Proofs.Ytffaiijeagghdaa.Lr
