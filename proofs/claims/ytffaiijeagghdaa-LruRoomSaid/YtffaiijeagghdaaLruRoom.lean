/- LruRoom: the walk. -/
import Derived.Test.YtffaiijeagghdaaRoomPure
set_option linter.unusedVariables false
set_option linter.unusedSimpArgs false
namespace Go.Proofs.Ytffaiijeagghdaa.Lr
open Go.RowKit Go.Proofs.YtffaiijeagghdaaW.PrintWords Go.Proofs.YtffaiijeagghdaaW.PrintLast Go.Proofs.Ytffaiijeagghdaa.Sl Go.Proofs.Ytffaiijeagghdaa.PLruPlays

set_option maxHeartbeats 4000000 in
set_option maxRecDepth 100000 in
theorem LruRoom_any (room : Int) (A : Option Addr) (c : Nat) (ns : List Int) (w : World) (hr : Kd.C (Kd.int .i64) w A ns.length ns) (hc : ns.length ≤ c) : Calls Try.prog 5 #[.int .i64 room, .slice A ns.length c] w fun en w' => en = .returned (.bool true) ∧ Below w.heap.size w w' := by
  have hp : ∀ (g : Nat) (w : World), (binOp .eql 22 (.pointer (some ⟨g, 0, none⟩)) (.pointer none)).run Try.prog w = .ok (.bool false) w := fun g w => rfl
  obtain ⟨r', hr1, hr2, hr3⟩ := within room 1 5 (by omega) (by omega) (by omega)
  obtain ⟨r, rfl⟩ := Int.eq_ofNat_of_zero_le (show 0 ≤ r' by omega)
  have HW := Lib.hid (And.intro hr1 (And.intro (show 1 ≤ r by omega) (show r ≤ 5 by omega)))
  obtain ⟨m, hm, hm1, hm2, hm3⟩ : ∃ m : Nat, min (ns.length : Int) 20 = (m : Int) ∧ m ≤ ns.length ∧ m ≤ 20 ∧ (m = ns.length ∨ m = 20) := ⟨min ns.length 20, by omega, by omega, by omega, by omega⟩
  have HM := Lib.hid (And.intro hm1 (And.intro hm2 hm3))
  have hm0 : (0 : Int) ≤ (m : Int) := by omega
  have hm30 : (m : Int) ≤ 20 := by omega
  have hr5 : (r : Int) ≤ 5 := by omega
  have hr0 : (1 : Int) ≤ (r : Int) := by omega
  clear hr hc hm1 hm2 hm3 hr1 hr2 hr3
  go_enter Try.func5, Try.ntmps5
  go_wp2_with fail
  refine (porticobook_Within.calls room 1 5 _ w HW.out.1).mono ?_
  rintro e w1 ⟨rfl, ⟨q1, rfl⟩⟩
  go_wp2_with fail
  refine (New_any (r : Int) (w.drewN q1)).mono ?_
  rintro e w2 ⟨g, rfl, h2, hg, hB2⟩
  rw [show max (r : Int) 0 = (r : Int) by omega] at h2
  have H2 : Hid (LS w w2 g (r : Int) (.slice none 0 0) []) := Lib.hid ⟨h2, (pw_below_drewN (Below.refl _ _) q1).trans hB2, hg, fun k hk => by cases hk⟩
  clear h2 hg hB2
  go_wp2_with fail
  refine (New_any 0 w2).mono ?_
  rintro e w3 ⟨gn, rfl, h3, hg3, hB3⟩
  have H3 : Hid (Two w w3 g (r : Int) (.slice none 0 0) [] gn 0 (.slice none 0 0) [] (.slice none 0 0) []) := Lib.hid (Two.mk (H2.out.below hB3) (LS.new h3 (Nat.le_trans H2.out.low.size hg3) (H2.out.low.trans (hB3.mono H2.out.low.size)) (fun k hk => by cases hk)) (fun e => by have := H2.out.cache.lt; omega) (fun k hk => by cases hk) (Sl.nil _ _ _) (fun k hk => by cases hk))
  clear h3 hg3 hB3 H2
  go_upto_block 0 with fail
  go_cut [8] (fun t8 wc => ∃ (v vn : Value) (A : Option Addr) (c : Nat), t8 = .slice A (m - r) c ∧ Hid (Two w wc g (r : Int) v (sq (m - r) m) gn 0 vn [] (.slice A (m - r) c) (upto (m - r))))
  case first =>
    go_wp2_with fail
    go_loopw [8, 9] (fun t8 t9 wr => ∃ (i : Nat) (v vn : Value) (A : Option Addr) (c : Nat), t9 = .int .i64 (i : Int) ∧ i ≤ m ∧ t8 = .slice A (i - r) c ∧ Hid (Two w wr g (r : Int) v (sq (i - r) i) gn 0 vn [] (.slice A (i - r) c) (upto (i - r)))) (fun _ t _ => match t with | .int _ i => (30 - i).toNat | _ => 0)
    case atStart => exact ⟨0, _, _, none, 0, rfl, by omega, by rw [Nat.zero_sub], by rw [Nat.zero_sub]; exact H3⟩
    case round =>
      obtain ⟨i, v, vn, A1, c1, rfl, hi, rfl, HI⟩ := hrel
      clear H3
      have q0 : (0 : Int) ≤ (i : Int) := by omega
      by_cases d1 : i < m
      · have q1 : (i : Int) < (ns.length : Int) := by have := HM.out; omega
        have q2 : (i : Int) < 20 := by have := HM.out; omega
        have hconv := letter wr i
        have HI2 := Lib.hid (HI.out.below ((Below.refl _ _).alloc (Nat.le_refl _) (.cells #[.int .u8 (97 + (i : Int))] 5)))
        obtain ⟨nO, hnO⟩ : ∃ nO, i - r = nO := ⟨_, rfl⟩
        rw [hnO] at HI2 ⊢
        have HNO := Lib.hid hnO
        have hsp := sq_put r i (by omega) HW.out.2.1
        rw [hnO] at hsp
        have HSP := Lib.hid hsp
        have hst := went_step r i HW.out.2.1
        rw [hnO] at hst
        have HST := Lib.hid hst
        clear HI hnO hsp hst
        go_wp2_with fail
        clear hconv
        generalize wr.alloc (.cells #[.int .u8 (97 + (i : Int))] 5) = w4 at HI2 ⊢
        generalize wr.heap.size = K4
        have P4 := Put_any g r v (sq nO i) (lb i) (i : Int) w4 HI2.out.a.cache (by rw [sq_length]; omega) (by have := HW.out.2; omega)
        rw [HSP.out.1, HSP.out.2] at P4
        refine P4.mono ?_
        rintro e w5 ⟨A5, c5, v5, rfl, hr5', hc5, hU5, hn5, hf5⟩
        have H5 := Lib.hid (HI2.out.putA hc5 hU5 hn5)
        obtain ⟨O5, hO5⟩ : ∃ O5, (if i < r then ([] : List Int) else [(nO : Int)]) = O5 := ⟨_, rfl⟩
        rw [hO5] at hr5' ⊢
        have hO1 : O5.length ≤ 1 := by rw [← hO5]; split <;> simp
        have hst := HST.out
        rw [hO5] at hst
        have HST2 := Lib.hid hst
        have HR5 := Lib.hid hr5'
        have hlW : (upto nO ++ O5).length = i + 1 - r := by rw [hst, upto_length]
        have HLW := Lib.hid hlW
        have HO1 := Lib.hid hO1
        clear hr5' hc5 hU5 hn5 hf5 HI2 P4 hO5 hst hlW hO1
        have hul : nO = (upto nO).length := (upto_length nO).symm
        have HUL := Lib.hid hul
        clear hul
        go_wp2_with (at_builtin; refine wpl_append_ints rfl (.tmp 45) (.tmp 49) rfl (.slice A1 nO c1) (upto nO) O5 A5 c5 rfl rfl H5.out.row HR5.out (by have := HO1.out; have := HNO.out; rw [upto_length]; omega) ?_)
        rintro A6 c6 w6 hr6 hg6 ho6
        have hlen : (upto nO).length + O5.length = i + 1 - r := by rw [← List.length_append]; exact HLW.out
        rw [hlen] at hr6 ho6 ⊢
        rw [HST2.out] at hr6
        have H6 := Lib.hid (H5.out.app hg6 hr6 ho6)
        clear hr6 hg6 ho6 hlen H5 HR5
        obtain ⟨n6, hn6⟩ : ∃ n6, i + 1 - r = n6 := ⟨_, rfl⟩
        rw [hn6] at H6 ⊢
        have HN6 := Lib.hid hn6
        clear hn6
        go_wp2_with fail
        have P7 := Put_any gn 0 vn [] (lb i) (i : Int) w6 H6.out.b.cache (by simp) (by omega)
        rw [show ((0 : Nat) : Int) = 0 from rfl, (none_put (lb i) (i : Int)).1, (none_put (lb i) (i : Int)).2] at P7
        refine P7.mono ?_
        rintro e w7 ⟨A7, c7, v7, rfl, hr7, hc7, hU7, hn7, hf7⟩
        have hB7 : Below w7.heap.size w7 (w7.alloc (.cells #[.int .i64 (i : Int)] 3)) := (Below.refl _ _).alloc (Nat.le_refl _) _
        have H7 := Lib.hid (And.intro ((H6.out.putB hc7 hU7 hn7).below hB7) (IRow.below hr7 hB7))
        clear hr7 hc7 hU7 hn7 hf7 H6 P7 hB7
        go_wp2_with fail
        refine (Same_ints _ _ _ _ 1 1 [(i : Int)] _ H7.out.2 (irow_lit w7 (i : Int)) rfl rfl (by simp)).mono ?_
        rintro e w8 ⟨rfl, q8, rfl⟩
        have H8 := Lib.hid (H7.out.1.below (pw_below_drewN (Below.refl _ _) q8))
        clear H7
        generalize (w7.alloc (.cells #[.int .i64 (i : Int)] 3)).drewN q8 = w8 at H8 ⊢
        go_wp2_with fail
        refine (Len_any gn 0 v7 [] w8 H8.out.b.cache).mono ?_
        rintro e w9 ⟨rfl, rfl⟩
        go_wp2_with fail
        go_roundw
        case rel => exact ⟨i + 1, v5, v7, A6, c6, by go_num, by omega, by rw [HN6.out], by rw [HN6.out]; exact H8⟩
        case measure => first | (simp; omega) | simp
      · obtain rfl : i = m := by omega
        rcases HM.out.2.2 with d2 | d2
        · have q1 : ¬ (i : Int) < (ns.length : Int) := by omega
          clear d2
          go_wp2_with fail
          go_meet
          case rel => exact ⟨v, vn, A1, c1, rfl, HI⟩
        · have q2 : ¬ (i : Int) < 20 := by omega
          clear d2
          by_cases d3 : (i : Int) < (ns.length : Int)
          · go_wp2_with fail
            go_meet
            case rel => exact ⟨v, vn, A1, c1, rfl, HI⟩
          · go_wp2_with fail
            go_meet
            case rel => exact ⟨v, vn, A1, c1, rfl, HI⟩
  case rest =>
    obtain ⟨v, vn, A1, c1, rfl, HI⟩ := hcut
    clear H3
    go_wp2_with fail
    go_loopw [11, 12] (fun t11 t12 wr => ∃ (i : Nat) (A : Option Addr) (c : Nat), t12 = .int .i64 (i : Int) ∧ i ≤ m - r ∧ t11 = .slice A i c ∧ Hid (Two w wr g (r : Int) v (sq (m - r) m) gn 0 vn [] (.slice A1 (m - r) c1) (upto (m - r)) ∧ IRow wr (.slice A i c) (upto i) ∧ ∀ k, (Value.slice A i c).ownBlock = some k → w.heap.size ≤ k ∧ (Value.slice A1 (m - r) c1).ownBlock ≠ some k)) (fun _ t _ => match t with | .int _ i => (30 - i).toNat | _ => 0)
    case atStart => exact ⟨0, none, 0, rfl, by omega, rfl, Lib.hid ⟨HI.out, Sl.nil _ _ _, fun k hk => by cases hk⟩⟩
    case round =>
      obtain ⟨i, A2, c2, rfl, hi, rfl, HI2⟩ := hrel
      clear HI
      have q0 : (0 : Int) ≤ (i : Int) := by omega
      by_cases d1 : (i : Int) < (m : Int) - (r : Int)
      · have HA := Lib.hid (heap_alloc_new wr (.cells #[.int .i64 (i : Int)] 3))
        have hBa : Below wr.heap.size wr (wr.alloc (.cells #[.int .i64 (i : Int)] 3)) := (Below.refl _ _).alloc (Nat.le_refl _) _
        have HI3 := Lib.hid (And.intro (HI2.out.1.below hBa) (And.intro (HI2.out.2.1.below hBa) HI2.out.2.2))
        have HSz := Lib.hid (show wr.heap.size ≤ (wr.alloc (.cells #[.int .i64 (i : Int)] 3)).heap.size from hBa.size)
        clear HI2 hBa
        go_wp2_with (at_builtin; refine wpl_append_int rfl (.tmp 73) (.tmp 75) rfl (.slice A2 i c2) (upto i) (i : Int) wr.heap.size 1 rfl rfl HI3.out.2.1 HA.out (by rw [upto_length]; have := HM.out; omega) ?_)
        rintro A6 c6 w6 hr6 hg6 ho6
        rw [upto_length] at hr6 ho6 ⊢
        have H6 : Hid (Two w w6 g (r : Int) v (sq (m - r) m) gn 0 vn [] (.slice A1 (m - r) c1) (upto (m - r)) ∧ IRow w6 (.slice A6 (i + 1) c6) (upto (i + 1)) ∧ ∀ k, (Value.slice A6 (i + 1) c6).ownBlock = some k → w.heap.size ≤ k ∧ (Value.slice A1 (m - r) c1).ownBlock ≠ some k) := Lib.hid (by
          refine ⟨HI3.out.1.other HI3.out.2.1 hg6 HI3.out.2.2, by rw [upto_succ]; exact hr6, fun k hk => ?_⟩
          rcases ho6 with h | h
          · exact HI3.out.2.2 k (by rw [← h]; exact hk)
          · rw [h] at hk
            have hs := HI3.out.1.a.low.size
            have hk : wr.heap.size + 1 = k := Option.some.inj hk
            have hsz : (wr.alloc (.cells #[.int .i64 (i : Int)] 3)).heap.size = wr.heap.size + 1 := by simp
            rw [hsz] at hs
            refine ⟨by omega, fun e => ?_⟩
            have := (HI3.out.1.row.lt k e).1
            omega)
        clear hr6 hg6 ho6 HI3 HA HSz
        go_wp2_with fail
        go_roundw
        case rel => exact ⟨i + 1, A6, c6, by go_num, by omega, rfl, H6⟩
        case measure => first | (simp; omega) | simp
      · have him : i = m - r := by omega
        subst him
        have HI3 : Hid (Two w wr g (r : Int) v (sq (m - r) m) gn 0 vn [] (.slice A1 (m - r) c1) (upto (m - r)) ∧ IRow wr (.slice A2 (m - r) c2) (upto (m - r))) := Lib.hid ⟨HI2.out.1, HI2.out.2.1⟩
        obtain ⟨N, hN⟩ : ∃ N, m - r = N := ⟨_, rfl⟩
        have hNm : N ≤ m := by omega
        have hag := fun h => sq_again r m h HM.out.2.1 HW.out.2.1
        rw [hN] at HI3 hag d1 ⊢
        have HN := Lib.hid (And.intro hN hNm)
        have HAG := Lib.hid hag
        clear HI2 hN hNm hag hi q0
        go_wp2_with fail
        refine (Same_ints _ _ _ _ N N (upto N) wr HI3.out.1.row HI3.out.2 (upto_length N).symm (upto_length N).symm (by rw [upto_length]; have := HN.out; omega)).mono ?_
        rintro e w8 ⟨rfl, q8, rfl⟩
        have H8 := Lib.hid (HI3.out.1.a.below (pw_below_drewN (Below.refl _ _) q8))
        clear HI3
        generalize wr.drewN q8 = w8 at H8 ⊢
        go_wp2_with fail
        refine (Names_any g (r : Int) v _ w8 H8.out.cache (by rw [sq_length]; omega)).mono ?_
        rintro e w9 ⟨A9, c9, rfl, h9, hB9, hf9⟩
        have H9 := Lib.hid (And.intro (H8.out.below hB9) h9)
        clear h9 hB9 hf9 H8
        rw [sq_length]
        by_cases hm0' : m = 0
        · have e1 : m - N = 0 := by omega
          rw [e1]
          go_wp2_with fail
          refine (LruRuns_any w9).mono ?_
          rintro e w10 ⟨rfl, hB⟩
          go_wp2_with fail
          go_ret
          exact ⟨rfl, H9.out.1.low.trans (hB.mono H9.out.1.low.size)⟩
        · obtain ⟨nl, hnl⟩ : ∃ nl, m - N = nl + 1 := ⟨m - N - 1, by have := HN.out; have := HW.out; omega⟩
          have g1 := HAG.out (by omega)
          have HG := Lib.hid g1
          obtain ⟨hb0, he0⟩ := List.getElem?_eq_some_iff.1 g1.2.1
          have hl9 : ((sq N m).map (·.1)).reverse.length = nl + 1 := by simp [sq_length, hnl]
          have hrow := H9.out.2
          rw [sq_length, hnl] at hrow
          obtain ⟨qb, qo, qc, e5, _⟩ := (by unfold SRow at hrow ⊢; rw [hl9] at hrow ⊢; exact hrow : SRow w9 (.slice A9 ((sq N m).map (·.1)).reverse.length c9) _).form1 (by omega)
          injection e5 with e5 _ _
          subst e5
          have y5 : w9.cell? ⟨qb, qo + nl, none⟩ = some (.string (lb N)) := by
            have h1 := hrow
            rw [← hl9] at h1
            refine Sl.cell h1 nl _ ?_
            rw [List.getElem?_map, List.getElem?_reverse (by simp [sq_length]; omega)]
            simp only [List.length_map, sq_length, hnl]
            rw [show nl + 1 - 1 - nl = 0 by omega, List.getElem?_map, g1.2.1]
            rfl
          have hnl1 : (nl : Int) ≤ 20 := by omega
          have hnl0 : (0 : Int) ≤ (nl : Int) := by omega
          have HL := Lib.hid H9.out.1
          have HNL := Lib.hid hnl
          rw [hnl]
          have e6 : ((nl + 1 : Nat) : Int) = (nl : Int) + 1 := by omega
          clear hrow hl9 hnl H9 g1
          go_wp2_with fail
          have hNlt : N < m := by have := HNL.out; omega
          have hT := Take_yes g (r : Int) v (sq N m) (lb N) 0 (by rw [sq_length]; omega) w9 HL.out.cache (by rw [sq_length]; omega) HG.out.1
          have hd : (sq N m).take 0 ++ (sq N m).drop (0 + 1) = sq (N + 1) m := by rw [sq_cons N m (by omega)]; rfl
          rw [hd] at hT
          have hx : (sq N m)[0]'(by rw [sq_length]; omega) = (lb N, (N : Int)) := he0
          rw [hx] at hT
          refine hT.mono ?_
          rintro e w10 ⟨rfl, v10, hc10, hU10, hn10⟩
          have H10 := Lib.hid (HL.out.upd hc10 hU10 hn10)
          clear hT hd hc10 hU10 hn10 HL hx
          go_wp2_with fail
          refine (Take_no g (r : Int) v10 (sq (N + 1) m) (lb N) w10 H10.out.cache (by rw [sq_length]; omega) (has_none HG.out.2.2.1)).mono ?_
          rintro e w11 ⟨rfl, hB11⟩
          have H11 := Lib.hid (H10.out.below hB11)
          clear hB11 H10
          go_wp2_with fail
          have P12 := Put_any g r v10 (sq (N + 1) m) (lb N) (N : Int) w11 H11.out.cache (by rw [sq_length]; omega) (by have := HW.out.2; omega)
          rw [HG.out.2.2.2.1, HG.out.2.2.2.2] at P12
          refine P12.mono ?_
          rintro e w12 ⟨A12, c12, v12, rfl, hr12, hc12, hU12, hn12, hf12⟩
          have H12 := Lib.hid (H11.out.upd hc12 hU12 hn12)
          clear hr12 hc12 hU12 hn12 hf12 H11 P12
          go_wp2_with fail
          have hLl : (sq (N + 1) m ++ [(lb N, (N : Int))]).length = nl + 1 := by rw [List.length_append, sq_length]; have := HNL.out; simp; omega
          have HLl := Lib.hid hLl
          clear hLl
          refine (Names_any g (r : Int) v12 _ w12 H12.out.cache (by rw [HLl.out]; omega)).mono ?_
          rintro e w13 ⟨A13, c13, rfl, h13, hB13, hf13⟩
          have H13 := Lib.hid (H12.out.below hB13)
          clear h13 hB13 hf13 H12
          rw [HLl.out]
          go_wp2_with fail
          refine (Names_any g (r : Int) v12 _ w13 H13.out.cache (by rw [HLl.out]; omega)).mono ?_
          rintro e w14 ⟨A14, c14, rfl, h14, hB14, hf14⟩
          have H14 := Lib.hid (H13.out.below hB14)
          obtain ⟨qb2, qo2, qc2, e52, _⟩ := (by unfold SRow at h14 ⊢; rw [List.length_reverse, List.length_map] at h14 ⊢; exact h14 : SRow w14 (.slice A14 ((sq (N + 1) m ++ [(lb N, (N : Int))]).map (·.1)).reverse.length c14) _).form1 (by simp)
          injection e52 with e52 _ _
          subst e52
          have y6 : w14.cell? ⟨qb2, qo2 + 0, none⟩ = some (.string (lb N)) := by
            have h1 := h14
            rw [show (sq (N + 1) m ++ [(lb N, (N : Int))]).length = (((sq (N + 1) m ++ [(lb N, (N : Int))]).map (·.1)).reverse).length by simp] at h1
            refine Sl.cell h1 0 _ ?_
            simp
          clear h14 hB14 hf14 H13
          rw [HLl.out]
          have y6 : w14.cell? ⟨qb2, qo2, none⟩ = some (.string (lb N)) := y6
          go_wp2_with fail
          refine (LruRuns_any w14).mono ?_
          rintro e w15 ⟨rfl, hB⟩
          go_wp2_with fail
          go_ret
          exact ⟨rfl, H14.out.low.trans (hB.mono H14.out.low.size)⟩
end Go.Proofs.Ytffaiijeagghdaa.Lr
