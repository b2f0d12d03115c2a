/- LruPlays: the walk (printed by wip/law18/gen_LPlays.py out of LPlays.body). -/
import Derived.Test.YtffaiijeagghdaaLPlaysB4
import Derived.Test.YtffaiijeagghdaaNames
import Derived.Test.YtffaiijeagghdaaLruRuns
import Derived.Deep.DeepCutAuto
import Derived.Deep.CutBlock
import Derived.Lib.MinMax
import Derived.Carry
set_option linter.unusedVariables false
set_option linter.unusedSimpArgs false
namespace Go.Proofs.Ytffaiijeagghdaa.Lr
open Go.RowKit Go.Proofs.YtffaiijeagghdaaW.PrintWords Go.Proofs.YtffaiijeagghdaaW.PrintLast Go.Proofs.Ytffaiijeagghdaa.Sl Go.Proofs.Ytffaiijeagghdaa.PLruPlays

/-- A call. -/
structure Ask where
  k : Int
  n : Int
  x : Int
def askAt (w : World) (ad : Addr) (i : Nat) (a : Ask) : Prop := w.cell? (ad.add (i * 3)) = some (.int .i64 a.k) ∧ w.cell? (ad.add (i * 3 + 1)) = some (.int .i64 a.n) ∧ w.cell? (ad.add (i * 3 + 2)) = some (.int .i64 a.x)
theorem add_add (ad : Addr) (n j : Nat) : ad.add (n + j) = (ad.add n).add j := by
  unfold Addr.add
  by_cases h1 : n = 0
  · subst h1; simp
  · by_cases h2 : j = 0
    · subst h2; simp
    · rw [if_neg (by omega), if_neg h2, if_neg h1]
      simp [Nat.add_assoc]
theorem ask_plain {w : World} {ad : Addr} {i : Nat} {a : Ask} (h : askAt w ad i a) : ∃ pb po, ad.add (i * 3) = ⟨pb, po, none⟩ ∧ w.cell? ⟨pb, po, none⟩ = some (.int .i64 a.k) ∧ w.cell? ⟨pb, po + 1, none⟩ = some (.int .i64 a.n) ∧ w.cell? ⟨pb, po + 2, none⟩ = some (.int .i64 a.x) := by
  obtain ⟨h0, h1, h2⟩ := h
  rw [add_add] at h1 h2
  obtain ⟨pb, po, sp, hP⟩ : ∃ pb po sp, ad.add (i * 3) = ⟨pb, po, sp⟩ := ⟨_, _, _, rfl⟩
  rw [hP] at h0 h1 h2
  have hs : sp = none := by
    unfold World.cell? at h0
    cases sp with
    | none => rfl
    | some x =>
      dsimp only at h0
      split at h0
      · simp at h0
      · cases h0
  subst hs
  exact ⟨pb, po, hP, h0, h1, h2⟩
theorem filter_take {l : List ByteArray} {s x : ByteArray} {q : Nat} (h : l[q]? = some x) : (l.take (q + 1)).filter (fun y => y != s) = (l.take q).filter (fun y => y != s) ++ (if (x != s) = true then [x] else []) := by
  rw [List.take_add_one, h, List.filter_append]
  congr 1
  by_cases e : (x != s) = true <;> simp [e]
set_option maxHeartbeats 8000000 in
set_option maxRecDepth 1000000 in
theorem LruPlays_any (room : Int) (A : Option Addr) (c : Nat) (l : List Ask) (w : World) (hl : ∀ i (h : i < l.length), ∃ ad, A = some ad ∧ askAt w ad i l[i]) (hx : ∀ a ∈ l, (Lit.int .i64 a.x).wf = true) : Calls Try.prog 6 #[.int .i64 room, .slice A l.length c] w fun en w' => en = .returned (.bool true) ∧ Below w.heap.size w w' := by
  have HL := Lib.hid (And.intro hl hx)
  have hp : ∀ (g : Nat) (w : World), (binOp .eql 22 (.pointer (some ⟨g, 0, none⟩)) (.pointer none)).run Try.prog w = .ok (.bool false) w := fun g w => rfl
  obtain ⟨r', hr', hr1, hr2⟩ := within room (-1) 6 (by omega) (by omega) (by omega)
  obtain ⟨R, hR, hR6⟩ : ∃ R : Nat, max r' 0 = (R : Int) ∧ R ≤ 6 := ⟨(max r' 0).toNat, by omega, by omega⟩
  have HR := Lib.hid (And.intro hR hR6)
  clear hl hx hr1 hr2 hR
  go_enter Try.func6, Try.ntmps6
  go_wp2_with fail
  refine (porticobook_Within.calls room (-1) 6 _ w hr').mono ?_
  rintro e w1 ⟨rfl, ⟨q1, rfl⟩⟩
  clear hr'
  go_wp2_with fail
  refine (New_any r' (w.drewN q1)).mono ?_
  rintro e w2 ⟨g, rfl, h2, hg, hB2⟩
  rw [HR.out.1] at h2
  have H2 : Hid (LS w w2 g (R : Int) (.slice none 0 0) []) := Lib.hid ⟨h2, (pw_below_drewN (Below.refl _ _) q1).trans hB2, hg, fun k hk => by cases hk⟩
  clear h2 hg hB2
  have hmm := @Go.RowKit.run_makeMap Try.prog
  go_wp2_with fail
  clear hmm
  obtain ⟨b, hb⟩ : ∃ b, w2.heap.size = b := ⟨_, rfl⟩
  have H3 : Hid (PS w (w2.alloc (.map #[] 0)) g R (.slice none 0 0) [] [] b 0 (.slice none 0 0)) := Lib.hid ⟨H2.out.below ((Below.refl _ _).alloc (Nat.le_refl _) _), by rw [← hb]; exact MapF.made w2, by rw [← hb]; exact H2.out.low.size, Sl.nil _ _ _, fun k hk => by cases hk⟩
  rw [hb]
  clear H2 hb
  generalize w2.alloc (.map #[] 0) = w3 at H3 ⊢
  go_loopw [6, 7, 9, 10, 11] (fun t6 t7 t9 t10 t11 wr => ∃ (i g n n7 c7 cin cout : Nat) (v : Value) (L : List H) (A7 : Option Addr), t6 = .pointer (some ⟨g, 0, none⟩) ∧ t7 = .slice A7 n7 c7 ∧ t9 = .int .i64 (cin : Int) ∧ t10 = .int .i64 (cout : Int) ∧ t11 = .int .i64 (i : Int) ∧ i ≤ 40 ∧ n7 = L.length ∧ L.length ≤ R ∧ Fine L ∧ cin = cout + L.length ∧ cin ≤ i ∧ n ≤ i ∧ Hid (PS w wr g R v L L b n (.slice A7 n7 c7))) (fun _ _ _ _ t _ => match t with | .int _ i => (40 - i).toNat | _ => 0)
  case atStart => exact ⟨0, g, 0, 0, 0, 0, 0, _, [], none, rfl, rfl, rfl, rfl, rfl, by omega, rfl, by simp, ⟨List.Pairwise.nil, fun e he => by cases he⟩, by simp, by omega, by omega, H3⟩
  case round =>
    obtain ⟨i, g, n, n7, c7, cin, cout, v, L, A7, rfl, rfl, rfl, rfl, rfl, hi, hn7, hL, hd, hc, hci, hn, HS⟩ := hrel
    clear H3
    have HD := Lib.hid (And.intro hn7 (And.intro hL (And.intro hd (And.intro hc (And.intro hci hn)))))
    clear hn7 hL hd hc hci hn
    have q0 : (0 : Int) ≤ (i : Int) := by omega
    by_cases c1 : i < l.length ∧ i < 40
    · obtain ⟨c1, c2⟩ := c1
      obtain ⟨ad, rfl, ha'⟩ := HL.out.1 i c1
      obtain ⟨pb, po, hP, ha⟩ := ask_plain ha'
      clear ha'
      obtain ⟨a, ea⟩ : ∃ a, l[i] = a := ⟨_, rfl⟩
      have hax : (Lit.int .i64 a.x).wf = true := HL.out.2 a (by rw [← ea]; exact List.getElem_mem c1)
      rw [ea] at ha
      have q1 : (i : Int) < (l.length : Int) := by omega
      have q2 : (i : Int) < 40 := by omega
      have hcell : ∀ {ad' : Addr} {u : Value}, w.cell? ad' = some u → wr.cell? ad' = some u := fun h => (HS.out.ls.low.cell (lt_of_cell h)).trans h
      have a0 := hcell ha.1
      have a1 := hcell ha.2.1
      have a2 := hcell ha.2.2
      clear hcell ha ea
      obtain ⟨ak, an, ax⟩ := a
      dsimp only at a0 a1 a2 hax
      have HX := Lib.hid hax
      clear hax
      go_upto_region 12 with fail
      have HS4 : Hid (PS w (wr.alloc (.cells #[.int .i64 ak, .int .i64 an, .int .i64 ax] 40)) g R v L L b n (.slice A7 n7 c7) ∧ AskB (wr.alloc (.cells #[.int .i64 ak, .int .i64 an, .int .i64 ax] 40)) wr.heap.size ak an ax ∧ w.heap.size ≤ wr.heap.size) := Lib.hid ⟨HS.out.alloc _, heap_alloc_new _ _, HS.out.ls.low.size⟩
      generalize wr.alloc (.cells #[.int .i64 ak, .int .i64 an, .int .i64 ax] 40) = w4 at HS4 ⊢
      generalize wr.heap.size = K at HS4 ⊢
      clear HS a0 a1 a2 hP
      have f1 : w4.cell? ⟨K, 1, none⟩ = some (.int .i64 an) := by simp [World.cell?, show w4.heap[K]? = _ from HS4.out.2.1]
      have hwi := wi_spec 8 an (by omega) (by omega)
      obtain ⟨x, hx⟩ : ∃ x, wi 8 an = x := ⟨_, rfl⟩
      rw [hx] at hwi
      clear hx
      go_wp2_with fail
      refine (porticobook_Within.calls an 0 8 _ w4 hwi.1).mono ?_
      rintro e w5 ⟨rfl, ⟨q5, rfl⟩⟩
      have hB5 : Below w4.heap.size w4 (w4.drewN q5) := pw_below_drewN (Below.refl _ _) q5
      have HS5 : Hid (PS w (w4.drewN q5) g R v L L b n (.slice A7 n7 c7) ∧ AskB (w4.drewN q5) K ak an ax ∧ w.heap.size ≤ K) := Lib.hid ⟨HS4.out.1.below hB5, (hB5.block K (lt_of_heap HS4.out.2.1)).trans HS4.out.2.1, HS4.out.2.2⟩
      clear HS4 f1 hB5
      generalize w4.drewN q5 = w5 at HS5 ⊢
      have hx8 : (x : Int) ≤ 8 := hwi.2
      have hx0 : (0 : Int) ≤ (x : Int) := by omega
      clear hwi
      have hconv := letter w5 x
      have hB6 : Below w5.heap.size w5 (w5.alloc (.cells #[.int .u8 (97 + (x : Int))] 5)) := (Below.refl _ _).alloc (Nat.le_refl _) _
      have HS6 : Hid (PS w (w5.alloc (.cells #[.int .u8 (97 + (x : Int))] 5)) g R v L L b n (.slice A7 n7 c7) ∧ AskB (w5.alloc (.cells #[.int .u8 (97 + (x : Int))] 5)) K ak an ax ∧ w.heap.size ≤ K) := Lib.hid ⟨HS5.out.1.below hB6, (hB6.block K (lt_of_heap HS5.out.2.1)).trans HS5.out.2.1, HS5.out.2.2⟩
      clear HS5 hB6
      go_upto_region 13 with fail
      clear hconv
      generalize w5.alloc (.cells #[.int .u8 (97 + (x : Int))] 5) = w6 at HS6 ⊢
      generalize w5.heap.size = K6
      have hs : (lb x).size ≤ maxLen := lb_size x
      have hlk := HS6.out.1.mp.lookup (lb x) hs
      obtain ⟨s, hsx⟩ : ∃ s, lb x = s := ⟨_, rfl⟩
      rw [hsx] at hs hlk ⊢
      clear hsx hx8 hx0
      have HSZ := Lib.hid hs
      clear hs
      go_wp2_with fail
      clear hlk
      have HB6 : Hid (∀ k, (Value.slice A7 n7 c7).ownBlock = some k → k < w6.heap.size) := Lib.hid fun k h => (HS6.out.1.row.lt k h).1
      go_loopw [16, 18, 61] (fun t16 t18 t61 wq => ∃ (q nl cl : Nat) (Al : Option Addr), t61 = .int .i64 (q : Int) ∧ t16 = .slice Al nl cl ∧ q ≤ n7 ∧ nl ≤ q ∧ nl = (((nm L).take q).filter (fun y => y != s)).length ∧ Hid (Below w6.heap.size w6 wq ∧ SRow wq (.slice Al nl cl) (((nm L).take q).filter (fun y => y != s)) ∧ ∀ k, (Value.slice Al nl cl).ownBlock = some k → w6.heap.size ≤ k)) (fun _ _ t _ => match t with | .int _ q => (n7 - q).toNat | _ => 0)
      case atStart => exact ⟨0, 0, 0, none, rfl, rfl, by omega, by omega, by simp, Lib.hid ⟨Below.refl _ _, by rw [List.take_zero, List.filter_nil]; exact Sl.nil _ _ _, fun k hk => by cases hk⟩⟩
      case round =>
        obtain ⟨q, nl, cl, Al, rfl, rfl, hq, hnq, hnl, HI⟩ := hrel
        have g0 : (0 : Int) ≤ (q : Int) := by omega
        by_cases d1 : q < n7
        · have g1 : (q : Int) < (n7 : Int) := by omega
          have hrow := HS6.out.1.row
          have hn7 : n7 = (nm L).length := by rw [nm_length]; exact HD.out.1
          obtain ⟨qb, qo, e5, hc7⟩ := hrow.form2 hn7 (by omega)
          subst e5
          obtain ⟨y, hy⟩ : ∃ y, (nm L)[q]? = some y := ⟨_, List.getElem?_eq_getElem (by omega)⟩
          have y5 : wr.cell? ⟨qb, qo + q, none⟩ = some (.string y) := by
            have h1 : SRow wr (.slice (some ⟨qb, qo, none⟩) n7 c7) (nm L) := hrow.below HI.out.1
            rw [hn7] at h1
            exact Sl.cell h1 q _ (by rw [List.getElem?_map, hy]; rfl)
          have g2 : (q : Int) ≤ (c7 : Int) := by omega
          have hst := filter_take (s := s) hy
          have g3 : (q : Int) ≤ 100 := by have := HD.out; omega
          clear hrow hn7 hy
          by_cases e1 : y = s
          · subst e1
            have HST := Lib.hid hst
            clear hst
            go_wp2_with fail
            go_roundw
            case rel => exact ⟨q + 1, nl, cl, Al, by go_num, rfl, by omega, by omega, by rw [HST.out]; simpa using hnl, by rw [HST.out]; simpa using HI⟩
            case measure => first | (simp; omega) | simp
          · have e2 : (y != s) = true := by simpa using e1
            rw [if_pos e2] at hst
            have HST := Lib.hid hst
            have e3 : (y.toList == s.toList) = false := by
              rw [← beq_toListBytes]
              simpa using e1
            clear hst e2
            have hBa : Below w6.heap.size w6 (wr.alloc (.cells #[.string y] 9)) := HI.out.1.alloc HI.out.1.size _
            have HI2 : Hid (Below w6.heap.size w6 (wr.alloc (.cells #[.string y] 9)) ∧ SRow (wr.alloc (.cells #[.string y] 9)) (.slice Al nl cl) (((nm L).take q).filter (fun y => y != s)) ∧ (∀ k, (Value.slice Al nl cl).ownBlock = some k → w6.heap.size ≤ k) ∧ w6.heap.size ≤ (wr.alloc (.cells #[.string y] 9)).heap.size) := Lib.hid ⟨hBa, HI.out.2.1.below ((Below.refl _ _).alloc (Nat.le_refl _) _), HI.out.2.2, hBa.size⟩
            have HA := Lib.hid (heap_alloc_new wr (.cells #[.string y] 9))
            obtain ⟨M, hM⟩ : ∃ M, ((nm L).take q).filter (fun y => y != s) = M := ⟨_, rfl⟩
            rw [hM] at HI2 HST hnl
            have HN := Lib.hid hnl
            clear HI hBa hnl hM
            go_wp2_with (at_builtin; refine wpl_append_str rfl (.tmp 68) (.tmp 70) rfl (.slice Al nl cl) M y wr.heap.size 1 rfl rfl HI2.out.2.1 HA.out (by have := HN.out; omega) ?_)
            rintro A6 c6 w7 hr6 hg6 ho6
            have hl6 : M.length + 1 = nl + 1 := by rw [← HN.out]
            rw [hl6] at hr6 ho6 ⊢
            have H7 : Hid (Below w6.heap.size w6 w7 ∧ SRow w7 (.slice A6 (nl + 1) c6) (M ++ [y]) ∧ ∀ k, (Value.slice A6 (nl + 1) c6).ownBlock = some k → w6.heap.size ≤ k) := Lib.hid (by
              refine ⟨below_grown HI2.out.1 hg6 HI2.out.2.2.1 HI2.out.2.2.2, hr6, fun k hk => ?_⟩
              rcases ho6 with h | h
              · exact HI2.out.2.2.1 k (by rw [← h]; exact hk)
              · rw [h] at hk
                have := Option.some.inj hk
                have := HI2.out.2.2.2
                first | omega | (simp at this; omega))
            have HL6 := Lib.hid hl6
            clear hr6 hg6 ho6 HI2 HA hl6
            go_wp2_with fail
            go_roundw
            case rel => exact ⟨q + 1, nl + 1, c6, A6, by go_num, rfl, by omega, by omega, by rw [HST.out, List.length_append]; exact HL6.out.symm, by rw [HST.out]; exact H7⟩
            case measure => first | (simp; omega) | simp
        · have g1 : ¬ (q : Int) < (n7 : Int) := by omega
          have hq' : (nm L).take q = nm L := List.take_of_length_le (by rw [nm_length]; have := HD.out.1; omega)
          rw [hq'] at hnl HI
          have HW : Hid (PS w wr g R v L L b n (.slice A7 n7 c7) ∧ AskB wr K ak an ax ∧ w.heap.size ≤ K) := Lib.hid ⟨HS6.out.1.below HI.out.1, (HI.out.1.block K (lt_of_heap HS6.out.2.1)).trans HS6.out.2.1, HS6.out.2.2⟩
          have HLF : Hid (SRow wr (.slice Al nl cl) ((nm L).filter (fun x => x != s)) ∧ nl = ((nm L).filter (fun x => x != s)).length ∧ ∀ k, (Value.slice Al nl cl).ownBlock = some k → w.heap.size ≤ k ∧ (Value.slice A7 n7 c7).ownBlock ≠ some k) := Lib.hid ⟨HI.out.2.1, hnl, fun k hk => by
            have h1 := HI.out.2.2 k hk
            have h2 := HS6.out.1.ls.low.size
            exact ⟨by omega, fun e => by have := HB6.out k e; omega⟩⟩
          have f0 : wr.cell? ⟨K, 0, none⟩ = some (.int .i64 ak) := by simp [World.cell?, show wr.heap[K]? = _ from HW.out.2.1]
          clear hq' hnl HI HS6 HB6
          go_upto_block 4 with fail
          refine wp_cut (B4_R w R b i K nl cl ak r' _ _ s Al _ _ _ _ _ _ _ _ _ _ _ _ _ _ _ _ _ _ _ _ _ _ _ _ _ _ _ _ _ _ _ _ _ _ _ _ _ _ _ _ _ _ _ _ _ _ _ _ _ _ _ _ _ _ _ _ _ _ _ _ _ _ _ _ _ _ _ _ _ _ _ _ _ _ _ _ _ _ _ _ _ _ _ _ ) ?_ (fun J K' hJ hK => B4_any w wr g R b n n7 c7 nl cl K i cin cout ak an r' ax _ _ v L s A7 Al _ _ _ _ _ _ _ _ _ _ _ _ _ _ _ _ _ _ _ _ _ _ _ _ _ _ _ _ _ _ _ _ _ _ _ _ _ _ _ _ _ _ _ _ _ _ _ _ _ _ _ _ _ _ _ _ _ _ _ _ _ _ _ _ _ _ _ _ _ _ _ _ _ _ _ _ _ _ _ _ _ _ _ _ _ _ _ _ _ _ _ _ _ _ _ _ _ _ _ _ _ _ _ _ _ _ _ _ _ _ _ _ _ _ _ _ _ _ _ _ _ _ _ _ _ _ _ _ _ _ _ _ _ _ _ _ _ _ _ _ _ _ _ _ _ _ _ _ _ _ _ _ _ _ _ _ _ _ _ _ _ _ _ _ _ _ _ _ _ _ _ _ _ _ _ _ _ _ _ _ _ _ _ _ _ _ _ _ _ _ _ _ _ _ _ _ _ _ rfl rfl HR.out.1 HR.out.2 HD.out.1 HD.out.2.1 HD.out.2.2.1 HD.out.2.2.2.1 HD.out.2.2.2.2.1 c2 HD.out.2.2.2.2.2 HSZ.out HX.out (Lib.hid HW.out.1) (Lib.hid HW.out.2) HLF J K' _ hJ hK)
          intro a' wc hr
          unfold B4_R at hr
          obtain ⟨y4, hr⟩ := hr
          obtain ⟨y6, hr⟩ := hr
          obtain ⟨y7, hr⟩ := hr
          obtain ⟨y9, hr⟩ := hr
          obtain ⟨y10, hr⟩ := hr
          obtain ⟨y19, hr⟩ := hr
          obtain ⟨y20, hr⟩ := hr
          obtain ⟨y21, hr⟩ := hr
          obtain ⟨y22, hr⟩ := hr
          obtain ⟨y23, hr⟩ := hr
          obtain ⟨y24, hr⟩ := hr
          obtain ⟨y75, hr⟩ := hr
          obtain ⟨y76, hr⟩ := hr
          obtain ⟨y77, hr⟩ := hr
          obtain ⟨y78, hr⟩ := hr
          obtain ⟨y79, hr⟩ := hr
          obtain ⟨y80, hr⟩ := hr
          obtain ⟨y81, hr⟩ := hr
          obtain ⟨y82, hr⟩ := hr
          obtain ⟨y83, hr⟩ := hr
          obtain ⟨y84, hr⟩ := hr
          obtain ⟨y85, hr⟩ := hr
          obtain ⟨y86, hr⟩ := hr
          obtain ⟨y87, hr⟩ := hr
          obtain ⟨y88, hr⟩ := hr
          obtain ⟨y89, hr⟩ := hr
          obtain ⟨y90, hr⟩ := hr
          obtain ⟨y91, hr⟩ := hr
          obtain ⟨y92, hr⟩ := hr
          obtain ⟨y93, hr⟩ := hr
          obtain ⟨y94, hr⟩ := hr
          obtain ⟨y95, hr⟩ := hr
          obtain ⟨y96, hr⟩ := hr
          obtain ⟨y97, hr⟩ := hr
          obtain ⟨y98, hr⟩ := hr
          obtain ⟨y99, hr⟩ := hr
          obtain ⟨y100, hr⟩ := hr
          obtain ⟨y101, hr⟩ := hr
          obtain ⟨y102, hr⟩ := hr
          obtain ⟨y103, hr⟩ := hr
          obtain ⟨y104, hr⟩ := hr
          obtain ⟨y105, hr⟩ := hr
          obtain ⟨y106, hr⟩ := hr
          obtain ⟨y107, hr⟩ := hr
          obtain ⟨y108, hr⟩ := hr
          obtain ⟨y109, hr⟩ := hr
          obtain ⟨y110, hr⟩ := hr
          obtain ⟨y111, hr⟩ := hr
          obtain ⟨y112, hr⟩ := hr
          obtain ⟨y113, hr⟩ := hr
          obtain ⟨y114, hr⟩ := hr
          obtain ⟨y115, hr⟩ := hr
          obtain ⟨y116, hr⟩ := hr
          obtain ⟨y117, hr⟩ := hr
          obtain ⟨y118, hr⟩ := hr
          obtain ⟨y119, hr⟩ := hr
          obtain ⟨y120, hr⟩ := hr
          obtain ⟨y121, hr⟩ := hr
          obtain ⟨y122, hr⟩ := hr
          obtain ⟨y123, hr⟩ := hr
          obtain ⟨y124, hr⟩ := hr
          obtain ⟨y125, hr⟩ := hr
          obtain ⟨y126, hr⟩ := hr
          obtain ⟨y127, hr⟩ := hr
          obtain ⟨y128, hr⟩ := hr
          obtain ⟨y129, hr⟩ := hr
          obtain ⟨y130, hr⟩ := hr
          obtain ⟨y131, hr⟩ := hr
          obtain ⟨y132, hr⟩ := hr
          obtain ⟨y133, hr⟩ := hr
          obtain ⟨y134, hr⟩ := hr
          obtain ⟨y135, hr⟩ := hr
          obtain ⟨y136, hr⟩ := hr
          obtain ⟨y137, hr⟩ := hr
          obtain ⟨y138, hr⟩ := hr
          obtain ⟨y139, hr⟩ := hr
          obtain ⟨y140, hr⟩ := hr
          obtain ⟨y141, hr⟩ := hr
          obtain ⟨y142, hr⟩ := hr
          obtain ⟨y143, hr⟩ := hr
          obtain ⟨y144, hr⟩ := hr
          obtain ⟨y145, hr⟩ := hr
          obtain ⟨y146, hr⟩ := hr
          obtain ⟨y147, hr⟩ := hr
          obtain ⟨y148, hr⟩ := hr
          obtain ⟨y149, hr⟩ := hr
          obtain ⟨y150, hr⟩ := hr
          obtain ⟨y151, hr⟩ := hr
          obtain ⟨y152, hr⟩ := hr
          obtain ⟨y153, hr⟩ := hr
          obtain ⟨y154, hr⟩ := hr
          obtain ⟨y155, hr⟩ := hr
          obtain ⟨y156, hr⟩ := hr
          obtain ⟨y157, hr⟩ := hr
          obtain ⟨y158, hr⟩ := hr
          obtain ⟨y159, hr⟩ := hr
          obtain ⟨y160, hr⟩ := hr
          obtain ⟨y161, hr⟩ := hr
          obtain ⟨y162, hr⟩ := hr
          obtain ⟨y163, hr⟩ := hr
          obtain ⟨y164, hr⟩ := hr
          obtain ⟨y165, hr⟩ := hr
          obtain ⟨y166, hr⟩ := hr
          obtain ⟨y167, hr⟩ := hr
          obtain ⟨y168, hr⟩ := hr
          obtain ⟨y169, hr⟩ := hr
          obtain ⟨y170, hr⟩ := hr
          obtain ⟨y171, hr⟩ := hr
          obtain ⟨y172, hr⟩ := hr
          obtain ⟨y173, hr⟩ := hr
          obtain ⟨y174, hr⟩ := hr
          obtain ⟨y175, hr⟩ := hr
          obtain ⟨y176, hr⟩ := hr
          obtain ⟨y177, hr⟩ := hr
          obtain ⟨y178, hr⟩ := hr
          obtain ⟨y179, hr⟩ := hr
          obtain ⟨y180, hr⟩ := hr
          obtain ⟨y181, hr⟩ := hr
          obtain ⟨⟨g, v, L, n, n7, c7, cin, cout, A7, rfl, rfl, rfl, rfl, hn7, hL, hd, hc, hci, hn, HS⟩, rfl⟩ := hr
          obtain rfl : cin = cout + n7 := by omega
          have w1 : (0 : Int) ≤ (cout : Int) ∧ (cout : Int) ≤ 100 := by omega
          obtain ⟨w1, w2⟩ := w1
          have w3 : (n7 : Int) ≤ 100 := by omega
          have w4 : (0 : Int) ≤ (n7 : Int) := by omega
          clear HD HX HW HLF HSZ f0 HL
          have HZ := Lib.hid (And.intro hn7 (And.intro hL (And.intro hd (And.intro hc (And.intro hci hn)))))
          go_upto_region 53 with fail
          go_wp2_with fail
          refine (Names_any g (R : Int) v L _ HS.out.ls.cache (by omega)).mono ?_
          rintro e w8 ⟨A8, c8, rfl, h8, hB8, hf8⟩
          rw [← hn7] at h8 ⊢
          have H8 : Hid (PS w w8 g R v L L b n (.slice A7 n7 c7) ∧ SRow w8 (.slice A8 n7 c8) (nm L)) := Lib.hid ⟨HS.out.below hB8, h8⟩
          clear h8 hf8 hB8 hn7 hL hd hc hci hn
          go_wp2_with fail
          refine (Same_strs A8 A7 c8 c7 n7 n7 (nm L) w8 H8.out.2 H8.out.1.row (by rw [nm_length]; exact HZ.out.1) (by rw [nm_length]; exact HZ.out.1) (by rw [nm_length]; have := HZ.out; omega)).mono ?_
          rintro e w9 ⟨rfl, ⟨q9, rfl⟩⟩
          have H9 : Hid (PS w (w8.drewN q9) g R v L L b n (.slice A7 n7 c7)) := Lib.hid (H8.out.1.drewN q9)
          clear H8
          generalize w8.drewN q9 = w9 at H9 ⊢
          go_wp2_with fail
          refine (Len_any g (R : Int) v L w9 H9.out.ls.cache).mono ?_
          rintro e w10 ⟨rfl, rfl⟩
          rw [← HZ.out.1]
          go_wp2_with fail
          have hRR := HR.out.1
          have g1 : ¬ (R : Int) < (n7 : Int) := by have := HZ.out; omega
          refine (Len_any g (R : Int) v L w10 H9.out.ls.cache).mono ?_
          rintro e w11 ⟨rfl, rfl⟩
          rw [← HZ.out.1]
          go_wp2_with fail
          go_roundw
          case rel => exact ⟨i + 1, g, n, n7, c7, cout + n7, cout, v, L, A7, rfl, rfl, by go_num, rfl, by go_num, by omega, HZ.out.1, HZ.out.2.1, HZ.out.2.2.1, HZ.out.2.2.2.1, HZ.out.2.2.2.2.1, HZ.out.2.2.2.2.2, H9⟩
          case measure => simp; omega
    · by_cases c2 : i < l.length
      · have q1 : (i : Int) < (l.length : Int) := by omega
        have q2 : ¬ (i : Int) < 40 := by omega
        go_wp2_with fail
        refine (LruRuns_any wr).mono ?_
        rintro e w9 ⟨rfl, hB⟩
        go_wp2_with fail
        go_ret
        exact ⟨rfl, HS.out.ls.low.trans (hB.mono HS.out.ls.low.size)⟩
      · have q1 : ¬ (i : Int) < (l.length : Int) := by omega
        go_wp2_with fail
        refine (LruRuns_any wr).mono ?_
        rintro e w9 ⟨rfl, hB⟩
        go_wp2_with fail
        go_ret
        exact ⟨rfl, HS.out.ls.low.trans (hB.mono HS.out.ls.low.size)⟩
end Go.Proofs.Ytffaiijeagghdaa.Lr
