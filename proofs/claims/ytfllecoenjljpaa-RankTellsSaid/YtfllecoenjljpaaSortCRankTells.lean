/- rank.Sorted: the walk of the insertion sort. Over PRankTells's words. -/
import Derived.Test.YtfllecoenjljpaaSortBRankTells
import Derived.Deep.RegionHeld
set_option linter.unusedVariables false
set_option linter.unusedSimpArgs false
namespace Go.Proofs.Ytfllecoenjljpaa.SortRankTells
open Go.RowKit Go.Proofs.Ytfllecoenjljpaa.Given Go.Proofs.Ytfllecoenjljpaa.PRankTells Go.Proofs.YtfllecoenjljpaaW.PrintWords Go.Proofs.YtfllecoenjljpaaW.PrintLast Go.Proofs.YtfllecoenjljpaaW.PrintMore Go.Proofs.Ytfllecoenjljpaa.OrdRankTells Go.Proofs.Ytfllecoenjljpaa.Sl

theorem Sl.set1 {w : World} {e : TypeId} {size n g o c : Nat} {xs : List Value} (h : Sl w e size (.slice (some ⟨g, o, none⟩) n c) n xs) (j : Nat) (hj : j < n * size) (u : Value) : Sl (w.setCell ⟨g, o + j, none⟩ u) e size (.slice (some ⟨g, o, none⟩) n c) n (xs.set j u) := by
  refine ⟨by rw [List.length_set]; exact h.1, ?_⟩
  rcases h.2 with ⟨h0, _⟩ | ⟨g', o', cap, cur, e1, h1, h2, h3, h4, h5⟩
  · cases h0
  · injection e1 with e1 e2 e3
    injection e1 with e1
    injection e1 with e1 e4
    subst e1 e4 e3
    refine .inr ⟨g, o, c, cur.setIfInBounds (o + j) u, rfl, ?_, h2, h3, by simpa using h4, ?_⟩
    · simp [World.setCell, Array.getElem?_modify, h1]
    · rw [Array.toList_setIfInBounds, ← h5]
      rw [List.drop_set, if_neg (by omega), show o + j - o = j by omega, List.take_set]
def Sz (W : World) (g c : Nat) : Prop := ∃ cur : Array Value, W.heap[g]? = some (.cells cur 3 (0, 0)) ∧ cur.size = c
/-- The row of places, the patterns, the closure's variable. -/
def Ws (w W : World) (bx : Nat) (A0 : Option Addr) (c0 : Nat) (ls : Ls) (g o n c : Nat) (d : List Int) : Prop :=
  At w W bx A0 c0 ls ∧ IRow W (.slice (some ⟨g, o, none⟩) n c) d ∧ w.heap.size ≤ g ∧ g ≠ bx ∧ d.length = n ∧ Sz W g c
variable {w W W' : World} {bx : Nat} {A0 : Option Addr} {c0 : Nat} {ls : Ls} {g o n c : Nat} {d : List Int}
theorem Ws.below (h : Ws w W bx A0 c0 ls g o n c d) (hB : Below W.heap.size W W') : Ws w W' bx A0 c0 ls g o n c d := ⟨h.1.below hB, h.2.1.below hB, h.2.2.1, h.2.2.2.1, h.2.2.2.2.1, by
  obtain ⟨cur, h1, h2⟩ := h.2.2.2.2.2
  exact ⟨cur, (hB.block g (Array.getElem?_eq_some_iff.1 h1).1).trans h1, h2⟩⟩
theorem Ws.sl (h : Ws w W bx A0 c0 ls g o n c d) : Sl W 3 1 (.slice (some ⟨g, o, none⟩) n c) n (d.map (.int .i64 ·)) := by
  have h1 := h.2.1
  unfold IRow at h1
  rw [h.2.2.2.2.1] at h1
  exact h1
theorem Ws.cell (h : Ws w W bx A0 c0 ls g o n c d) (j : Nat) (x : Int) (hj : d[j]? = some x) : W.cell? ⟨g, o + j, none⟩ = some (.int .i64 x) := Sl.cell h.sl j _ (by rw [List.getElem?_map, hj]; rfl)
theorem Ws.frozen (h : Ws w W bx A0 c0 ls g o n c d) (j : Nat) : W.frozen? ⟨g, j, none⟩ = false := Sl.frozen h.sl j
theorem Ws.set (h : Ws w W bx A0 c0 ls g o n c d) (j : Nat) (hj : j < n) (x : Int) : Ws w (W.setCell ⟨g, o + j, none⟩ (.int .i64 x)) bx A0 c0 ls g o n c (d.set j x) := by
  have h1 := Sl.set1 h.sl j (by omega) (.int .i64 x)
  refine ⟨⟨h.1.low.setCell h.2.2.1 _, h.1.hbx, ?_, h.1.rd⟩, ?_, h.2.2.1, h.2.2.2.1, by rw [List.length_set]; exact h.2.2.2.2.1, by
    obtain ⟨cur, h2, h3⟩ := h.2.2.2.2.2
    exact ⟨cur.setIfInBounds (o + j) (.int .i64 x), by simp [World.setCell, Array.getElem?_modify, h2], by simpa using h3⟩⟩
  · have : (W.setCell ⟨g, o + j, none⟩ (.int .i64 x)).heap[bx]? = W.heap[bx]? := by
      simp [World.setCell, Array.getElem?_modify, h.2.2.2.1]
    rw [this]; exact h.1.box
  · unfold IRow
    rw [List.length_set, h.2.2.2.2.1, List.map_set]
    exact h1
theorem swap_sets (P T : List Int) (p x : Int) : ((P ++ p :: x :: T).set (P.length + 1) p).set P.length x = P ++ x :: p :: T := by
  simp
attribute [local go_sem] max2_int min2_int max_two min_two
set_option maxHeartbeats 8000000 in
set_option maxRecDepth 100000 in
theorem ins_any (w W : World) (bx : Nat) (A0 : Option Addr) (c0 : Nat) (ls : Ls) (hls : ∀ l ∈ ls, l.length ≤ 20) (hn : ls.length < 20) (g o n c : Nat) (hn2 : n = ls.length) (hn0 : 0 < n) (h : Ws w W bx A0 c0 ls g o n c (places n)) : Calls Try.prog 26 #[.slice (some ⟨g, o, none⟩) n c, .int .i64 0, .int .i64 (n : Int), .func (.func 21) #[] #[.pointer (some ⟨bx, 0, none⟩)]] W fun e w' => e = .returned (.tuple #[]) ∧ ∃ d, Ws w w' bx A0 c0 ls g o n c d ∧ Outer ls n n d := by
  have H := Lib.hid (And.intro h (And.intro hls (And.intro hn hn2)))
  have nz : (0 : Int) ≤ (n : Int) := by omega
  have nq : (n : Int) ≤ 100 := by omega
  clear h hls hn2
  go_enter Try.func26, Try.ntmps26
  go_wp2_with fail
  go_loopw [8] (fun t8 wr => ∃ i : Nat, t8 = .int .i64 (i : Int) ∧ i ≤ n ∧ 1 ≤ i ∧ Hid (∃ d, Ws w wr bx A0 c0 ls g o n c d ∧ Outer ls n i d)) (fun t _ => match t with | .int _ q => (n - q).toNat | _ => 0)
  case atStart => exact ⟨1, by go_num, by omega, by omega, Lib.hid ⟨_, H.out.1, Outer.start ls n hn0⟩⟩
  case round =>
    obtain ⟨i, rfl, hi, hi1, HI⟩ := hrel
    have i0 : (0 : Int) ≤ (i : Int) := by omega
    by_cases d1 : i < n
    · have d1i : (i : Int) < (n : Int) := by omega
      go_wp2_with fail
      go_loopw [9] (fun t9 wr => ∃ j : Nat, t9 = .int .i64 (j : Int) ∧ j ≤ i ∧ Hid (∃ d, Ws w wr bx A0 c0 ls g o n c d ∧ Inner ls n i j d)) (fun t _ => match t with | .int _ q => q.toNat | _ => 0)
      case atStart => exact ⟨i, rfl, Nat.le_refl _, by obtain ⟨d, h1, h2⟩ := HI.out; exact Lib.hid ⟨d, h1, h2.enter d1⟩⟩
      case round =>
        clear HI
        obtain ⟨j, rfl, hj, HI⟩ := hrel
        obtain ⟨d, HIx⟩ := HI.out
        have HJ := Lib.hid HIx
        clear HI HIx
        have j0 : (0 : Int) ≤ (j : Int) := by omega
        by_cases d2 : 0 < j
        · have d2i : (0 : Int) < (j : Int) := by omega
          obtain ⟨P, p, x, T, hd, hPj⟩ : ∃ P p x T, d = P ++ p :: x :: T ∧ P.length + 1 = j := by
            have hlen := HJ.out.2.len d1
            have e1 : d = d.take (j - 1) ++ d.drop (j - 1) := (List.take_append_drop _ _).symm
            rw [List.drop_eq_getElem_cons (by omega), List.drop_eq_getElem_cons (by omega)] at e1
            exact ⟨_, _, _, _, e1, by rw [List.length_take]; omega⟩
          obtain ⟨q, rfl⟩ : ∃ q : Nat, j = q + 1 := ⟨j - 1, by omega⟩
          have hqj : P.length = q := by omega
          have hjq : True := trivial
          have y1 := HJ.out.1.cell (q + 1) x (by rw [hd, ← hPj]; simp)
          have y2 := HJ.out.1.cell q p (by rw [hd, ← hqj]; simp)
          have z1 := HJ.out.1.frozen (o + (q + 1))
          have z2 := HJ.out.1.frozen (o + q)
          have hmx := HJ.out.2.mem d1 x (by rw [hd]; simp)
          have hmp := HJ.out.2.mem d1 p (by rw [hd]; simp)
          have q0 : (0 : Int) ≤ (q : Int) := by omega
          have qn : (q : Int) < (n : Int) := by omega
          have jn : (q : Int) + 1 < (n : Int) := by omega
          have j0b : (0 : Int) ≤ (q : Int) + 1 := by omega
          have j0c : (0 : Int) < (q : Int) + 1 := by omega
          have j0d : decide ((q : Int) + 1 > 0) = true := decide_eq_true (by omega)
          have jra : IntKind.i64.wrap ((q : Int) + 1) = (q : Int) + 1 := by rw [IntKind.wrap_i64]; omega
          have jrb : IntKind.i64.wrap (q : Int) = (q : Int) := by rw [IntKind.wrap_i64]; omega
          have jto : ((q : Int) + 1).toNat = q + 1 := by omega
          have HD := Lib.hid (And.intro hd (And.intro hPj (And.intro hqj hjq)))
          have HCL : Hid (∀ W', Below wr.heap.size wr W' → Calls Try.prog 21 #[.int .i64 x, .int .i64 p, .pointer (some ⟨bx, 0, none⟩)] W' fun e w' => e = .returned (.int .i64 (cz ls x p)) ∧ Below W'.heap.size W' w') := Lib.hid fun W' hB => by
            have hn9 := H.out.2.2.2
            exact clos_any w W' bx A0 c0 ls x p (HJ.out.1.1.below hB) hmx.1 (by omega) hmp.1 (by omega) H.out.2.1
          clear hd hPj hqj hjq hmx hmp
          obtain ⟨C, hC⟩ : ∃ C, cz ls x p = C := ⟨_, rfl⟩
          rw [hC] at HCL
          have HC9 := Lib.hid hC
          clear hC
          have HKEEP : Hid (∀ W', Below wr.heap.size wr W' → W'.cell? ⟨g, o + (q + 1), none⟩ = some (.int .i64 x) ∧ W'.cell? ⟨g, o + q, none⟩ = some (.int .i64 p) ∧ Below wr.heap.size wr W') := Lib.hid fun W' hB => by
            obtain ⟨hd, hPj, hqj, hjq⟩ := HD.out
            exact ⟨(HJ.out.1.below hB).cell (q + 1) x (by rw [hd, ← hPj]; simp), (HJ.out.1.below hB).cell q p (by rw [hd, ← hqj]; simp), hB⟩
          clear y1 y2
          by_cases d3 : C < 0
          · have d3b : decide (C < 0) = true := decide_eq_true d3
            have h9 : Hid (∀ W', Below wr.heap.size wr W' → ∃ d, Ws w ((W'.setCell ⟨g, o + (q + 1), none⟩ (.int .i64 p)).setCell ⟨g, o + q, none⟩ (.int .i64 x)) bx A0 c0 ls g o n c d ∧ Inner ls n i q d) := Lib.hid fun W' hB => by
              obtain ⟨hd, hPj, hqj, hjq⟩ := HD.out
              have h1 := ((HJ.out.1.below hB).set (q + 1) (by omega) p).set q (by omega) x
              rw [hd, ← hPj, ← hqj] at h1
              have h2 : Inner ls n i (P.length + 1) (P ++ p :: x :: T) := by rw [← hd, hPj]; exact HJ.out.2
              rw [swap_sets, hPj, hqj] at h1
              have h3 := h2.step.2 (by rw [HC9.out]; exact d3)
              rw [hqj] at h3
              exact ⟨_, h1, h3⟩
            go_upto_region 4 with fail
            go_region_held (fun w' => w'.cell? ⟨g, o + (q + 1), none⟩ = some (.int .i64 x) ∧ w'.cell? ⟨g, o + q, none⟩ = some (.int .i64 p) ∧ Below wr.heap.size wr w') (first | exact HKEEP.out _ HB.out | exact HKEEP.out _ (pw_below_drewN (Below.refl _ _) 1)) ((go_at_call 21; refine (HCL.out _ (pw_below_drewN (Below.refl _ _) 1)).mono ?_; rintro e w' ⟨rfl, hB⟩; have HB := Lib.hid ((pw_below_drewN (Below.refl wr.heap.size wr) 1).trans (hB.mono (pw_below_drewN (Below.refl wr.heap.size wr) 1).size)); clear hB))
            all_goals
              obtain ⟨y1, y2, _⟩ := HKEEP.out w' HB.out
              have z1 := (HJ.out.1.below HB.out).frozen (o + (q + 1))
              have z2 := (HJ.out.1.below HB.out).frozen (o + q)
              obtain ⟨d9, h91, h92⟩ := h9.out w' HB.out
              have H9 := Lib.hid (And.intro h91 h92)
              clear h91 h92
              clear HKEEP HCL HB
              go_upto_region 6 with fail
              go_region_with (fail)
              all_goals
                go_wp2_with fail
                go_roundw
                case rel => exact ⟨q, by go_num, by omega, Lib.hid ⟨d9, H9.out.1.below (pw_below_drewN (Below.refl _ _) 1), H9.out.2⟩⟩
                case measure => simp
          · have d3b : decide (C < 0) = false := decide_eq_false d3
            have h9 : Outer ls n (i + 1) d := HJ.out.2.leave (fun P' p' T' h h' => by
              obtain ⟨hd, hPj, hqj, hjq⟩ := HD.out
              rw [hd] at h
              have h5 := List.append_inj h (by omega)
              injection h5.2 with h6 h7
              rw [← h6]
              have h8 : Inner ls n i (P.length + 1) (P ++ p :: x :: T) := by rw [← hd, hPj]; exact HJ.out.2
              rw [← h8.step.1, HC9.out]; exact d3)
            have H9 := Lib.hid (And.intro HJ.out.1 h9)
            clear h9
            go_upto_region 4 with fail
            go_region_held (fun w' => w'.cell? ⟨g, o + (q + 1), none⟩ = some (.int .i64 x) ∧ w'.cell? ⟨g, o + q, none⟩ = some (.int .i64 p) ∧ Below wr.heap.size wr w') (first | exact HKEEP.out _ HB.out | exact HKEEP.out _ (pw_below_drewN (Below.refl _ _) 1)) ((go_at_call 21; refine (HCL.out _ (pw_below_drewN (Below.refl _ _) 1)).mono ?_; rintro e w' ⟨rfl, hB⟩; have HB := Lib.hid ((pw_below_drewN (Below.refl wr.heap.size wr) 1).trans (hB.mono (pw_below_drewN (Below.refl wr.heap.size wr) 1).size)); clear hB))
            all_goals
             go_wp2_with fail
             go_roundw
             case rel => exact ⟨i + 1, by go_num, by omega, by omega, Lib.hid ⟨d, H9.out.1.below HB.out, H9.out.2⟩⟩
             case measure => simp; omega
        · have d2i : ¬ (0 : Int) < (j : Int) := by omega
          have h9 : Outer ls n (i + 1) d := HJ.out.2.leave (fun P p T _ h => by omega)
          have H9 := Lib.hid (And.intro HJ.out.1 h9)
          clear HJ h9
          obtain rfl : j = 0 := by omega
          rw [show (((0 : Nat) : Int)) = 0 from rfl]
          have d2d : decide ((0 : Int) > 0) = false := by decide
          clear d2i j0 hj
          go_upto_region 4 with fail
          go_quiet (fail)
          go_wp2_with fail
          go_roundw
          case rel => exact ⟨i + 1, by go_num, by omega, by omega, Lib.hid ⟨d, H9.out.1.below (pw_below_drewN (Below.refl _ _) _), H9.out.2⟩⟩
          case measure => simp; omega
    · have d1i : ¬ (i : Int) < (n : Int) := by omega
      obtain rfl : i = n := by omega
      obtain ⟨d, h1, h2⟩ := HI.out
      have H9 := Lib.hid (And.intro h1 h2)
      clear HI h1 h2
      go_wp2_with fail
      go_end0
      exact ⟨rfl, d, H9.out.1, H9.out.2⟩
end Go.Proofs.Ytfllecoenjljpaa.SortRankTells
