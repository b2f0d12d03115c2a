/- PastThere: the walk (printed by wip/law11/gen_There.py out of There.body). -/
import Derived.Test.YtobeebcpkkdkhaaPastRuns
import Derived.Test.YtobeebcpkkdkhaaPPastTherex2
import Derived.Deep.LoopGhost
set_option linter.unusedVariables false
set_option linter.unusedSimpArgs false
namespace Go.Proofs.Ytobeebcpkkdkhaa.Pa
open Go.RowKit Go.Proofs.YtobeebcpkkdkhaaW.PrintWords Go.Proofs.YtobeebcpkkdkhaaW.PrintLast

theorem within (a lo hi : Int) (h : lo ≤ hi) (h0 : -1000000 ≤ lo) (h1 : hi ≤ 1000000) : ∃ r : Int, PPastThere.porticobook_Within.f a lo hi = some r ∧ lo ≤ r ∧ r ≤ hi := by
  have e1 : wrap64 ((wrap64 (hi - lo)) + 1) = hi - lo + 1 := by unfold wrap64; omega
  unfold PPastThere.porticobook_Within.f
  rw [e1, if_neg (by omega)]
  have hl := Int.tmod_lt_of_pos a (show (0 : Int) < hi - lo + 1 by omega)
  have hg := Int.lt_tmod_of_pos a (show (0 : Int) < hi - lo + 1 by omega)
  generalize Int.tmod a (hi - lo + 1) = q at *
  by_cases c : q < 0
  · rw [if_pos c]
    refine ⟨lo + (q + hi - lo + 1), ?_, by omega, by omega⟩
    congr 1
    unfold wrap64
    omega
  · rw [if_neg c]
    refine ⟨lo + q, ?_, by omega, by omega⟩
    congr 1
    unfold wrap64
    omega
/-- A letter's entry; the first entry, and n letters. -/
def lb (i : Nat) : ByteArray := ⟨#[UInt8.ofNat (97 + i)]⟩
def letter (i : Nat) : PPastRuns.S28 := ⟨lb i, 0⟩
def pl (first : ByteArray) : Nat → List PPastRuns.S28
  | 0 => [⟨first, 0⟩]
  | n + 1 => pl first n ++ [letter n]
theorem pl_length (first : ByteArray) (n : Nat) : (pl first n).length = n + 1 := by
  induction n with
  | zero => rfl
  | succ n ih => simp [pl, ih]
theorem one_byte (W : World) (x : Int) : (convert 37 9 (.slice (some ⟨W.heap.size, 0, none⟩) 1 1)).run Try.prog (W.alloc (.cells #[.int .u8 x] 5)) = .ok (.string ⟨#[UInt8.ofNat x.toNat]⟩) (W.alloc (.cells #[.int .u8 x] 5)) := by
  rw [run_convert_bytes_string _ _ _ 5 _ _ _ Try.underlying37 Try.underlying5 Try.underlying9]
  rw [run_bytesToString _ _ _ _ [x] (by simp [loadCells, loadCellsFrom, go_sem])]
  rfl
/-- What is known along the walk: the past, the row that was read, variables that hold entries. -/
structure Th (w0 : World) (g r cap : Nat) (L : List PPastRuns.S28) (w : World) (v : Value) (l : List PPastRuns.S28) (at_ : Int) (ks : List (Nat × PPastRuns.S28)) : Prop where
  past : PastAt w g v l at_
  low : Below w0.heap.size w0 w
  was : RowOf w (.slice (some ⟨r, 0, none⟩) L.length cap) L
  xs : ∀ p ∈ ks, p.1 ≠ g ∧ w.cell? ⟨p.1, 0, none⟩ = some (.string p.2.f0) ∧ w.cell? ⟨p.1, 1, none⟩ = some (.int .u64 p.2.f1)
  ge : w0.heap.size ≤ g
theorem Th.upd {w0 w w' : World} {g r cap : Nat} {L l l' : List PPastRuns.S28} {v v' : Value} {at_ at' : Int} {ks : List (Nat × PPastRuns.S28)} (h : Th w0 g r cap L w v l at_ ks) (hU : Upd g w w') (hp : PastAt w' g v' l' at') : Th w0 g r cap L w' v' l' at' ks :=
  ⟨hp, hU.below h.low h.ge, h.was.upd h.past.obj hU, fun p hp => ⟨(h.xs p hp).1, hU.cell (h.xs p hp).2.1 (h.xs p hp).1, hU.cell (h.xs p hp).2.2 (h.xs p hp).1⟩, h.ge⟩
theorem Th.below {w0 w w' : World} {g r cap : Nat} {L l : List PPastRuns.S28} {v : Value} {at_ : Int} {ks : List (Nat × PPastRuns.S28)} (h : Th w0 g r cap L w v l at_ ks) (hB : Below w.heap.size w w') : Th w0 g r cap L w' v l at_ ks :=
  h.upd (Upd.of_below hB) (h.past.below hB)
theorem Th.alloc {w0 w : World} {g r cap : Nat} {L l : List PPastRuns.S28} {v : Value} {at_ : Int} {ks : List (Nat × PPastRuns.S28)} (h : Th w0 g r cap L w v l at_ ks) (x : ByteArray) (y : Int) (t : TypeId) : Th w0 g r cap L (w.alloc (.cells #[.string x, .int .u64 y] t)) v l at_ ((w.heap.size, ⟨x, y⟩) :: ks) := by
  have hB : Below w.heap.size w (w.alloc (.cells #[.string x, .int .u64 y] t)) := (Below.refl _ _).alloc (Nat.le_refl _) _
  have h2 := h.below hB
  refine ⟨h2.past, h2.low, h2.was, fun p hp => ?_, h.ge⟩
  rcases List.mem_cons.1 hp with rfl | hp
  · exact ⟨by have := h.past.lt; show w.heap.size ≠ g; omega, by simp [go_sem], by simp [go_sem]⟩
  · exact h2.xs p hp
/-- A row's cells. -/
theorem RowOf.cell {w : World} {r n cap : Nat} {L : List PPastRuns.S28} (h : RowOf w (.slice (some ⟨r, 0, none⟩) n cap) L) (j : Nat) (hj : j < L.length) : w.cell? ⟨r, j * 2, none⟩ = some (.string L[j].f0) ∧ w.cell? ⟨r, j * 2 + 1, none⟩ = some (.int .u64 L[j].f1) := by
  have e1 := h.cells (g := r) rfl (j * 2) _ (enc_get L j hj).1
  have e2 := h.cells (g := r) rfl (j * 2 + 1) _ (enc_get L j hj).2
  rw [add_plain] at e1 e2
  exact ⟨e1, e2⟩
def There.T19 : Bool × List (List Nat × List Nat) := (true, [([], []), ([0], [0]), ([1], [1]), ([2], [2]), ([3, 2], [2, 3]), ([2, 4], [2, 4]), ([5, 2], [5]), ([6], [6]), ([7, 6], [6, 7]), ([6, 8], [6, 8]), ([9, 6], [9]), ([10], [10]), ([10], [10]), ([10], [10]), ([13, 10], [10, 13]), ([14, 10], [10, 14]), ([10], [10]), ([15, 16, 10], [10, 15, 16]), ([12, 17, 10], [10, 12, 17]), ([18, 10], [10, 18]), ([11, 19, 10], [10, 11, 19]), ([10, 20], [10, 20]), ([21, 10], [21]), ([22], [22]), ([22], [22]), ([22], [22]), ([25, 22], [22, 25]), ([26, 22], [22, 26]), ([22], [22]), ([27, 28, 22], [22, 27, 28]), ([22], [22]), ([29, 30, 22], [22, 29, 30]), ([24, 31, 22], [22, 24, 31]), ([32, 22], [22, 32]), ([23, 33, 22], [22, 23, 33]), ([22, 34], [22, 34]), ([35, 22], [35]), ([36], [36]), ([36], [36]), ([36], [36]), ([39, 36], [36, 39]), ([40, 36], [36, 40]), ([38, 41, 36], [36, 38, 41]), ([42, 36], [36, 42]), ([37, 43, 36], [36, 37, 43]), ([36, 44], [36, 44]), ([45, 36], [45]), ([46], [46]), ([47, 46], [46, 47]), ([46, 48], [46, 48]), ([49, 46], [49]), ([50], [50]), ([51, 50], [50, 51]), ([50, 52], [50, 52]), ([53, 50], [53]), ([54], [54]), ([55, 54, 54], [54, 55]), ([54], [54]), ([56, 57, 56, 54], [54, 56, 57]), ([54, 58], [54, 58]), ([59, 58], [59]), ([60, 60], [60]), ([60, 61], [60, 61]), ([62, 61, 0, 1, 2, 3, 4, 5, 6, 7, 8, 9, 10, 11, 12, 13, 14, 15, 16, 17, 18, 19, 20, 21, 22, 23, 24, 25, 26, 27, 28, 29, 30, 31, 32, 33, 34, 35, 36, 37, 38, 39, 40, 41, 42, 43, 44, 45, 46, 47, 48, 49, 50, 51, 52, 53, 54, 55, 56, 57, 58, 59, 60, 61, 62], [62])])
def There.B19 : List Nat := [0, 1, 3, 7, 15, 31, 63, 127, 255, 511, 1023, 2047, 2047, 2047, 10239, 26623, 2047, 124927, 260095, 522239, 1048575, 2097151, 4194303, 8388607, 8388607, 8388607, 41943039, 109051903, 8388607, 511705087, 8388607, 2122317823, 4286578687, 8581545983, 17179869183, 34359738367, 68719476735, 137438953471, 137438953471, 137438953471, 687194767359, 1786706395135, 4260607557631, 8658654068735, 17592186044415, 35184372088831, 70368744177663, 140737488355327, 281474976710655, 562949953421311, 1125899906842623, 2251799813685247, 4503599627370495, 9007199254740991, 18014398509481983, 36028797018963967, 72057594037927935, 36028797018963967, 288230376151711743, 576460752303423487, 1152921504606846975, 2305843009213693951, 4611686018427387903, 9223372036854775807]
theorem There.tab19 : rtab .any (opsOf Try.f4 19) = There.T19 := by kernel_rfl
theorem There.bits19 : waitsOk There.T19.2 There.B19 = true := by kernel_rfl
theorem w64 {n : Int} (h : -9223372036854775808 ≤ n) (h' : n ≤ 9223372036854775807) : wrap64 n = n := by unfold wrap64; omega
theorem there_arith {i a b j1 j2 : Nat} (h1 : i - a = j1) (h2 : j1 + b = j2) (ha : (a : Int) ≤ (i : Int)) (hb : (b : Int) ≤ (a : Int)) (hk : (i : Int) ≤ 11) :
    wrap64 (i : Int) = (i : Int) ∧ wrap64 ((i : Int) - (a : Int)) = (j1 : Int) ∧ (i : Int) - (a : Int) = (j1 : Int) ∧ wrap64 ((j1 : Int) + (b : Int)) = (j2 : Int) ∧ (j1 : Int) + (b : Int) = (j2 : Int) ∧ (j1 : Int) < (i : Int) + 1 ∧ (j2 : Int) < (i : Int) + 1 ∧ (i : Int) < (i : Int) + 1 ∧ wrap64 (j1 : Int) = (j1 : Int) ∧ wrap64 (j2 : Int) = (j2 : Int) := by
  have e1 : (i : Int) - (a : Int) = (j1 : Int) := by omega
  have e2 : (j1 : Int) + (b : Int) = (j2 : Int) := by omega
  refine ⟨w64 (by omega) (by omega), by rw [e1]; exact w64 (by omega) (by omega), e1, by rw [e2]; exact w64 (by omega) (by omega), e2, by omega, by omega, by omega, w64 (by omega) (by omega), w64 (by omega) (by omega)⟩
set_option maxHeartbeats 2000000 in
set_option maxRecDepth 100000 in
theorem PastThere_any (k : Int) (first : ByteArray) (n m : Int) (w : World) : Calls Try.prog 4 #[.int .i64 k, .string first, .int .i64 n, .int .i64 m] w fun en w' => en = .returned (.bool true) ∧ Below w.heap.size w w' := by
  obtain ⟨kk', hwk, hk0, hk1⟩ := within k 0 11 (by omega) (by omega) (by omega)
  obtain ⟨kk, rfl⟩ := Int.eq_ofNat_of_zero_le hk0
  have HWK := Lib.hid hwk
  clear hwk hk0
  go_enter Try.func4, Try.ntmps4
  go_wp2_with fail
  refine (New_any first w).mono ?_
  rintro e w1 ⟨g, v1, rfl, h1, hg, hB1⟩
  have hp : ∀ w : World, (binOp .eql 22 (.pointer (some ⟨g, 0, none⟩)) (.pointer none)).run Try.prog w = .ok (.bool false) w := fun w => rfl
  have H1 := Lib.hid (And.intro h1 (And.intro hB1 hg))
  clear h1 hB1 hg
  go_wp2_with fail
  go_loopw [10] (fun t10 wr => ∃ (i : Nat) (v : Value), t10 = .int .i64 (i : Int) ∧ i ≤ kk ∧ Hid (PastAt wr g v (pl first i) (i : Int) ∧ Below w.heap.size w wr)) (fun t _ => match t with | .int _ i => (kk - i).toNat | _ => 0)
  case atStart => exact ⟨0, v1, rfl, by omega, H1.out.1, H1.out.2.1⟩
  case round =>
    obtain ⟨i, v, rfl, hi, HI⟩ := hrel
    go_wp2_with fail
    refine (PPastThere.porticobook_Within.calls k 0 11 _ wr HWK.out).mono ?_
    rintro e w2 ⟨rfl, ⟨q, rfl⟩⟩
    have HI2 : Hid (PastAt (wr.drewN q) g v (pl first i) (i : Int) ∧ Below w.heap.size w (wr.drewN q)) := Lib.hid ⟨HI.out.1.below (pw_below_drewN (Below.refl _ _) q), pw_below_drewN HI.out.2 q⟩
    clear HI
    generalize wr.drewN q = w3 at HI2 ⊢
    by_cases c1 : i < kk
    · have q1 : (i : Int) < (kk : Int) := by omega
      have hw1 : wrap64 (97 + (i : Int)) = 97 + (i : Int) := by unfold wrap64; omega
      have hw2 : wrap64 ((i : Int) + 1) = ((i + 1 : Nat) : Int) := by unfold wrap64; omega
      have hconv : (convert 37 9 (.slice (some ⟨w3.heap.size, 0, none⟩) 1 1)).run Try.prog (w3.alloc (.cells #[.int .u8 (97 + (i : Int))] 5)) = .ok (.string (lb i)) (w3.alloc (.cells #[.int .u8 (97 + (i : Int))] 5)) := by
        rw [one_byte w3 (97 + (i : Int))]
        unfold lb
        rw [show (97 + (i : Int)).toNat = 97 + i by omega]
      have hbw : Below w3.heap.size w3 (w3.alloc (.cells #[.int .u8 (97 + (i : Int))] 5)) := (Below.refl _ _).alloc (Nat.le_refl _) _
      have HI3 : Hid (PastAt (w3.alloc (.cells #[.int .u8 (97 + (i : Int))] 5)) g v (pl first i) (i : Int) ∧ Below w.heap.size w (w3.alloc (.cells #[.int .u8 (97 + (i : Int))] 5))) := Lib.hid ⟨HI2.out.1.below hbw, (Upd.of_below (g := g) hbw).below HI2.out.2 H1.out.2.2⟩
      clear HI2 hbw
      go_wp2_with fail
      refine (Push_yes g v (pl first i) i (lb i) _ HI3.out.1 (by rw [pl_length]; omega) (by omega) (by rw [pl_length]; omega)).mono ?_
      rintro e w4 ⟨rfl, v4, h4, hU4⟩
      have h5 : PastAt w4 g v4 (pl first (i + 1)) ((i + 1 : Nat) : Int) := by
        have := h4
        rw [List.take_of_length_le (by rw [pl_length]; exact Nat.le_refl _)] at this
        exact this
      have H5 := Lib.hid (And.intro h5 (hU4.below HI3.out.2 H1.out.2.2))
      clear h4 hU4 h5 HI3 hconv
      go_wp2_with fail
      go_roundw
      case rel => exact ⟨i + 1, v4, by first | rw [hw2] | rfl | simp, by omega, H5⟩
      case measure => first | (rw [hw2]; simp; omega) | (simp; omega)
    · have q1 : ¬ (i : Int) < (kk : Int) := by omega
      have hik : i = kk := by omega
      subst hik
      go_wp2_with fail
      refine (Entries_any g v (pl first i) (i : Int) w3 HI2.out.1 (by rw [pl_length]; omega)).mono ?_
      rintro e w4 ⟨v4, rfl, h4, hB4⟩
      obtain ⟨r, cap, hv4⟩ : ∃ r cap, v4 = .slice (some ⟨r, 0, none⟩) (i + 1) cap := by
        rcases h4.2 with ⟨_, h0⟩ | ⟨r, cap, cur, e, _⟩
        · rw [pl_length] at h0; omega
        · rw [pl_length] at e; exact ⟨r, cap, e⟩
      subst hv4
      have H4 := Lib.hid (And.intro (HI2.out.1.below hB4) (And.intro h4 ((Upd.of_below (g := g) hB4).below HI2.out.2 H1.out.2.2)))
      clear h4 hB4 HI2
      have z1 : (((i : Int) + 1) == 0) = false := beq_eq_false_iff_ne.2 (by omega)
      have hw3 : wrap64 ((i : Int) + 1) = (i : Int) + 1 := by unfold wrap64; omega
      have hw4 : wrap64 ((i : Int) + 1 - 1) = (i : Int) := by unfold wrap64; omega
      go_wp2_with fail
      refine (At_any g v (pl first i) (i : Int) w4 H4.out.1).mono ?_
      rintro e w5 ⟨rfl, rfl⟩
      go_wp2_with fail
      have hTh : Hid (Th w g r cap (pl first i) w5 v (pl first i) (i : Int) []) := Lib.hid ⟨H4.out.1, H4.out.2.2, by have := H4.out.2.1; rwa [show i + 1 = (pl first i).length from (pl_length first i).symm] at this, fun p hp => (by cases hp), H1.out.2.2⟩
      clear H4
      obtain ⟨a', hwa, ha0, ha1⟩ := within n 0 (i : Int) (by omega) (by omega) (by omega)
      obtain ⟨a, rfl⟩ := Int.eq_ofNat_of_zero_le ha0
      obtain ⟨b', hwb, hb0, hb1⟩ := within m 0 (a : Int) (by omega) (by omega) (by omega)
      obtain ⟨b, rfl⟩ := Int.eq_ofNat_of_zero_le hb0
      have HWA := Lib.hid (And.intro hwa hwb)
      clear hwa hwb ha0 hb0
      have hlenL : Hid ((pl first i).length = i + 1) := Lib.hid (pl_length first i)
      refine (PPastThere.porticobook_Within.calls n 0 (i : Int) _ w5 HWA.out.1).mono ?_
      rintro e w6 ⟨rfl, ⟨q1, rfl⟩⟩
      go_wp2_with fail
      refine (PPastThere.porticobook_Within.calls m 0 (a : Int) _ _ HWA.out.2).mono ?_
      rintro e w7 ⟨rfl, ⟨q2, rfl⟩⟩
      have hT1 : Hid (Th w g r cap (pl first i) ((w5.drewN q1).drewN q2) v (pl first i) (i : Int) []) := Lib.hid ((hTh.out.below (pw_below_drewN (Below.refl _ _) q1)).below (pw_below_drewN (Below.refl _ _) q2))
      clear hTh
      generalize (w5.drewN q1).drewN q2 = w7 at hT1 ⊢
      have hn1 : wrap64 (-(a : Int)) = -(a : Int) := by unfold wrap64; omega
      have hn2 : wrap64 ((a : Int) - (b : Int)) = (a : Int) - (b : Int) := by unfold wrap64; omega
      have l1 : i - a < (pl first i).length := by rw [pl_length]; omega
      have l2 : i - a + b < (pl first i).length := by rw [pl_length]; omega
      have l3 : i < (pl first i).length := by rw [pl_length]; omega
      have HL := Lib.hid (And.intro l1 (And.intro l2 l3))
      obtain ⟨E1, hE1⟩ : ∃ E, (pl first i)[i - a] = E := ⟨_, rfl⟩
      obtain ⟨E2, hE2⟩ : ∃ E, (pl first i)[i - a + b] = E := ⟨_, rfl⟩
      obtain ⟨E3, hE3⟩ : ∃ E, (pl first i)[i] = E := ⟨_, rfl⟩
      have g1 := fun w h => Go_yes g v (pl first i) i (i - a) (-(a : Int)) w h (by omega) (by rw [pl_length]; omega) (by omega) l1
      have g2 := fun w h => Go_yes g v (pl first i) (i - a) (i - a + b) (b : Int) w h (by omega) (by rw [pl_length]; omega) (by omega) l2
      have g3 := fun w h => Go_yes g v (pl first i) (i - a + b) i ((a : Int) - (b : Int)) w h (by omega) (by rw [pl_length]; omega) (by omega) l3
      have g4 := fun w h => Go_no g v (pl first i) (i : Int) (-9223372036854775808) w h (by omega) (by omega) (by rw [pl_length]; omega) (by omega)
      have g5 := fun w h => Go_no g v (pl first i) (i : Int) 9223372036854775807 w h (by omega) (by omega) (by rw [pl_length]; omega) (by rw [pl_length]; omega)
      rw [hE1] at g1
      rw [hE2] at g2
      rw [hE3] at g3
      have G1 := Lib.hid g1
      have G2 := Lib.hid g2
      have G3 := Lib.hid g3
      have G4 := Lib.hid g4
      have G5 := Lib.hid g5
      have p1 : (pl first i)[i - a]? = some E1 := by rw [List.getElem?_eq_getElem l1, hE1]
      have p2 : (pl first i)[i - a + b]? = some E2 := by rw [List.getElem?_eq_getElem l2, hE2]
      have p3 : (pl first i)[i]? = some E3 := by rw [List.getElem?_eq_getElem l3, hE3]
      have HE := Lib.hid (And.intro p1 (And.intro p2 p3))
      clear p1 p2 p3
      clear g1 g2 g3 g4 g5 hE1 hE2 hE3 l1 l2 l3
      generalize hLg : pl first i = L at *
      clear hLg
      go_wp2_with fail
      refine (G1.out w7 hT1.out.past).mono ?_
      rintro e w8 ⟨rfl, h8, hU8⟩
      have hT2 := Lib.hid ((hT1.out.upd hU8 h8).alloc E1.f0 E1.f1 28)
      clear hT1 h8 hU8
      go_wp2_with fail
      generalize w8.alloc (.cells #[.string E1.f0, .int .u64 E1.f1] 28) = w9 at hT2 ⊢
      generalize w8.heap.size = K1 at hT2 ⊢
      refine (G2.out w9 hT2.out.past).mono ?_
      rintro e w10 ⟨rfl, h10, hU10⟩
      have hT3 := Lib.hid ((hT2.out.upd hU10 h10).alloc E2.f0 E2.f1 28)
      clear hT2 h10 hU10
      go_wp2_with fail
      generalize w10.alloc (.cells #[.string E2.f0, .int .u64 E2.f1] 28) = w11 at hT3 ⊢
      generalize w10.heap.size = K2 at hT3 ⊢
      refine (G3.out w11 hT3.out.past).mono ?_
      rintro e w12 ⟨rfl, h12, hU12⟩
      have hT4 := Lib.hid ((hT3.out.upd hU12 h12).alloc E3.f0 E3.f1 28)
      clear hT3 h12 hU12
      go_wp2_with fail
      generalize w12.alloc (.cells #[.string E3.f0, .int .u64 E3.f1] 28) = w13 at hT4 ⊢
      generalize w12.heap.size = K3 at hT4 ⊢
      refine (G4.out w13 hT4.out.past).mono ?_
      rintro e w14 ⟨rfl, hB14⟩
      have hT5 := Lib.hid ((hT4.out.below hB14).alloc ⟨#[]⟩ 0 28)
      clear hT4 hB14
      go_wp2_with fail
      generalize w14.alloc (.cells #[.string ⟨#[]⟩, .int .u64 0] 28) = w15 at hT5 ⊢
      generalize w14.heap.size = K4 at hT5 ⊢
      refine (G5.out w15 hT5.out.past).mono ?_
      rintro e w16 ⟨rfl, hB16⟩
      have hT6 := Lib.hid ((hT5.out.below hB16).alloc ⟨#[]⟩ 0 28)
      clear hT5 hB16
      go_wp2_with fail
      generalize w16.alloc (.cells #[.string ⟨#[]⟩, .int .u64 0] 28) = w17 at hT6 ⊢
      generalize w16.heap.size = K5 at hT6 ⊢
      have hX := hT6.out.xs
      have x1 := hX (K1, ⟨E1.f0, E1.f1⟩) (by simp)
      have x2 := hX (K2, ⟨E2.f0, E2.f1⟩) (by simp)
      have x3 := hX (K3, ⟨E3.f0, E3.f1⟩) (by simp)
      have hgetc : ∀ (j : Nat) (E : PPastRuns.S28), L[j]? = some E → w17.cell? ⟨r, j * 2, none⟩ = some (.string E.f0) ∧ w17.cell? ⟨r, j * 2 + 1, none⟩ = some (.int .u64 E.f1) := fun j E hE => by
        obtain ⟨hj, he⟩ := List.getElem?_eq_some_iff.1 hE
        have := hT6.out.was.cell j hj
        rwa [he] at this
      obtain ⟨j1, hj1⟩ : ∃ j1, i - a = j1 := ⟨_, rfl⟩
      obtain ⟨j2, hj2⟩ : ∃ j2, j1 + b = j2 := ⟨_, rfl⟩
      have hE := HE.out
      rw [hj1, hj2] at hE
      have y1 := hgetc j1 E1 hE.1
      have y2 := hgetc j2 E2 hE.2.1
      have y3 := hgetc i E3 hE.2.2
      have S0 : w17.drew.cell? ⟨K1, 0, none⟩ = some (.string E1.f0) := x1.2.1
      have S1 : w17.drew.cell? ⟨K1, 1, none⟩ = some (.int .u64 E1.f1) := x1.2.2
      have S2 : w17.drew.cell? ⟨K2, 0, none⟩ = some (.string E2.f0) := x2.2.1
      have S3 : w17.drew.cell? ⟨K2, 1, none⟩ = some (.int .u64 E2.f1) := x2.2.2
      have S4 : w17.drew.cell? ⟨K3, 0, none⟩ = some (.string E3.f0) := x3.2.1
      have S5 : w17.drew.cell? ⟨K3, 1, none⟩ = some (.int .u64 E3.f1) := x3.2.2
      have S6 : w17.drew.cell? ⟨r, j1 * 2, none⟩ = some (.string E1.f0) := y1.1
      have S7 : w17.drew.cell? ⟨r, j1 * 2 + 1, none⟩ = some (.int .u64 E1.f1) := y1.2
      have S8 : w17.drew.cell? ⟨r, j2 * 2, none⟩ = some (.string E2.f0) := y2.1
      have S9 : w17.drew.cell? ⟨r, j2 * 2 + 1, none⟩ = some (.int .u64 E2.f1) := y2.2
      have S10 : w17.drew.cell? ⟨r, i * 2, none⟩ = some (.string E3.f0) := y3.1
      have S11 : w17.drew.cell? ⟨r, i * 2 + 1, none⟩ = some (.int .u64 E3.f1) := y3.2
      have HZ : Hid (PastAt w17.drew g v L (i : Int) ∧ RowOf w17.drew (.slice (some ⟨r, 0, none⟩) (i + 1) cap) L ∧ Below w.heap.size w w17.drew ∧ L.length ≤ 1000) := by
        have h := hT6.out.below (below_drew1 (Below.refl _ _))
        have hl := hlenL.out
        exact Lib.hid ⟨h.past, by have := h.was; rwa [hl] at this, h.low, by omega⟩
      obtain ⟨m0, m1, m2, m3, m4, n1, n2, n3, m5, m6⟩ := there_arith hj1 hj2 ha1 hb1 hk1
      clear x1 x2 x3 y1 y2 y3 hE hgetc hX hT6 hj1 hj2 HL HE hn1 hn2
      refine start_ (n := 64) (S := fun w' => w'.cell? ⟨K1, 0, none⟩ = some (.string E1.f0) ∧ w'.cell? ⟨K1, 1, none⟩ = some (.int .u64 E1.f1) ∧ w'.cell? ⟨K2, 0, none⟩ = some (.string E2.f0) ∧ w'.cell? ⟨K2, 1, none⟩ = some (.int .u64 E2.f1) ∧ w'.cell? ⟨K3, 0, none⟩ = some (.string E3.f0) ∧ w'.cell? ⟨K3, 1, none⟩ = some (.int .u64 E3.f1) ∧ w'.cell? ⟨r, j1 * 2, none⟩ = some (.string E1.f0) ∧ w'.cell? ⟨r, j1 * 2 + 1, none⟩ = some (.int .u64 E1.f1) ∧ w'.cell? ⟨r, j2 * 2, none⟩ = some (.string E2.f0) ∧ w'.cell? ⟨r, j2 * 2 + 1, none⟩ = some (.int .u64 E2.f1) ∧ w'.cell? ⟨r, i * 2, none⟩ = some (.string E3.f0) ∧ w'.cell? ⟨r, i * 2 + 1, none⟩ = some (.int .u64 E3.f1)) (ds := [56, 58, 61]) #[false, false, false, false, false, false, false, false, false, false, false, false, false, false, false, false, false, false, false, false, false, false, false, false, false, false, false, false, false, false, false, false, false, false, false, false, false, false, false, false, false, false, false, false, false, false, false, false, false, false, false, false, false, false, false, false, false, false, false, false, false, false, false, false] (by kernel_rfl) rfl rfl ⟨S0, S1, S2, S3, S4, S5, S6, S7, S8, S9, S10, S11⟩ (fun hHeld => ?_); refine with_tabW There.tab19 There.bits19 (fun HT_ HW_ => ?_)
      clear S0 S1 S2 S3 S4 S5 S6 S7 S8 S9 S10 S11
      generalize w17.drew = w18 at hHeld HZ ⊢
      refine pure_ (i := 0) (N := some 94) (v := ?_) (a' := ?_) #[true, false, false, false, false, false, false, false, false, false, false, false, false, false, false, false, false, false, false, false, false, false, false, false, false, false, false, false, false, false, false, false, false, false, false, false, false, false, false, false, false, false, false, false, false, false, false, false, false, false, false, false, false, false, false, false, false, false, false, false, false, false, false, false] rfl rfl (any_of HT_.out (by kernel_rfl)) (fun _ _ _ h => h) (Or.inl ⟨by rfl, ?_⟩) ?_ ?_
      rotate_left
      · intro w'
        go_simp
        with_reducible rfl
      rotate_left
      · simp only [Act.put, List.setIfInBounds_toArray, List.set_cons_zero, List.set_cons_succ, i64_w, i32_w]
        rfl
      refine pure_ (i := 1) (N := some 95) (v := ?_) (a' := ?_) #[true, true, false, false, false, false, false, false, false, false, false, false, false, false, false, false, false, false, false, false, false, false, false, false, false, false, false, false, false, false, false, false, false, false, false, false, false, false, false, false, false, false, false, false, false, false, false, false, false, false, false, false, false, false, false, false, false, false, false, false, false, false, false, false] rfl rfl (any_of HT_.out (by kernel_rfl)) (fun _ _ _ h => h) (Or.inl ⟨by rfl, ?_⟩) ?_ ?_
      rotate_left
      · intro w'
        go_simp
        with_reducible rfl
      rotate_left
      · simp only [Act.put, List.setIfInBounds_toArray, List.set_cons_zero, List.set_cons_succ, i64_w, i32_w]
        rfl
      refine pure_ (i := 2) (N := some 96) (v := ?_) (a' := ?_) #[true, true, true, false, false, false, false, false, false, false, false, false, false, false, false, false, false, false, false, false, false, false, false, false, false, false, false, false, false, false, false, false, false, false, false, false, false, false, false, false, false, false, false, false, false, false, false, false, false, false, false, false, false, false, false, false, false, false, false, false, false, false, false, false] rfl rfl (any_of HT_.out (by kernel_rfl)) (fun _ _ _ h => h) (Or.inl ⟨by rfl, ?_⟩) ?_ ?_
      rotate_left
      · intro w'
        go_simp
        with_reducible rfl
      rotate_left
      · simp only [Act.put, List.setIfInBounds_toArray, List.set_cons_zero, List.set_cons_succ, i64_w, i32_w]
        rfl
      refine pure_ (i := 3) (N := some 97) (v := ?_) (a' := ?_) #[true, true, true, true, false, false, false, false, false, false, false, false, false, false, false, false, false, false, false, false, false, false, false, false, false, false, false, false, false, false, false, false, false, false, false, false, false, false, false, false, false, false, false, false, false, false, false, false, false, false, false, false, false, false, false, false, false, false, false, false, false, false, false, false] rfl rfl (any_of HT_.out (by kernel_rfl)) (fun _ _ _ h => h) (Or.inl ⟨by rfl, ?_⟩) ?_ ?_
      rotate_left
      · intro w'
        go_simp
        with_reducible rfl
      rotate_left
      · simp only [Act.put, List.setIfInBounds_toArray, List.set_cons_zero, List.set_cons_succ, i64_w, i32_w]
        rfl
      refine pure_ (i := 4) (N := some 98) (v := ?_) (a' := ?_) #[true, true, true, true, true, false, false, false, false, false, false, false, false, false, false, false, false, false, false, false, false, false, false, false, false, false, false, false, false, false, false, false, false, false, false, false, false, false, false, false, false, false, false, false, false, false, false, false, false, false, false, false, false, false, false, false, false, false, false, false, false, false, false, false] rfl rfl (any_of HT_.out (by kernel_rfl)) (fun _ _ _ h => h) (Or.inl ⟨by rfl, ?_⟩) ?_ ?_
      rotate_left
      · intro w'
        go_simp
        with_reducible rfl
      rotate_left
      · simp only [Act.put, List.setIfInBounds_toArray, List.set_cons_zero, List.set_cons_succ, i64_w, i32_w]
        rfl
      refine pure_ (i := 5) (N := some 99) (v := ?_) (a' := ?_) #[true, true, true, true, true, true, false, false, false, false, false, false, false, false, false, false, false, false, false, false, false, false, false, false, false, false, false, false, false, false, false, false, false, false, false, false, false, false, false, false, false, false, false, false, false, false, false, false, false, false, false, false, false, false, false, false, false, false, false, false, false, false, false, false] rfl rfl (any_of HT_.out (by kernel_rfl)) (fun _ _ _ h => h) (Or.inl ⟨by rfl, ?_⟩) ?_ ?_
      rotate_left
      · intro w'
        go_simp
        with_reducible rfl
      rotate_left
      · simp only [Act.put, List.setIfInBounds_toArray, List.set_cons_zero, List.set_cons_succ, i64_w, i32_w]
        rfl
      refine pure_ (i := 6) (N := some 100) (v := ?_) (a' := ?_) #[true, true, true, true, true, true, true, false, false, false, false, false, false, false, false, false, false, false, false, false, false, false, false, false, false, false, false, false, false, false, false, false, false, false, false, false, false, false, false, false, false, false, false, false, false, false, false, false, false, false, false, false, false, false, false, false, false, false, false, false, false, false, false, false] rfl rfl (any_of HT_.out (by kernel_rfl)) (fun _ _ _ h => h) (Or.inl ⟨by rfl, ?_⟩) ?_ ?_
      rotate_left
      · intro w'
        go_simp
        with_reducible rfl
      rotate_left
      · simp only [Act.put, List.setIfInBounds_toArray, List.set_cons_zero, List.set_cons_succ, i64_w, i32_w]
        rfl
      refine pure_ (i := 7) (N := some 101) (v := ?_) (a' := ?_) #[true, true, true, true, true, true, true, true, false, false, false, false, false, false, false, false, false, false, false, false, false, false, false, false, false, false, false, false, false, false, false, false, false, false, false, false, false, false, false, false, false, false, false, false, false, false, false, false, false, false, false, false, false, false, false, false, false, false, false, false, false, false, false, false] rfl rfl (any_of HT_.out (by kernel_rfl)) (fun _ _ _ h => h) (Or.inl ⟨by rfl, ?_⟩) ?_ ?_
      rotate_left
      · intro w'
        go_simp
        with_reducible rfl
      rotate_left
      · simp only [Act.put, List.setIfInBounds_toArray, List.set_cons_zero, List.set_cons_succ, i64_w, i32_w]
        rfl
      refine pure_ (i := 8) (N := some 102) (v := ?_) (a' := ?_) #[true, true, true, true, true, true, true, true, true, false, false, false, false, false, false, false, false, false, false, false, false, false, false, false, false, false, false, false, false, false, false, false, false, false, false, false, false, false, false, false, false, false, false, false, false, false, false, false, false, false, false, false, false, false, false, false, false, false, false, false, false, false, false, false] rfl rfl (any_of HT_.out (by kernel_rfl)) (fun _ _ _ h => h) (Or.inl ⟨by rfl, ?_⟩) ?_ ?_
      rotate_left
      · intro w'
        go_simp
        with_reducible rfl
      rotate_left
      · simp only [Act.put, List.setIfInBounds_toArray, List.set_cons_zero, List.set_cons_succ, i64_w, i32_w]
        rfl
      refine pure_ (i := 9) (N := some 103) (v := ?_) (a' := ?_) #[true, true, true, true, true, true, true, true, true, true, false, false, false, false, false, false, false, false, false, false, false, false, false, false, false, false, false, false, false, false, false, false, false, false, false, false, false, false, false, false, false, false, false, false, false, false, false, false, false, false, false, false, false, false, false, false, false, false, false, false, false, false, false, false] rfl rfl (any_of HT_.out (by kernel_rfl)) (fun _ _ _ h => h) (Or.inl ⟨by rfl, ?_⟩) ?_ ?_
      rotate_left
      · intro w'
        go_simp
        with_reducible rfl
      rotate_left
      · simp only [Act.put, List.setIfInBounds_toArray, List.set_cons_zero, List.set_cons_succ, i64_w, i32_w]
        rfl
      refine pure_ (i := 10) (N := some 104) (v := ?_) (a' := ?_) #[true, true, true, true, true, true, true, true, true, true, true, false, false, false, false, false, false, false, false, false, false, false, false, false, false, false, false, false, false, false, false, false, false, false, false, false, false, false, false, false, false, false, false, false, false, false, false, false, false, false, false, false, false, false, false, false, false, false, false, false, false, false, false, false] rfl rfl (any_of HT_.out (by kernel_rfl)) (fun _ _ _ h => h) (Or.inl ⟨by rfl, ?_⟩) ?_ ?_
      rotate_left
      · intro w'
        go_simp
        with_reducible rfl
      rotate_left
      · simp only [Act.put, List.setIfInBounds_toArray, List.set_cons_zero, List.set_cons_succ, i64_w, i32_w]
        rfl
      refine pure_ (i := 12) (N := some 106) (v := ?_) (a' := ?_) #[true, true, true, true, true, true, true, true, true, true, true, false, true, false, false, false, false, false, false, false, false, false, false, false, false, false, false, false, false, false, false, false, false, false, false, false, false, false, false, false, false, false, false, false, false, false, false, false, false, false, false, false, false, false, false, false, false, false, false, false, false, false, false, false] rfl rfl (any_of HT_.out (by kernel_rfl)) (fun _ _ _ h => h) (Or.inl ⟨by rfl, ?_⟩) ?_ ?_
      rotate_left
      · intro w'
        go_simp
        with_reducible rfl
      rotate_left
      · simp only [Act.put, List.setIfInBounds_toArray, List.set_cons_zero, List.set_cons_succ, i64_w, i32_w]
        rfl
      refine pure_ (i := 13) (N := some 107) (v := ?_) (a' := ?_) #[true, true, true, true, true, true, true, true, true, true, true, false, true, true, false, false, false, false, false, false, false, false, false, false, false, false, false, false, false, false, false, false, false, false, false, false, false, false, false, false, false, false, false, false, false, false, false, false, false, false, false, false, false, false, false, false, false, false, false, false, false, false, false, false] rfl rfl (any_of HT_.out (by kernel_rfl)) (fun _ _ _ h => h) (Or.inl ⟨by rfl, ?_⟩) ?_ ?_
      rotate_left
      · intro w'
        go_simp
        with_reducible rfl
      rotate_left
      · simp only [Act.put, List.setIfInBounds_toArray, List.set_cons_zero, List.set_cons_succ, i64_w, i32_w]
        rfl
      refine pure_ (i := 14) (N := some 108) (v := ?_) (a' := ?_) #[true, true, true, true, true, true, true, true, true, true, true, false, true, true, true, false, false, false, false, false, false, false, false, false, false, false, false, false, false, false, false, false, false, false, false, false, false, false, false, false, false, false, false, false, false, false, false, false, false, false, false, false, false, false, false, false, false, false, false, false, false, false, false, false] rfl rfl (any_of HT_.out (by kernel_rfl)) (fun _ _ _ h => h) (Or.inl ⟨by rfl, ?_⟩) ?_ ?_
      rotate_left
      · intro w'
        go_simp
        with_reducible rfl
      rotate_left
      · simp only [Act.put, List.setIfInBounds_toArray, List.set_cons_zero, List.set_cons_succ, i64_w, i32_w]
        rfl
      refine pure_ (i := 15) (N := some 109) (v := ?_) (a' := ?_) #[true, true, true, true, true, true, true, true, true, true, true, false, true, true, true, true, false, false, false, false, false, false, false, false, false, false, false, false, false, false, false, false, false, false, false, false, false, false, false, false, false, false, false, false, false, false, false, false, false, false, false, false, false, false, false, false, false, false, false, false, false, false, false, false] rfl rfl (any_of HT_.out (by kernel_rfl)) (fun _ _ _ h => h) (Or.inl ⟨by rfl, ?_⟩) ?_ ?_
      rotate_left
      · intro w'
        go_simp
        with_reducible rfl
      rotate_left
      · simp only [Act.put, List.setIfInBounds_toArray, List.set_cons_zero, List.set_cons_succ, i64_w, i32_w]
        rfl
      refine pure_ (i := 16) (N := some 110) (v := ?_) (a' := ?_) #[true, true, true, true, true, true, true, true, true, true, true, false, true, true, true, true, true, false, false, false, false, false, false, false, false, false, false, false, false, false, false, false, false, false, false, false, false, false, false, false, false, false, false, false, false, false, false, false, false, false, false, false, false, false, false, false, false, false, false, false, false, false, false, false] rfl rfl (any_of HT_.out (by kernel_rfl)) (fun _ _ _ h => h) (Or.inl ⟨by rfl, ?_⟩) ?_ ?_
      rotate_left
      · intro w'
        go_simp
        with_reducible rfl
      rotate_left
      · simp only [Act.put, List.setIfInBounds_toArray, List.set_cons_zero, List.set_cons_succ, i64_w, i32_w]
        rfl
      refine pure_ (i := 17) (N := some 111) (v := ?_) (a' := ?_) #[true, true, true, true, true, true, true, true, true, true, true, false, true, true, true, true, true, true, false, false, false, false, false, false, false, false, false, false, false, false, false, false, false, false, false, false, false, false, false, false, false, false, false, false, false, false, false, false, false, false, false, false, false, false, false, false, false, false, false, false, false, false, false, false] rfl rfl (any_of HT_.out (by kernel_rfl)) (fun _ _ _ h => h) (Or.inl ⟨by rfl, ?_⟩) ?_ ?_
      rotate_left
      · intro w'
        go_simp
        with_reducible rfl
      rotate_left
      · simp only [Act.put, List.setIfInBounds_toArray, List.set_cons_zero, List.set_cons_succ, i64_w, i32_w]
        rfl
      refine pure_ (i := 18) (N := some 112) (v := ?_) (a' := ?_) #[true, true, true, true, true, true, true, true, true, true, true, false, true, true, true, true, true, true, true, false, false, false, false, false, false, false, false, false, false, false, false, false, false, false, false, false, false, false, false, false, false, false, false, false, false, false, false, false, false, false, false, false, false, false, false, false, false, false, false, false, false, false, false, false] rfl rfl (any_of HT_.out (by kernel_rfl)) (fun _ _ _ h => h) (Or.inl ⟨by rfl, ?_⟩) ?_ ?_
      rotate_left
      · intro w'
        go_simp
        with_reducible rfl
      rotate_left
      · simp only [Act.put, List.setIfInBounds_toArray, List.set_cons_zero, List.set_cons_succ, i64_w, i32_w]
        rfl
      refine take_ (i := 11) (N := some 105) (v := ?_) (a' := ?_) #[true, true, true, true, true, true, true, true, true, true, true, true, true, true, true, true, true, true, true, false, false, false, false, false, false, false, false, false, false, false, false, false, false, false, false, false, false, false, false, false, false, false, false, false, false, false, false, false, false, false, false, false, false, false, false, false, false, false, false, false, false, false, false, false] rfl rfl (take_ofW HT_.out HW_.out (by kernel_rfl)) (fun _ _ _ h => h) (Or.inl ⟨by rfl, ?_⟩) hHeld ?_ ?_
      rotate_left
      · rintro w' ⟨s0, s1, s2, s3, s4, s5, s6, s7, s8, s9, s10, s11⟩
        go_simp
        with_reducible rfl
      rotate_left
      · simp only [Act.put, List.setIfInBounds_toArray, List.set_cons_zero, List.set_cons_succ, i64_w, i32_w]
        rfl
      refine take_ (i := 19) (N := some 113) (v := ?_) (a' := ?_) #[true, true, true, true, true, true, true, true, true, true, true, true, true, true, true, true, true, true, true, true, false, false, false, false, false, false, false, false, false, false, false, false, false, false, false, false, false, false, false, false, false, false, false, false, false, false, false, false, false, false, false, false, false, false, false, false, false, false, false, false, false, false, false, false] rfl rfl (take_ofW HT_.out HW_.out (by kernel_rfl)) (fun _ _ _ h => h) (Or.inl ⟨by rfl, ?_⟩) hHeld ?_ ?_
      rotate_left
      · rintro w' ⟨s0, s1, s2, s3, s4, s5, s6, s7, s8, s9, s10, s11⟩
        go_simp
        with_reducible rfl
      rotate_left
      · simp only [Act.put, List.setIfInBounds_toArray, List.set_cons_zero, List.set_cons_succ, i64_w, i32_w]
        rfl
      refine pure_ (i := 20) (N := some 114) (v := ?_) (a' := ?_) #[true, true, true, true, true, true, true, true, true, true, true, true, true, true, true, true, true, true, true, true, true, false, false, false, false, false, false, false, false, false, false, false, false, false, false, false, false, false, false, false, false, false, false, false, false, false, false, false, false, false, false, false, false, false, false, false, false, false, false, false, false, false, false, false] rfl rfl (any_of HT_.out (by kernel_rfl)) (fun _ _ _ h => h) (Or.inl ⟨by rfl, ?_⟩) ?_ ?_
      rotate_left
      · intro w'
        go_simp
        with_reducible rfl
      rotate_left
      · simp only [Act.put, List.setIfInBounds_toArray, List.set_cons_zero, List.set_cons_succ, i64_w, i32_w]
        rfl
      refine pure_ (i := 21) (N := some 115) (v := ?_) (a' := ?_) #[true, true, true, true, true, true, true, true, true, true, true, true, true, true, true, true, true, true, true, true, true, true, false, false, false, false, false, false, false, false, false, false, false, false, false, false, false, false, false, false, false, false, false, false, false, false, false, false, false, false, false, false, false, false, false, false, false, false, false, false, false, false, false, false] rfl rfl (any_of HT_.out (by kernel_rfl)) (fun _ _ _ h => h) (Or.inl ⟨by rfl, ?_⟩) ?_ ?_
      rotate_left
      · intro w'
        go_simp
        with_reducible rfl
      rotate_left
      · simp only [Act.put, List.setIfInBounds_toArray, List.set_cons_zero, List.set_cons_succ, i64_w, i32_w]
        rfl
      refine pure_ (i := 22) (N := some 116) (v := ?_) (a' := ?_) #[true, true, true, true, true, true, true, true, true, true, true, true, true, true, true, true, true, true, true, true, true, true, true, false, false, false, false, false, false, false, false, false, false, false, false, false, false, false, false, false, false, false, false, false, false, false, false, false, false, false, false, false, false, false, false, false, false, false, false, false, false, false, false, false] rfl rfl (any_of HT_.out (by kernel_rfl)) (fun _ _ _ h => h) (Or.inl ⟨by rfl, ?_⟩) ?_ ?_
      rotate_left
      · intro w'
        go_simp
        with_reducible rfl
      rotate_left
      · simp only [Act.put, List.setIfInBounds_toArray, List.set_cons_zero, List.set_cons_succ, i64_w, i32_w]
        rfl
      refine pure_ (i := 24) (N := some 118) (v := ?_) (a' := ?_) #[true, true, true, true, true, true, true, true, true, true, true, true, true, true, true, true, true, true, true, true, true, true, true, false, true, false, false, false, false, false, false, false, false, false, false, false, false, false, false, false, false, false, false, false, false, false, false, false, false, false, false, false, false, false, false, false, false, false, false, false, false, false, false, false] rfl rfl (any_of HT_.out (by kernel_rfl)) (fun _ _ _ h => h) (Or.inl ⟨by rfl, ?_⟩) ?_ ?_
      rotate_left
      · intro w'
        go_simp
        with_reducible rfl
      rotate_left
      · simp only [Act.put, List.setIfInBounds_toArray, List.set_cons_zero, List.set_cons_succ, i64_w, i32_w]
        rfl
      refine pure_ (i := 25) (N := some 119) (v := ?_) (a' := ?_) #[true, true, true, true, true, true, true, true, true, true, true, true, true, true, true, true, true, true, true, true, true, true, true, false, true, true, false, false, false, false, false, false, false, false, false, false, false, false, false, false, false, false, false, false, false, false, false, false, false, false, false, false, false, false, false, false, false, false, false, false, false, false, false, false] rfl rfl (any_of HT_.out (by kernel_rfl)) (fun _ _ _ h => h) (Or.inl ⟨by rfl, ?_⟩) ?_ ?_
      rotate_left
      · intro w'
        go_simp
        with_reducible rfl
      rotate_left
      · simp only [Act.put, List.setIfInBounds_toArray, List.set_cons_zero, List.set_cons_succ, i64_w, i32_w]
        rfl
      refine pure_ (i := 26) (N := some 120) (v := ?_) (a' := ?_) #[true, true, true, true, true, true, true, true, true, true, true, true, true, true, true, true, true, true, true, true, true, true, true, false, true, true, true, false, false, false, false, false, false, false, false, false, false, false, false, false, false, false, false, false, false, false, false, false, false, false, false, false, false, false, false, false, false, false, false, false, false, false, false, false] rfl rfl (any_of HT_.out (by kernel_rfl)) (fun _ _ _ h => h) (Or.inl ⟨by rfl, ?_⟩) ?_ ?_
      rotate_left
      · intro w'
        go_simp
        with_reducible rfl
      rotate_left
      · simp only [Act.put, List.setIfInBounds_toArray, List.set_cons_zero, List.set_cons_succ, i64_w, i32_w]
        rfl
      refine pure_ (i := 27) (N := some 121) (v := ?_) (a' := ?_) #[true, true, true, true, true, true, true, true, true, true, true, true, true, true, true, true, true, true, true, true, true, true, true, false, true, true, true, true, false, false, false, false, false, false, false, false, false, false, false, false, false, false, false, false, false, false, false, false, false, false, false, false, false, false, false, false, false, false, false, false, false, false, false, false] rfl rfl (any_of HT_.out (by kernel_rfl)) (fun _ _ _ h => h) (Or.inl ⟨by rfl, ?_⟩) ?_ ?_
      rotate_left
      · intro w'
        go_simp
        with_reducible rfl
      rotate_left
      · simp only [Act.put, List.setIfInBounds_toArray, List.set_cons_zero, List.set_cons_succ, i64_w, i32_w]
        rfl
      refine pure_ (i := 28) (N := some 122) (v := ?_) (a' := ?_) #[true, true, true, true, true, true, true, true, true, true, true, true, true, true, true, true, true, true, true, true, true, true, true, false, true, true, true, true, true, false, false, false, false, false, false, false, false, false, false, false, false, false, false, false, false, false, false, false, false, false, false, false, false, false, false, false, false, false, false, false, false, false, false, false] rfl rfl (any_of HT_.out (by kernel_rfl)) (fun _ _ _ h => h) (Or.inl ⟨by rfl, ?_⟩) ?_ ?_
      rotate_left
      · intro w'
        go_simp
        with_reducible rfl
      rotate_left
      · simp only [Act.put, List.setIfInBounds_toArray, List.set_cons_zero, List.set_cons_succ, i64_w, i32_w]
        rfl
      refine pure_ (i := 29) (N := some 123) (v := ?_) (a' := ?_) #[true, true, true, true, true, true, true, true, true, true, true, true, true, true, true, true, true, true, true, true, true, true, true, false, true, true, true, true, true, true, false, false, false, false, false, false, false, false, false, false, false, false, false, false, false, false, false, false, false, false, false, false, false, false, false, false, false, false, false, false, false, false, false, false] rfl rfl (any_of HT_.out (by kernel_rfl)) (fun _ _ _ h => h) (Or.inl ⟨by rfl, ?_⟩) ?_ ?_
      rotate_left
      · intro w'
        go_simp
        with_reducible rfl
      rotate_left
      · simp only [Act.put, List.setIfInBounds_toArray, List.set_cons_zero, List.set_cons_succ, i64_w, i32_w]
        rfl
      refine pure_ (i := 30) (N := some 124) (v := ?_) (a' := ?_) #[true, true, true, true, true, true, true, true, true, true, true, true, true, true, true, true, true, true, true, true, true, true, true, false, true, true, true, true, true, true, true, false, false, false, false, false, false, false, false, false, false, false, false, false, false, false, false, false, false, false, false, false, false, false, false, false, false, false, false, false, false, false, false, false] rfl rfl (any_of HT_.out (by kernel_rfl)) (fun _ _ _ h => h) (Or.inl ⟨by rfl, ?_⟩) ?_ ?_
      rotate_left
      · intro w'
        go_simp
        with_reducible rfl
      rotate_left
      · simp only [Act.put, List.setIfInBounds_toArray, List.set_cons_zero, List.set_cons_succ, i64_w, i32_w]
        rfl
      refine pure_ (i := 31) (N := some 125) (v := ?_) (a' := ?_) #[true, true, true, true, true, true, true, true, true, true, true, true, true, true, true, true, true, true, true, true, true, true, true, false, true, true, true, true, true, true, true, true, false, false, false, false, false, false, false, false, false, false, false, false, false, false, false, false, false, false, false, false, false, false, false, false, false, false, false, false, false, false, false, false] rfl rfl (any_of HT_.out (by kernel_rfl)) (fun _ _ _ h => h) (Or.inl ⟨by rfl, ?_⟩) ?_ ?_
      rotate_left
      · intro w'
        go_simp
        with_reducible rfl
      rotate_left
      · simp only [Act.put, List.setIfInBounds_toArray, List.set_cons_zero, List.set_cons_succ, i64_w, i32_w]
        rfl
      refine pure_ (i := 32) (N := some 126) (v := ?_) (a' := ?_) #[true, true, true, true, true, true, true, true, true, true, true, true, true, true, true, true, true, true, true, true, true, true, true, false, true, true, true, true, true, true, true, true, true, false, false, false, false, false, false, false, false, false, false, false, false, false, false, false, false, false, false, false, false, false, false, false, false, false, false, false, false, false, false, false] rfl rfl (any_of HT_.out (by kernel_rfl)) (fun _ _ _ h => h) (Or.inl ⟨by rfl, ?_⟩) ?_ ?_
      rotate_left
      · intro w'
        go_simp
        with_reducible rfl
      rotate_left
      · simp only [Act.put, List.setIfInBounds_toArray, List.set_cons_zero, List.set_cons_succ, i64_w, i32_w]
        rfl
      refine take_ (i := 23) (N := some 117) (v := ?_) (a' := ?_) #[true, true, true, true, true, true, true, true, true, true, true, true, true, true, true, true, true, true, true, true, true, true, true, true, true, true, true, true, true, true, true, true, true, false, false, false, false, false, false, false, false, false, false, false, false, false, false, false, false, false, false, false, false, false, false, false, false, false, false, false, false, false, false, false] rfl rfl (take_ofW HT_.out HW_.out (by kernel_rfl)) (fun _ _ _ h => h) (Or.inl ⟨by rfl, ?_⟩) hHeld ?_ ?_
      rotate_left
      · rintro w' ⟨s0, s1, s2, s3, s4, s5, s6, s7, s8, s9, s10, s11⟩
        go_simp
        with_reducible rfl
      rotate_left
      · simp only [Act.put, List.setIfInBounds_toArray, List.set_cons_zero, List.set_cons_succ, i64_w, i32_w]
        rfl
      refine take_ (i := 33) (N := some 127) (v := ?_) (a' := ?_) #[true, true, true, true, true, true, true, true, true, true, true, true, true, true, true, true, true, true, true, true, true, true, true, true, true, true, true, true, true, true, true, true, true, true, false, false, false, false, false, false, false, false, false, false, false, false, false, false, false, false, false, false, false, false, false, false, false, false, false, false, false, false, false, false] rfl rfl (take_ofW HT_.out HW_.out (by kernel_rfl)) (fun _ _ _ h => h) (Or.inl ⟨by rfl, ?_⟩) hHeld ?_ ?_
      rotate_left
      · rintro w' ⟨s0, s1, s2, s3, s4, s5, s6, s7, s8, s9, s10, s11⟩
        go_simp
        with_reducible rfl
      rotate_left
      · simp only [Act.put, List.setIfInBounds_toArray, List.set_cons_zero, List.set_cons_succ, i64_w, i32_w]
        rfl
      refine pure_ (i := 34) (N := some 128) (v := ?_) (a' := ?_) #[true, true, true, true, true, true, true, true, true, true, true, true, true, true, true, true, true, true, true, true, true, true, true, true, true, true, true, true, true, true, true, true, true, true, true, false, false, false, false, false, false, false, false, false, false, false, false, false, false, false, false, false, false, false, false, false, false, false, false, false, false, false, false, false] rfl rfl (any_of HT_.out (by kernel_rfl)) (fun _ _ _ h => h) (Or.inl ⟨by rfl, ?_⟩) ?_ ?_
      rotate_left
      · intro w'
        go_simp
        with_reducible rfl
      rotate_left
      · simp only [Act.put, List.setIfInBounds_toArray, List.set_cons_zero, List.set_cons_succ, i64_w, i32_w]
        rfl
      refine pure_ (i := 35) (N := some 129) (v := ?_) (a' := ?_) #[true, true, true, true, true, true, true, true, true, true, true, true, true, true, true, true, true, true, true, true, true, true, true, true, true, true, true, true, true, true, true, true, true, true, true, true, false, false, false, false, false, false, false, false, false, false, false, false, false, false, false, false, false, false, false, false, false, false, false, false, false, false, false, false] rfl rfl (any_of HT_.out (by kernel_rfl)) (fun _ _ _ h => h) (Or.inl ⟨by rfl, ?_⟩) ?_ ?_
      rotate_left
      · intro w'
        go_simp
        with_reducible rfl
      rotate_left
      · simp only [Act.put, List.setIfInBounds_toArray, List.set_cons_zero, List.set_cons_succ, i64_w, i32_w]
        rfl
      refine pure_ (i := 36) (N := some 130) (v := ?_) (a' := ?_) #[true, true, true, true, true, true, true, true, true, true, true, true, true, true, true, true, true, true, true, true, true, true, true, true, true, true, true, true, true, true, true, true, true, true, true, true, true, false, false, false, false, false, false, false, false, false, false, false, false, false, false, false, false, false, false, false, false, false, false, false, false, false, false, false] rfl rfl (any_of HT_.out (by kernel_rfl)) (fun _ _ _ h => h) (Or.inl ⟨by rfl, ?_⟩) ?_ ?_
      rotate_left
      · intro w'
        go_simp
        with_reducible rfl
      rotate_left
      · simp only [Act.put, List.setIfInBounds_toArray, List.set_cons_zero, List.set_cons_succ, i64_w, i32_w]
        rfl
      refine pure_ (i := 38) (N := some 132) (v := ?_) (a' := ?_) #[true, true, true, true, true, true, true, true, true, true, true, true, true, true, true, true, true, true, true, true, true, true, true, true, true, true, true, true, true, true, true, true, true, true, true, true, true, false, true, false, false, false, false, false, false, false, false, false, false, false, false, false, false, false, false, false, false, false, false, false, false, false, false, false] rfl rfl (any_of HT_.out (by kernel_rfl)) (fun _ _ _ h => h) (Or.inl ⟨by rfl, ?_⟩) ?_ ?_
      rotate_left
      · intro w'
        go_simp
        with_reducible rfl
      rotate_left
      · simp only [Act.put, List.setIfInBounds_toArray, List.set_cons_zero, List.set_cons_succ, i64_w, i32_w]
        rfl
      refine pure_ (i := 39) (N := some 133) (v := ?_) (a' := ?_) #[true, true, true, true, true, true, true, true, true, true, true, true, true, true, true, true, true, true, true, true, true, true, true, true, true, true, true, true, true, true, true, true, true, true, true, true, true, false, true, true, false, false, false, false, false, false, false, false, false, false, false, false, false, false, false, false, false, false, false, false, false, false, false, false] rfl rfl (any_of HT_.out (by kernel_rfl)) (fun _ _ _ h => h) (Or.inl ⟨by rfl, ?_⟩) ?_ ?_
      rotate_left
      · intro w'
        go_simp
        with_reducible rfl
      rotate_left
      · simp only [Act.put, List.setIfInBounds_toArray, List.set_cons_zero, List.set_cons_succ, i64_w, i32_w]
        rfl
      refine pure_ (i := 40) (N := some 134) (v := ?_) (a' := ?_) #[true, true, true, true, true, true, true, true, true, true, true, true, true, true, true, true, true, true, true, true, true, true, true, true, true, true, true, true, true, true, true, true, true, true, true, true, true, false, true, true, true, false, false, false, false, false, false, false, false, false, false, false, false, false, false, false, false, false, false, false, false, false, false, false] rfl rfl (any_of HT_.out (by kernel_rfl)) (fun _ _ _ h => h) (Or.inl ⟨by rfl, ?_⟩) ?_ ?_
      rotate_left
      · intro w'
        go_simp
        with_reducible rfl
      rotate_left
      · simp only [Act.put, List.setIfInBounds_toArray, List.set_cons_zero, List.set_cons_succ, i64_w, i32_w]
        rfl
      refine pure_ (i := 41) (N := some 135) (v := ?_) (a' := ?_) #[true, true, true, true, true, true, true, true, true, true, true, true, true, true, true, true, true, true, true, true, true, true, true, true, true, true, true, true, true, true, true, true, true, true, true, true, true, false, true, true, true, true, false, false, false, false, false, false, false, false, false, false, false, false, false, false, false, false, false, false, false, false, false, false] rfl rfl (any_of HT_.out (by kernel_rfl)) (fun _ _ _ h => h) (Or.inl ⟨by rfl, ?_⟩) ?_ ?_
      rotate_left
      · intro w'
        go_simp
        with_reducible rfl
      rotate_left
      · simp only [Act.put, List.setIfInBounds_toArray, List.set_cons_zero, List.set_cons_succ, i64_w, i32_w]
        rfl
      refine pure_ (i := 42) (N := some 136) (v := ?_) (a' := ?_) #[true, true, true, true, true, true, true, true, true, true, true, true, true, true, true, true, true, true, true, true, true, true, true, true, true, true, true, true, true, true, true, true, true, true, true, true, true, false, true, true, true, true, true, false, false, false, false, false, false, false, false, false, false, false, false, false, false, false, false, false, false, false, false, false] rfl rfl (any_of HT_.out (by kernel_rfl)) (fun _ _ _ h => h) (Or.inl ⟨by rfl, ?_⟩) ?_ ?_
      rotate_left
      · intro w'
        go_simp
        with_reducible rfl
      rotate_left
      · simp only [Act.put, List.setIfInBounds_toArray, List.set_cons_zero, List.set_cons_succ, i64_w, i32_w]
        rfl
      refine take_ (i := 37) (N := some 131) (v := ?_) (a' := ?_) #[true, true, true, true, true, true, true, true, true, true, true, true, true, true, true, true, true, true, true, true, true, true, true, true, true, true, true, true, true, true, true, true, true, true, true, true, true, true, true, true, true, true, true, false, false, false, false, false, false, false, false, false, false, false, false, false, false, false, false, false, false, false, false, false] rfl rfl (take_ofW HT_.out HW_.out (by kernel_rfl)) (fun _ _ _ h => h) (Or.inl ⟨by rfl, ?_⟩) hHeld ?_ ?_
      rotate_left
      · rintro w' ⟨s0, s1, s2, s3, s4, s5, s6, s7, s8, s9, s10, s11⟩
        go_simp
        with_reducible rfl
      rotate_left
      · simp only [Act.put, List.setIfInBounds_toArray, List.set_cons_zero, List.set_cons_succ, i64_w, i32_w]
        rfl
      refine take_ (i := 43) (N := some 137) (v := ?_) (a' := ?_) #[true, true, true, true, true, true, true, true, true, true, true, true, true, true, true, true, true, true, true, true, true, true, true, true, true, true, true, true, true, true, true, true, true, true, true, true, true, true, true, true, true, true, true, true, false, false, false, false, false, false, false, false, false, false, false, false, false, false, false, false, false, false, false, false] rfl rfl (take_ofW HT_.out HW_.out (by kernel_rfl)) (fun _ _ _ h => h) (Or.inl ⟨by rfl, ?_⟩) hHeld ?_ ?_
      rotate_left
      · rintro w' ⟨s0, s1, s2, s3, s4, s5, s6, s7, s8, s9, s10, s11⟩
        go_simp
        with_reducible rfl
      rotate_left
      · simp only [Act.put, List.setIfInBounds_toArray, List.set_cons_zero, List.set_cons_succ, i64_w, i32_w]
        rfl
      refine pure_ (i := 44) (N := some 138) (v := ?_) (a' := ?_) #[true, true, true, true, true, true, true, true, true, true, true, true, true, true, true, true, true, true, true, true, true, true, true, true, true, true, true, true, true, true, true, true, true, true, true, true, true, true, true, true, true, true, true, true, true, false, false, false, false, false, false, false, false, false, false, false, false, false, false, false, false, false, false, false] rfl rfl (any_of HT_.out (by kernel_rfl)) (fun _ _ _ h => h) (Or.inl ⟨by rfl, ?_⟩) ?_ ?_
      rotate_left
      · intro w'
        go_simp
        with_reducible rfl
      rotate_left
      · simp only [Act.put, List.setIfInBounds_toArray, List.set_cons_zero, List.set_cons_succ, i64_w, i32_w]
        rfl
      refine pure_ (i := 45) (N := some 139) (v := ?_) (a' := ?_) #[true, true, true, true, true, true, true, true, true, true, true, true, true, true, true, true, true, true, true, true, true, true, true, true, true, true, true, true, true, true, true, true, true, true, true, true, true, true, true, true, true, true, true, true, true, true, false, false, false, false, false, false, false, false, false, false, false, false, false, false, false, false, false, false] rfl rfl (any_of HT_.out (by kernel_rfl)) (fun _ _ _ h => h) (Or.inl ⟨by rfl, ?_⟩) ?_ ?_
      rotate_left
      · intro w'
        go_simp
        with_reducible rfl
      rotate_left
      · simp only [Act.put, List.setIfInBounds_toArray, List.set_cons_zero, List.set_cons_succ, i64_w, i32_w]
        rfl
      refine pure_ (i := 46) (N := some 140) (v := ?_) (a' := ?_) #[true, true, true, true, true, true, true, true, true, true, true, true, true, true, true, true, true, true, true, true, true, true, true, true, true, true, true, true, true, true, true, true, true, true, true, true, true, true, true, true, true, true, true, true, true, true, true, false, false, false, false, false, false, false, false, false, false, false, false, false, false, false, false, false] rfl rfl (any_of HT_.out (by kernel_rfl)) (fun _ _ _ h => h) (Or.inl ⟨by rfl, ?_⟩) ?_ ?_
      rotate_left
      · intro w'
        go_simp
        with_reducible rfl
      rotate_left
      · simp only [Act.put, List.setIfInBounds_toArray, List.set_cons_zero, List.set_cons_succ, i64_w, i32_w]
        rfl
      refine pure_ (i := 47) (N := some 141) (v := ?_) (a' := ?_) #[true, true, true, true, true, true, true, true, true, true, true, true, true, true, true, true, true, true, true, true, true, true, true, true, true, true, true, true, true, true, true, true, true, true, true, true, true, true, true, true, true, true, true, true, true, true, true, true, false, false, false, false, false, false, false, false, false, false, false, false, false, false, false, false] rfl rfl (any_of HT_.out (by kernel_rfl)) (fun _ _ _ h => h) (Or.inl ⟨by rfl, ?_⟩) ?_ ?_
      rotate_left
      · intro w'
        go_simp
        with_reducible rfl
      rotate_left
      · simp only [Act.put, List.setIfInBounds_toArray, List.set_cons_zero, List.set_cons_succ, i64_w, i32_w]
        rfl
      refine pure_ (i := 48) (N := some 142) (v := ?_) (a' := ?_) #[true, true, true, true, true, true, true, true, true, true, true, true, true, true, true, true, true, true, true, true, true, true, true, true, true, true, true, true, true, true, true, true, true, true, true, true, true, true, true, true, true, true, true, true, true, true, true, true, true, false, false, false, false, false, false, false, false, false, false, false, false, false, false, false] rfl rfl (any_of HT_.out (by kernel_rfl)) (fun _ _ _ h => h) (Or.inl ⟨by rfl, ?_⟩) ?_ ?_
      rotate_left
      · intro w'
        go_simp
        with_reducible rfl
      rotate_left
      · simp only [Act.put, List.setIfInBounds_toArray, List.set_cons_zero, List.set_cons_succ, i64_w, i32_w]
        rfl
      refine pure_ (i := 49) (N := some 143) (v := ?_) (a' := ?_) #[true, true, true, true, true, true, true, true, true, true, true, true, true, true, true, true, true, true, true, true, true, true, true, true, true, true, true, true, true, true, true, true, true, true, true, true, true, true, true, true, true, true, true, true, true, true, true, true, true, true, false, false, false, false, false, false, false, false, false, false, false, false, false, false] rfl rfl (any_of HT_.out (by kernel_rfl)) (fun _ _ _ h => h) (Or.inl ⟨by rfl, ?_⟩) ?_ ?_
      rotate_left
      · intro w'
        go_simp
        with_reducible rfl
      rotate_left
      · simp only [Act.put, List.setIfInBounds_toArray, List.set_cons_zero, List.set_cons_succ, i64_w, i32_w]
        rfl
      refine pure_ (i := 50) (N := some 144) (v := ?_) (a' := ?_) #[true, true, true, true, true, true, true, true, true, true, true, true, true, true, true, true, true, true, true, true, true, true, true, true, true, true, true, true, true, true, true, true, true, true, true, true, true, true, true, true, true, true, true, true, true, true, true, true, true, true, true, false, false, false, false, false, false, false, false, false, false, false, false, false] rfl rfl (any_of HT_.out (by kernel_rfl)) (fun _ _ _ h => h) (Or.inl ⟨by rfl, ?_⟩) ?_ ?_
      rotate_left
      · intro w'
        go_simp
        with_reducible rfl
      rotate_left
      · simp only [Act.put, List.setIfInBounds_toArray, List.set_cons_zero, List.set_cons_succ, i64_w, i32_w]
        rfl
      refine pure_ (i := 51) (N := some 145) (v := ?_) (a' := ?_) #[true, true, true, true, true, true, true, true, true, true, true, true, true, true, true, true, true, true, true, true, true, true, true, true, true, true, true, true, true, true, true, true, true, true, true, true, true, true, true, true, true, true, true, true, true, true, true, true, true, true, true, true, false, false, false, false, false, false, false, false, false, false, false, false] rfl rfl (any_of HT_.out (by kernel_rfl)) (fun _ _ _ h => h) (Or.inl ⟨by rfl, ?_⟩) ?_ ?_
      rotate_left
      · intro w'
        go_simp
        with_reducible rfl
      rotate_left
      · simp only [Act.put, List.setIfInBounds_toArray, List.set_cons_zero, List.set_cons_succ, i64_w, i32_w]
        rfl
      refine pure_ (i := 52) (N := some 146) (v := ?_) (a' := ?_) #[true, true, true, true, true, true, true, true, true, true, true, true, true, true, true, true, true, true, true, true, true, true, true, true, true, true, true, true, true, true, true, true, true, true, true, true, true, true, true, true, true, true, true, true, true, true, true, true, true, true, true, true, true, false, false, false, false, false, false, false, false, false, false, false] rfl rfl (any_of HT_.out (by kernel_rfl)) (fun _ _ _ h => h) (Or.inl ⟨by rfl, ?_⟩) ?_ ?_
      rotate_left
      · intro w'
        go_simp
        with_reducible rfl
      rotate_left
      · simp only [Act.put, List.setIfInBounds_toArray, List.set_cons_zero, List.set_cons_succ, i64_w, i32_w]
        rfl
      refine pure_ (i := 53) (N := some 147) (v := ?_) (a' := ?_) #[true, true, true, true, true, true, true, true, true, true, true, true, true, true, true, true, true, true, true, true, true, true, true, true, true, true, true, true, true, true, true, true, true, true, true, true, true, true, true, true, true, true, true, true, true, true, true, true, true, true, true, true, true, true, false, false, false, false, false, false, false, false, false, false] rfl rfl (any_of HT_.out (by kernel_rfl)) (fun _ _ _ h => h) (Or.inl ⟨by rfl, ?_⟩) ?_ ?_
      rotate_left
      · intro w'
        go_simp
        with_reducible rfl
      rotate_left
      · simp only [Act.put, List.setIfInBounds_toArray, List.set_cons_zero, List.set_cons_succ, i64_w, i32_w]
        rfl
      refine pure_ (i := 54) (N := some 148) (v := ?_) (a' := ?_) #[true, true, true, true, true, true, true, true, true, true, true, true, true, true, true, true, true, true, true, true, true, true, true, true, true, true, true, true, true, true, true, true, true, true, true, true, true, true, true, true, true, true, true, true, true, true, true, true, true, true, true, true, true, true, true, false, false, false, false, false, false, false, false, false] rfl rfl (any_of HT_.out (by kernel_rfl)) (fun _ _ _ h => h) (Or.inl ⟨by rfl, ?_⟩) ?_ ?_
      rotate_left
      · intro w'
        go_simp
        with_reducible rfl
      rotate_left
      · simp only [Act.put, List.setIfInBounds_toArray, List.set_cons_zero, List.set_cons_succ, i64_w, i32_w]
        rfl
      refine pure_ (i := 55) (N := some 149) (v := ?_) (a' := ?_) #[true, true, true, true, true, true, true, true, true, true, true, true, true, true, true, true, true, true, true, true, true, true, true, true, true, true, true, true, true, true, true, true, true, true, true, true, true, true, true, true, true, true, true, true, true, true, true, true, true, true, true, true, true, true, true, true, false, false, false, false, false, false, false, false] rfl rfl (any_of HT_.out (by kernel_rfl)) (fun _ _ _ h => h) (Or.inl ⟨by rfl, ?_⟩) ?_ ?_
      rotate_left
      · intro w'
        go_simp
        with_reducible rfl
      rotate_left
      · simp only [Act.put, List.setIfInBounds_toArray, List.set_cons_zero, List.set_cons_succ, i64_w, i32_w]
        rfl
      refine pure_ (i := 57) (N := some 151) (v := ?_) (a' := ?_) #[true, true, true, true, true, true, true, true, true, true, true, true, true, true, true, true, true, true, true, true, true, true, true, true, true, true, true, true, true, true, true, true, true, true, true, true, true, true, true, true, true, true, true, true, true, true, true, true, true, true, true, true, true, true, true, true, false, true, false, false, false, false, false, false] rfl rfl (any_of HT_.out (by kernel_rfl)) (fun _ _ _ h => h) (Or.inl ⟨by rfl, ?_⟩) ?_ ?_
      rotate_left
      · intro w'
        go_simp
        with_reducible rfl
      rotate_left
      · simp only [Act.put, List.setIfInBounds_toArray, List.set_cons_zero, List.set_cons_succ, i64_w, i32_w]
        rfl
      refine last_ (i := 56) (N := some 150) #[true, true, true, true, true, true, true, true, true, true, true, true, true, true, true, true, true, true, true, true, true, true, true, true, true, true, true, true, true, true, true, true, true, true, true, true, true, true, true, true, true, true, true, true, true, true, true, true, true, true, true, true, true, true, true, true, true, true, false, false, false, false, false, false] rfl rfl (one_of HT_.out (by kernel_rfl)) (by decide) (fun K hK => ?_)
      refine goes_ Try.func12 (by kernel_rfl) rfl #[.pointer (some ⟨g, 0, none⟩)] (by rfl) rfl rfl (by simp only [List.map_toArray, List.map_cons, List.map_nil]; rfl) ?_
      with_reducible refine (Entries_any g v L (i : Int) _ HZ.out.1 HZ.out.2.2.2).mono ?_
      rintro en w3 ⟨v9, rfl, h9, hB9⟩
      refine ⟨_, rfl, ?_⟩
      refine hK.out _ _ ?_
      clear hK K
      refine norm_ (a' := ?_) ?_ ?_
      rotate_left
      · show Act.put _ (some 150) _ = _
        simp only [Act.put, List.setIfInBounds_toArray, List.set_cons_zero, List.set_cons_succ, i64_w, i32_w]
        rfl
      refine last_ (i := 58) (N := some 152) #[true, true, true, true, true, true, true, true, true, true, true, true, true, true, true, true, true, true, true, true, true, true, true, true, true, true, true, true, true, true, true, true, true, true, true, true, true, true, true, true, true, true, true, true, true, true, true, true, true, true, true, true, true, true, true, true, true, true, true, false, false, false, false, false] rfl rfl (one_of HT_.out (by kernel_rfl)) (by decide) (fun K hK => ?_)
      refine goes_ Try.func11 (by kernel_rfl) rfl #[v9, .slice (some ⟨r, 0, none⟩) (i + 1) cap] (by rfl) rfl rfl (by simp only [List.map_toArray, List.map_cons, List.map_nil]; rfl) ?_
      with_reducible refine (Same_rows L _ (same_self L (by have := HZ.out.2.2.2; omega)) _ _ _ h9 (HZ.out.2.1.below hB9)).mono ?_
      rintro en w5 ⟨rfl, q5, rfl⟩
      refine ⟨_, rfl, ?_⟩
      refine hK.out _ _ ?_
      clear hK K
      refine norm_ (a' := ?_) ?_ ?_
      rotate_left
      · show Act.put _ (some 152) _ = _
        simp only [Act.put, List.setIfInBounds_toArray, List.set_cons_zero, List.set_cons_succ, i64_w, i32_w]
        rfl
      refine pure_ (i := 59) (N := some 153) (v := ?_) (a' := ?_) #[true, true, true, true, true, true, true, true, true, true, true, true, true, true, true, true, true, true, true, true, true, true, true, true, true, true, true, true, true, true, true, true, true, true, true, true, true, true, true, true, true, true, true, true, true, true, true, true, true, true, true, true, true, true, true, true, true, true, true, true, false, false, false, false] rfl rfl (any_of HT_.out (by kernel_rfl)) (fun _ _ _ h => h) (Or.inl ⟨by rfl, ?_⟩) ?_ ?_
      rotate_left
      · intro w'
        go_simp
        with_reducible rfl
      rotate_left
      · simp only [Act.put, List.setIfInBounds_toArray, List.set_cons_zero, List.set_cons_succ, i64_w, i32_w]
        rfl
      refine pure_ (i := 60) (N := some 154) (v := ?_) (a' := ?_) #[true, true, true, true, true, true, true, true, true, true, true, true, true, true, true, true, true, true, true, true, true, true, true, true, true, true, true, true, true, true, true, true, true, true, true, true, true, true, true, true, true, true, true, true, true, true, true, true, true, true, true, true, true, true, true, true, true, true, true, true, true, false, false, false] rfl rfl (any_of HT_.out (by kernel_rfl)) (fun _ _ _ h => h) (Or.inl ⟨by rfl, ?_⟩) ?_ ?_
      rotate_left
      · intro w'
        go_simp
        with_reducible rfl
      rotate_left
      · simp only [Act.put, List.setIfInBounds_toArray, List.set_cons_zero, List.set_cons_succ, i64_w, i32_w]
        rfl
      refine last_ (i := 61) (N := some 155) #[true, true, true, true, true, true, true, true, true, true, true, true, true, true, true, true, true, true, true, true, true, true, true, true, true, true, true, true, true, true, true, true, true, true, true, true, true, true, true, true, true, true, true, true, true, true, true, true, true, true, true, true, true, true, true, true, true, true, true, true, true, true, false, false] rfl rfl (one_of HT_.out (by kernel_rfl)) (by decide) (fun K hK => ?_)
      refine goes_ Try.func3 (by kernel_rfl) rfl #[] (by rfl) rfl rfl (by simp) ?_
      with_reducible refine (PastRuns_any _).mono ?_
      rintro en w6 ⟨rfl, hB6⟩
      refine ⟨_, rfl, ?_⟩
      refine hK.out _ _ ?_
      clear hK K
      refine norm_ (a' := ?_) ?_ ?_
      rotate_left
      · show Act.put _ (some 155) _ = _
        simp only [Act.put, List.setIfInBounds_toArray, List.set_cons_zero, List.set_cons_succ, i64_w, i32_w]
        rfl
      refine pure_ (i := 62) (N := some 156) (v := ?_) (a' := ?_) #[true, true, true, true, true, true, true, true, true, true, true, true, true, true, true, true, true, true, true, true, true, true, true, true, true, true, true, true, true, true, true, true, true, true, true, true, true, true, true, true, true, true, true, true, true, true, true, true, true, true, true, true, true, true, true, true, true, true, true, true, true, true, true, false] rfl rfl (any_of HT_.out (by kernel_rfl)) (fun _ _ _ h => h) (Or.inl ⟨by rfl, ?_⟩) ?_ ?_
      rotate_left
      · intro w'
        go_simp
        with_reducible rfl
      rotate_left
      · simp only [Act.put, List.setIfInBounds_toArray, List.set_cons_zero, List.set_cons_succ, i64_w, i32_w]
        rfl
      refine pure_ (i := 63) (N := some 8) (v := ?_) (a' := ?_) #[true, true, true, true, true, true, true, true, true, true, true, true, true, true, true, true, true, true, true, true, true, true, true, true, true, true, true, true, true, true, true, true, true, true, true, true, true, true, true, true, true, true, true, true, true, true, true, true, true, true, true, true, true, true, true, true, true, true, true, true, true, true, true, true] rfl rfl (any_of HT_.out (by kernel_rfl)) (fun _ _ _ h => h) (Or.inl ⟨by rfl, ?_⟩) ?_ ?_
      rotate_left
      · intro w'
        go_simp
        with_reducible rfl
      rotate_left
      · simp only [Act.put, List.setIfInBounds_toArray, List.set_cons_zero, List.set_cons_succ, i64_w, i32_w]
        rfl
      refine done_ (done_of HT_.out (by kernel_rfl)) ?_
      have hf := pw_below_drewN (HZ.out.2.2.1.trans (hB9.mono HZ.out.2.2.1.size)) q5
      go_wp2_with fail
      go_ret
      exact ⟨rfl, hf.trans (hB6.mono hf.size)⟩
end Go.Proofs.Ytobeebcpkkdkhaa.Pa
