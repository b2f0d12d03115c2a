/- PastRuns: the walk. -/
import Derived.Test.YtobeebcpkkdkhaaPush
set_option linter.unusedVariables false
set_option linter.unusedSimpArgs false
namespace Go.Proofs.Ytobeebcpkkdkhaa.Pa
open Go.RowKit Go.Proofs.YtobeebcpkkdkhaaW.PrintWords Go.Proofs.YtobeebcpkkdkhaaW.PrintLast Go.Proofs.Ytobeebcpkkdkhaa.PPastRuns

theorem Upd.below {w0 w w' : World} {g : Nat} (h0 : Below w0.heap.size w0 w) (hg : w0.heap.size ≤ g) (h : Upd g w w') : Below w0.heap.size w0 w' :=
  ⟨h.os.trans h0.os, h.tape.trans h0.tape, h.output.trans h0.output, Nat.le_trans h0.size h.size, fun k hk => (h.block k (by have := h0.size; omega) (by omega)).trans (h0.block k hk)⟩
theorem Upd.cell {w w' : World} {g : Nat} (h : Upd g w w') {a : Addr} {v : Value} (hc : w.cell? a = some v) (hg : a.block ≠ g) : w'.cell? a = some v :=
  (World.cell?_of_block (h.block _ (lt_of_cell hc) hg)).trans hc
theorem PastAt.lt {w : World} {g : Nat} {v : Value} {l : List S28} {at_ : Int} (h : PastAt w g v l at_) : g < w.heap.size := lt_of_heap h.obj
theorem same_from (l : List S28) (hl : l.length ≤ 1000000) : ∀ (d i : Nat), i + d = l.length → ∀ k, d < k → past_Entry_11.l0 k l l (i : Int) = some true := by
  intro d
  induction d with
  | zero =>
    intro i hi k hk
    obtain ⟨k, rfl⟩ : ∃ m, k = m + 1 := ⟨k - 1, by omega⟩
    simp only [past_Entry_11.l0]
    rw [if_neg (by omega)]
  | succ d ih =>
    intro i hi k hk
    obtain ⟨k, rfl⟩ : ∃ m, k = m + 1 := ⟨k - 1, by omega⟩
    have hw : wrap64 ((i : Int) + 1) = ((i + 1 : Nat) : Int) := by unfold wrap64; omega
    simp only [past_Entry_11.l0]
    rw [if_pos (by omega), if_pos (by omega), if_pos (by omega), if_neg (by simp), hw]
    exact ih (i + 1) (by omega) k (by omega)
theorem same_self (l : List S28) (hl : l.length ≤ 1000000) : past_Entry_11.f (l.length + 1) l l = some true := by
  unfold past_Entry_11.f
  rw [if_pos rfl]
  exact same_from l hl l.length 0 (by omega) _ (by omega)
/-- Same of two rows that are one. -/
theorem Same_rows (l : List S28) (k : Nat) (hk : past_Entry_11.f k l l = some true) (v1 v2 : Value) (w : World) (h1 : RowOf w v1 l) (h2 : RowOf w v2 l) : Calls Try.prog 11 #[v1, v2] w fun en w' => en = .returned (.bool true) ∧ ∃ q, w' = w.drewN q := by
  obtain ⟨A1, c1, rfl, hc1, hC1⟩ := h1.reads
  obtain ⟨A2, c2, rfl, hc2, hC2⟩ := h2.reads
  refine (past_Entry_11.calls k A1 c1 l A2 c2 l true w hC1 hc1 hC2 hc2 hk).mono ?_
  rintro e w' ⟨rfl, ⟨q, rfl⟩⟩
  exact ⟨rfl, q, rfl⟩
abbrev eA : S28 := ⟨⟨#[97]⟩, 0⟩
abbrev eB : S28 := ⟨⟨#[98]⟩, 0⟩
abbrev eC : S28 := ⟨⟨#[99]⟩, 0⟩
abbrev eD : S28 := ⟨⟨#[100]⟩, 0⟩
set_option maxHeartbeats 1000000 in
set_option maxRecDepth 100000 in
theorem PastRuns_any (w : World) : Calls Try.prog 3 #[] w fun en w' => en = .returned (.bool true) ∧ Below w.heap.size w w' := by
  go_enter Try.func3, Try.ntmps3
  go_wp2_with fail
  refine (New_any ⟨#[97]⟩ w).mono ?_
  rintro e w1 ⟨g, v1, rfl, h1, hg, hB1⟩
  have hp : ∀ w : World, (binOp .eql 22 (.pointer (some ⟨g, 0, none⟩)) (.pointer none)).run Try.prog w = .ok (.bool false) w := fun w => rfl
  have H1 := Lib.hid h1
  have HB1 := Lib.hid (And.intro hB1 hg)
  clear h1 hB1
  go_wp2_with fail
  refine (Push_yes g v1 [eA] 0 ⟨#[98]⟩ w1 H1.out (by decide) (by decide) (by decide)).mono ?_
  rintro e w2 ⟨rfl, v2, h2, hU2⟩
  have H2 : Hid (PastAt w2 g v2 [eA, eB] ((1 : Nat) : Int)) := Lib.hid h2
  have HB2 := Lib.hid (hU2.below HB1.out.1 HB1.out.2)
  clear h2 hU2
  go_wp2_with fail
  refine (Push_yes g v2 [eA, eB] 1 ⟨#[99]⟩ w2 H2.out (by decide) (by decide) (by decide)).mono ?_
  rintro e w3 ⟨rfl, v3, h3, hU3⟩
  have H3 : Hid (PastAt w3 g v3 [eA, eB, eC] ((2 : Nat) : Int)) := Lib.hid h3
  have HB3 := Lib.hid (hU3.below HB2.out HB1.out.2)
  clear h3 hU3
  go_wp2_with fail
  refine (Go_yes g v3 [eA, eB, eC] 2 0 (-2) w3 H3.out (by decide) (by decide) (by decide) (by decide)).mono ?_
  rintro e w4 ⟨rfl, h4, hU4⟩
  have hb4 : Below w4.heap.size w4 (w4.alloc (.cells #[.string ⟨#[97]⟩, .int .u64 0] 28)) := (Below.refl _ _).alloc (Nat.le_refl _) _
  have H4 : Hid (PastAt (w4.alloc (.cells #[.string ⟨#[97]⟩, .int .u64 0] 28)) g v3 [eA, eB, eC] ((0 : Nat) : Int)) := Lib.hid (h4.below hb4)
  have HB4 := Lib.hid ((Upd.of_below (g := g) hb4).below (hU4.below HB3.out HB1.out.2) HB1.out.2)
  have x0 : (w4.alloc (.cells #[.string ⟨#[97]⟩, .int .u64 0] 28)).cell? ⟨w4.heap.size, 0, none⟩ = some (.string ⟨#[97]⟩) := by simp [go_sem]
  have x1 : (w4.alloc (.cells #[.string ⟨#[97]⟩, .int .u64 0] 28)).cell? ⟨w4.heap.size, 1, none⟩ = some (.int .u64 0) := by simp [go_sem]
  have HX := Lib.hid (And.intro x0 (And.intro x1 h4.lt))
  clear h4 hU4 hb4 x0 x1
  go_wp2_with fail
  generalize w4.alloc (.cells #[.string ⟨#[97]⟩, .int .u64 0] 28) = w5 at H4 HB4 HX ⊢
  generalize w4.heap.size = K at HX ⊢
  refine (Push_yes g v3 [eA, eB, eC] 0 ⟨#[100]⟩ w5 H4.out (by decide) (by decide) (by decide)).mono ?_
  rintro e w6 ⟨rfl, v6, h6, hU6⟩
  have H6 : Hid (PastAt w6 g v6 [eA, eD] ((1 : Nat) : Int)) := Lib.hid h6
  have HB6 := Lib.hid (hU6.below HB4.out HB1.out.2)
  have HX6 := Lib.hid (And.intro (hU6.cell HX.out.1 (by have := HX.out.2.2; show K ≠ g; omega)) (And.intro (hU6.cell HX.out.2.1 (by have := HX.out.2.2; show K ≠ g; omega)) HX.out.2.2))
  clear h6 hU6 HX
  go_wp2_with fail
  refine (Go_no g v6 [eA, eD] ((1 : Nat) : Int) 1 w6 H6.out (by decide) (by decide) (by decide) (by decide)).mono ?_
  rintro e w7 ⟨rfl, hB7⟩
  have hb7 : Below w6.heap.size w6 (w7.alloc (.cells #[.string ⟨#[]⟩, .int .u64 0] 28)) := hB7.alloc hB7.size _
  have H7 : Hid (PastAt (w7.alloc (.cells #[.string ⟨#[]⟩, .int .u64 0] 28)) g v6 [eA, eD] ((1 : Nat) : Int)) := Lib.hid (H6.out.below hb7)
  have HB7 := Lib.hid ((Upd.of_below (g := g) hb7).below HB6.out HB1.out.2)
  have x0 := (hb7.cell (lt_of_cell HX6.out.1)).trans HX6.out.1
  have x1 := (hb7.cell (lt_of_cell HX6.out.2.1)).trans HX6.out.2.1
  clear hB7 hb7 HX6
  go_wp2_with fail
  generalize w7.alloc (.cells #[.string ⟨#[]⟩, .int .u64 0] 28) = w8 at H7 HB7 x0 x1 ⊢
  refine (Entries_any g v6 [eA, eD] _ w8 H7.out (by decide)).mono ?_
  rintro e w9 ⟨v9, rfl, h9, hB9⟩
  have H9 := Lib.hid (And.intro (H7.out.below hB9) (And.intro h9 ((Upd.of_below (g := g) hB9).below HB7.out HB1.out.2)))
  clear h9 hB9 x0 x1
  go_wp2_with fail
  have hb10 : Below w9.heap.size w9 (w9.alloc (.cells #[.string ⟨#[97]⟩, .int .u64 0, .string ⟨#[100]⟩, .int .u64 0] 28)) := (Below.refl _ _).alloc (Nat.le_refl _) _
  have hlit : RowOf (w9.alloc (.cells #[.string ⟨#[97]⟩, .int .u64 0, .string ⟨#[100]⟩, .int .u64 0] 28)) (.slice (some ⟨w9.heap.size, 0, none⟩) 2 2) [eA, eD] :=
    World.ownsRow_lit (base := 0) (e := 28) (size := 2) w9 #[.string ⟨#[97]⟩, .int .u64 0, .string ⟨#[100]⟩, .int .u64 0] 2 (Nat.zero_le _) (by decide) (by rfl)
  have H10 := Lib.hid (And.intro (H9.out.1.below hb10) ((Upd.of_below (g := g) hb10).below H9.out.2.2 HB1.out.2))
  refine (Same_rows [eA, eD] 3 (same_self [eA, eD] (by decide)) _ _ _ (H9.out.2.1.below hb10) hlit).mono ?_
  rintro e w11 ⟨rfl, q, rfl⟩
  have H11 : Hid (PastAt ((w9.alloc (.cells #[.string ⟨#[97]⟩, .int .u64 0, .string ⟨#[100]⟩, .int .u64 0] 28)).drewN q) g v6 [eA, eD] ((1 : Nat) : Int)) := Lib.hid (H10.out.1.below (pw_below_drewN (Below.refl _ _) q))
  have HB11 := Lib.hid (pw_below_drewN H10.out.2 q)
  clear H10 H9 hlit hb10
  generalize (w9.alloc (.cells #[.string ⟨#[97]⟩, .int .u64 0, .string ⟨#[100]⟩, .int .u64 0] 28)).drewN q = w12 at H11 HB11 ⊢
  go_wp2_with fail
  refine (At_any g v6 [eA, eD] _ w12 H11.out).mono ?_
  rintro e w13 ⟨rfl, rfl⟩
  go_wp2_with fail
  go_ret
  exact ⟨rfl, HB11.out⟩
end Go.Proofs.Ytobeebcpkkdkhaa.Pa
