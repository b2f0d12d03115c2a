/- LruRuns: the walk. -/
import Derived.Test.YtffaiijeagghdaaCopy
set_option linter.unusedVariables false
set_option linter.unusedSimpArgs false
namespace Go.Proofs.Ytffaiijeagghdaa.Lr
open Go.RowKit Go.Proofs.YtffaiijeagghdaaW.PrintWords Go.Proofs.YtffaiijeagghdaaW.PrintLast Go.Proofs.Ytffaiijeagghdaa.Sl Go.Proofs.Ytffaiijeagghdaa.PLruPlays

/-- A cache of a law's own. -/
structure LS (w0 w : World) (g : Nat) (room : Int) (v : Value) (L : List H) : Prop where
  cache : CacheAt w g room v L
  low : Below w0.heap.size w0 w
  ge : w0.heap.size ≤ g
  vge : ∀ k, v.ownBlock = some k → w0.heap.size ≤ k
variable {w0 w w' : World} {g : Nat} {room : Int} {v v' : Value} {L L' : List H}
theorem LS.below (h : LS w0 w g room v L) (hB : Below w.heap.size w w') : LS w0 w' g room v L := ⟨h.cache.below hB, h.low.trans (hB.mono h.low.size), h.ge, h.vge⟩
theorem LS.upd (h : LS w0 w g room v L) (hc : CacheAt w' g room v' L') (hU : Upd g v w w') (hn : New w v v') : LS w0 w' g room v' L' := ⟨hc, hU.below h.low h.ge h.vge, h.ge, hn.vge h.low.size h.vge⟩
theorem LS.alloc (h : LS w0 w g room v L) (o : Obj) : LS w0 (w.alloc o) g room v L := h.below ((Below.refl _ _).alloc (Nat.le_refl _) o)
theorem LS.drewN (h : LS w0 w g room v L) (q : Nat) : LS w0 (w.drewN q) g room v L := h.below (pw_below_drewN (Below.refl _ _) q)
theorem LS.new (h : CacheAt w g room v L) (hg : w0.heap.size ≤ g) (hB : Below w0.heap.size w0 w) (hv : ∀ k, v.ownBlock = some k → w0.heap.size ≤ k) : LS w0 w g room v L := ⟨h, hB, hg, hv⟩
theorem IRow.upd {vo : Value} {l : List Int} (h : IRow w vo l) (hc : CacheAt w g room v L) (hU : Upd g v w w') : IRow w' vo l :=
  Sl.move h fun k hk => hU.block k (h.lt k hk).1 (fun e => irow_ne_cache h hc (by rw [hk, e])) (irow_ne h hc.row k hk)
theorem irow_lit (w : World) (a : Int) : IRow (w.alloc (.cells #[.int .i64 a] 3)) (.slice (some ⟨w.heap.size, 0, none⟩) 1 1) [a] :=
  Sl.of_own (World.ownsRow_lit (base := 0) (e := 3) (size := 1) w #[.int .i64 a] 1 (Nat.zero_le _) (by decide) (by rfl))
theorem srow_lit (w : World) (a : ByteArray) : SRow (w.alloc (.cells #[.string a] 9)) (.slice (some ⟨w.heap.size, 0, none⟩) 1 1) [a] :=
  Sl.of_own (World.ownsRow_lit (base := 0) (e := 9) (size := 1) w #[.string a] 1 (Nat.zero_le _) (by decide) (by rfl))
theorem same_int_from (l : List Int) (hl : l.length ≤ 1000000) : ∀ (d i : Nat), i + d = l.length → ∀ k, d < k → porticobook_Same_int.l0 k l l (i : Int) = some true := by
  intro d
  induction d with
  | zero =>
    intro i hi k hk
    obtain ⟨k, rfl⟩ : ∃ k', k = k' + 1 := ⟨k - 1, by omega⟩
    unfold porticobook_Same_int.l0
    have : ¬ (i : Int) < (l.length : Int) := by omega
    simp [this]
  | succ d ih =>
    intro i hi k hk
    obtain ⟨k, rfl⟩ : ∃ k', k = k' + 1 := ⟨k - 1, by omega⟩
    unfold porticobook_Same_int.l0
    have h1 : (i : Int) < (l.length : Int) := by omega
    have hw : wrap64 ((i : Int) + 1) = (i : Int) + 1 := by unfold wrap64; omega
    have h3 : porticobook_Same_int.l0 k l l ((i : Int) + 1) = some true := by
      have := ih (i + 1) (by omega) k (by omega)
      simpa using this
    simp [h1, hw, h3]
theorem same_int_self (l : List Int) (hl : l.length ≤ 1000000) : porticobook_Same_int.f (l.length + 1) l l = some true := by
  unfold porticobook_Same_int.f
  rw [if_pos rfl]
  exact same_int_from l hl l.length 0 (by omega) _ (by omega)
theorem same_str_from (l : List ByteArray) (hl : l.length ≤ 1000000) : ∀ (d i : Nat), i + d = l.length → ∀ k, d < k → porticobook_Same_string.l0 k l l (i : Int) = some true := by
  intro d
  induction d with
  | zero =>
    intro i hi k hk
    obtain ⟨k, rfl⟩ : ∃ k', k = k' + 1 := ⟨k - 1, by omega⟩
    unfold porticobook_Same_string.l0
    have : ¬ (i : Int) < (l.length : Int) := by omega
    simp [this]
  | succ d ih =>
    intro i hi k hk
    obtain ⟨k, rfl⟩ : ∃ k', k = k' + 1 := ⟨k - 1, by omega⟩
    unfold porticobook_Same_string.l0
    have h1 : (i : Int) < (l.length : Int) := by omega
    have hw : wrap64 ((i : Int) + 1) = (i : Int) + 1 := by unfold wrap64; omega
    have h3 : porticobook_Same_string.l0 k l l ((i : Int) + 1) = some true := by
      have := ih (i + 1) (by omega) k (by omega)
      simpa using this
    simp [h1, hw, h3]
theorem same_str_self (l : List ByteArray) (hl : l.length ≤ 1000000) : porticobook_Same_string.f (l.length + 1) l l = some true := by
  unfold porticobook_Same_string.f
  rw [if_pos rfl]
  exact same_str_from l hl l.length 0 (by omega) _ (by omega)
theorem Same_ints (A1 A2 : Option Addr) (c1 c2 n1 n2 : Nat) (l : List Int) (w : World) (h1 : IRow w (.slice A1 n1 c1) l) (h2 : IRow w (.slice A2 n2 c2) l) (hn1 : n1 = l.length) (hn2 : n2 = l.length) (hl : l.length ≤ 1000000) : Calls Try.prog 10 #[.slice A1 n1 c1, .slice A2 n2 c2] w fun en w' => en = .returned (.bool true) ∧ ∃ q, w' = w.drewN q := by
  subst hn1 hn2
  obtain ⟨_, _, e1, k1⟩ := h1.form
  obtain ⟨_, _, e2, k2⟩ := h2.form
  cases e1
  cases e2
  exact (porticobook_Same_int.calls (l.length + 1) A1 c1 l A2 c2 l true w (C_of_irow h1 rfl) k1 (C_of_irow h2 rfl) k2 (same_int_self l hl)).mono fun _ _ h => ⟨h.1, h.2.out⟩
theorem Same_strs (A1 A2 : Option Addr) (c1 c2 n1 n2 : Nat) (l : List ByteArray) (w : World) (h1 : SRow w (.slice A1 n1 c1) l) (h2 : SRow w (.slice A2 n2 c2) l) (hn1 : n1 = l.length) (hn2 : n2 = l.length) (hl : l.length ≤ 1000000) : Calls Try.prog 11 #[.slice A1 n1 c1, .slice A2 n2 c2] w fun en w' => en = .returned (.bool true) ∧ ∃ q, w' = w.drewN q := by
  subst hn1 hn2
  obtain ⟨_, _, e1, k1⟩ := h1.form
  obtain ⟨_, _, e2, k2⟩ := h2.form
  cases e1
  cases e2
  exact (porticobook_Same_string.calls (l.length + 1) A1 c1 l A2 c2 l true w (C_of_srow h1 rfl) k1 (C_of_srow h2 rfl) k2 (same_str_self l hl)).mono fun _ _ h => ⟨h.1, h.2.out⟩
abbrev sA : ByteArray := ⟨#[97]⟩
abbrev sB : ByteArray := ⟨#[98]⟩
abbrev sC : ByteArray := ⟨#[99]⟩
set_option maxHeartbeats 2000000 in
set_option maxRecDepth 100000 in
theorem LruRuns_any (w : World) : Calls Try.prog 3 #[] w fun en w' => en = .returned (.bool true) ∧ Below w.heap.size w w' := by
  have hp : ∀ (g : Nat) (w : World), (binOp .eql 22 (.pointer (some ⟨g, 0, none⟩)) (.pointer none)).run Try.prog w = .ok (.bool false) w := fun g w => rfl
  have E1 : Hid (putO 2 [] sA 1 = [] ∧ putL 2 [] sA 1 = [(sA, 1)]) := Lib.hid ⟨by kernel_rfl, by kernel_rfl⟩
  have E2 : Hid (putO 2 [(sA, 1)] sB 2 = [] ∧ putL 2 [(sA, 1)] sB 2 = [(sA, 1), (sB, 2)]) := Lib.hid ⟨by kernel_rfl, by kernel_rfl⟩
  have E3 : Hid (putO 2 [(sA, 1), (sB, 2)] sC 3 = [1] ∧ putL 2 [(sA, 1), (sB, 2)] sC 3 = [(sB, 2), (sC, 3)]) := Lib.hid ⟨by kernel_rfl, by kernel_rfl⟩
  have E4 : Hid (idx [(sB, 2), (sC, 3)] sB = ((0 : Nat) : Int)) := Lib.hid (by kernel_rfl)
  go_enter Try.func3, Try.ntmps3
  go_wp2_with fail
  refine (New_any 2 w).mono ?_
  rintro e w1 ⟨g, rfl, h1, hg, hB1⟩
  have H1 : Hid (LS w w1 g 2 (.slice none 0 0) []) := Lib.hid ⟨h1, hB1, hg, fun k hk => by cases hk⟩
  clear h1 hg hB1
  go_wp2_with fail
  have P1 := Put_any g 2 (.slice none 0 0) [] sA 1 w1 H1.out.cache (by simp) (by omega)
  rw [show ((2 : Nat) : Int) = 2 from rfl, E1.out.1, E1.out.2] at P1
  refine P1.mono ?_
  rintro e w2 ⟨A1, c1, v1, rfl, hr1, hc1, hU1, hn1, hf1⟩
  have H2 : Hid (LS w w2 g 2 v1 [(sA, 1)]) := Lib.hid (H1.out.upd hc1 hU1 hn1)
  clear hr1 hc1 hU1 hn1 hf1 H1 P1
  go_wp2_with fail
  have P2 := Put_any g 2 v1 _ sB 2 w2 H2.out.cache (by simp) (by omega)
  rw [show ((2 : Nat) : Int) = 2 from rfl, E2.out.1, E2.out.2] at P2
  refine P2.mono ?_
  rintro e w3 ⟨A2, c2, v2, rfl, hr1, hc1, hU1, hn1, hf1⟩
  have H3 : Hid (LS w w3 g 2 v2 [(sA, 1), (sB, 2)]) := Lib.hid (H2.out.upd hc1 hU1 hn1)
  clear hr1 hc1 hU1 hn1 hf1 H2 P2
  go_wp2_with fail
  have P3 := Put_any g 2 v2 _ sC 3 w3 H3.out.cache (by simp) (by omega)
  rw [show ((2 : Nat) : Int) = 2 from rfl, E3.out.1, E3.out.2] at P3
  refine P3.mono ?_
  rintro e w4 ⟨A3, c3, v3, rfl, hr3, hc1, hU1, hn1, hf1⟩
  have H4 : Hid (LS w w4 g 2 v3 [(sB, 2), (sC, 3)] ∧ IRow w4 (.slice A3 1 c3) [1]) := Lib.hid ⟨H3.out.upd hc1 hU1 hn1, hr3⟩
  clear hr3 hc1 hU1 hn1 hf1 H3 P3
  go_wp2_with fail
  refine (Take_yes g 2 v3 _ sB 0 (by simp) w4 H4.out.1.cache (by simp) E4.out).mono ?_
  rintro e w5 ⟨rfl, v5, hc5, hU5, hn5⟩
  have H5 : Hid (LS w w5 g 2 v5 [(sC, 3)] ∧ IRow w5 (.slice A3 1 c3) [1]) := Lib.hid ⟨H4.out.1.upd hc5 hU5 hn5, H4.out.2.upd H4.out.1.cache hU5⟩
  clear hc5 hU5 hn5 H4
  go_wp2_with fail
  have H6 : Hid (LS w (w5.alloc (.cells #[.int .i64 1] 3)) g 2 v5 [(sC, 3)] ∧ IRow (w5.alloc (.cells #[.int .i64 1] 3)) (.slice A3 1 c3) [1]) := Lib.hid ⟨H5.out.1.alloc _, H5.out.2.below ((Below.refl _ _).alloc (Nat.le_refl _) _)⟩
  refine (Same_ints _ _ _ _ 1 1 [1] _ H6.out.2 (irow_lit w5 1) rfl rfl (by simp)).mono ?_
  rintro e w6 ⟨rfl, q6, rfl⟩
  have H7 := Lib.hid (H6.out.1.drewN q6)
  clear H5 H6
  generalize (w5.alloc (.cells #[.int .i64 1] 3)).drewN q6 = w6 at H7 ⊢
  go_wp2_with fail
  refine (Names_any g 2 v5 _ w6 H7.out.cache (by simp)).mono ?_
  rintro e w7 ⟨A7, c7, rfl, h7, hB7, hf7⟩
  have H8 : Hid (LS w (w7.alloc (.cells #[.string sC] 9)) g 2 v5 [(sC, 3)] ∧ SRow (w7.alloc (.cells #[.string sC] 9)) (.slice A7 1 c7) [sC]) := Lib.hid ⟨(H7.out.below hB7).alloc _, SRow.below h7 ((Below.refl _ _).alloc (Nat.le_refl _) _)⟩
  clear h7 hB7 hf7 H7
  go_wp2_with fail
  refine (Same_strs _ _ _ _ 1 1 [sC] _ H8.out.2 (srow_lit w7 sC) rfl rfl (by simp)).mono ?_
  rintro e w8 ⟨rfl, q8, rfl⟩
  have H9 := Lib.hid (H8.out.1.drewN q8)
  clear H8
  go_wp2_with fail
  go_ret
  exact ⟨rfl, H9.out.low⟩
end Go.Proofs.Ytffaiijeagghdaa.Lr
