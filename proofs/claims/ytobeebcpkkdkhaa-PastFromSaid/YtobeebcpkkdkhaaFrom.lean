/- Package past: From, Copy (printed by wip/law11/gen_From.py out of From.body). -/
import Derived.Test.YtobeebcpkkdkhaaPast3
set_option linter.unusedVariables false
set_option linter.unusedSimpArgs false
namespace Go.Proofs.Ytobeebcpkkdkhaa.Pa
open Go.RowKit Go.Proofs.YtobeebcpkkdkhaaW.PrintWords Go.Proofs.YtobeebcpkkdkhaaW.PrintLast Go.Proofs.Ytobeebcpkkdkhaa.PPastRuns

/-- An entry with an offset that may be. -/
def cleanE (e : S28) : S28 := ⟨e.f0, (Fl.cl e.f1.toNat : Int)⟩
/-- The first j are clean. -/
def part (l : List S28) (j : Nat) : List S28 := (l.take j).map cleanE ++ l.drop j
theorem part_length (l : List S28) (j : Nat) : (part l j).length = l.length := by simp [part]; omega
theorem part_get (l : List S28) (j : Nat) (hj : j < l.length) : (part l j)[j]? = some l[j] := by
  unfold part
  rw [List.getElem?_append_right (by simp; omega)]
  simp
  rw [show j + (j - min j l.length) = j by omega, List.getElem?_eq_getElem hj]
theorem part_set (l : List S28) (j : Nat) (hj : j < l.length) : (part l j).set j (cleanE l[j]) = part l (j + 1) := by
  induction l generalizing j with
  | nil => simp at hj
  | cons a l ih =>
    cases j with
    | zero => simp [part]
    | succ j =>
      have := ih j (by simpa using hj)
      simpa [part] using this
theorem part_zero (l : List S28) : part l 0 = l := by simp [part]
theorem part_all (l : List S28) : part l l.length = l.map cleanE := by simp [part]
/-- An offset is a whole number of sixty-four bits. -/
def Good (l : List S28) : Prop := ∀ e ∈ l, 0 ≤ e.f1 ∧ e.f1 < 18446744073709551616
theorem Good.at {l : List S28} (h : Good l) {j : Nat} (hj : j < l.length) : ∃ x : Nat, l[j].f1 = (x : Int) ∧ x < 18446744073709551616 ∧ cleanE l[j] = ⟨l[j].f0, (Fl.cl x : Int)⟩ := by
  have h1 := h _ (List.getElem_mem hj)
  refine ⟨l[j].f1.toNat, by omega, by omega, rfl⟩
theorem From_no (v : Value) (l : List S28) (at_ : Int) (w : World) (h : RowOf w v l) (hl : l.length ≤ 1000) (hn : ¬ (l.length ≤ 12 ∧ 0 ≤ at_ ∧ at_ < (l.length : Int))) : Calls Try.prog 18 #[v, .int .i64 at_] w fun en w' => en = .returned (.pointer none) ∧ w' = w := by
  obtain ⟨A, c, rfl, hc, _⟩ := h.reads
  clear h
  by_cases c1 : l.length ≤ 12
  · have b1 : decide ((12 : Int) < (l.length : Int)) = false := decide_eq_false (by omega)
    by_cases c2 : at_ < 0
    · go_enter Try.func18, Try.ntmps18
      go_wp2_with fail
      go_ret
      exact ⟨rfl, rfl⟩
    · have c3 : (l.length : Int) ≤ at_ := by omega
      go_enter Try.func18, Try.ntmps18
      go_wp2_with fail
      go_ret
      exact ⟨rfl, rfl⟩
  · have b1 : (12 : Int) < (l.length : Int) := by omega
    go_enter Try.func18, Try.ntmps18
    go_wp2_with fail
    go_ret
    exact ⟨rfl, rfl⟩
set_option maxHeartbeats 1000000 in
set_option maxRecDepth 100000 in
theorem From_yes (v : Value) (l : List S28) (at_ : Int) (w : World) (h : RowOf w v l) (hg : Good l) (h12 : l.length ≤ 12) (h0 : 0 ≤ at_) (h1 : at_ < (l.length : Int)) : Calls Try.prog 18 #[v, .int .i64 at_] w fun en w' => ∃ g v', en = .returned (.pointer (some ⟨g, 0, none⟩)) ∧ St w g w' v' (l.map cleanE) at_ [] := by
  have HR := Lib.hid h
  obtain ⟨r0, c, rfl, hc⟩ := h.slice (by omega)
  have q0 : (l.length : Int) ≤ 12 := by omega
  clear h
  go_enter Try.func18, Try.ntmps18
  go_wp2_with fail
  refine (Clone_any _ l w HR.out (by omega)).mono ?_
  rintro e w1 ⟨v1, rfl, h1', hB1⟩
  obtain ⟨r, cap, hv1⟩ : ∃ r cap, v1 = .slice (some ⟨r, 0, none⟩) l.length cap := by
    rcases h1'.2 with ⟨_, h2⟩ | ⟨r, cap, cur, e, _⟩
    · omega
    · exact ⟨r, cap, e⟩
  subst hv1
  have hr1 := h1'.lt r rfl
  have hz := heap_alloc_new w1 (.cells #[.slice (some ⟨r, 0, none⟩) l.length cap, .int .i64 at_] 55)
  have H1 : Hid (St w w1.heap.size (w1.alloc (.cells #[.slice (some ⟨r, 0, none⟩) l.length cap, .int .i64 at_] 55)) (.slice (some ⟨r, 0, none⟩) l.length cap) (part l 0) at_ []) := Lib.hid (by
    refine ⟨⟨hz, ?_⟩, hB1.alloc hB1.size _, hB1.size, fun k hk => (h1'.lt k hk).1, fun p hp => by cases hp⟩
    rw [part_zero]
    exact (own_lower h1').alloc _)
  have hc0 : (w1.alloc (.cells #[.slice (some ⟨r, 0, none⟩) l.length cap, .int .i64 at_] 55)).cell? ⟨w1.heap.size, 0, none⟩ = some (.slice (some ⟨r, 0, none⟩) l.length cap) := H1.out.past.c0
  have HZ := Lib.hid hr1.2
  clear h1' hB1 hz hr1
  go_wp2_with fail
  generalize w1.alloc (.cells #[.slice (some ⟨r, 0, none⟩) l.length cap, .int .i64 at_] 55) = w2 at H1 ⊢
  generalize w1.heap.size = g at H1 HZ ⊢
  clear hc0
  go_loopw [30] (fun t30 wr => ∃ (j : Nat), t30 = .int .i64 (j : Int) ∧ j ≤ l.length ∧ Hid (St w g wr (.slice (some ⟨r, 0, none⟩) l.length cap) (part l j) at_ [])) (fun t _ => match t with | .int _ i => (12 - i).toNat | _ => 0)
  case atStart => exact ⟨0, rfl, by omega, H1⟩
  case round =>
    obtain ⟨j, rfl, hj, HI⟩ := hrel
    clear H1
    by_cases c1 : j < l.length
    · have q1 : (j : Int) < (l.length : Int) := by omega
      have q2 : (0 : Int) ≤ (j : Int) := by omega
      have hw : wrap64 ((j : Int) + 1) = (j : Int) + 1 := by unfold wrap64; omega
      obtain ⟨x, hx, hxb, hxe⟩ := hg.at c1
      obtain ⟨hjp, hgp⟩ := List.getElem?_eq_some_iff.1 (part_get l j c1)
      have hcp := HI.out.past.row.cells (g := r) rfl (j * 2 + 1) _ (enc_get (part l j) j hjp).2
      rw [add_plain, hgp, hx] at hcp
      have K0 : wr.drew.cell? ⟨g, 0, none⟩ = some (.slice (some ⟨r, 0, none⟩) l.length cap) := HI.out.past.c0
      have K1 : wr.drew.cell? ⟨r, j * 2 + 1, none⟩ = some (.int .u64 (x : Int)) := hcp
      have z1 : wr.drew.frozen? ⟨r, j * 2 + 1, none⟩ = false := own_cell (by have := HI.out.past.row; unfold RowOf at this; rwa [part_length] at this) _
      have HX := Lib.hid (And.intro hx (And.intro hxe (And.intro hgp hjp)))
      clear hcp hx hxe hgp
      go_wp2_with fail
      refine start_ (n := 17) (S := fun w' => w'.cell? ⟨g, 0, none⟩ = some (.slice (some ⟨r, 0, none⟩) l.length cap) ∧ w'.cell? ⟨r, j * 2 + 1, none⟩ = some (.int .u64 (x : Int))) (ds := [16]) #[false, false, false, false, false, false, false, false, false, false, false, false, false, false, false, false, false] (by kernel_rfl) rfl rfl ⟨K0, K1⟩ (fun hHeld => ?_)
      refine pure_ (i := 0) (N := some 33) (v := ?_) (a' := ?_) #[true, false, false, false, false, false, false, false, false, false, false, false, false, false, false, false, false] rfl rfl (by kernel_rfl) (fun _ _ _ h => h) (Or.inl ⟨by rfl, ?_⟩) ?_ ?_
      rotate_left
      · intro w'
        go_simp
        with_reducible rfl
      rotate_left
      · simp only [Act.put, List.setIfInBounds_toArray, List.set_cons_zero, List.set_cons_succ, i64_w, i32_w]
        rfl
      refine pure_ (i := 1) (N := some 34) (v := ?_) (a' := ?_) #[true, true, false, false, false, false, false, false, false, false, false, false, false, false, false, false, false] rfl rfl (by kernel_rfl) (fun _ _ _ h => h) (Or.inl ⟨by rfl, ?_⟩) ?_ ?_
      rotate_left
      · intro w'
        go_simp
        with_reducible rfl
      rotate_left
      · simp only [Act.put, List.setIfInBounds_toArray, List.set_cons_zero, List.set_cons_succ, i64_w, i32_w]
        rfl
      refine pure_ (i := 2) (N := some 35) (v := ?_) (a' := ?_) #[true, true, true, false, false, false, false, false, false, false, false, false, false, false, false, false, false] rfl rfl (by kernel_rfl) (fun _ _ _ h => h) (Or.inl ⟨by rfl, ?_⟩) ?_ ?_
      rotate_left
      · intro w'
        go_simp
        with_reducible rfl
      rotate_left
      · simp only [Act.put, List.setIfInBounds_toArray, List.set_cons_zero, List.set_cons_succ, i64_w, i32_w]
        rfl
      refine pure_ (i := 4) (N := some 37) (v := ?_) (a' := ?_) #[true, true, true, false, true, false, false, false, false, false, false, false, false, false, false, false, false] rfl rfl (by kernel_rfl) (fun _ _ _ h => h) (Or.inl ⟨by rfl, ?_⟩) ?_ ?_
      rotate_left
      · intro w'
        go_simp
        with_reducible rfl
      rotate_left
      · simp only [Act.put, List.setIfInBounds_toArray, List.set_cons_zero, List.set_cons_succ, i64_w, i32_w]
        rfl
      refine pure_ (i := 5) (N := some 38) (v := ?_) (a' := ?_) #[true, true, true, false, true, true, false, false, false, false, false, false, false, false, false, false, false] rfl rfl (by kernel_rfl) (fun _ _ _ h => h) (Or.inl ⟨by rfl, ?_⟩) ?_ ?_
      rotate_left
      · intro w'
        go_simp
        with_reducible rfl
      rotate_left
      · simp only [Act.put, List.setIfInBounds_toArray, List.set_cons_zero, List.set_cons_succ, i64_w, i32_w]
        rfl
      refine pure_ (i := 6) (N := some 39) (v := ?_) (a' := ?_) #[true, true, true, false, true, true, true, false, false, false, false, false, false, false, false, false, false] rfl rfl (by kernel_rfl) (fun _ _ _ h => h) (Or.inl ⟨by rfl, ?_⟩) ?_ ?_
      rotate_left
      · intro w'
        go_simp
        with_reducible rfl
      rotate_left
      · simp only [Act.put, List.setIfInBounds_toArray, List.set_cons_zero, List.set_cons_succ, i64_w, i32_w]
        rfl
      refine pure_ (i := 7) (N := some 40) (v := ?_) (a' := ?_) #[true, true, true, false, true, true, true, true, false, false, false, false, false, false, false, false, false] rfl rfl (by kernel_rfl) (fun _ _ _ h => h) (Or.inl ⟨by rfl, ?_⟩) ?_ ?_
      rotate_left
      · intro w'
        go_simp
        with_reducible rfl
      rotate_left
      · simp only [Act.put, List.setIfInBounds_toArray, List.set_cons_zero, List.set_cons_succ, i64_w, i32_w]
        rfl
      refine pure_ (i := 9) (N := some 42) (v := ?_) (a' := ?_) #[true, true, true, false, true, true, true, true, false, true, false, false, false, false, false, false, false] rfl rfl (by kernel_rfl) (fun _ _ _ h => h) (Or.inl ⟨by rfl, ?_⟩) ?_ ?_
      rotate_left
      · intro w'
        go_simp
        with_reducible rfl
      rotate_left
      · simp only [Act.put, List.setIfInBounds_toArray, List.set_cons_zero, List.set_cons_succ, i64_w, i32_w]
        rfl
      refine take_ (i := 3) (N := some 36) (v := ?_) (a' := ?_) #[true, true, true, true, true, true, true, true, false, true, false, false, false, false, false, false, false] rfl rfl (by kernel_rfl) (fun _ _ _ h => h) (Or.inl ⟨by rfl, ?_⟩) hHeld ?_ ?_
      rotate_left
      · rintro w' ⟨s0, s1⟩
        go_simp
        with_reducible rfl
      rotate_left
      · simp only [Act.put, List.setIfInBounds_toArray, List.set_cons_zero, List.set_cons_succ, i64_w, i32_w]
        rfl
      refine take_ (i := 8) (N := some 41) (v := ?_) (a' := ?_) #[true, true, true, true, true, true, true, true, true, true, false, false, false, false, false, false, false] rfl rfl (by kernel_rfl) (fun _ _ _ h => h) (Or.inl ⟨by rfl, ?_⟩) hHeld ?_ ?_
      rotate_left
      · rintro w' ⟨s0, s1⟩
        go_simp
        with_reducible rfl
      rotate_left
      · simp only [Act.put, List.setIfInBounds_toArray, List.set_cons_zero, List.set_cons_succ, i64_w, i32_w]
        rfl
      refine pure_ (i := 10) (N := some 43) (v := ?_) (a' := ?_) #[true, true, true, true, true, true, true, true, true, true, true, false, false, false, false, false, false] rfl rfl (by kernel_rfl) (fun _ _ _ h => h) (Or.inl ⟨by rfl, ?_⟩) ?_ ?_
      rotate_left
      · intro w'
        go_simp
        with_reducible rfl
      rotate_left
      · simp only [Act.put, List.setIfInBounds_toArray, List.set_cons_zero, List.set_cons_succ, i64_w, i32_w]
        rfl
      refine pure_ (i := 11) (N := some 44) (v := ?_) (a' := ?_) #[true, true, true, true, true, true, true, true, true, true, true, true, false, false, false, false, false] rfl rfl (by kernel_rfl) (fun _ _ _ h => h) (Or.inl ⟨by rfl, ?_⟩) ?_ ?_
      rotate_left
      · intro w'
        go_simp
        with_reducible rfl
      rotate_left
      · simp only [Act.put, List.setIfInBounds_toArray, List.set_cons_zero, List.set_cons_succ, i64_w, i32_w]
        rfl
      refine take_ (i := 12) (N := some 45) (v := ?_) (a' := ?_) #[true, true, true, true, true, true, true, true, true, true, true, true, true, false, false, false, false] rfl rfl (by kernel_rfl) (fun _ _ _ h => h) (Or.inl ⟨by rfl, ?_⟩) hHeld ?_ ?_
      rotate_left
      · rintro w' ⟨s0, s1⟩
        go_simp
        with_reducible rfl
      rotate_left
      · simp only [Act.put, List.setIfInBounds_toArray, List.set_cons_zero, List.set_cons_succ, i64_w, i32_w]
        rfl
      refine one_ (i := 13) (N := some 46) #[true, true, true, true, true, true, true, true, true, true, true, true, true, true, false, false, false] rfl rfl (by kernel_rfl) (by decide) (fun K hK => ?_)
      refine goes_ Try.func20 (by kernel_rfl) rfl #[.int .u64 (x : Int)] (by rfl) rfl rfl (by simp only [List.map_toArray, List.map_cons, List.map_nil]; rfl) ?_
      with_reducible refine (Fl.Clean_any x hxb _).mono ?_
      rintro en w' ⟨rfl, rfl⟩
      refine ⟨_, rfl, ?_⟩
      refine hK.out _ _ ⟨hHeld.1, hHeld.2⟩ (fun hHeld => ?_)
      clear hK K
      refine norm_ (a' := ?_) ?_ ?_
      rotate_left
      · show Act.put _ (some 46) _ = _
        simp only [Act.put, List.setIfInBounds_toArray, List.set_cons_zero, List.set_cons_succ, i64_w, i32_w]
        rfl
      refine pure_ (i := 14) (N := some 47) (v := ?_) (a' := ?_) #[true, true, true, true, true, true, true, true, true, true, true, true, true, true, true, false, false] rfl rfl (by kernel_rfl) (fun _ _ _ h => h) (Or.inl ⟨by rfl, ?_⟩) ?_ ?_
      rotate_left
      · intro w'
        go_simp
        with_reducible rfl
      rotate_left
      · simp only [Act.put, List.setIfInBounds_toArray, List.set_cons_zero, List.set_cons_succ, i64_w, i32_w]
        rfl
      refine pure_ (i := 15) (N := some 48) (v := ?_) (a' := ?_) #[true, true, true, true, true, true, true, true, true, true, true, true, true, true, true, true, false] rfl rfl (by kernel_rfl) (fun _ _ _ h => h) (Or.inl ⟨by rfl, ?_⟩) ?_ ?_
      rotate_left
      · intro w'
        go_simp
        with_reducible rfl
      rotate_left
      · simp only [Act.put, List.setIfInBounds_toArray, List.set_cons_zero, List.set_cons_succ, i64_w, i32_w]
        rfl
      refine last_ (i := 16) (N := none) #[true, true, true, true, true, true, true, true, true, true, true, true, true, true, true, true, true] rfl rfl (by kernel_rfl) (by decide) (fun K hK => ?_)
      refine skip_ (w1 := ?_) (by rfl) rfl ?_ ?_
      rotate_left
      · go_simp
        rfl
      refine hK.out _ _ ?_
      clear hK K
      refine done_ (by kernel_rfl) ?_
      have hr := own_set (w := wr.drew) (by have := HI.out.past.row; unfold RowOf at this; rwa [part_length] at this) (j * 2 + 1) (by omega) (.int .u64 (Fl.cl x : Int))
      rw [enc_set1 (part l j) j HX.out.2.2.2, HX.out.2.2.1, ← HX.out.2.1, part_set l j c1] at hr
      have hU := set_upd wr.drew r (j * 2 + 1) (.int .u64 (Fl.cl x : Int))
      have HN := Lib.hid (HI.out.drew.write rfl hU (past_rowset HI.out.drew.past (by have := HZ.out; omega) hU (by unfold RowOf; rw [part_length]; exact hr)))
      clear hr hU HX HI K0 K1 z1
      go_wp2_with fail
      go_roundw
      case rel => exact ⟨j + 1, by first | rfl | simp, by omega, HN⟩
      case measure => simp; omega
    · have q1 : ¬ (j : Int) < (l.length : Int) := by omega
      have hjl : j = l.length := by omega
      go_wp2_with fail
      go_ret
      have hf := HI.out
      rw [hjl, part_all] at hf
      exact ⟨g, rfl, _, hf⟩
set_option maxHeartbeats 1000000 in
set_option maxRecDepth 100000 in
theorem Copy_any (g : Nat) (v : Value) (l : List S28) (at_ : Int) (w : World) (h : PastAt w g v l at_) (h0 : 0 < l.length) (hl : l.length ≤ 1000) : Calls Try.prog 22 #[.pointer (some ⟨g, 0, none⟩)] w fun en w' => ∃ g' v', en = .returned (.pointer (some ⟨g', 0, none⟩)) ∧ St w g' w' v' l at_ [] := by
  have K0 : w.drew.cell? ⟨g, 0, none⟩ = some v := h.c0
  have K1 : w.drew.cell? ⟨g, 1, none⟩ = some (.int .i64 at_) := h.c1
  have HR : Hid (RowOf w.drew v l) := Lib.hid h.row
  have HB : Hid (Below w.heap.size w w.drew) := Lib.hid (below_drew1 (Below.refl _ _))
  clear h
  go_enter Try.func22, Try.ntmps22
  go_wp2_with fail
  refine start_ (n := 12) (S := fun w' => w'.cell? ⟨g, 0, none⟩ = some v ∧ w'.cell? ⟨g, 1, none⟩ = some (.int .i64 at_)) (ds := [10]) #[false, false, false, false, false, false, false, false, false, false, false, false] (by kernel_rfl) rfl rfl ⟨K0, K1⟩ (fun hHeld => ?_)
  refine pure_ (i := 0) (N := some 3) (v := ?_) (a' := ?_) #[true, false, false, false, false, false, false, false, false, false, false, false] rfl rfl (by kernel_rfl) (fun _ _ _ h => h) (Or.inl ⟨by rfl, ?_⟩) ?_ ?_
  rotate_left
  · intro w'
    go_simp
    with_reducible rfl
  rotate_left
  · simp only [Act.put, List.setIfInBounds_toArray, List.set_cons_zero, List.set_cons_succ, i64_w, i32_w]
    rfl
  refine pure_ (i := 1) (N := some 4) (v := ?_) (a' := ?_) #[true, true, false, false, false, false, false, false, false, false, false, false] rfl rfl (by kernel_rfl) (fun _ _ _ h => h) (Or.inl ⟨by rfl, ?_⟩) ?_ ?_
  rotate_left
  · intro w'
    go_simp
    with_reducible rfl
  rotate_left
  · simp only [Act.put, List.setIfInBounds_toArray, List.set_cons_zero, List.set_cons_succ, i64_w, i32_w]
    rfl
  refine pure_ (i := 2) (N := some 5) (v := ?_) (a' := ?_) #[true, true, true, false, false, false, false, false, false, false, false, false] rfl rfl (by kernel_rfl) (fun _ _ _ h => h) (Or.inl ⟨by rfl, ?_⟩) ?_ ?_
  rotate_left
  · intro w'
    go_simp
    with_reducible rfl
  rotate_left
  · simp only [Act.put, List.setIfInBounds_toArray, List.set_cons_zero, List.set_cons_succ, i64_w, i32_w]
    rfl
  refine pure_ (i := 5) (N := some 8) (v := ?_) (a' := ?_) #[true, true, true, false, false, true, false, false, false, false, false, false] rfl rfl (by kernel_rfl) (fun _ _ _ h => h) (Or.inl ⟨by rfl, ?_⟩) ?_ ?_
  rotate_left
  · intro w'
    go_simp
    with_reducible rfl
  rotate_left
  · simp only [Act.put, List.setIfInBounds_toArray, List.set_cons_zero, List.set_cons_succ, i64_w, i32_w]
    rfl
  refine pure_ (i := 6) (N := some 9) (v := ?_) (a' := ?_) #[true, true, true, false, false, true, true, false, false, false, false, false] rfl rfl (by kernel_rfl) (fun _ _ _ h => h) (Or.inl ⟨by rfl, ?_⟩) ?_ ?_
  rotate_left
  · intro w'
    go_simp
    with_reducible rfl
  rotate_left
  · simp only [Act.put, List.setIfInBounds_toArray, List.set_cons_zero, List.set_cons_succ, i64_w, i32_w]
    rfl
  refine pure_ (i := 7) (N := some 10) (v := ?_) (a' := ?_) #[true, true, true, false, false, true, true, true, false, false, false, false] rfl rfl (by kernel_rfl) (fun _ _ _ h => h) (Or.inl ⟨by rfl, ?_⟩) ?_ ?_
  rotate_left
  · intro w'
    go_simp
    with_reducible rfl
  rotate_left
  · simp only [Act.put, List.setIfInBounds_toArray, List.set_cons_zero, List.set_cons_succ, i64_w, i32_w]
    rfl
  refine take_ (i := 3) (N := some 6) (v := ?_) (a' := ?_) #[true, true, true, true, false, true, true, true, false, false, false, false] rfl rfl (by kernel_rfl) (fun _ _ _ h => h) (Or.inl ⟨by rfl, ?_⟩) hHeld ?_ ?_
  rotate_left
  · rintro w' ⟨s0, s1⟩
    go_simp
    with_reducible rfl
  rotate_left
  · simp only [Act.put, List.setIfInBounds_toArray, List.set_cons_zero, List.set_cons_succ, i64_w, i32_w]
    rfl
  refine take_ (i := 8) (N := some 11) (v := ?_) (a' := ?_) #[true, true, true, true, false, true, true, true, true, false, false, false] rfl rfl (by kernel_rfl) (fun _ _ _ h => h) (Or.inl ⟨by rfl, ?_⟩) hHeld ?_ ?_
  rotate_left
  · rintro w' ⟨s0, s1⟩
    go_simp
    with_reducible rfl
  rotate_left
  · simp only [Act.put, List.setIfInBounds_toArray, List.set_cons_zero, List.set_cons_succ, i64_w, i32_w]
    rfl
  refine one_ (i := 4) (N := some 7) #[true, true, true, true, true, true, true, true, true, false, false, false] rfl rfl (by kernel_rfl) (by decide) (fun K hK => ?_)
  refine goes_ Try.func24 (by kernel_rfl) rfl #[v] (by rfl) rfl rfl (by simp only [List.map_toArray, List.map_cons, List.map_nil]; rfl) ?_
  with_reducible refine (Clone_any v l _ HR.out hl).mono ?_
  rintro en w3 ⟨v2, rfl, h2, hB⟩
  refine ⟨_, rfl, ?_⟩
  obtain ⟨A2, c2, e2⟩ := own_slice h2
  subst e2
  refine hK.out _ _ ⟨(hB.cell (lt_of_cell hHeld.1)).trans hHeld.1, (hB.cell (lt_of_cell hHeld.2)).trans hHeld.2⟩ (fun hHeld => ?_)
  clear hK K
  refine norm_ (a' := ?_) ?_ ?_
  rotate_left
  · show Act.put _ (some 7) _ = _
    simp only [Act.put, List.setIfInBounds_toArray, List.set_cons_zero, List.set_cons_succ, i64_w, i32_w]
    rfl
  refine pure_ (i := 9) (N := some 12) (v := ?_) (a' := ?_) #[true, true, true, true, true, true, true, true, true, true, false, false] rfl rfl (by kernel_rfl) (fun _ _ _ h => h) (Or.inl ⟨by rfl, ?_⟩) ?_ ?_
  rotate_left
  · intro w'
    go_simp
    with_reducible rfl
  rotate_left
  · simp only [Act.put, List.setIfInBounds_toArray, List.set_cons_zero, List.set_cons_succ, i64_w, i32_w]
    rfl
  refine last_ (i := 10) (N := some 13) #[true, true, true, true, true, true, true, true, true, true, true, false] rfl rfl (by kernel_rfl) (by decide) (fun K hK => ?_)
  refine value_ (w1 := ?_) (v := ?_) (by rfl) rfl ?_ ?_
  rotate_left 2
  · go_simp
    constructor
    · rfl
    · rfl
  refine hK.out _ _ ?_
  clear hK K
  refine norm_ (a' := ?_) ?_ ?_
  rotate_left
  · show Act.put _ (some 13) _ = _
    simp only [Act.put, List.setIfInBounds_toArray, List.set_cons_zero, List.set_cons_succ, i64_w, i32_w]
    rfl
  refine pure_ (i := 11) (N := some 2) (v := ?_) (a' := ?_) #[true, true, true, true, true, true, true, true, true, true, true, true] rfl rfl (by kernel_rfl) (fun _ _ _ h => h) (Or.inl ⟨by rfl, ?_⟩) ?_ ?_
  rotate_left
  · intro w'
    go_simp
    with_reducible rfl
  rotate_left
  · simp only [Act.put, List.setIfInBounds_toArray, List.set_cons_zero, List.set_cons_succ, i64_w, i32_w]
    rfl
  refine done_ (by kernel_rfl) ?_
  go_wp2_with fail
  go_ret
  have hf : St w w3.heap.size (w3.alloc (.cells #[.slice A2 l.length c2, .int .i64 at_] 55)) (.slice A2 l.length c2) l at_ [] := ⟨⟨heap_alloc_new w3 _, (own_lower h2).alloc _⟩, (HB.out.trans (hB.mono HB.out.size)).alloc (Nat.le_trans HB.out.size hB.size) _, Nat.le_trans HB.out.size hB.size, fun k hk => Nat.le_trans HB.out.size (h2.lt k hk).1, fun p hp => by cases hp⟩
  first | exact ⟨w3.heap.size, rfl, _, hf⟩ | exact ⟨w3.heap.size, _, rfl, hf⟩
end Go.Proofs.Ytobeebcpkkdkhaa.Pa
