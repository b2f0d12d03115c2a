/- Package past: Scroll, Replace (printed by wip/law11/gen_Past2.py out of Past2.body). -/
import Derived.Test.YtobeebcpkkdkhaaPastRuns
import Derived.Test.YtobeebcpkkdkhaaScroll1
set_option linter.unusedVariables false
set_option linter.unusedSimpArgs false
namespace Go.Proofs.Ytobeebcpkkdkhaa.Pa
open Go.RowKit Go.Proofs.YtobeebcpkkdkhaaW.PrintWords Go.Proofs.YtobeebcpkkdkhaaW.PrintLast Go.Proofs.Ytobeebcpkkdkhaa.PPastRuns

/-- A write into a row. -/
theorem own_set {w : World} {base : Nat} {e : TypeId} {size n r cap : Nat} {xs : List Value} (h : w.ownsRow base e size (.slice (some ⟨r, 0, none⟩) n cap) n xs) (j : Nat) (hj : j < n * size) (u : Value) : (w.setCell ⟨r, j, none⟩ u).ownsRow base e size (.slice (some ⟨r, 0, none⟩) n cap) n (xs.set j u) := by
  refine ⟨by rw [List.length_set]; exact h.1, ?_⟩
  rcases h.2 with ⟨e1, _⟩ | ⟨g, cap', cur, e1, h0, h1, h2, h3, h4, h5⟩
  · cases e1
  · injection e1 with e1 e2 e3
    injection e1 with e1
    injection e1 with e1
    subst e1
    subst e3
    refine .inr ⟨r, cap, cur.setIfInBounds j u, rfl, h0, ?_, h2, h3, by simpa using h4, ?_⟩
    · simp [World.setCell, Array.getElem?_modify, h1]
    · rw [Array.toList_setIfInBounds, List.take_set, h5]
theorem own_cell {w : World} {base : Nat} {e : TypeId} {size n r cap : Nat} {xs : List Value} (h : w.ownsRow base e size (.slice (some ⟨r, 0, none⟩) n cap) n xs) : ∀ j, w.frozen? ⟨r, j, none⟩ = false := by
  intro j
  rcases h.2 with ⟨e1, _⟩ | ⟨g, cap', cur, e1, h0, h1, h2, h3, h4, h5⟩
  · cases e1
  · injection e1 with e1 e2 e3
    injection e1 with e1
    injection e1 with e1
    subst e1
    simp [World.frozen?, h1]
theorem enc_set (l : List S28) (i : Nat) (e : S28) : ((enc l).set (i * 2) (.string e.f0)).set (i * 2 + 1) (.int .u64 e.f1) = enc (l.set i e) := by
  induction l generalizing i with
  | nil => simp [enc]
  | cons a l ih =>
    cases i with
    | zero => simp [enc]
    | succ i =>
      rw [show (i + 1) * 2 = i * 2 + 1 + 1 by omega]
      simpa [enc] using ih i
theorem enc_set1 (l : List S28) (i : Nat) (hi : i < l.length) (x : Int) : (enc l).set (i * 2 + 1) (.int .u64 x) = enc (l.set i ⟨l[i].f0, x⟩) := by
  rw [← enc_set]
  congr 1
  have h := (enc_get l i hi).1
  obtain ⟨hb, h⟩ := List.getElem?_eq_some_iff.1 h
  show enc l = (enc l).set (i * 2) (.string l[i].f0)
  rw [← h, List.set_getElem_self]
theorem set_upd (w : World) (r j : Nat) (u : Value) : Upd r w (w.setCell ⟨r, j, none⟩ u) := ⟨rfl, rfl, rfl, by simp [World.setCell], fun k hk hg => Below.heap_setCell _ _ _ _ hg⟩
theorem PastAt.row_slice {w : World} {g : Nat} {v : Value} {l : List S28} {at_ : Int} (h : PastAt w g v l at_) (h0 : 0 < l.length) : ∃ r cap, v = .slice (some ⟨r, 0, none⟩) l.length cap ∧ r ≠ g := by
  rcases h.row.2 with ⟨_, h1⟩ | ⟨r, cap, cur, e, _⟩
  · omega
  · exact ⟨r, cap, e, row_ne h.obj h.row r (by rw [e]; rfl)⟩
theorem past_rowset {w W : World} {g r n cap : Nat} {l m : List S28} {at_ : Int} (h : PastAt w g (.slice (some ⟨r, 0, none⟩) n cap) l at_) (hr : r ≠ g) (hU : Upd r w W) (hm : RowOf W (.slice (some ⟨r, 0, none⟩) n cap) m) : PastAt W g (.slice (some ⟨r, 0, none⟩) n cap) m at_ :=
  ⟨(hU.block g (lt_of_heap h.obj) (fun e => hr e.symm)).trans h.obj, hm⟩
set_option maxHeartbeats 1000000 in
set_option maxRecDepth 100000 in
theorem Scroll_any (g : Nat) (v : Value) (l : List S28) (i x : Nat) (w : World) (h : PastAt w g v l (i : Int)) (hi : i < l.length) (hl : l.length ≤ 1000) (hx : x < 18446744073709551616) : Calls Try.prog 15 #[.pointer (some ⟨g, 0, none⟩), .int .u64 (x : Int)] w fun en w' => en = .returned (.tuple #[]) ∧ PastAt w' g v (l.set i ⟨l[i].f0, (Fl.cl x : Int)⟩) (i : Int) ∧ ∃ r, v.ownBlock = some r ∧ Upd r w w' := by
  obtain ⟨r, cap, rfl, hrg⟩ := h.row_slice (by omega)
  have K0 := h.c0
  have K1 := h.c1
  have hc := h.row.cells (g := r) rfl (i * 2 + 1) _ (enc_get l i hi).2
  rw [add_plain] at hc
  have K0 : w.drew.cell? ⟨g, 0, none⟩ = some (.slice (some ⟨r, 0, none⟩) l.length cap) := K0
  have K1 : w.drew.cell? ⟨g, 1, none⟩ = some (.int .i64 (i : Int)) := K1
  have z1 : w.drew.frozen? ⟨r, i * 2 + 1, none⟩ = false := own_cell h.row _
  have k1 : w.drew.cell? ⟨r, i * 2 + 1, none⟩ = some (.int .u64 l[i].f1) := hc
  have HN := Lib.hid (And.intro h hrg)
  have q0 : (0 : Int) ≤ (i : Int) := by omega
  have q1 : (i : Int) < (l.length : Int) := by omega
  clear hc h hrg
  go_enter Try.func15, Try.ntmps15
  refine start_ (n := 13) (S := fun w' => w'.cell? ⟨g, 0, none⟩ = some (.slice (some ⟨r, 0, none⟩) l.length cap) ∧ w'.cell? ⟨g, 1, none⟩ = some (.int .i64 (i : Int))) (ds := [12]) #[false, false, false, false, false, false, false, false, false, false, false, false, false] (by kernel_rfl) rfl rfl ⟨K0, K1⟩ (fun hHeld => ?_)
  refine pure_ (i := 0) (N := some 4) (v := ?_) (a' := ?_) #[true, false, false, false, false, false, false, false, false, false, false, false, false] rfl rfl (by kernel_rfl) (fun _ _ _ h => h) (Or.inl ⟨by rfl, ?_⟩) ?_ ?_
  rotate_left
  · intro w'
    go_simp
    with_reducible rfl
  rotate_left
  · simp only [Act.put, List.setIfInBounds_toArray, List.set_cons_zero, List.set_cons_succ, i64_w, i32_w]
    rfl
  refine pure_ (i := 1) (N := some 5) (v := ?_) (a' := ?_) #[true, true, false, false, false, false, false, false, false, false, false, false, false] rfl rfl (by kernel_rfl) (fun _ _ _ h => h) (Or.inl ⟨by rfl, ?_⟩) ?_ ?_
  rotate_left
  · intro w'
    go_simp
    with_reducible rfl
  rotate_left
  · simp only [Act.put, List.setIfInBounds_toArray, List.set_cons_zero, List.set_cons_succ, i64_w, i32_w]
    rfl
  refine pure_ (i := 2) (N := some 6) (v := ?_) (a' := ?_) #[true, true, true, false, false, false, false, false, false, false, false, false, false] rfl rfl (by kernel_rfl) (fun _ _ _ h => h) (Or.inl ⟨by rfl, ?_⟩) ?_ ?_
  rotate_left
  · intro w'
    go_simp
    with_reducible rfl
  rotate_left
  · simp only [Act.put, List.setIfInBounds_toArray, List.set_cons_zero, List.set_cons_succ, i64_w, i32_w]
    rfl
  refine pure_ (i := 4) (N := some 8) (v := ?_) (a' := ?_) #[true, true, true, false, true, false, false, false, false, false, false, false, false] rfl rfl (by kernel_rfl) (fun _ _ _ h => h) (Or.inl ⟨by rfl, ?_⟩) ?_ ?_
  rotate_left
  · intro w'
    go_simp
    with_reducible rfl
  rotate_left
  · simp only [Act.put, List.setIfInBounds_toArray, List.set_cons_zero, List.set_cons_succ, i64_w, i32_w]
    rfl
  refine pure_ (i := 5) (N := some 9) (v := ?_) (a' := ?_) #[true, true, true, false, true, true, false, false, false, false, false, false, false] rfl rfl (by kernel_rfl) (fun _ _ _ h => h) (Or.inl ⟨by rfl, ?_⟩) ?_ ?_
  rotate_left
  · intro w'
    go_simp
    with_reducible rfl
  rotate_left
  · simp only [Act.put, List.setIfInBounds_toArray, List.set_cons_zero, List.set_cons_succ, i64_w, i32_w]
    rfl
  refine pure_ (i := 6) (N := some 10) (v := ?_) (a' := ?_) #[true, true, true, false, true, true, true, false, false, false, false, false, false] rfl rfl (by kernel_rfl) (fun _ _ _ h => h) (Or.inl ⟨by rfl, ?_⟩) ?_ ?_
  rotate_left
  · intro w'
    go_simp
    with_reducible rfl
  rotate_left
  · simp only [Act.put, List.setIfInBounds_toArray, List.set_cons_zero, List.set_cons_succ, i64_w, i32_w]
    rfl
  refine pure_ (i := 8) (N := some 12) (v := ?_) (a' := ?_) #[true, true, true, false, true, true, true, false, true, false, false, false, false] rfl rfl (by kernel_rfl) (fun _ _ _ h => h) (Or.inl ⟨by rfl, ?_⟩) ?_ ?_
  rotate_left
  · intro w'
    go_simp
    with_reducible rfl
  rotate_left
  · simp only [Act.put, List.setIfInBounds_toArray, List.set_cons_zero, List.set_cons_succ, i64_w, i32_w]
    rfl
  refine take_ (i := 3) (N := some 7) (v := ?_) (a' := ?_) #[true, true, true, true, true, true, true, false, true, false, false, false, false] rfl rfl (by kernel_rfl) (fun _ _ _ h => h) (Or.inl ⟨by rfl, ?_⟩) hHeld ?_ ?_
  rotate_left
  · rintro w' ⟨s0, s1⟩
    go_simp
    with_reducible rfl
  rotate_left
  · simp only [Act.put, List.setIfInBounds_toArray, List.set_cons_zero, List.set_cons_succ, i64_w, i32_w]
    rfl
  refine take_ (i := 7) (N := some 11) (v := ?_) (a' := ?_) #[true, true, true, true, true, true, true, true, true, false, false, false, false] rfl rfl (by kernel_rfl) (fun _ _ _ h => h) (Or.inl ⟨by rfl, ?_⟩) hHeld ?_ ?_
  rotate_left
  · rintro w' ⟨s0, s1⟩
    go_simp
    with_reducible rfl
  rotate_left
  · simp only [Act.put, List.setIfInBounds_toArray, List.set_cons_zero, List.set_cons_succ, i64_w, i32_w]
    rfl
  refine one_ (i := 9) (N := some 13) #[true, true, true, true, true, true, true, true, true, true, false, false, false] rfl rfl (by kernel_rfl) (by decide) (fun K hK => ?_)
  refine goes_ Try.func20 (by kernel_rfl) rfl #[.int .u64 (x : Int)] (by rfl) rfl rfl (by simp only [List.map_toArray, List.map_cons, List.map_nil]; rfl) ?_
  with_reducible refine (Fl.Clean_any x hx _).mono ?_
  rintro en w' ⟨rfl, rfl⟩
  refine ⟨_, rfl, ?_⟩
  refine hK.out _ _ ⟨hHeld.1, hHeld.2⟩ (fun hHeld => ?_)
  clear hK K
  refine norm_ (a' := ?_) ?_ ?_
  rotate_left
  · show Act.put _ (some 13) _ = _
    simp only [Act.put, List.setIfInBounds_toArray, List.set_cons_zero, List.set_cons_succ, i64_w, i32_w]
    rfl
  refine pure_ (i := 10) (N := some 14) (v := ?_) (a' := ?_) #[true, true, true, true, true, true, true, true, true, true, true, false, false] rfl rfl (by kernel_rfl) (fun _ _ _ h => h) (Or.inl ⟨by rfl, ?_⟩) ?_ ?_
  rotate_left
  · intro w'
    go_simp
    with_reducible rfl
  rotate_left
  · simp only [Act.put, List.setIfInBounds_toArray, List.set_cons_zero, List.set_cons_succ, i64_w, i32_w]
    rfl
  refine pure_ (i := 11) (N := some 15) (v := ?_) (a' := ?_) #[true, true, true, true, true, true, true, true, true, true, true, true, false] rfl rfl (by kernel_rfl) (fun _ _ _ h => h) (Or.inl ⟨by rfl, ?_⟩) ?_ ?_
  rotate_left
  · intro w'
    go_simp
    with_reducible rfl
  rotate_left
  · simp only [Act.put, List.setIfInBounds_toArray, List.set_cons_zero, List.set_cons_succ, i64_w, i32_w]
    rfl
  refine last_ (i := 12) (N := none) #[true, true, true, true, true, true, true, true, true, true, true, true, true] rfl rfl (by kernel_rfl) (by decide) (fun K hK => ?_)
  refine skip_ (w1 := ?_) (by rfl) rfl ?_ ?_
  rotate_left
  · go_simp
    rfl
  refine hK.out _ _ ?_
  clear hK K
  refine done_ (by kernel_rfl) ?_
  simp [bodyPost, results, Try.results15, go_sem]
  have hB : Below w.heap.size w w.drew := below_drew1 (Below.refl _ _)
  have hr := own_set (w := w.drew) HN.out.1.row (i * 2 + 1) (by omega) (.int .u64 (Fl.cl x : Int))
  rw [enc_set1 l i hi] at hr
  have hU := set_upd w.drew r (i * 2 + 1) (.int .u64 (Fl.cl x : Int))
  exact ⟨past_rowset (HN.out.1.below hB) HN.out.2 hU (by unfold RowOf; rw [List.length_set]; exact hr), r, rfl, (Upd.of_below (g := r) hB).trans hU⟩
set_option maxHeartbeats 1000000 in
set_option maxRecDepth 100000 in
theorem Replace_any (g : Nat) (v : Value) (l : List S28) (i : Nat) (url : ByteArray) (w : World) (h : PastAt w g v l (i : Int)) (hi : i < l.length) (hl : l.length ≤ 1000) : Calls Try.prog 21 #[.pointer (some ⟨g, 0, none⟩), .string url] w fun en w' => en = .returned (.tuple #[]) ∧ PastAt w' g v (l.set i ⟨url, 0⟩) (i : Int) ∧ ∃ r, v.ownBlock = some r ∧ Upd r w w' := by
  obtain ⟨r, cap, rfl, hrg⟩ := h.row_slice (by omega)
  have K0 := h.c0
  have K1 := h.c1
  have hc0 := h.row.cells (g := r) rfl (i * 2) _ (enc_get l i hi).1
  have hc := h.row.cells (g := r) rfl (i * 2 + 1) _ (enc_get l i hi).2
  rw [add_plain] at hc hc0
  have K0 : w.drew.cell? ⟨g, 0, none⟩ = some (.slice (some ⟨r, 0, none⟩) l.length cap) := K0
  have K1 : w.drew.cell? ⟨g, 1, none⟩ = some (.int .i64 (i : Int)) := K1
  have z0 : w.drew.frozen? ⟨r, i * 2, none⟩ = false := own_cell h.row _
  have k0 : w.drew.cell? ⟨r, i * 2, none⟩ = some (.string l[i].f0) := hc0
  have z1 : w.drew.frozen? ⟨r, i * 2 + 1, none⟩ = false := own_cell h.row _
  have k1 : w.drew.cell? ⟨r, i * 2 + 1, none⟩ = some (.int .u64 l[i].f1) := hc
  have z0' : w.frozen? ⟨r, i * 2, none⟩ = false := z0
  have z1' : w.frozen? ⟨r, i * 2 + 1, none⟩ = false := z1
  have HN := Lib.hid (And.intro h hrg)
  have q0 : (0 : Int) ≤ (i : Int) := by omega
  have q1 : (i : Int) < (l.length : Int) := by omega
  clear h hrg
  go_enter Try.func21, Try.ntmps21
  refine start_ (n := 12) (S := fun w' => w'.cell? ⟨g, 0, none⟩ = some (.slice (some ⟨r, 0, none⟩) l.length cap) ∧ w'.cell? ⟨g, 1, none⟩ = some (.int .i64 (i : Int))) (ds := [11]) #[false, false, false, false, false, false, false, false, false, false, false, false] (by kernel_rfl) rfl rfl ⟨K0, K1⟩ (fun hHeld => ?_)
  refine pure_ (i := 0) (N := some 4) (v := ?_) (a' := ?_) #[true, false, false, false, false, false, false, false, false, false, false, false] rfl rfl (by kernel_rfl) (fun _ _ _ h => h) (Or.inl ⟨by rfl, ?_⟩) ?_ ?_
  rotate_left
  · intro w'
    go_simp
    with_reducible rfl
  rotate_left
  · simp only [Act.put, List.setIfInBounds_toArray, List.set_cons_zero, List.set_cons_succ, i64_w, i32_w]
    rfl
  refine pure_ (i := 1) (N := some 5) (v := ?_) (a' := ?_) #[true, true, false, false, false, false, false, false, false, false, false, false] rfl rfl (by kernel_rfl) (fun _ _ _ h => h) (Or.inl ⟨by rfl, ?_⟩) ?_ ?_
  rotate_left
  · intro w'
    go_simp
    with_reducible rfl
  rotate_left
  · simp only [Act.put, List.setIfInBounds_toArray, List.set_cons_zero, List.set_cons_succ, i64_w, i32_w]
    rfl
  refine pure_ (i := 2) (N := some 6) (v := ?_) (a' := ?_) #[true, true, true, false, false, false, false, false, false, false, false, false] rfl rfl (by kernel_rfl) (fun _ _ _ h => h) (Or.inl ⟨by rfl, ?_⟩) ?_ ?_
  rotate_left
  · intro w'
    go_simp
    with_reducible rfl
  rotate_left
  · simp only [Act.put, List.setIfInBounds_toArray, List.set_cons_zero, List.set_cons_succ, i64_w, i32_w]
    rfl
  refine pure_ (i := 4) (N := some 8) (v := ?_) (a' := ?_) #[true, true, true, false, true, false, false, false, false, false, false, false] rfl rfl (by kernel_rfl) (fun _ _ _ h => h) (Or.inl ⟨by rfl, ?_⟩) ?_ ?_
  rotate_left
  · intro w'
    go_simp
    with_reducible rfl
  rotate_left
  · simp only [Act.put, List.setIfInBounds_toArray, List.set_cons_zero, List.set_cons_succ, i64_w, i32_w]
    rfl
  refine pure_ (i := 5) (N := some 9) (v := ?_) (a' := ?_) #[true, true, true, false, true, true, false, false, false, false, false, false] rfl rfl (by kernel_rfl) (fun _ _ _ h => h) (Or.inl ⟨by rfl, ?_⟩) ?_ ?_
  rotate_left
  · intro w'
    go_simp
    with_reducible rfl
  rotate_left
  · simp only [Act.put, List.setIfInBounds_toArray, List.set_cons_zero, List.set_cons_succ, i64_w, i32_w]
    rfl
  refine pure_ (i := 6) (N := some 10) (v := ?_) (a' := ?_) #[true, true, true, false, true, true, true, false, false, false, false, false] rfl rfl (by kernel_rfl) (fun _ _ _ h => h) (Or.inl ⟨by rfl, ?_⟩) ?_ ?_
  rotate_left
  · intro w'
    go_simp
    with_reducible rfl
  rotate_left
  · simp only [Act.put, List.setIfInBounds_toArray, List.set_cons_zero, List.set_cons_succ, i64_w, i32_w]
    rfl
  refine pure_ (i := 8) (N := some 12) (v := ?_) (a' := ?_) #[true, true, true, false, true, true, true, false, true, false, false, false] rfl rfl (by kernel_rfl) (fun _ _ _ h => h) (Or.inl ⟨by rfl, ?_⟩) ?_ ?_
  rotate_left
  · intro w'
    go_simp
    with_reducible rfl
  rotate_left
  · simp only [Act.put, List.setIfInBounds_toArray, List.set_cons_zero, List.set_cons_succ, i64_w, i32_w]
    rfl
  refine pure_ (i := 9) (N := some 13) (v := ?_) (a' := ?_) #[true, true, true, false, true, true, true, false, true, true, false, false] rfl rfl (by kernel_rfl) (fun _ _ _ h => h) (Or.inl ⟨by rfl, ?_⟩) ?_ ?_
  rotate_left
  · intro w'
    go_simp
    with_reducible rfl
  rotate_left
  · simp only [Act.put, List.setIfInBounds_toArray, List.set_cons_zero, List.set_cons_succ, i64_w, i32_w]
    rfl
  refine take_ (i := 3) (N := some 7) (v := ?_) (a' := ?_) #[true, true, true, true, true, true, true, false, true, true, false, false] rfl rfl (by kernel_rfl) (fun _ _ _ h => h) (Or.inl ⟨by rfl, ?_⟩) hHeld ?_ ?_
  rotate_left
  · rintro w' ⟨s0, s1⟩
    go_simp
    with_reducible rfl
  rotate_left
  · simp only [Act.put, List.setIfInBounds_toArray, List.set_cons_zero, List.set_cons_succ, i64_w, i32_w]
    rfl
  refine take_ (i := 7) (N := some 11) (v := ?_) (a' := ?_) #[true, true, true, true, true, true, true, true, true, true, false, false] rfl rfl (by kernel_rfl) (fun _ _ _ h => h) (Or.inl ⟨by rfl, ?_⟩) hHeld ?_ ?_
  rotate_left
  · rintro w' ⟨s0, s1⟩
    go_simp
    with_reducible rfl
  rotate_left
  · simp only [Act.put, List.setIfInBounds_toArray, List.set_cons_zero, List.set_cons_succ, i64_w, i32_w]
    rfl
  refine pure_ (i := 10) (N := some 14) (v := ?_) (a' := ?_) #[true, true, true, true, true, true, true, true, true, true, true, false] rfl rfl (by kernel_rfl) (fun _ _ _ h => h) (Or.inl ⟨by rfl, ?_⟩) ?_ ?_
  rotate_left
  · intro w'
    go_simp
    with_reducible rfl
  rotate_left
  · simp only [Act.put, List.setIfInBounds_toArray, List.set_cons_zero, List.set_cons_succ, i64_w, i32_w]
    rfl
  refine last_ (i := 11) (N := none) #[true, true, true, true, true, true, true, true, true, true, true, true] rfl rfl (by kernel_rfl) (by decide) (fun K hK => ?_)
  refine skip_ (w1 := ?_) (by rfl) rfl ?_ ?_
  rotate_left
  · go_simp
    rfl
  refine hK.out _ _ ?_
  clear hK K
  refine done_ (by kernel_rfl) ?_
  simp [bodyPost, results, Try.results21, go_sem]
  have hB : Below w.heap.size w w.drew := below_drew1 (Below.refl _ _)
  have hr := own_set (own_set (w := w.drew) HN.out.1.row (i * 2) (by omega) (.string url)) (i * 2 + 1) (by omega) (.int .u64 0)
  rw [enc_set l i ⟨url, 0⟩] at hr
  have hU := (set_upd w.drew r (i * 2) (.string url)).trans (set_upd (w.drew.setCell ⟨r, i * 2, none⟩ (.string url)) r (i * 2 + 1) (.int .u64 0))
  exact ⟨past_rowset (HN.out.1.below hB) HN.out.2 hU (by unfold RowOf; rw [List.length_set]; exact hr), r, rfl, (Upd.of_below (g := r) hB).trans hU⟩
end Go.Proofs.Ytobeebcpkkdkhaa.Pa
