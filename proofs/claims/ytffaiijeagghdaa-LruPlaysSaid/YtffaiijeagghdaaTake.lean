/- Package lru: Take (printed by wip/law18/gen_Take.py out of Take.body). -/
import Derived.Test.YtffaiijeagghdaaLru
set_option linter.unusedVariables false
set_option linter.unusedSimpArgs false
namespace Go.Proofs.Ytffaiijeagghdaa.Lr
open Go.RowKit Go.Proofs.YtffaiijeagghdaaW.PrintWords Go.Proofs.YtffaiijeagghdaaW.PrintLast Go.Proofs.Ytffaiijeagghdaa.Sl

/-- But for the blocks g and the row v what was there is as it was. -/
structure Upd (g : Nat) (v : Value) (w w' : World) : Prop where
  os : w'.os = w.os
  tape : w'.tape = w.tape
  output : w'.output = w.output
  size : w.heap.size ≤ w'.heap.size
  block : ∀ k, k < w.heap.size → k ≠ g → v.ownBlock ≠ some k → w'.heap[k]? = w.heap[k]?
variable {w w' w'' : World} {g : Nat} {room : Int} {v v' v'' : Value} {l l' : List H}
theorem Upd.of_below (h : Below w.heap.size w w') : Upd g v w w' := ⟨h.os, h.tape, h.output, h.size, fun k hk _ _ => h.block k hk⟩
/-- A row that was the call's own, or is a new one. -/
def New (w : World) (v v' : Value) : Prop := ∀ k, v'.ownBlock = some k → v.ownBlock = some k ∨ w.heap.size ≤ k
theorem New.refl (w : World) (v : Value) : New w v v := fun k hk => .inl hk
theorem Upd.trans (h : Upd g v w w') (hn : New w v v') (k : Upd g v' w' w'') : Upd g v w w'' :=
  ⟨k.os.trans h.os, k.tape.trans h.tape, k.output.trans h.output, Nat.le_trans h.size k.size, fun i hi hg hv => (k.block i (by have := h.size; omega) hg (fun e => by rcases hn i e with h1 | h1; exact hv h1; omega)).trans (h.block i hi hg hv)⟩
theorem New.trans (h : New w v v') (hw : w.heap.size ≤ w'.heap.size) (k : New w' v' v'') : New w v v'' := fun i hi => by
  rcases k i hi with h1 | h1
  · exact h i h1
  · exact .inr (by omega)
theorem Upd.below {w0 : World} (h : Upd g v w w') (h0 : Below w0.heap.size w0 w) (hg : w0.heap.size ≤ g) (hv : ∀ k, v.ownBlock = some k → w0.heap.size ≤ k) : Below w0.heap.size w0 w' :=
  ⟨h.os.trans h0.os, h.tape.trans h0.tape, h.output.trans h0.output, Nat.le_trans h0.size h.size, fun k hk => (h.block k (by have := h0.size; omega) (by omega) (fun e => by have := hv k e; omega)).trans (h0.block k hk)⟩
theorem New.vge {w0 : World} (hn : New w v v') (h0 : w0.heap.size ≤ w.heap.size) (hv : ∀ k, v.ownBlock = some k → w0.heap.size ≤ k) : ∀ k, v'.ownBlock = some k → w0.heap.size ≤ k := fun k hk => by
  rcases hn k hk with h | h
  · exact hv k h
  · omega
theorem set_cache {x : Value} (h : w.heap[g]? = some (.cells #[.int .i64 room, x] 45 (0, 0))) (hv' : RowOf w v' l') : CacheAt (w.setCell ⟨g, 1, none⟩ v') g room v' l' := by
  refine ⟨by simp [World.setCell, Array.getElem?_modify, h], Sl.move hv' fun k hk => ?_⟩
  refine Below.heap_setCell _ _ _ _ (fun e => ?_)
  subst e
  obtain ⟨_, cur, hc⟩ := hv'.lt _ hk
  have h : w.heap[k]? = some (.cells #[.int .i64 room, x] 45 (0, 0)) := h
  rw [h] at hc
  injection hc with hc
  injection hc with _ hc
  exact absurd hc (by decide)
theorem Upd.set (h : Upd g v w w') (u : Value) : Upd g v w (w'.setCell ⟨g, 1, none⟩ u) :=
  ⟨h.os, h.tape, h.output, by simpa [World.setCell] using h.size, fun k hk hg hv => (Below.heap_setCell _ _ _ _ hg).trans (h.block k hk hg hv)⟩
theorem row_take {c q o : Nat} (h : RowOf w (.slice (some ⟨q, o, none⟩) l.length c) l) {k : Nat} (hk : k ≤ l.length) : RowOf w (.slice (some ⟨q, o, none⟩) k c) (l.take k) := by
  unfold RowOf
  rw [List.length_take, Nat.min_eq_left hk, enc_take]
  exact Sl.take h k hk
theorem row_drop {c q o : Nat} (h : RowOf w (.slice (some ⟨q, o, none⟩) l.length c) l) {k : Nat} (hk : k ≤ l.length) : RowOf w (.slice (some ⟨q, (if c = k then o else o + k * 2), none⟩) (l.length - k) (c - k)) (l.drop k) := by
  unfold RowOf
  rw [List.length_drop, enc_drop]
  exact Sl.drop h k hk
theorem exec_append {P : Program} {o : Oper} {a : Act} {w w1 : World} {v : Value} (s x : Operand) (t : TypeId) (ho : o.op = .call { callee := .builtin .append, args := #[s, x], argTypes := #[t, t] }) (vs vx : Value) (hs : a.eval s = vs) (hx : a.eval x = vx) (hr : (Builtin.append_ #[t, t] o.type #[vs, vx]).run P w = .ok v w1) : (execOp a.eval o).run P w = .ok (.value v) w1 := by
  unfold execOp
  simp only [ho, resolve, invoke, builtin, Sem.run_bind, Sem.run_pure, Result.andThen_ok, List.map_toArray, List.map_cons, List.map_nil, hs, hx, hr]
theorem row_cells {n c q o : Nat} (h : RowOf w (.slice (some ⟨q, o, none⟩) n c) l) (hn : n = l.length) : ∀ j u, (enc l)[j]? = some u → w.cell? ((⟨q, o, none⟩ : Addr).add j) = some u := fun j u hu => by
  subst hn
  have h1 := Sl.cell h j u hu
  rwa [show (⟨q, o, none⟩ : Addr).add j = ⟨q, o + j, none⟩ from by unfold Addr.add; split <;> simp_all]
def takeV (o : Option Int) : Value := hasV o
set_option maxHeartbeats 1000000 in
theorem Take_no (g : Nat) (room : Int) (v : Value) (l : List H) (s : ByteArray) (w : World) (h : CacheAt w g room v l) (hl : l.length ≤ 1000) (hn : has l s = none) : Calls Try.prog 9 #[.pointer (some ⟨g, 0, none⟩), .string s] w fun en w' => en = .returned (.tuple #[.int .i64 0, .bool false]) ∧ Below w.heap.size w w' := by
  have HC := Lib.hid h
  have HN := Lib.hid hn
  clear h hn
  go_enter Try.func9, Try.ntmps9
  go_wp2_with fail
  have hc := Has_any g room v l s w HC.out (by omega)
  rw [HN.out] at hc
  refine hc.mono ?_
  rintro e w2 ⟨rfl, hB2⟩
  have HB := Lib.hid hB2
  clear hc hB2
  unfold hasV
  go_wp2_with fail
  go_ret2
  exact ⟨rfl, HB.out⟩
set_option maxHeartbeats 1000000 in
set_option maxRecDepth 100000 in
theorem Take_yes (g : Nat) (room : Int) (v : Value) (l : List H) (s : ByteArray) (i : Nat) (hi : i < l.length) (w : World) (h : CacheAt w g room v l) (hl : l.length ≤ 1000) (hix : idx l s = (i : Int)) : Calls Try.prog 9 #[.pointer (some ⟨g, 0, none⟩), .string s] w fun en w' => en = .returned (.tuple #[.int .i64 l[i].2, .bool true]) ∧ ∃ v', CacheAt w' g room v' (l.take i ++ l.drop (i + 1)) ∧ Upd g v w w' ∧ New w v v' := by
  obtain ⟨q, o, c, rfl, hc⟩ := h.row.form1 (by omega)
  have HC := Lib.hid h
  have HN := Lib.hid (has_some hi hix)
  have HX := Lib.hid hix
  clear h hix
  go_enter Try.func9, Try.ntmps9
  go_wp2_with fail
  have hc1 := Has_any g room _ l s w HC.out (by omega)
  rw [HN.out] at hc1
  refine hc1.mono ?_
  rintro e w2 ⟨rfl, hB2⟩
  have HB := Lib.hid hB2
  have HC2 := Lib.hid (HC.out.below hB2)
  clear hc1 hB2
  unfold hasV
  go_wp2_with fail
  have hc2 := at_any g room _ l s w2 HC2.out (by omega)
  rw [HX.out] at hc2
  refine hc2.mono ?_
  rintro e w3 ⟨rfl, hB3⟩
  have HC3 := Lib.hid (HC2.out.below hB3)
  have HB3 := Lib.hid (HB.out.trans (hB3.mono HB.out.size))
  clear hc2 hB3 HB HC2
  have q0 : (0 : Int) ≤ (i : Int) := by omega
  have q1 : (i : Int) < (l.length : Int) := by omega
  have q2 : (l.length : Int) ≤ (c : Int) := by omega
  have q3 : (l.length : Int) ≤ 1000 := by omega
  have hw1 : wrap64 ((i : Int) + 1) = (i : Int) + 1 := by unfold wrap64; omega
  have q4 : (i : Int) ≤ (c : Int) := by omega
  have q5 : (0 : Int) ≤ (i : Int) + 1 := by omega
  have q6 : (i : Int) + 1 ≤ (l.length : Int) := by omega
  go_wp2_with fail
  have S0 : w3.drew.cell? ⟨g, 1, none⟩ = some (.slice (some ⟨q, o, none⟩) l.length c) := HC3.out.c1
  have HZ : Hid (CacheAt w3.drew g room (.slice (some ⟨q, o, none⟩) l.length c) l ∧ Below w.heap.size w w3.drew) := Lib.hid ⟨HC3.out.below (below_drew1 (Below.refl _ _)), below_drew1 HB3.out⟩
  have HT : Hid (RowOf w3.drew (.slice (some ⟨q, o, none⟩) i c) (l.take i)) := Lib.hid (row_take HZ.out.1.row (by omega))
  clear HC3 HB3
  obtain ⟨nL, hnL⟩ : ∃ nL, (l.take i ++ l.drop (i + 1)).length = nL := ⟨_, rfl⟩
  have HNL := Lib.hid hnL
  clear hnL
  by_cases hci : c = i + 1
  · subst hci
    have q7 : (i : Int) ≤ (i : Int) + 1 := by omega
    clear q4
    refine start_ (n := 19) (S := fun w' => w'.cell? ⟨g, 1, none⟩ = some (.slice (some ⟨q, o, none⟩) l.length (i + 1))) (ds := [15, 18]) #[false, false, false, false, false, false, false, false, false, false, false, false, false, false, false, false, false, false, false] (by kernel_rfl) rfl rfl (S0) (fun hHeld => ?_)
    clear S0
    generalize w3.drew = w4 at hHeld HZ HT ⊢
    refine pure_ (i := 0) (N := some 19) (v := ?_) (a' := ?_) #[true, false, false, false, false, false, false, false, false, false, false, false, false, false, false, false, false, false, false] rfl rfl (by kernel_rfl) (fun _ _ _ h => h) (Or.inl ⟨by rfl, ?_⟩) ?_ ?_
    rotate_left
    · intro w'
      go_simp
      with_reducible rfl
    rotate_left
    · simp only [Act.put, List.setIfInBounds_toArray, List.set_cons_zero, List.set_cons_succ, i64_w, i32_w]
      rfl
    refine pure_ (i := 1) (N := some 20) (v := ?_) (a' := ?_) #[true, true, false, false, false, false, false, false, false, false, false, false, false, false, false, false, false, false, false] rfl rfl (by kernel_rfl) (fun _ _ _ h => h) (Or.inl ⟨by rfl, ?_⟩) ?_ ?_
    rotate_left
    · intro w'
      go_simp
      with_reducible rfl
    rotate_left
    · simp only [Act.put, List.setIfInBounds_toArray, List.set_cons_zero, List.set_cons_succ, i64_w, i32_w]
      rfl
    refine pure_ (i := 2) (N := some 21) (v := ?_) (a' := ?_) #[true, true, true, false, false, false, false, false, false, false, false, false, false, false, false, false, false, false, false] rfl rfl (by kernel_rfl) (fun _ _ _ h => h) (Or.inl ⟨by rfl, ?_⟩) ?_ ?_
    rotate_left
    · intro w'
      go_simp
      with_reducible rfl
    rotate_left
    · simp only [Act.put, List.setIfInBounds_toArray, List.set_cons_zero, List.set_cons_succ, i64_w, i32_w]
      rfl
    refine pure_ (i := 3) (N := some 22) (v := ?_) (a' := ?_) #[true, true, true, true, false, false, false, false, false, false, false, false, false, false, false, false, false, false, false] rfl rfl (by kernel_rfl) (fun _ _ _ h => h) (Or.inl ⟨by rfl, ?_⟩) ?_ ?_
    rotate_left
    · intro w'
      go_simp
      with_reducible rfl
    rotate_left
    · simp only [Act.put, List.setIfInBounds_toArray, List.set_cons_zero, List.set_cons_succ, i64_w, i32_w]
      rfl
    refine pure_ (i := 5) (N := some 24) (v := ?_) (a' := ?_) #[true, true, true, true, false, true, false, false, false, false, false, false, false, false, false, false, false, false, false] rfl rfl (by kernel_rfl) (fun _ _ _ h => h) (Or.inl ⟨by rfl, ?_⟩) ?_ ?_
    rotate_left
    · intro w'
      go_simp
      with_reducible rfl
    rotate_left
    · simp only [Act.put, List.setIfInBounds_toArray, List.set_cons_zero, List.set_cons_succ, i64_w, i32_w]
      rfl
    refine pure_ (i := 8) (N := some 27) (v := ?_) (a' := ?_) #[true, true, true, true, false, true, false, false, true, false, false, false, false, false, false, false, false, false, false] rfl rfl (by kernel_rfl) (fun _ _ _ h => h) (Or.inl ⟨by rfl, ?_⟩) ?_ ?_
    rotate_left
    · intro w'
      go_simp
      with_reducible rfl
    rotate_left
    · simp only [Act.put, List.setIfInBounds_toArray, List.set_cons_zero, List.set_cons_succ, i64_w, i32_w]
      rfl
    refine pure_ (i := 9) (N := some 28) (v := ?_) (a' := ?_) #[true, true, true, true, false, true, false, false, true, true, false, false, false, false, false, false, false, false, false] rfl rfl (by kernel_rfl) (fun _ _ _ h => h) (Or.inl ⟨by rfl, ?_⟩) ?_ ?_
    rotate_left
    · intro w'
      go_simp
      with_reducible rfl
    rotate_left
    · simp only [Act.put, List.setIfInBounds_toArray, List.set_cons_zero, List.set_cons_succ, i64_w, i32_w]
      rfl
    refine pure_ (i := 10) (N := some 29) (v := ?_) (a' := ?_) #[true, true, true, true, false, true, false, false, true, true, true, false, false, false, false, false, false, false, false] rfl rfl (by kernel_rfl) (fun _ _ _ h => h) (Or.inl ⟨by rfl, ?_⟩) ?_ ?_
    rotate_left
    · intro w'
      go_simp
      with_reducible rfl
    rotate_left
    · simp only [Act.put, List.setIfInBounds_toArray, List.set_cons_zero, List.set_cons_succ, i64_w, i32_w]
      rfl
    refine pure_ (i := 12) (N := some 31) (v := ?_) (a' := ?_) #[true, true, true, true, false, true, false, false, true, true, true, false, true, false, false, false, false, false, false] rfl rfl (by kernel_rfl) (fun _ _ _ h => h) (Or.inl ⟨by rfl, ?_⟩) ?_ ?_
    rotate_left
    · intro w'
      go_simp
      with_reducible rfl
    rotate_left
    · simp only [Act.put, List.setIfInBounds_toArray, List.set_cons_zero, List.set_cons_succ, i64_w, i32_w]
      rfl
    refine pure_ (i := 13) (N := some 32) (v := ?_) (a' := ?_) #[true, true, true, true, false, true, false, false, true, true, true, false, true, true, false, false, false, false, false] rfl rfl (by kernel_rfl) (fun _ _ _ h => h) (Or.inl ⟨by rfl, ?_⟩) ?_ ?_
    rotate_left
    · intro w'
      go_simp
      with_reducible rfl
    rotate_left
    · simp only [Act.put, List.setIfInBounds_toArray, List.set_cons_zero, List.set_cons_succ, i64_w, i32_w]
      rfl
    refine take_ (i := 4) (N := some 23) (v := ?_) (a' := ?_) #[true, true, true, true, true, true, false, false, true, true, true, false, true, true, false, false, false, false, false] rfl rfl (by kernel_rfl) (fun _ _ _ h => h) (Or.inl ⟨by rfl, ?_⟩) hHeld ?_ ?_
    rotate_left
    · intro w' s0
      go_simp
      with_reducible rfl
    rotate_left
    · simp only [Act.put, List.setIfInBounds_toArray, List.set_cons_zero, List.set_cons_succ, i64_w, i32_w]
      rfl
    refine pure_ (i := 6) (N := some 25) (v := ?_) (a' := ?_) #[true, true, true, true, true, true, true, false, true, true, true, false, true, true, false, false, false, false, false] rfl rfl (by kernel_rfl) (fun _ _ _ h => h) (Or.inl ⟨by rfl, ?_⟩) ?_ ?_
    rotate_left
    · intro w'
      go_simp
      with_reducible rfl
    rotate_left
    · simp only [Act.put, List.setIfInBounds_toArray, List.set_cons_zero, List.set_cons_succ, i64_w, i32_w]
      rfl
    refine take_ (i := 11) (N := some 30) (v := ?_) (a' := ?_) #[true, true, true, true, true, true, true, false, true, true, true, true, true, true, false, false, false, false, false] rfl rfl (by kernel_rfl) (fun _ _ _ h => h) (Or.inl ⟨by rfl, ?_⟩) hHeld ?_ ?_
    rotate_left
    · intro w' s0
      go_simp
      with_reducible rfl
    rotate_left
    · simp only [Act.put, List.setIfInBounds_toArray, List.set_cons_zero, List.set_cons_succ, i64_w, i32_w]
      rfl
    refine pure_ (i := 14) (N := some 33) (v := ?_) (a' := ?_) #[true, true, true, true, true, true, true, false, true, true, true, true, true, true, true, false, false, false, false] rfl rfl (by kernel_rfl) (fun _ _ _ h => h) (Or.inl ⟨by rfl, ?_⟩) ?_ ?_
    rotate_left
    · intro w'
      go_simp
      with_reducible rfl
    rotate_left
    · simp only [Act.put, List.setIfInBounds_toArray, List.set_cons_zero, List.set_cons_succ, i64_w, i32_w]
      rfl
    refine one_ (i := 7) (N := some 26) #[true, true, true, true, true, true, true, true, true, true, true, true, true, true, true, false, false, false, false] rfl rfl (by kernel_rfl) (by decide) (fun K hK => ?_)
    refine goes_ Try.func18 (by kernel_rfl) rfl #[.slice (some ⟨q, o, none⟩) i (i + 1)] (by rfl) rfl rfl (by simp only [List.map_toArray, List.map_cons, List.map_nil]; rfl) ?_
    with_reducible refine (Clone_any _ (l.take i) _ HT.out (by rw [List.length_take]; omega)).mono ?_
    rintro en w5 ⟨v2, rfl, h5, hB5, hf5⟩
    refine ⟨_, rfl, ?_⟩
    refine hK.out _ _ ((hB5.cell (lt_of_cell hHeld)).trans hHeld) (fun hHeld => ?_)
    clear hK K
    refine norm_ (a' := ?_) ?_ ?_
    rotate_left
    · show Act.put _ (some 26) _ = _
      simp only [Act.put, List.setIfInBounds_toArray, List.set_cons_zero, List.set_cons_succ, i64_w, i32_w]
      rfl
    refine last_ (i := 15) (N := some 34) #[true, true, true, true, true, true, true, true, true, true, true, true, true, true, true, true, false, false, false] rfl rfl (by kernel_rfl) (by decide) (fun K hK => ?_)
    have hd := row_drop (HZ.out.1.row.below hB5) (k := i + 1) (by omega)
    rw [if_pos rfl] at hd
    obtain ⟨v3, w6, hrun, h6, hg6, hn6, hf6⟩ := run_append_held w5 v2 (l.take i) (l.drop (i + 1)) _ ((i + 1) - (i + 1)) 43 h5 (row_cells hd (by rw [List.length_drop])) (by rw [List.length_take, List.length_drop]; omega)
    rw [List.length_drop, show l.length - (i + 1) = 0 by omega, Nat.sub_self] at hrun
    refine value_ (w1 := w6) (v := v3) (by rfl) rfl ?_ ?_
    · exact exec_append (.tmp 26) (.tmp 33) 43 rfl _ _ rfl rfl hrun
    refine hK.out _ _ ?_
    clear hK K
    refine norm_ (a' := ?_) ?_ ?_
    rotate_left
    · show Act.put _ (some 34) _ = _
      simp only [Act.put, List.setIfInBounds_toArray, List.set_cons_zero, List.set_cons_succ, i64_w, i32_w]
      rfl
    refine pure_ (i := 16) (N := some 35) (v := ?_) (a' := ?_) #[true, true, true, true, true, true, true, true, true, true, true, true, true, true, true, true, true, false, false] rfl rfl (by kernel_rfl) (fun _ _ _ h => h) (Or.inl ⟨by rfl, ?_⟩) ?_ ?_
    rotate_left
    · intro w'
      go_simp
      with_reducible rfl
    rotate_left
    · simp only [Act.put, List.setIfInBounds_toArray, List.set_cons_zero, List.set_cons_succ, i64_w, i32_w]
      rfl
    refine pure_ (i := 17) (N := some 36) (v := ?_) (a' := ?_) #[true, true, true, true, true, true, true, true, true, true, true, true, true, true, true, true, true, true, false] rfl rfl (by kernel_rfl) (fun _ _ _ h => h) (Or.inl ⟨by rfl, ?_⟩) ?_ ?_
    rotate_left
    · intro w'
      go_simp
      with_reducible rfl
    rotate_left
    · simp only [Act.put, List.setIfInBounds_toArray, List.set_cons_zero, List.set_cons_succ, i64_w, i32_w]
      rfl
    refine last_ (i := 18) (N := none) #[true, true, true, true, true, true, true, true, true, true, true, true, true, true, true, true, true, true, true] rfl rfl (by kernel_rfl) (by decide) (fun K hK => ?_)
    have hne : some g ≠ v2.ownBlock := fun e => by have := hf5 g e.symm; have := HZ.out.1.lt; omega
    have ho6 := (hg6.block g (Nat.lt_of_lt_of_le HZ.out.1.lt hB5.size) hne).trans ((hB5.block g HZ.out.1.lt).trans HZ.out.1.obj)
    have k4 : w6.cell? ⟨g, 1, none⟩ = some (.slice (some ⟨q, o, none⟩) l.length (i + 1)) := by simp [World.cell?, ho6]
    have z4 : w6.frozen? ⟨g, 1, none⟩ = false := by simp [World.frozen?, ho6]
    obtain ⟨A3, c3, e3, _⟩ := Sl.form h6
    rw [HNL.out] at e3
    subst e3
    refine skip_ (w1 := ?_) (by rfl) rfl ?_ ?_
    rotate_left
    · go_simp
      rfl
    refine hK.out _ _ ?_
    clear hK K
    refine done_ (by kernel_rfl) ?_
    go_wp2_with fail
    go_ret2
    have hge : ∀ k, (Value.slice A3 nL c3).ownBlock = some k → w4.heap.size ≤ k := fun k hk => by
      rcases hn6 with h7 | h7
      · rw [h7] at hk
        exact hf5 k hk
      · rw [h7] at hk
        have := hB5.size
        cases hk
        exact this
    have hz := HZ.out.2.size
    refine ⟨rfl, .slice A3 nL c3, set_cache ho6 h6, (Upd.of_below (below_grown (HZ.out.2.trans (hB5.mono hz)) hg6 (fun k hk => by have := hf5 k hk; omega) (by have := hB5.size; omega))).set _, fun k hk => .inr (by have := hge k hk; omega)⟩
  · have hci' : ((c : Int) == (i : Int) + 1) = false := by simp; omega
    refine start_ (n := 19) (S := fun w' => w'.cell? ⟨g, 1, none⟩ = some (.slice (some ⟨q, o, none⟩) l.length c)) (ds := [15, 18]) #[false, false, false, false, false, false, false, false, false, false, false, false, false, false, false, false, false, false, false] (by kernel_rfl) rfl rfl (S0) (fun hHeld => ?_)
    clear S0
    generalize w3.drew = w4 at hHeld HZ HT ⊢
    refine pure_ (i := 0) (N := some 19) (v := ?_) (a' := ?_) #[true, false, false, false, false, false, false, false, false, false, false, false, false, false, false, false, false, false, false] rfl rfl (by kernel_rfl) (fun _ _ _ h => h) (Or.inl ⟨by rfl, ?_⟩) ?_ ?_
    rotate_left
    · intro w'
      go_simp
      with_reducible rfl
    rotate_left
    · simp only [Act.put, List.setIfInBounds_toArray, List.set_cons_zero, List.set_cons_succ, i64_w, i32_w]
      rfl
    refine pure_ (i := 1) (N := some 20) (v := ?_) (a' := ?_) #[true, true, false, false, false, false, false, false, false, false, false, false, false, false, false, false, false, false, false] rfl rfl (by kernel_rfl) (fun _ _ _ h => h) (Or.inl ⟨by rfl, ?_⟩) ?_ ?_
    rotate_left
    · intro w'
      go_simp
      with_reducible rfl
    rotate_left
    · simp only [Act.put, List.setIfInBounds_toArray, List.set_cons_zero, List.set_cons_succ, i64_w, i32_w]
      rfl
    refine pure_ (i := 2) (N := some 21) (v := ?_) (a' := ?_) #[true, true, true, false, false, false, false, false, false, false, false, false, false, false, false, false, false, false, false] rfl rfl (by kernel_rfl) (fun _ _ _ h => h) (Or.inl ⟨by rfl, ?_⟩) ?_ ?_
    rotate_left
    · intro w'
      go_simp
      with_reducible rfl
    rotate_left
    · simp only [Act.put, List.setIfInBounds_toArray, List.set_cons_zero, List.set_cons_succ, i64_w, i32_w]
      rfl
    refine pure_ (i := 3) (N := some 22) (v := ?_) (a' := ?_) #[true, true, true, true, false, false, false, false, false, false, false, false, false, false, false, false, false, false, false] rfl rfl (by kernel_rfl) (fun _ _ _ h => h) (Or.inl ⟨by rfl, ?_⟩) ?_ ?_
    rotate_left
    · intro w'
      go_simp
      with_reducible rfl
    rotate_left
    · simp only [Act.put, List.setIfInBounds_toArray, List.set_cons_zero, List.set_cons_succ, i64_w, i32_w]
      rfl
    refine pure_ (i := 5) (N := some 24) (v := ?_) (a' := ?_) #[true, true, true, true, false, true, false, false, false, false, false, false, false, false, false, false, false, false, false] rfl rfl (by kernel_rfl) (fun _ _ _ h => h) (Or.inl ⟨by rfl, ?_⟩) ?_ ?_
    rotate_left
    · intro w'
      go_simp
      with_reducible rfl
    rotate_left
    · simp only [Act.put, List.setIfInBounds_toArray, List.set_cons_zero, List.set_cons_succ, i64_w, i32_w]
      rfl
    refine pure_ (i := 8) (N := some 27) (v := ?_) (a' := ?_) #[true, true, true, true, false, true, false, false, true, false, false, false, false, false, false, false, false, false, false] rfl rfl (by kernel_rfl) (fun _ _ _ h => h) (Or.inl ⟨by rfl, ?_⟩) ?_ ?_
    rotate_left
    · intro w'
      go_simp
      with_reducible rfl
    rotate_left
    · simp only [Act.put, List.setIfInBounds_toArray, List.set_cons_zero, List.set_cons_succ, i64_w, i32_w]
      rfl
    refine pure_ (i := 9) (N := some 28) (v := ?_) (a' := ?_) #[true, true, true, true, false, true, false, false, true, true, false, false, false, false, false, false, false, false, false] rfl rfl (by kernel_rfl) (fun _ _ _ h => h) (Or.inl ⟨by rfl, ?_⟩) ?_ ?_
    rotate_left
    · intro w'
      go_simp
      with_reducible rfl
    rotate_left
    · simp only [Act.put, List.setIfInBounds_toArray, List.set_cons_zero, List.set_cons_succ, i64_w, i32_w]
      rfl
    refine pure_ (i := 10) (N := some 29) (v := ?_) (a' := ?_) #[true, true, true, true, false, true, false, false, true, true, true, false, false, false, false, false, false, false, false] rfl rfl (by kernel_rfl) (fun _ _ _ h => h) (Or.inl ⟨by rfl, ?_⟩) ?_ ?_
    rotate_left
    · intro w'
      go_simp
      with_reducible rfl
    rotate_left
    · simp only [Act.put, List.setIfInBounds_toArray, List.set_cons_zero, List.set_cons_succ, i64_w, i32_w]
      rfl
    refine pure_ (i := 12) (N := some 31) (v := ?_) (a' := ?_) #[true, true, true, true, false, true, false, false, true, true, true, false, true, false, false, false, false, false, false] rfl rfl (by kernel_rfl) (fun _ _ _ h => h) (Or.inl ⟨by rfl, ?_⟩) ?_ ?_
    rotate_left
    · intro w'
      go_simp
      with_reducible rfl
    rotate_left
    · simp only [Act.put, List.setIfInBounds_toArray, List.set_cons_zero, List.set_cons_succ, i64_w, i32_w]
      rfl
    refine pure_ (i := 13) (N := some 32) (v := ?_) (a' := ?_) #[true, true, true, true, false, true, false, false, true, true, true, false, true, true, false, false, false, false, false] rfl rfl (by kernel_rfl) (fun _ _ _ h => h) (Or.inl ⟨by rfl, ?_⟩) ?_ ?_
    rotate_left
    · intro w'
      go_simp
      with_reducible rfl
    rotate_left
    · simp only [Act.put, List.setIfInBounds_toArray, List.set_cons_zero, List.set_cons_succ, i64_w, i32_w]
      rfl
    refine take_ (i := 4) (N := some 23) (v := ?_) (a' := ?_) #[true, true, true, true, true, true, false, false, true, true, true, false, true, true, false, false, false, false, false] rfl rfl (by kernel_rfl) (fun _ _ _ h => h) (Or.inl ⟨by rfl, ?_⟩) hHeld ?_ ?_
    rotate_left
    · intro w' s0
      go_simp
      with_reducible rfl
    rotate_left
    · simp only [Act.put, List.setIfInBounds_toArray, List.set_cons_zero, List.set_cons_succ, i64_w, i32_w]
      rfl
    refine pure_ (i := 6) (N := some 25) (v := ?_) (a' := ?_) #[true, true, true, true, true, true, true, false, true, true, true, false, true, true, false, false, false, false, false] rfl rfl (by kernel_rfl) (fun _ _ _ h => h) (Or.inl ⟨by rfl, ?_⟩) ?_ ?_
    rotate_left
    · intro w'
      go_simp
      with_reducible rfl
    rotate_left
    · simp only [Act.put, List.setIfInBounds_toArray, List.set_cons_zero, List.set_cons_succ, i64_w, i32_w]
      rfl
    refine take_ (i := 11) (N := some 30) (v := ?_) (a' := ?_) #[true, true, true, true, true, true, true, false, true, true, true, true, true, true, false, false, false, false, false] rfl rfl (by kernel_rfl) (fun _ _ _ h => h) (Or.inl ⟨by rfl, ?_⟩) hHeld ?_ ?_
    rotate_left
    · intro w' s0
      go_simp
      with_reducible rfl
    rotate_left
    · simp only [Act.put, List.setIfInBounds_toArray, List.set_cons_zero, List.set_cons_succ, i64_w, i32_w]
      rfl
    refine pure_ (i := 14) (N := some 33) (v := ?_) (a' := ?_) #[true, true, true, true, true, true, true, false, true, true, true, true, true, true, true, false, false, false, false] rfl rfl (by kernel_rfl) (fun _ _ _ h => h) (Or.inl ⟨by rfl, ?_⟩) ?_ ?_
    rotate_left
    · intro w'
      go_simp
      with_reducible rfl
    rotate_left
    · simp only [Act.put, List.setIfInBounds_toArray, List.set_cons_zero, List.set_cons_succ, i64_w, i32_w]
      rfl
    refine one_ (i := 7) (N := some 26) #[true, true, true, true, true, true, true, true, true, true, true, true, true, true, true, false, false, false, false] rfl rfl (by kernel_rfl) (by decide) (fun K hK => ?_)
    refine goes_ Try.func18 (by kernel_rfl) rfl #[.slice (some ⟨q, o, none⟩) i c] (by rfl) rfl rfl (by simp only [List.map_toArray, List.map_cons, List.map_nil]; rfl) ?_
    with_reducible refine (Clone_any _ (l.take i) _ HT.out (by rw [List.length_take]; omega)).mono ?_
    rintro en w5 ⟨v2, rfl, h5, hB5, hf5⟩
    refine ⟨_, rfl, ?_⟩
    refine hK.out _ _ ((hB5.cell (lt_of_cell hHeld)).trans hHeld) (fun hHeld => ?_)
    clear hK K
    refine norm_ (a' := ?_) ?_ ?_
    rotate_left
    · show Act.put _ (some 26) _ = _
      simp only [Act.put, List.setIfInBounds_toArray, List.set_cons_zero, List.set_cons_succ, i64_w, i32_w]
      rfl
    refine last_ (i := 15) (N := some 34) #[true, true, true, true, true, true, true, true, true, true, true, true, true, true, true, true, false, false, false] rfl rfl (by kernel_rfl) (by decide) (fun K hK => ?_)
    have hd := row_drop (HZ.out.1.row.below hB5) (k := i + 1) (by omega)
    rw [if_neg hci] at hd
    obtain ⟨v3, w6, hrun, h6, hg6, hn6, hf6⟩ := run_append_held w5 v2 (l.take i) (l.drop (i + 1)) _ (c - (i + 1)) 43 h5 (row_cells hd (by rw [List.length_drop])) (by rw [List.length_take, List.length_drop]; omega)
    rw [List.length_drop] at hrun
    refine value_ (w1 := w6) (v := v3) (by rfl) rfl ?_ ?_
    · exact exec_append (.tmp 26) (.tmp 33) 43 rfl _ _ rfl rfl hrun
    refine hK.out _ _ ?_
    clear hK K
    refine norm_ (a' := ?_) ?_ ?_
    rotate_left
    · show Act.put _ (some 34) _ = _
      simp only [Act.put, List.setIfInBounds_toArray, List.set_cons_zero, List.set_cons_succ, i64_w, i32_w]
      rfl
    refine pure_ (i := 16) (N := some 35) (v := ?_) (a' := ?_) #[true, true, true, true, true, true, true, true, true, true, true, true, true, true, true, true, true, false, false] rfl rfl (by kernel_rfl) (fun _ _ _ h => h) (Or.inl ⟨by rfl, ?_⟩) ?_ ?_
    rotate_left
    · intro w'
      go_simp
      with_reducible rfl
    rotate_left
    · simp only [Act.put, List.setIfInBounds_toArray, List.set_cons_zero, List.set_cons_succ, i64_w, i32_w]
      rfl
    refine pure_ (i := 17) (N := some 36) (v := ?_) (a' := ?_) #[true, true, true, true, true, true, true, true, true, true, true, true, true, true, true, true, true, true, false] rfl rfl (by kernel_rfl) (fun _ _ _ h => h) (Or.inl ⟨by rfl, ?_⟩) ?_ ?_
    rotate_left
    · intro w'
      go_simp
      with_reducible rfl
    rotate_left
    · simp only [Act.put, List.setIfInBounds_toArray, List.set_cons_zero, List.set_cons_succ, i64_w, i32_w]
      rfl
    refine last_ (i := 18) (N := none) #[true, true, true, true, true, true, true, true, true, true, true, true, true, true, true, true, true, true, true] rfl rfl (by kernel_rfl) (by decide) (fun K hK => ?_)
    have hne : some g ≠ v2.ownBlock := fun e => by have := hf5 g e.symm; have := HZ.out.1.lt; omega
    have ho6 := (hg6.block g (Nat.lt_of_lt_of_le HZ.out.1.lt hB5.size) hne).trans ((hB5.block g HZ.out.1.lt).trans HZ.out.1.obj)
    have k4 : w6.cell? ⟨g, 1, none⟩ = some (.slice (some ⟨q, o, none⟩) l.length c) := by simp [World.cell?, ho6]
    have z4 : w6.frozen? ⟨g, 1, none⟩ = false := by simp [World.frozen?, ho6]
    obtain ⟨A3, c3, e3, _⟩ := Sl.form h6
    rw [HNL.out] at e3
    subst e3
    refine skip_ (w1 := ?_) (by rfl) rfl ?_ ?_
    rotate_left
    · go_simp
      rfl
    refine hK.out _ _ ?_
    clear hK K
    refine done_ (by kernel_rfl) ?_
    go_wp2_with fail
    go_ret2
    have hge : ∀ k, (Value.slice A3 nL c3).ownBlock = some k → w4.heap.size ≤ k := fun k hk => by
      rcases hn6 with h7 | h7
      · rw [h7] at hk
        exact hf5 k hk
      · rw [h7] at hk
        have := hB5.size
        cases hk
        exact this
    have hz := HZ.out.2.size
    refine ⟨rfl, .slice A3 nL c3, set_cache ho6 h6, (Upd.of_below (below_grown (HZ.out.2.trans (hB5.mono hz)) hg6 (fun k hk => by have := hf5 k hk; omega) (by have := hB5.size; omega))).set _, fun k hk => .inr (by have := hge k hk; omega)⟩
end Go.Proofs.Ytffaiijeagghdaa.Lr
