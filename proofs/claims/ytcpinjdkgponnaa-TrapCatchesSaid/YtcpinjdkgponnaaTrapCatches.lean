/- TrapCatches: the walk (printed by wip/law2/gen_TrapCatches.py out of TrapCatches.body). -/
import Derived.Test.YtcpinjdkgponnaaTrapCatches2
import Derived.Test.YtcpinjdkgponnaaTrapRuns
set_option linter.unusedVariables false
set_option linter.unusedSimpArgs false
namespace Go.Proofs.Ytcpinjdkgponnaa.Trap
open Go.RowKit Go.Proofs.YtcpinjdkgponnaaW.PrintWords Go.Proofs.YtcpinjdkgponnaaW.PrintLast Go.Proofs.YtcpinjdkgponnaaW.PrintMore Go.Proofs.Ytcpinjdkgponnaa.PTrapCatches
attribute [local go_sem] max2_int min2_int max_two min_two

theorem push2_a (h : Array Obj) (X Y : Obj) : ((h.push X).push Y)[h.size]? = some X := by simp [Array.getElem?_push]
theorem push2_b (h : Array Obj) (X Y : Obj) : ((h.push X).push Y)[h.size + 1]? = some Y := by rw [Array.getElem?_push]; simp
theorem push2_size (h : Array Obj) (X Y : Obj) : h.size + 2 ≤ ((h.push X).push Y).size := by simp
theorem push2_le (h : Array Obj) (X Y : Obj) : h.size ≤ ((h.push X).push Y).size := by simp; omega
theorem push2_old (h : Array Obj) (X Y : Obj) : ∀ k, k < h.size → ((h.push X).push Y)[k]? = h[k]? := fun k hk => by
  rw [Array.getElem?_push_lt (by simp; omega), Array.getElem_push_lt hk, Array.getElem?_eq_getElem hk]
theorem two_vars {w : World} {be bn : Nat} {t u : TypeId} {E : Int} {N : ByteArray} (h1 : w.heap[be]? = some (.cells #[.int .i64 0] t (0, 0))) (h2 : w.heap[bn]? = some (.cells #[.string ⟨#[]⟩] u (0, 0))) (hne : be ≠ bn) :
    w.cell? ⟨be, 0, none⟩ = some (.int .i64 0) ∧ w.frozen? ⟨be, 0, none⟩ = false ∧ (w.setCell ⟨be, 0, none⟩ (.int .i64 E)).cell? ⟨bn, 0, none⟩ = some (.string ⟨#[]⟩) ∧ (w.setCell ⟨be, 0, none⟩ (.int .i64 E)).frozen? ⟨bn, 0, none⟩ = false ∧
    ((w.setCell ⟨be, 0, none⟩ (.int .i64 E)).setCell ⟨bn, 0, none⟩ (.string N)).cell? ⟨be, 0, none⟩ = some (.int .i64 E) ∧ ((w.setCell ⟨be, 0, none⟩ (.int .i64 E)).setCell ⟨bn, 0, none⟩ (.string N)).cell? ⟨bn, 0, none⟩ = some (.string N) := by
  have e1 := setCell_box w be (.int .i64 0) (.int .i64 E) t h1
  have e2 : (w.setCell ⟨be, 0, none⟩ (.int .i64 E)).heap[bn]? = some (.cells #[.string ⟨#[]⟩] u (0, 0)) := (Below.heap_setCell _ _ _ _ (Ne.symm hne)).trans h2
  have e3 := setCell_box _ bn (.string ⟨#[]⟩) (.string N) u e2
  have e4 : ((w.setCell ⟨be, 0, none⟩ (.int .i64 E)).setCell ⟨bn, 0, none⟩ (.string N)).heap[be]? = some (.cells #[.int .i64 E] t (0, 0)) := (Below.heap_setCell _ _ _ _ hne).trans e1
  refine ⟨by simp [World.cell?, h1], by simp [World.frozen?, h1], by simp [World.cell?, e2], by simp [World.frozen?, e2], by simp [World.cell?, e4], by simp [World.cell?, e3]⟩

set_option maxHeartbeats 2000000 in
set_option maxRecDepth 100000 in
theorem TrapCatches_any (err : Int) (s : ByteArray) (p deep : Int) (w : World) :
    Calls Try.prog 4 #[.int .i64 err, .string s, .int .i64 p, .int .i64 deep] w fun en w' => en = .returned (.bool true) ∧ Below w.heap.size w w' := by
  obtain ⟨E, hE, hE9⟩ := within err 9 (by omega) (by omega)
  obtain ⟨d, hD, hd20⟩ := within deep 20 (by omega) (by omega)
  obtain ⟨m, hm⟩ : ∃ m, (if (20 : Int) < (s.size : Int) then (20 : Int) else (s.size : Int)) = m := ⟨_, rfl⟩
  have hm0 : 0 ≤ m := by rw [← hm]; split <;> omega
  have hm1 : m ≤ (s.size : Int) := by rw [← hm]; split <;> omega
  obtain ⟨N, hN⟩ : ∃ N, s.extract 0 m.toNat = N := ⟨_, rfl⟩
  have HD := Lib.hid hD
  clear hD
  have hmf : ∀ (fn : Fn) (first cap : Array Value) (w : World), (Instr.makeFunc fn first cap).run Try.prog w = .ok (.func fn first cap) w := fun _ _ _ _ => rfl
  go_enter Try.func4, Try.ntmps4
  go_wp2_with fail
  refine start_ (n := 11) (S := fun w' => True) (ds := []) #[false, false, false, false, false, false, false, false, false, false, false] (by kernel_rfl) rfl rfl trivial (fun hHeld => ?_)
  have hHeld : True := trivial
  generalize hW1 : (w.alloc (.cells #[.int .i64 p] 3)).drew = W1 at *
  refine pure_ (i := 0) (N := some 21) (v := ?_) (a' := ?_) #[true, false, false, false, false, false, false, false, false, false, false] rfl rfl (by kernel_rfl) (fun _ _ _ h => h) (Or.inl ⟨by rfl, ?_⟩) ?_ ?_
  rotate_left
  · intro w'
    go_simp
    with_reducible rfl
  rotate_left
  · simp only [Act.put, List.setIfInBounds_toArray, List.set_cons_zero, List.set_cons_succ, i64_w, i32_w]
    rfl
  refine pure_ (i := 2) (N := some 23) (v := ?_) (a' := ?_) #[true, false, true, false, false, false, false, false, false, false, false] rfl rfl (by kernel_rfl) (fun _ _ _ h => h) (Or.inl ⟨by rfl, ?_⟩) ?_ ?_
  rotate_left
  · intro w'
    go_simp
    with_reducible rfl
  rotate_left
  · simp only [Act.put, List.setIfInBounds_toArray, List.set_cons_zero, List.set_cons_succ, i64_w, i32_w]
    rfl
  refine pure_ (i := 3) (N := some 24) (v := ?_) (a' := ?_) #[true, false, true, true, false, false, false, false, false, false, false] rfl rfl (by kernel_rfl) (fun _ _ _ h => h) (Or.inl ⟨by rfl, ?_⟩) ?_ ?_
  rotate_left
  · intro w'
    go_simp
    with_reducible rfl
  rotate_left
  · simp only [Act.put, List.setIfInBounds_toArray, List.set_cons_zero, List.set_cons_succ, i64_w, i32_w]
    rfl
  refine pure_ (i := 4) (N := some 25) (v := ?_) (a' := ?_) #[true, false, true, true, true, false, false, false, false, false, false] rfl rfl (by kernel_rfl) (fun _ _ _ h => h) (Or.inl ⟨by rfl, ?_⟩) ?_ ?_
  rotate_left
  · intro w'
    go_simp
    with_reducible rfl
  rotate_left
  · simp only [Act.put, List.setIfInBounds_toArray, List.set_cons_zero, List.set_cons_succ, i64_w, i32_w]
    rfl
  refine pure_ (i := 5) (N := some 26) (v := ?_) (a' := ?_) #[true, false, true, true, true, true, false, false, false, false, false] rfl rfl (by kernel_rfl) (fun _ _ _ h => h) (Or.inl ⟨by rfl, ?_⟩) ?_ ?_
  rotate_left
  · intro w'
    go_simp
    with_reducible rfl
  rotate_left
  · simp only [Act.put, List.setIfInBounds_toArray, List.set_cons_zero, List.set_cons_succ, i64_w, i32_w]
    rfl
  refine pure_ (i := 6) (N := some 27) (v := ?_) (a' := ?_) #[true, false, true, true, true, true, true, false, false, false, false] rfl rfl (by kernel_rfl) (fun _ _ _ h => h) (Or.inl ⟨by rfl, ?_⟩) ?_ ?_
  rotate_left
  · intro w'
    go_simp
    with_reducible rfl
  rotate_left
  · simp only [Act.put, List.setIfInBounds_toArray, List.set_cons_zero, List.set_cons_succ, i64_w, i32_w]
    rfl
  refine join_ (σ := Nat × Nat) 2 #[true, true, true, true, true, true, true, true, true, false, false] (fun s => [(22, .int .i64 (E : Int)), (9, .pointer (some ⟨s.1, 0, none⟩)), (10, .pointer (some ⟨s.2, 0, none⟩))]) (fun s w' => w'.heap[s.1]? = some (.cells #[.int .i64 0] 22 (0, 0)) ∧ w'.heap[s.2]? = some (.cells #[.string ⟨#[]⟩] 9 (0, 0)) ∧ s.1 ≠ s.2 ∧ Below W1.heap.size W1 w' ∧ W1.heap.size ≤ s.1 ∧ W1.heap.size ≤ s.2 ∧ W1.heap.size + 2 ≤ w'.heap.size) ?_ ?_
  rotate_left
  · intro hCont
    refine three_ (i := 1) (j := 7) (k := 8) (Ni := some 22) (Nj := some 9) (Nk := some 10) #[true, true, true, true, true, true, true, false, false, false, false] #[true, false, true, true, true, true, true, true, false, false, false] #[true, false, true, true, true, true, true, false, true, false, false] rfl rfl rfl rfl rfl rfl (by kernel_rfl) (by decide) (by decide) (by decide) (fun K hK => ?_) (fun K hK => ?_) (fun K hK => ?_)
    · skip
      refine goes_ Try.func12 (by kernel_rfl) rfl #[.int .i64 err, .int .i64 0, .int .i64 9] (by rfl) rfl rfl (by simp only [List.map_toArray, List.map_cons, List.map_nil]; rfl) ?_
      with_reducible refine (porticobook_Within.calls err 0 9 E _ hE).mono ?_
      rintro en w3 ⟨rfl, ⟨q, rfl⟩⟩
      refine ⟨_, rfl, ?_⟩
      refine hK.out _ _ trivial (fun hHeld => ?_)
      clear hK K
      refine norm_ (a' := ?_) ?_ ?_
      rotate_left
      · show Act.put _ (some 22) _ = _
        simp only [Act.put, List.setIfInBounds_toArray, List.set_cons_zero, List.set_cons_succ, i64_w, i32_w]
        rfl
      refine two_ (i := 7) (j := 8) (Ni := some 9) (Nj := some 10) #[true, true, true, true, true, true, true, true, false, false, false] #[true, true, true, true, true, true, true, false, true, false, false] rfl rfl rfl rfl (by kernel_rfl) (by decide) (by decide) (fun K hK => ?_) (fun K hK => ?_)
      · skip
        refine value_ (w1 := ?_) (v := ?_) (by rfl) rfl ?_ ?_
        rotate_left 2
        · go_simp
          constructor
          · rfl
          · rfl
        refine hK.out _ _ trivial (fun hHeld => ?_)
        clear hK K
        refine norm_ (a' := ?_) ?_ ?_
        rotate_left
        · show Act.put _ (some 9) _ = _
          simp only [Act.put, List.setIfInBounds_toArray, List.set_cons_zero, List.set_cons_succ, i64_w, i32_w]
          rfl
        refine one_ (i := 8) (N := some 10) #[true, true, true, true, true, true, true, true, true, false, false] rfl rfl (by kernel_rfl) (by decide) (fun K hK => ?_)
        refine value_ (w1 := ?_) (v := ?_) (by rfl) rfl ?_ ?_
        rotate_left 2
        · go_simp
          constructor
          · rfl
          · rfl
        refine hK.out _ _ trivial (fun hHeld => ?_)
        clear hK K
        refine norm_ (a' := ?_) ?_ ?_
        rotate_left
        · show Act.put _ (some 10) _ = _
          simp only [Act.put, List.setIfInBounds_toArray, List.set_cons_zero, List.set_cons_succ, i64_w, i32_w]
          rfl
        exact norm_ (by simp only [putAll, Act.put, List.setIfInBounds_toArray, List.set_cons_zero, List.set_cons_succ]) (hCont (W1.heap.size, W1.heap.size + 1) _ ⟨push2_a W1.heap _ _, push2_b W1.heap _ _, by simp, ⟨rfl, rfl, rfl, push2_le W1.heap _ _, push2_old W1.heap _ _⟩, by simp, by simp, push2_size W1.heap _ _⟩)
      · skip
        refine value_ (w1 := ?_) (v := ?_) (by rfl) rfl ?_ ?_
        rotate_left 2
        · go_simp
          constructor
          · rfl
          · rfl
        refine hK.out _ _ trivial (fun hHeld => ?_)
        clear hK K
        refine norm_ (a' := ?_) ?_ ?_
        rotate_left
        · show Act.put _ (some 10) _ = _
          simp only [Act.put, List.setIfInBounds_toArray, List.set_cons_zero, List.set_cons_succ, i64_w, i32_w]
          rfl
        refine one_ (i := 7) (N := some 9) #[true, true, true, true, true, true, true, true, true, false, false] rfl rfl (by kernel_rfl) (by decide) (fun K hK => ?_)
        refine value_ (w1 := ?_) (v := ?_) (by rfl) rfl ?_ ?_
        rotate_left 2
        · go_simp
          constructor
          · rfl
          · rfl
        refine hK.out _ _ trivial (fun hHeld => ?_)
        clear hK K
        refine norm_ (a' := ?_) ?_ ?_
        rotate_left
        · show Act.put _ (some 9) _ = _
          simp only [Act.put, List.setIfInBounds_toArray, List.set_cons_zero, List.set_cons_succ, i64_w, i32_w]
          rfl
        exact norm_ (by simp only [putAll, Act.put, List.setIfInBounds_toArray, List.set_cons_zero, List.set_cons_succ]) (hCont (W1.heap.size + 1, W1.heap.size) _ ⟨push2_b W1.heap _ _, push2_a W1.heap _ _, by simp, ⟨rfl, rfl, rfl, push2_le W1.heap _ _, push2_old W1.heap _ _⟩, by simp, by simp, push2_size W1.heap _ _⟩)
    · skip
      refine value_ (w1 := ?_) (v := ?_) (by rfl) rfl ?_ ?_
      rotate_left 2
      · go_simp
        constructor
        · rfl
        · rfl
      refine hK.out _ _ trivial (fun hHeld => ?_)
      clear hK K
      refine norm_ (a' := ?_) ?_ ?_
      rotate_left
      · show Act.put _ (some 9) _ = _
        simp only [Act.put, List.setIfInBounds_toArray, List.set_cons_zero, List.set_cons_succ, i64_w, i32_w]
        rfl
      refine two_ (i := 1) (j := 8) (Ni := some 22) (Nj := some 10) #[true, true, true, true, true, true, true, true, false, false, false] #[true, false, true, true, true, true, true, true, true, false, false] rfl rfl rfl rfl (by kernel_rfl) (by decide) (by decide) (fun K hK => ?_) (fun K hK => ?_)
      · skip
        refine goes_ Try.func12 (by kernel_rfl) rfl #[.int .i64 err, .int .i64 0, .int .i64 9] (by rfl) rfl rfl (by simp only [List.map_toArray, List.map_cons, List.map_nil]; rfl) ?_
        with_reducible refine (porticobook_Within.calls err 0 9 E _ hE).mono ?_
        rintro en w3 ⟨rfl, ⟨q, rfl⟩⟩
        refine ⟨_, rfl, ?_⟩
        refine hK.out _ _ trivial (fun hHeld => ?_)
        clear hK K
        refine norm_ (a' := ?_) ?_ ?_
        rotate_left
        · show Act.put _ (some 22) _ = _
          simp only [Act.put, List.setIfInBounds_toArray, List.set_cons_zero, List.set_cons_succ, i64_w, i32_w]
          rfl
        refine one_ (i := 8) (N := some 10) #[true, true, true, true, true, true, true, true, true, false, false] rfl rfl (by kernel_rfl) (by decide) (fun K hK => ?_)
        refine value_ (w1 := ?_) (v := ?_) (by rfl) rfl ?_ ?_
        rotate_left 2
        · go_simp
          constructor
          · rfl
          · rfl
        refine hK.out _ _ trivial (fun hHeld => ?_)
        clear hK K
        refine norm_ (a' := ?_) ?_ ?_
        rotate_left
        · show Act.put _ (some 10) _ = _
          simp only [Act.put, List.setIfInBounds_toArray, List.set_cons_zero, List.set_cons_succ, i64_w, i32_w]
          rfl
        exact norm_ (by simp only [putAll, Act.put, List.setIfInBounds_toArray, List.set_cons_zero, List.set_cons_succ]) (hCont (W1.heap.size, W1.heap.size + 1) _ ⟨push2_a W1.heap _ _, push2_b W1.heap _ _, by simp, ⟨rfl, rfl, rfl, push2_le W1.heap _ _, push2_old W1.heap _ _⟩, by simp, by simp, push2_size W1.heap _ _⟩)
      · skip
        refine value_ (w1 := ?_) (v := ?_) (by rfl) rfl ?_ ?_
        rotate_left 2
        · go_simp
          constructor
          · rfl
          · rfl
        refine hK.out _ _ trivial (fun hHeld => ?_)
        clear hK K
        refine norm_ (a' := ?_) ?_ ?_
        rotate_left
        · show Act.put _ (some 10) _ = _
          simp only [Act.put, List.setIfInBounds_toArray, List.set_cons_zero, List.set_cons_succ, i64_w, i32_w]
          rfl
        refine one_ (i := 1) (N := some 22) #[true, true, true, true, true, true, true, true, true, false, false] rfl rfl (by kernel_rfl) (by decide) (fun K hK => ?_)
        refine goes_ Try.func12 (by kernel_rfl) rfl #[.int .i64 err, .int .i64 0, .int .i64 9] (by rfl) rfl rfl (by simp only [List.map_toArray, List.map_cons, List.map_nil]; rfl) ?_
        with_reducible refine (porticobook_Within.calls err 0 9 E _ hE).mono ?_
        rintro en w3 ⟨rfl, ⟨q, rfl⟩⟩
        refine ⟨_, rfl, ?_⟩
        refine hK.out _ _ trivial (fun hHeld => ?_)
        clear hK K
        refine norm_ (a' := ?_) ?_ ?_
        rotate_left
        · show Act.put _ (some 22) _ = _
          simp only [Act.put, List.setIfInBounds_toArray, List.set_cons_zero, List.set_cons_succ, i64_w, i32_w]
          rfl
        exact norm_ (by simp only [putAll, Act.put, List.setIfInBounds_toArray, List.set_cons_zero, List.set_cons_succ]) (hCont (W1.heap.size, W1.heap.size + 1) _ ⟨push2_a W1.heap _ _, push2_b W1.heap _ _, by simp, ⟨rfl, rfl, rfl, push2_le W1.heap _ _, push2_old W1.heap _ _⟩, by simp, by simp, push2_size W1.heap _ _⟩)
    · skip
      refine value_ (w1 := ?_) (v := ?_) (by rfl) rfl ?_ ?_
      rotate_left 2
      · go_simp
        constructor
        · rfl
        · rfl
      refine hK.out _ _ trivial (fun hHeld => ?_)
      clear hK K
      refine norm_ (a' := ?_) ?_ ?_
      rotate_left
      · show Act.put _ (some 10) _ = _
        simp only [Act.put, List.setIfInBounds_toArray, List.set_cons_zero, List.set_cons_succ, i64_w, i32_w]
        rfl
      refine two_ (i := 1) (j := 7) (Ni := some 22) (Nj := some 9) #[true, true, true, true, true, true, true, false, true, false, false] #[true, false, true, true, true, true, true, true, true, false, false] rfl rfl rfl rfl (by kernel_rfl) (by decide) (by decide) (fun K hK => ?_) (fun K hK => ?_)
      · skip
        refine goes_ Try.func12 (by kernel_rfl) rfl #[.int .i64 err, .int .i64 0, .int .i64 9] (by rfl) rfl rfl (by simp only [List.map_toArray, List.map_cons, List.map_nil]; rfl) ?_
        with_reducible refine (porticobook_Within.calls err 0 9 E _ hE).mono ?_
        rintro en w3 ⟨rfl, ⟨q, rfl⟩⟩
        refine ⟨_, rfl, ?_⟩
        refine hK.out _ _ trivial (fun hHeld => ?_)
        clear hK K
        refine norm_ (a' := ?_) ?_ ?_
        rotate_left
        · show Act.put _ (some 22) _ = _
          simp only [Act.put, List.setIfInBounds_toArray, List.set_cons_zero, List.set_cons_succ, i64_w, i32_w]
          rfl
        refine one_ (i := 7) (N := some 9) #[true, true, true, true, true, true, true, true, true, false, false] rfl rfl (by kernel_rfl) (by decide) (fun K hK => ?_)
        refine value_ (w1 := ?_) (v := ?_) (by rfl) rfl ?_ ?_
        rotate_left 2
        · go_simp
          constructor
          · rfl
          · rfl
        refine hK.out _ _ trivial (fun hHeld => ?_)
        clear hK K
        refine norm_ (a' := ?_) ?_ ?_
        rotate_left
        · show Act.put _ (some 9) _ = _
          simp only [Act.put, List.setIfInBounds_toArray, List.set_cons_zero, List.set_cons_succ, i64_w, i32_w]
          rfl
        exact norm_ (by simp only [putAll, Act.put, List.setIfInBounds_toArray, List.set_cons_zero, List.set_cons_succ]) (hCont (W1.heap.size + 1, W1.heap.size) _ ⟨push2_b W1.heap _ _, push2_a W1.heap _ _, by simp, ⟨rfl, rfl, rfl, push2_le W1.heap _ _, push2_old W1.heap _ _⟩, by simp, by simp, push2_size W1.heap _ _⟩)
      · skip
        refine value_ (w1 := ?_) (v := ?_) (by rfl) rfl ?_ ?_
        rotate_left 2
        · go_simp
          constructor
          · rfl
          · rfl
        refine hK.out _ _ trivial (fun hHeld => ?_)
        clear hK K
        refine norm_ (a' := ?_) ?_ ?_
        rotate_left
        · show Act.put _ (some 9) _ = _
          simp only [Act.put, List.setIfInBounds_toArray, List.set_cons_zero, List.set_cons_succ, i64_w, i32_w]
          rfl
        refine one_ (i := 1) (N := some 22) #[true, true, true, true, true, true, true, true, true, false, false] rfl rfl (by kernel_rfl) (by decide) (fun K hK => ?_)
        refine goes_ Try.func12 (by kernel_rfl) rfl #[.int .i64 err, .int .i64 0, .int .i64 9] (by rfl) rfl rfl (by simp only [List.map_toArray, List.map_cons, List.map_nil]; rfl) ?_
        with_reducible refine (porticobook_Within.calls err 0 9 E _ hE).mono ?_
        rintro en w3 ⟨rfl, ⟨q, rfl⟩⟩
        refine ⟨_, rfl, ?_⟩
        refine hK.out _ _ trivial (fun hHeld => ?_)
        clear hK K
        refine norm_ (a' := ?_) ?_ ?_
        rotate_left
        · show Act.put _ (some 22) _ = _
          simp only [Act.put, List.setIfInBounds_toArray, List.set_cons_zero, List.set_cons_succ, i64_w, i32_w]
          rfl
        exact norm_ (by simp only [putAll, Act.put, List.setIfInBounds_toArray, List.set_cons_zero, List.set_cons_succ]) (hCont (W1.heap.size + 1, W1.heap.size) _ ⟨push2_b W1.heap _ _, push2_a W1.heap _ _, by simp, ⟨rfl, rfl, rfl, push2_le W1.heap _ _, push2_old W1.heap _ _⟩, by simp, by simp, push2_size W1.heap _ _⟩)
  rintro ⟨be, bn⟩ w3 ⟨f1, f2, f3, f4, f5, f6, f7⟩
  dsimp only at f1 f2 f3 f5 f6
  have hHeld : True := trivial
  obtain ⟨g1, g2, g3, g4, g5, g6⟩ := two_vars f1 f2 f3 (E := (E : Int)) (N := N)
  refine norm_ (a' := ?_) ?_ ?_
  rotate_left
  · simp only [putAll, Act.put, List.setIfInBounds_toArray, List.set_cons_zero, List.set_cons_succ]
    rfl
  refine one_ (i := 9) (N := none) #[true, true, true, true, true, true, true, true, true, true, false] rfl rfl (by kernel_rfl) (by decide) (fun K hK => ?_)
  have G1 := g1
  have G2 := g2
  refine skip_ (w1 := ?_) (by rfl) rfl ?_ ?_
  rotate_left
  · go_simp
    rfl
  refine hK.out _ _ trivial (fun hHeld => ?_)
  clear hK K
  refine one_ (i := 10) (N := none) #[true, true, true, true, true, true, true, true, true, true, true] rfl rfl (by kernel_rfl) (by decide) (fun K hK => ?_)
  have G3 := g3
  have G4 := g4
  refine skip_ (w1 := ?_) (by rfl) rfl ?_ ?_
  rotate_left
  · go_simp
    rfl
  refine hK.out _ _ trivial (fun hHeld => ?_)
  clear hK K
  refine done_ (by kernel_rfl) ?_
  have hs1 : W1.heap.size = w.heap.size + 1 := by rw [← hW1]; simp [go_sem]
  have b01 : Below w.heap.size w W1 := by rw [← hW1]; exact below_drew1 ((Below.refl _ _).alloc (Nat.le_refl _) _)
  have c1 : W1.cell? ⟨w.heap.size, 0, none⟩ = some (.int .i64 p) := by rw [← hW1]; simp [go_sem]
  have B14 := (f4.setCell (p := ⟨be, 0, none⟩) f5 (.int .i64 (E : Int))).setCell (p := ⟨bn, 0, none⟩) f6 (.string N)
  have s4 : W1.heap.size + 2 ≤ ((w3.setCell ⟨be, 0, none⟩ (.int .i64 (E : Int))).setCell ⟨bn, 0, none⟩ (.string N)).heap.size := by simp [World.setCell]; exact f7
  generalize (w3.setCell ⟨be, 0, none⟩ (.int .i64 (E : Int))).setCell ⟨bn, 0, none⟩ (.string N) = W4 at g5 g6 B14 s4 ⊢
  have c4 := (B14.cell (p := ⟨w.heap.size, 0, none⟩) (show w.heap.size < W1.heap.size by omega)).trans c1
  have b04 : Below w.heap.size w W4 := b01.trans (B14.mono (by omega))
  have l1 := lt_of_cell g5
  have l2 := lt_of_cell g6
  have HF := Lib.hid (And.intro b04 (And.intro l1 (And.intro l2 (And.intro s4 (And.intro hs1 (And.intro f5 f6))))))
  clear hm hm0 hm1 hN hE f1 f2 f3 f4 f5 f6 f7 g1 g2 g3 g4 G1 G2 G3 G4 hW1 hs1 b01 c1 B14 s4 b04 l1 l2
  go_wp2_with fail
  refine (porticobook_Within.calls deep 0 20 d _ HD.out).mono ?_
  rintro e w' ⟨rfl, ⟨q, rfl⟩⟩
  replace g5 : (W4.drewN q).cell? ⟨be, 0, none⟩ = some (.int .i64 (E : Int)) := g5
  replace g6 : (W4.drewN q).cell? ⟨bn, 0, none⟩ = some (.string N) := g6
  replace c4 : (W4.drewN q).cell? ⟨w.heap.size, 0, none⟩ = some (.int .i64 p) := c4
  replace HF : Hid (Below w.heap.size w (W4.drewN q) ∧ be < (W4.drewN q).heap.size ∧ bn < (W4.drewN q).heap.size ∧ w.heap.size < be ∧ w.heap.size < bn) := Lib.hid ⟨below_drewN HF.out.1 q, HF.out.2.1, HF.out.2.2.1, by have := HF.out; omega, by have := HF.out; omega⟩
  generalize W4.drewN q = W5 at *
  clear W1
  go_wp2_with fail
  have hL0 : LogAt (W5.heap.size + 1) (W5.heap.size + 1 + 1) (((W5.alloc (.cells #[.int .i64 (d : Int)] 3)).alloc (.cells #[] 3)).alloc (.cells #[.slice (some ⟨W5.heap.size + 1, 0, none⟩) 0 0] 31)) (.slice (some ⟨W5.heap.size + 1, 0, none⟩) 0 0) [] := by
    have ho := World.ownsRow_made (base := W5.heap.size + 1) (e := 3) (size := 1) (W5.alloc (.cells #[.int .i64 (d : Int)] 3)) #[] 0 (by simp) (by decide) (by rfl)
    have hb := heap_alloc_new ((W5.alloc (.cells #[.int .i64 (d : Int)] 3)).alloc (.cells #[] 3)) (.cells #[.slice (some ⟨W5.heap.size + 1, 0, none⟩) 0 0] 31)
    refine ⟨?_, ?_, by simp⟩
    · simpa [go_sem] using hb
    · have := ho.alloc (.cells #[.slice (some ⟨W5.heap.size + 1, 0, none⟩) 0 0] 31)
      simpa [go_sem, nums] using this
  have hB6 : Below W5.heap.size W5 (((W5.alloc (.cells #[.int .i64 (d : Int)] 3)).alloc (.cells #[] 3)).alloc (.cells #[.slice (some ⟨W5.heap.size + 1, 0, none⟩) 0 0] 31)) := (((Below.refl _ _).alloc (Nat.le_refl _) _).alloc (by simp) _).alloc (by simp; omega) _
  have hd6 : (((W5.alloc (.cells #[.int .i64 (d : Int)] 3)).alloc (.cells #[] 3)).alloc (.cells #[.slice (some ⟨W5.heap.size + 1, 0, none⟩) 0 0] 31)).cell? ⟨W5.heap.size, 0, none⟩ = some (.int .i64 (d : Int)) := by simp [go_sem]
  have s6 : (((W5.alloc (.cells #[.int .i64 (d : Int)] 3)).alloc (.cells #[] 3)).alloc (.cells #[.slice (some ⟨W5.heap.size + 1, 0, none⟩) 0 0] 31)).heap.size = W5.heap.size + 3 := by simp
  generalize (((W5.alloc (.cells #[.int .i64 (d : Int)] 3)).alloc (.cells #[] 3)).alloc (.cells #[.slice (some ⟨W5.heap.size + 1, 0, none⟩) 0 0] 31)) = W6 at hL0 hB6 hd6 s6 ⊢
  obtain ⟨v0, hv0, hv0b⟩ : ∃ v0 : Value, .slice (some ⟨W5.heap.size + 1, 0, none⟩) 0 0 = v0 ∧ v0.ownBlock = some (W5.heap.size + 1) := ⟨_, rfl, rfl⟩
  rw [hv0] at hL0
  refine (Run_catches (W5.heap.size + 1) (W5.heap.size + 1 + 1) W5.heap.size be bn w.heap.size (E : Int) N p d v0 W6 hL0 (by omega) hd6 ((hB6.cell (p := ⟨be, 0, none⟩) HF.out.2.1).trans g5) ((hB6.cell (p := ⟨bn, 0, none⟩) HF.out.2.2.1).trans g6) ((hB6.cell (p := ⟨w.heap.size, 0, none⟩) (by have := HF.out; show w.heap.size < _; omega)).trans c4)).mono ?_
  rintro en w7 ⟨rfl, vl, hA, hG⟩
  have hk : ∀ k, k < W5.heap.size → w7.heap[k]? = W6.heap[k]? := fun k hk => hG.block k (by omega) (by omega) (by rw [hv0b]; intro e; have := Option.some.inj e; omega)
  have hB7 : Below W5.heap.size W5 w7 := ⟨hG.os.trans hB6.os, hG.tape.trans hB6.tape, hG.output.trans hB6.output, by have := hG.size; omega, fun k h => (hk k h).trans (hB6.block k h)⟩
  have hce := (hB7.cell (p := ⟨be, 0, none⟩) HF.out.2.1).trans g5
  have hcn := (hB7.cell (p := ⟨bn, 0, none⟩) HF.out.2.2.1).trans g6
  have hcp := (hB7.cell (p := ⟨w.heap.size, 0, none⟩) (by have := HF.out; show w.heap.size < _; omega)).trans c4
  have hcd : w7.cell? ⟨W5.heap.size, 0, none⟩ = some (.int .i64 (d : Int)) := (World.cell?_of_block (a := ⟨W5.heap.size, 0, none⟩) (hG.block W5.heap.size (by omega) (by omega) (by rw [hv0b]; intro e; have := Option.some.inj e; omega))).trans hd6
  have s7 := hG.size
  have HS7 := Lib.hid (And.intro s6 (And.intro s7 (And.intro hB7 (And.intro hce (And.intro hcn (And.intro hcp hcd))))))
  have HA := Lib.hid hA
  have hcd2 : ∀ o1 o2, ((w7.alloc o1).alloc o2).cell? ⟨W5.heap.size, 0, none⟩ = some (.int .i64 (d : Int)) := fun o1 o2 => ((((Below.refl w7.heap.size w7).alloc (Nat.le_refl _) o1).alloc (by simp) o2).cell (p := ⟨W5.heap.size, 0, none⟩) (by show W5.heap.size < _; omega)).trans hcd
  clear hA hG hk hB7 hce hcn hcp hcd s7 s6 hd6 hB6 hL0 hv0 hv0b g5 g6 c4
  go_wp2_with fail
  have hSt : St w (W5.heap.size + 1) (w7.heap.size + 1) (W5.heap.size + 1 + 1) be bn w.heap.size w7.heap.size (E : Int) p N ((w7.alloc (.cells #[.int .i64 (E : Int), .string N, .int .i64 p] 24)).alloc (.cells #[] 3)) vl (down d) (.slice (some ⟨w7.heap.size + 1, 0, none⟩) 0 0) [] := by
    obtain ⟨s6, s7, hB7, hce, hcn, hcp, hcd⟩ := HS7.out
    obtain ⟨q1, q2, q3, q4, q5⟩ := HF.out
    have hB8 : Below w7.heap.size w7 ((w7.alloc (.cells #[.int .i64 (E : Int), .string N, .int .i64 p] 24)).alloc (.cells #[] 3)) := ((Below.refl _ _).alloc (Nat.le_refl _) _).alloc (by simp) _
    refine ⟨HA.out.kept (B := 0) hB8, fun k hk => ⟨(HA.out.rowLt k hk).1, by have := (HA.out.rowLt k hk).2; omega, fun e => ?_⟩, ?_, (hB8.cell (lt_of_cell hce)).trans hce, (hB8.cell (lt_of_cell hcn)).trans hcn, (hB8.cell (lt_of_cell hcp)).trans hcp, by simp [go_sem], by simp [go_sem], by simp [go_sem], by omega, q1.trans ((hB7.mono (by omega)).trans (hB8.mono (by omega))), by omega, by simp⟩
    · have h1 : w7.heap.size + 1 = k := Option.some.inj e
      have := (HA.out.rowLt k hk).2
      omega
    · have ho := World.ownsRow_made (base := w7.heap.size + 1) (e := 3) (size := 1) (w7.alloc (.cells #[.int .i64 (E : Int), .string N, .int .i64 p] 24)) #[] 0 (by simp) (by decide) (by rfl)
      simpa [go_sem, nums] using ho
  clear hcd2
  generalize ((w7.alloc (.cells #[.int .i64 (E : Int), .string N, .int .i64 p] 24)).alloc (.cells #[] 3)) = w8 at hSt ⊢
  generalize w7.heap.size + 1 = K6 at hSt ⊢
  generalize W5.heap.size + 1 = base at hSt ⊢
  generalize w7.heap.size = bx at hSt ⊢
  generalize base + 1 = b at hSt ⊢
  clear HS7 HA HF HD
  have HST := Lib.hid hSt
  clear hSt
  go_loopw [15, 16] (fun t15 t16 wr => ∃ (i : Int) (j : Nat) (A : Option Addr) (c : Nat) (ys : List Int), t16 = .int .i64 i ∧ t15 = .slice A ys.length c ∧ Hid (i + 1 = (j : Int) ∧ j ≤ 21 ∧ ys ++ downN j = down d ∧ St w base K6 b be bn w.heap.size bx (E : Int) p N wr vl (down d) (.slice A ys.length c) ys)) (fun _ t _ => match t with | .int _ i => (i + 1).toNat | _ => 0)
  case atStart => exact ⟨(d : Int), d + 1, _, _, [], rfl, rfl, by omega, by omega, by rw [down_eq]; rfl, HST.out⟩
  case round =>
    obtain ⟨i, j, A, c, ys, rfl, rfl, HR⟩ := hrel
    clear HST
    by_cases hi : 0 ≤ i
    · have hl : ys.length + 1 ≤ 30 ∧ i ≤ 20 := by
        obtain ⟨h1, h2, h3, h4⟩ := HR.out
        have h5 := congrArg List.length h3
        rw [List.length_append, downN_length, down_length] at h5
        omega
      have hw : wrap64 (i - 1) = i - 1 := by unfold wrap64; omega
      have HL := Lib.hid hl
      clear hl
      go_wp2_with (at_builtin; refine print_append_num (w0 := wr) K6 rfl (.tmp 42) (.tmp 44) 31 3 .i64 8 rfl Try.underlying31 infoInt (by decide) _ ys i rfl rfl HR.out.2.2.2.want (Below.refl _ _) HR.out.2.2.2.sz (by have := HL.out; omega) ?_)
      intro v1 w1 hO hB hG hRo
      obtain ⟨A1, c1, rfl⟩ := own_slice hO
      have hlen : ys.length + 1 = (ys ++ [i]).length := by simp
      have hN : Hid (i - 1 + 1 = ((j - 1 : Nat) : Int) ∧ j - 1 ≤ 21 ∧ (ys ++ [i]) ++ downN (j - 1) = down d ∧ St w base K6 b be bn w.heap.size bx (E : Int) p N w1 vl (down d) (.slice A1 (ys ++ [i]).length c1) (ys ++ [i])) := by
        obtain ⟨h1, h2, h3, h4⟩ := HR.out
        obtain ⟨j', rfl⟩ : ∃ j', j = j' + 1 := ⟨j - 1, by omega⟩
        refine ⟨by omega, by omega, ?_, ?_⟩
        · have hij : i = (j' : Int) := by omega
          rw [← h3, hij]
          simp [downN]
        · have h5 := h4.grown hO hlen hG hRo
          rw [hlen] at h5
          exact h5
      rw [hlen]
      clear hlen hO hB hG hRo HR
      go_wp2_with fail
      go_roundw
      case rel => exact ⟨i - 1, j - 1, A1, c1, ys ++ [i], by rw [hw], rfl, hN⟩
      case measure => rw [hw]; simp; omega
    · have hfin : ys = down d ∧ St w base K6 b be bn w.heap.size bx (E : Int) p N wr vl (down d) (.slice A ys.length c) ys := by
        obtain ⟨h1, h2, h3, h4⟩ := HR.out
        have hj : j = 0 := by omega
        subst hj
        exact ⟨by simpa [downN] using h3, h4⟩
      obtain ⟨hy, hSt⟩ := hfin
      clear HR
      have HS1 := Lib.hid hSt
      have HY := Lib.hid hy
      clear hSt hy
      go_wp2_with fail
      refine (Run_adds base b vl (down d) wr HS1.out.log (by rw [down_length]; omega)).mono ?_
      rintro en w10 ⟨rfl, vl2, hA, hG⟩
      have HS2 := Lib.hid (HS1.out.added hA hG)
      clear hA hG HS1
      go_wp2_with fail
      refine (Run_nil _).mono ?_
      rintro en w11 ⟨rfl, hB⟩
      have hX : Below w10.heap.size w10 w11 ∧ w10.heap.size < w11.heap.size ∧ w11.cell? ⟨w10.heap.size, 0, none⟩ = some (.int .i64 0) ∧ w11.cell? ⟨w10.heap.size, 1, none⟩ = some (.string ⟨#[]⟩) ∧ w11.cell? ⟨w10.heap.size, 2, none⟩ = some (.int .i64 0) := by
        have hs := hB.size
        have h0 : (w10.alloc (.cells #[.int .i64 0, .string ⟨#[]⟩, .int .i64 0] 24)).heap.size = w10.heap.size + 1 := by simp
        refine ⟨((Below.refl _ _).alloc (Nat.le_refl _) _).trans (hB.mono (by omega)), by omega, ?_, ?_, ?_⟩
        · rw [hB.cell (p := ⟨w10.heap.size, 0, none⟩) (by show w10.heap.size < _; omega)]; simp [go_sem]
        · rw [hB.cell (p := ⟨w10.heap.size, 1, none⟩) (by show w10.heap.size < _; omega)]; simp [go_sem]
        · rw [hB.cell (p := ⟨w10.heap.size, 2, none⟩) (by show w10.heap.size < _; omega)]; simp [go_sem]
      obtain ⟨by1, hby1⟩ : ∃ k, k = w10.heap.size := ⟨_, rfl⟩
      have hSt : St w base K6 b be bn w.heap.size bx (E : Int) p N w11 vl2 (down d ++ [-5]) (.slice A ys.length c) ys := HS2.out.kept hX.1
      have hr10 : ∀ k, vl2.ownBlock = some k → k < w10.heap.size := fun k hk => (HS2.out.log.rowLt k hk).2
      have hw10 : ∀ k, (Value.slice A ys.length c).ownBlock = some k → K6 ≤ k ∧ k < w10.heap.size := fun k hk => HS2.out.want.lt k hk
      have hk10 := HS2.out.sz
      have HX := Lib.hid (And.intro hX (And.intro hSt (And.intro hr10 (And.intro hw10 hk10))))
      clear hX hSt hr10 hw10 hk10 hB HS2
      rw [← hby1] at HX ⊢
      clear hby1
      go_wp2_with fail
      obtain ⟨Al, cl, hv2⟩ := own_slice HX.out.2.1.log.row
      obtain ⟨L, hLL⟩ : ∃ L, ys ++ [-5] = L := ⟨_, rfl⟩
      have hll : down d ++ [-5] = L := by rw [← HY.out, hLL]
      have hlen : L.length ≤ 60 ∧ ys.length ≤ 30 := by rw [← hLL, HY.out, List.length_append, down_length]; simp; omega
      have hC : Cells be bn w.heap.size bx b by1 w11.heap.size (E : Int) p N (.slice Al L.length cl) (w11.alloc (.cells #[.int .i64 0, .string ⟨#[]⟩, .int .i64 0] 24)).drew := by
        obtain ⟨⟨x1, x2, x3, x4, x5⟩, hS, _⟩ := HX.out
        have hB : Below w11.heap.size w11 (w11.alloc (.cells #[.int .i64 0, .string ⟨#[]⟩, .int .i64 0] 24)).drew := below_drew1 ((Below.refl _ _).alloc (Nat.le_refl _) _)
        have hl := hS.log.cell
        rw [hv2, hll] at hl
        exact ⟨(hB.cell (lt_of_cell hS.ce)).trans hS.ce, (hB.cell (lt_of_cell hS.cn)).trans hS.cn, (hB.cell (lt_of_cell hS.cp)).trans hS.cp, (hB.cell (lt_of_cell hS.x0)).trans hS.x0, (hB.cell (lt_of_cell hS.x1)).trans hS.x1, (hB.cell (lt_of_cell hS.x2)).trans hS.x2, (hB.cell (lt_of_cell hl)).trans hl, (hB.cell x2).trans x3, (hB.cell x2).trans x4, (hB.cell x2).trans x5, by simp [go_sem], by simp [go_sem], by simp [go_sem]⟩
      have HB : Hid (Below w.heap.size w (w11.alloc (.cells #[.int .i64 0, .string ⟨#[]⟩, .int .i64 0] 24)).drew ∧ w.heap.size ≤ K6) := by
        obtain ⟨⟨x1, x2, x3, x4, x5⟩, hS, _⟩ := HX.out
        have h1 := hS.le
        have h2 := hS.bw
        exact Lib.hid ⟨below_drew1 (hS.below.alloc hS.below.size _), by omega⟩
      have HK : Hid (K6 ≤ (w11.alloc (.cells #[.int .i64 0, .string ⟨#[]⟩, .int .i64 0] 24)).drew.heap.size) := by
        obtain ⟨⟨x1, x2, x3, x4, x5⟩, hS, _, _, x6⟩ := HX.out
        have h0 : (w11.alloc (.cells #[.int .i64 0, .string ⟨#[]⟩, .int .i64 0] 24)).drew.heap.size = w11.heap.size + 1 := by simp
        exact Lib.hid (by rw [h0]; omega)
      have HW : Hid (Kd.R (Kd.int .i64) 3 (w11.alloc (.cells #[.int .i64 0, .string ⟨#[]⟩, .int .i64 0] 24)).drew K6 (fun _ => True) (.slice A ys.length c) ys) := by
        have h := HX.out.2.1.want
        exact Lib.hid (Kd.R_drew (Kd.R_alloc (Kd.R_of_own h (fun _ _ => trivial)) _))
      have HLr : Hid (∀ w1, (w11.alloc (.cells #[.int .i64 0, .string ⟨#[]⟩, .int .i64 0] 24)).drew.grownBy w1 (Value.slice A ys.length c).ownBlock → Kd.C (Kd.int .i64) w1 Al L.length L ∧ L.length ≤ cl) := Lib.hid (fun w1 hg => by
        have h1 := HX.out.2.1.log.row
        have h2 := HX.out.2.1.rowl
        rw [hv2, hll] at h1
        rw [hv2, hll] at h2
        have h3 : (w11.alloc (.cells #[.int .i64 0, .string ⟨#[]⟩, .int .i64 0] 24)).drew.ownsRow base 3 1 (.slice Al L.length cl) L.length (nums .i64 L) := own_move (h1.alloc _) (fun _ _ => rfl)
        have h4 := h3.kept hg (by
          cases hk : (Value.slice Al L.length cl).ownBlock with
          | none => exact Or.inl rfl
          | some k => exact Or.inr (fun e => (h2 k hk).2.2 e.symm))
        have hR : Kd.R (Kd.int .i64) 3 w1 base (fun _ => True) (.slice Al L.length cl) L := Kd.R_of_own h4 (fun _ _ => trivial)
        have h5 := Kd.R_reads' hR
        exact ⟨h5.2.2, h5.2.1⟩)
      have hNW : Hid (∀ k, k ∈ [be, bn, w.heap.size, bx, b, by1, w11.heap.size] → some k ≠ (Value.slice A ys.length c).ownBlock) := Lib.hid (fun k hk e => by
        obtain ⟨⟨x1, x2, x3, x4, x5⟩, hS, _, hw, hk6⟩ := HX.out
        have h1 := hw k e.symm
        obtain ⟨l1, l2, l3, l4, l5, l6⟩ := hS.le
        simp only [List.mem_cons, List.not_mem_nil, or_false] at hk
        omega)
      have HS : Hid (porticobook_Same_int.f (L.length + 1) L L = some true) := Lib.hid (same_self L (by omega))
      have HL30 := Lib.hid hlen
      have HLL := Lib.hid hLL
      clear hv2 hLL hll hlen HX HY
      generalize w11.heap.size = bz at hC hNW ⊢
      refine start_ (n := 37) (S := fun w' => w'.cell? ⟨be, 0, none⟩ = some (.int .i64 (E : Int)) ∧ w'.cell? ⟨bn, 0, none⟩ = some (.string N) ∧ w'.cell? ⟨w.heap.size, 0, none⟩ = some (.int .i64 p) ∧ w'.cell? ⟨bx, 0, none⟩ = some (.int .i64 (E : Int)) ∧ w'.cell? ⟨bx, 1, none⟩ = some (.string N) ∧ w'.cell? ⟨bx, 2, none⟩ = some (.int .i64 p) ∧ w'.cell? ⟨b, 0, none⟩ = some (.slice Al L.length cl) ∧ w'.cell? ⟨by1, 0, none⟩ = some (.int .i64 0) ∧ w'.cell? ⟨by1, 1, none⟩ = some (.string ⟨#[]⟩) ∧ w'.cell? ⟨by1, 2, none⟩ = some (.int .i64 0) ∧ w'.cell? ⟨bz, 0, none⟩ = some (.int .i64 0) ∧ w'.cell? ⟨bz, 1, none⟩ = some (.string ⟨#[]⟩) ∧ w'.cell? ⟨bz, 2, none⟩ = some (.int .i64 0)) (ds := []) #[false, false, false, false, false, false, false, false, false, false, false, false, false, false, false, false, false, false, false, false, false, false, false, false, false, false, false, false, false, false, false, false, false, false, false, false, false] (by kernel_rfl) rfl rfl ⟨hC.ce, hC.cn, hC.cp, hC.x0, hC.x1, hC.x2, hC.cl, hC.y0, hC.y1, hC.y2, hC.z0, hC.z1, hC.z2⟩ (fun hHeld => ?_)
      clear hC
      generalize (w11.alloc (.cells #[.int .i64 0, .string ⟨#[]⟩, .int .i64 0] 24)).drew = W10 at hHeld HW HK HLr HB ⊢
      have hH0 := hHeld
      refine take_ (i := 0) (N := some 55) (v := ?_) (a' := ?_) #[true, false, false, false, false, false, false, false, false, false, false, false, false, false, false, false, false, false, false, false, false, false, false, false, false, false, false, false, false, false, false, false, false, false, false, false, false] rfl rfl (by kernel_rfl) (fun _ _ _ h => h) (Or.inl ⟨by rfl, ?_⟩) hHeld ?_ ?_
      rotate_left
      · rintro w' ⟨s0, s1, s2, s3, s4, s5, s6, s7, s8, s9, s10, s11, s12⟩
        go_simp
        with_reducible rfl
      rotate_left
      · simp only [Act.put, List.setIfInBounds_toArray, List.set_cons_zero, List.set_cons_succ, i64_w, i32_w]
        rfl
      refine take_ (i := 1) (N := some 56) (v := ?_) (a' := ?_) #[true, true, false, false, false, false, false, false, false, false, false, false, false, false, false, false, false, false, false, false, false, false, false, false, false, false, false, false, false, false, false, false, false, false, false, false, false] rfl rfl (by kernel_rfl) (fun _ _ _ h => h) (Or.inl ⟨by rfl, ?_⟩) hHeld ?_ ?_
      rotate_left
      · rintro w' ⟨s0, s1, s2, s3, s4, s5, s6, s7, s8, s9, s10, s11, s12⟩
        go_simp
        with_reducible rfl
      rotate_left
      · simp only [Act.put, List.setIfInBounds_toArray, List.set_cons_zero, List.set_cons_succ, i64_w, i32_w]
        rfl
      refine take_ (i := 2) (N := some 57) (v := ?_) (a' := ?_) #[true, true, true, false, false, false, false, false, false, false, false, false, false, false, false, false, false, false, false, false, false, false, false, false, false, false, false, false, false, false, false, false, false, false, false, false, false] rfl rfl (by kernel_rfl) (fun _ _ _ h => h) (Or.inl ⟨by rfl, ?_⟩) hHeld ?_ ?_
      rotate_left
      · rintro w' ⟨s0, s1, s2, s3, s4, s5, s6, s7, s8, s9, s10, s11, s12⟩
        go_simp
        with_reducible rfl
      rotate_left
      · simp only [Act.put, List.setIfInBounds_toArray, List.set_cons_zero, List.set_cons_succ, i64_w, i32_w]
        rfl
      refine take_ (i := 3) (N := some 58) (v := ?_) (a' := ?_) #[true, true, true, true, false, false, false, false, false, false, false, false, false, false, false, false, false, false, false, false, false, false, false, false, false, false, false, false, false, false, false, false, false, false, false, false, false] rfl rfl (by kernel_rfl) (fun _ _ _ h => h) (Or.inl ⟨by rfl, ?_⟩) hHeld ?_ ?_
      rotate_left
      · rintro w' ⟨s0, s1, s2, s3, s4, s5, s6, s7, s8, s9, s10, s11, s12⟩
        go_simp
        with_reducible rfl
      rotate_left
      · simp only [Act.put, List.setIfInBounds_toArray, List.set_cons_zero, List.set_cons_succ, i64_w, i32_w]
        rfl
      refine pure_ (i := 4) (N := some 59) (v := ?_) (a' := ?_) #[true, true, true, true, true, false, false, false, false, false, false, false, false, false, false, false, false, false, false, false, false, false, false, false, false, false, false, false, false, false, false, false, false, false, false, false, false] rfl rfl (by kernel_rfl) (fun _ _ _ h => h) (Or.inl ⟨by rfl, ?_⟩) ?_ ?_
      rotate_left
      · intro w'
        go_simp
        with_reducible rfl
      rotate_left
      · simp only [Act.put, List.setIfInBounds_toArray, List.set_cons_zero, List.set_cons_succ, i64_w, i32_w]
        rfl
      refine pure_ (i := 5) (N := some 60) (v := ?_) (a' := ?_) #[true, true, true, true, true, true, false, false, false, false, false, false, false, false, false, false, false, false, false, false, false, false, false, false, false, false, false, false, false, false, false, false, false, false, false, false, false] rfl rfl (by kernel_rfl) (fun _ _ _ h => h) (Or.inl ⟨by rfl, ?_⟩) ?_ ?_
      rotate_left
      · intro w'
        go_simp
        with_reducible rfl
      rotate_left
      · simp only [Act.put, List.setIfInBounds_toArray, List.set_cons_zero, List.set_cons_succ, i64_w, i32_w]
        rfl
      refine pure_ (i := 6) (N := some 61) (v := ?_) (a' := ?_) #[true, true, true, true, true, true, true, false, false, false, false, false, false, false, false, false, false, false, false, false, false, false, false, false, false, false, false, false, false, false, false, false, false, false, false, false, false] rfl rfl (by kernel_rfl) (fun _ _ _ h => h) (Or.inl ⟨by rfl, ?_⟩) ?_ ?_
      rotate_left
      · intro w'
        go_simp
        with_reducible rfl
      rotate_left
      · simp only [Act.put, List.setIfInBounds_toArray, List.set_cons_zero, List.set_cons_succ, i64_w, i32_w]
        rfl
      refine pure_ (i := 7) (N := some 62) (v := ?_) (a' := ?_) #[true, true, true, true, true, true, true, true, false, false, false, false, false, false, false, false, false, false, false, false, false, false, false, false, false, false, false, false, false, false, false, false, false, false, false, false, false] rfl rfl (by kernel_rfl) (fun _ _ _ h => h) (Or.inl ⟨by rfl, ?_⟩) ?_ ?_
      rotate_left
      · intro w'
        go_simp
        with_reducible rfl
      rotate_left
      · simp only [Act.put, List.setIfInBounds_toArray, List.set_cons_zero, List.set_cons_succ, i64_w, i32_w]
        rfl
      refine pure_ (i := 8) (N := some 63) (v := ?_) (a' := ?_) #[true, true, true, true, true, true, true, true, true, false, false, false, false, false, false, false, false, false, false, false, false, false, false, false, false, false, false, false, false, false, false, false, false, false, false, false, false] rfl rfl (by kernel_rfl) (fun _ _ _ h => h) (Or.inl ⟨by rfl, ?_⟩) ?_ ?_
      rotate_left
      · intro w'
        go_simp
        with_reducible rfl
      rotate_left
      · simp only [Act.put, List.setIfInBounds_toArray, List.set_cons_zero, List.set_cons_succ, i64_w, i32_w]
        rfl
      refine pure_ (i := 9) (N := some 64) (v := ?_) (a' := ?_) #[true, true, true, true, true, true, true, true, true, true, false, false, false, false, false, false, false, false, false, false, false, false, false, false, false, false, false, false, false, false, false, false, false, false, false, false, false] rfl rfl (by kernel_rfl) (fun _ _ _ h => h) (Or.inl ⟨by rfl, ?_⟩) ?_ ?_
      rotate_left
      · intro w'
        go_simp
        with_reducible rfl
      rotate_left
      · simp only [Act.put, List.setIfInBounds_toArray, List.set_cons_zero, List.set_cons_succ, i64_w, i32_w]
        rfl
      refine pure_ (i := 10) (N := some 65) (v := ?_) (a' := ?_) #[true, true, true, true, true, true, true, true, true, true, true, false, false, false, false, false, false, false, false, false, false, false, false, false, false, false, false, false, false, false, false, false, false, false, false, false, false] rfl rfl (by kernel_rfl) (fun _ _ _ h => h) (Or.inl ⟨by rfl, ?_⟩) ?_ ?_
      rotate_left
      · intro w'
        go_simp
        with_reducible rfl
      rotate_left
      · simp only [Act.put, List.setIfInBounds_toArray, List.set_cons_zero, List.set_cons_succ, i64_w, i32_w]
        rfl
      refine pure_ (i := 12) (N := some 67) (v := ?_) (a' := ?_) #[true, true, true, true, true, true, true, true, true, true, true, false, true, false, false, false, false, false, false, false, false, false, false, false, false, false, false, false, false, false, false, false, false, false, false, false, false] rfl rfl (by kernel_rfl) (fun _ _ _ h => h) (Or.inl ⟨by rfl, ?_⟩) ?_ ?_
      rotate_left
      · intro w'
        go_simp
        with_reducible rfl
      rotate_left
      · simp only [Act.put, List.setIfInBounds_toArray, List.set_cons_zero, List.set_cons_succ, i64_w, i32_w]
        rfl
      refine take_ (i := 11) (N := some 66) (v := ?_) (a' := ?_) #[true, true, true, true, true, true, true, true, true, true, true, true, true, false, false, false, false, false, false, false, false, false, false, false, false, false, false, false, false, false, false, false, false, false, false, false, false] rfl rfl (by kernel_rfl) (fun _ _ _ h => h) (Or.inl ⟨by rfl, ?_⟩) hHeld ?_ ?_
      rotate_left
      · rintro w' ⟨s0, s1, s2, s3, s4, s5, s6, s7, s8, s9, s10, s11, s12⟩
        go_simp
        with_reducible rfl
      rotate_left
      · simp only [Act.put, List.setIfInBounds_toArray, List.set_cons_zero, List.set_cons_succ, i64_w, i32_w]
        rfl
      refine one_ (i := 13) (N := some 68) #[true, true, true, true, true, true, true, true, true, true, true, true, true, true, false, false, false, false, false, false, false, false, false, false, false, false, false, false, false, false, false, false, false, false, false, false, false] rfl rfl (by kernel_rfl) (by decide) (fun K hK => ?_)
      refine value_ (w1 := ?_) (v := ?_) (by rfl) rfl ?_ ?_
      rotate_left 2
      · go_simp
        constructor
        · rfl
        · rfl
      refine hK.out _ _ ⟨(World.cell?_alloc_lt _ _ _ (World.block_lt_of_cell? _ _ (hHeld.1))).trans (hHeld.1), (World.cell?_alloc_lt _ _ _ (World.block_lt_of_cell? _ _ (hHeld.2.1))).trans (hHeld.2.1), (World.cell?_alloc_lt _ _ _ (World.block_lt_of_cell? _ _ (hHeld.2.2.1))).trans (hHeld.2.2.1), (World.cell?_alloc_lt _ _ _ (World.block_lt_of_cell? _ _ (hHeld.2.2.2.1))).trans (hHeld.2.2.2.1), (World.cell?_alloc_lt _ _ _ (World.block_lt_of_cell? _ _ (hHeld.2.2.2.2.1))).trans (hHeld.2.2.2.2.1), (World.cell?_alloc_lt _ _ _ (World.block_lt_of_cell? _ _ (hHeld.2.2.2.2.2.1))).trans (hHeld.2.2.2.2.2.1), (World.cell?_alloc_lt _ _ _ (World.block_lt_of_cell? _ _ (hHeld.2.2.2.2.2.2.1))).trans (hHeld.2.2.2.2.2.2.1), (World.cell?_alloc_lt _ _ _ (World.block_lt_of_cell? _ _ (hHeld.2.2.2.2.2.2.2.1))).trans (hHeld.2.2.2.2.2.2.2.1), (World.cell?_alloc_lt _ _ _ (World.block_lt_of_cell? _ _ (hHeld.2.2.2.2.2.2.2.2.1))).trans (hHeld.2.2.2.2.2.2.2.2.1), (World.cell?_alloc_lt _ _ _ (World.block_lt_of_cell? _ _ (hHeld.2.2.2.2.2.2.2.2.2.1))).trans (hHeld.2.2.2.2.2.2.2.2.2.1), (World.cell?_alloc_lt _ _ _ (World.block_lt_of_cell? _ _ (hHeld.2.2.2.2.2.2.2.2.2.2.1))).trans (hHeld.2.2.2.2.2.2.2.2.2.2.1), (World.cell?_alloc_lt _ _ _ (World.block_lt_of_cell? _ _ (hHeld.2.2.2.2.2.2.2.2.2.2.2.1))).trans (hHeld.2.2.2.2.2.2.2.2.2.2.2.1), (World.cell?_alloc_lt _ _ _ (World.block_lt_of_cell? _ _ (hHeld.2.2.2.2.2.2.2.2.2.2.2.2))).trans (hHeld.2.2.2.2.2.2.2.2.2.2.2.2)⟩ (fun hHeld => ?_)
      clear hK K
      refine norm_ (a' := ?_) ?_ ?_
      rotate_left
      · show Act.put _ (some 68) _ = _
        simp only [Act.put, List.setIfInBounds_toArray, List.set_cons_zero, List.set_cons_succ, i64_w, i32_w]
        rfl
      refine one_ (i := 14) (N := some 69) #[true, true, true, true, true, true, true, true, true, true, true, true, true, true, true, false, false, false, false, false, false, false, false, false, false, false, false, false, false, false, false, false, false, false, false, false, false] rfl rfl (by kernel_rfl) (by decide) (fun K hK => ?_)
      refine Kd.R_append_step (Kd.int .i64) (w0 := W10) K6 (by rfl) (.tmp 67) (.tmp 68) 31 3 (.int .i64 0) 8 rfl Try.underlying31 infoInt rfl (by decide) (by omega) _ ys (-5) [.int .i64 (-5)] (fun _ => True) (fun _ => False) rfl rfl ?aP (fun _ hk => hk.elim) (fun _ _ => trivial) HW.out (Below.refl _ _) HK.out (by have := HL30.out; omega) ?_
      (case aP => rfl)
      intro v1 w4 ho hb4 hg hat
      rw [HLL.out] at ho
      obtain ⟨Aw, cw, ew⟩ := own_slice (Kd.own_of_R ho)
      subst ew
      refine hK.out _ _ ⟨hg.cell (hH0.1) (hNW.out be (by simp)), hg.cell (hH0.2.1) (hNW.out bn (by simp)), hg.cell (hH0.2.2.1) (hNW.out w.heap.size (by simp)), hg.cell (hH0.2.2.2.1) (hNW.out bx (by simp)), hg.cell (hH0.2.2.2.2.1) (hNW.out bx (by simp)), hg.cell (hH0.2.2.2.2.2.1) (hNW.out bx (by simp)), hg.cell (hH0.2.2.2.2.2.2.1) (hNW.out b (by simp)), hg.cell (hH0.2.2.2.2.2.2.2.1) (hNW.out by1 (by simp)), hg.cell (hH0.2.2.2.2.2.2.2.2.1) (hNW.out by1 (by simp)), hg.cell (hH0.2.2.2.2.2.2.2.2.2.1) (hNW.out by1 (by simp)), hg.cell (hH0.2.2.2.2.2.2.2.2.2.2.1) (hNW.out bz (by simp)), hg.cell (hH0.2.2.2.2.2.2.2.2.2.2.2.1) (hNW.out bz (by simp)), hg.cell (hH0.2.2.2.2.2.2.2.2.2.2.2.2) (hNW.out bz (by simp))⟩ (fun hHeld => ?_)
      clear hK K
      refine norm_ (a' := ?_) ?_ ?_
      rotate_left
      · show Act.put _ (some 69) _ = _
        simp only [Act.put, List.setIfInBounds_toArray, List.set_cons_zero, List.set_cons_succ, i64_w, i32_w]
        rfl
      refine one_ (i := 15) (N := some 70) #[true, true, true, true, true, true, true, true, true, true, true, true, true, true, true, true, false, false, false, false, false, false, false, false, false, false, false, false, false, false, false, false, false, false, false, false, false] rfl rfl (by kernel_rfl) (by decide) (fun K hK => ?_)
      refine goes_ Try.func16 (by kernel_rfl) rfl #[.slice Al L.length cl, .slice Aw L.length cw] (by rfl) rfl rfl (by simp only [List.map_toArray, List.map_cons, List.map_nil]; rfl) ?_
      with_reducible refine (porticobook_Same_int.calls _ Al cl L Aw cw L true _ (HLr.out _ hg).1 (HLr.out _ hg).2 (Kd.R_reads' ho).2.2 (Kd.R_reads' ho).2.1 HS.out).mono ?_
      rintro en w5 ⟨rfl, ⟨q, rfl⟩⟩
      refine ⟨_, rfl, ?_⟩
      refine hK.out _ _ ⟨hHeld.1, hHeld.2.1, hHeld.2.2.1, hHeld.2.2.2.1, hHeld.2.2.2.2.1, hHeld.2.2.2.2.2.1, hHeld.2.2.2.2.2.2.1, hHeld.2.2.2.2.2.2.2.1, hHeld.2.2.2.2.2.2.2.2.1, hHeld.2.2.2.2.2.2.2.2.2.1, hHeld.2.2.2.2.2.2.2.2.2.2.1, hHeld.2.2.2.2.2.2.2.2.2.2.2.1, hHeld.2.2.2.2.2.2.2.2.2.2.2.2⟩ (fun hHeld => ?_)
      clear hK K
      refine norm_ (a' := ?_) ?_ ?_
      rotate_left
      · show Act.put _ (some 70) _ = _
        simp only [Act.put, List.setIfInBounds_toArray, List.set_cons_zero, List.set_cons_succ, i64_w, i32_w]
        rfl
      refine pure_ (i := 16) (N := some 71) (v := ?_) (a' := ?_) #[true, true, true, true, true, true, true, true, true, true, true, true, true, true, true, true, true, false, false, false, false, false, false, false, false, false, false, false, false, false, false, false, false, false, false, false, false] rfl rfl (by kernel_rfl) (fun _ _ _ h => h) (Or.inl ⟨by rfl, ?_⟩) ?_ ?_
      rotate_left
      · intro w'
        go_simp
        with_reducible rfl
      rotate_left
      · simp only [Act.put, List.setIfInBounds_toArray, List.set_cons_zero, List.set_cons_succ, i64_w, i32_w]
        rfl
      refine pure_ (i := 17) (N := some 72) (v := ?_) (a' := ?_) #[true, true, true, true, true, true, true, true, true, true, true, true, true, true, true, true, true, true, false, false, false, false, false, false, false, false, false, false, false, false, false, false, false, false, false, false, false] rfl rfl (by kernel_rfl) (fun _ _ _ h => h) (Or.inl ⟨by rfl, ?_⟩) ?_ ?_
      rotate_left
      · intro w'
        go_simp
        with_reducible rfl
      rotate_left
      · simp only [Act.put, List.setIfInBounds_toArray, List.set_cons_zero, List.set_cons_succ, i64_w, i32_w]
        rfl
      refine pure_ (i := 18) (N := some 73) (v := ?_) (a' := ?_) #[true, true, true, true, true, true, true, true, true, true, true, true, true, true, true, true, true, true, true, false, false, false, false, false, false, false, false, false, false, false, false, false, false, false, false, false, false] rfl rfl (by kernel_rfl) (fun _ _ _ h => h) (Or.inl ⟨by rfl, ?_⟩) ?_ ?_
      rotate_left
      · intro w'
        go_simp
        with_reducible rfl
      rotate_left
      · simp only [Act.put, List.setIfInBounds_toArray, List.set_cons_zero, List.set_cons_succ, i64_w, i32_w]
        rfl
      refine pure_ (i := 19) (N := some 74) (v := ?_) (a' := ?_) #[true, true, true, true, true, true, true, true, true, true, true, true, true, true, true, true, true, true, true, true, false, false, false, false, false, false, false, false, false, false, false, false, false, false, false, false, false] rfl rfl (by kernel_rfl) (fun _ _ _ h => h) (Or.inl ⟨by rfl, ?_⟩) ?_ ?_
      rotate_left
      · intro w'
        go_simp
        with_reducible rfl
      rotate_left
      · simp only [Act.put, List.setIfInBounds_toArray, List.set_cons_zero, List.set_cons_succ, i64_w, i32_w]
        rfl
      refine pure_ (i := 20) (N := some 75) (v := ?_) (a' := ?_) #[true, true, true, true, true, true, true, true, true, true, true, true, true, true, true, true, true, true, true, true, true, false, false, false, false, false, false, false, false, false, false, false, false, false, false, false, false] rfl rfl (by kernel_rfl) (fun _ _ _ h => h) (Or.inl ⟨by rfl, ?_⟩) ?_ ?_
      rotate_left
      · intro w'
        go_simp
        with_reducible rfl
      rotate_left
      · simp only [Act.put, List.setIfInBounds_toArray, List.set_cons_zero, List.set_cons_succ, i64_w, i32_w]
        rfl
      refine pure_ (i := 22) (N := some 77) (v := ?_) (a' := ?_) #[true, true, true, true, true, true, true, true, true, true, true, true, true, true, true, true, true, true, true, true, true, false, true, false, false, false, false, false, false, false, false, false, false, false, false, false, false] rfl rfl (by kernel_rfl) (fun _ _ _ h => h) (Or.inl ⟨by rfl, ?_⟩) ?_ ?_
      rotate_left
      · intro w'
        go_simp
        with_reducible rfl
      rotate_left
      · simp only [Act.put, List.setIfInBounds_toArray, List.set_cons_zero, List.set_cons_succ, i64_w, i32_w]
        rfl
      refine take_ (i := 21) (N := some 76) (v := ?_) (a' := ?_) #[true, true, true, true, true, true, true, true, true, true, true, true, true, true, true, true, true, true, true, true, true, true, true, false, false, false, false, false, false, false, false, false, false, false, false, false, false] rfl rfl (by kernel_rfl) (fun _ _ _ h => h) (Or.inl ⟨by rfl, ?_⟩) hHeld ?_ ?_
      rotate_left
      · rintro w' ⟨s0, s1, s2, s3, s4, s5, s6, s7, s8, s9, s10, s11, s12⟩
        go_simp
        with_reducible rfl
      rotate_left
      · simp only [Act.put, List.setIfInBounds_toArray, List.set_cons_zero, List.set_cons_succ, i64_w, i32_w]
        rfl
      refine pure_ (i := 23) (N := some 78) (v := ?_) (a' := ?_) #[true, true, true, true, true, true, true, true, true, true, true, true, true, true, true, true, true, true, true, true, true, true, true, true, false, false, false, false, false, false, false, false, false, false, false, false, false] rfl rfl (by kernel_rfl) (fun _ _ _ h => h) (Or.inl ⟨by rfl, ?_⟩) ?_ ?_
      rotate_left
      · intro w'
        go_simp
        with_reducible rfl
      rotate_left
      · simp only [Act.put, List.setIfInBounds_toArray, List.set_cons_zero, List.set_cons_succ, i64_w, i32_w]
        rfl
      refine pure_ (i := 24) (N := some 79) (v := ?_) (a' := ?_) #[true, true, true, true, true, true, true, true, true, true, true, true, true, true, true, true, true, true, true, true, true, true, true, true, true, false, false, false, false, false, false, false, false, false, false, false, false] rfl rfl (by kernel_rfl) (fun _ _ _ h => h) (Or.inl ⟨by rfl, ?_⟩) ?_ ?_
      rotate_left
      · intro w'
        go_simp
        with_reducible rfl
      rotate_left
      · simp only [Act.put, List.setIfInBounds_toArray, List.set_cons_zero, List.set_cons_succ, i64_w, i32_w]
        rfl
      refine pure_ (i := 25) (N := some 80) (v := ?_) (a' := ?_) #[true, true, true, true, true, true, true, true, true, true, true, true, true, true, true, true, true, true, true, true, true, true, true, true, true, true, false, false, false, false, false, false, false, false, false, false, false] rfl rfl (by kernel_rfl) (fun _ _ _ h => h) (Or.inl ⟨by rfl, ?_⟩) ?_ ?_
      rotate_left
      · intro w'
        go_simp
        with_reducible rfl
      rotate_left
      · simp only [Act.put, List.setIfInBounds_toArray, List.set_cons_zero, List.set_cons_succ, i64_w, i32_w]
        rfl
      refine pure_ (i := 26) (N := some 81) (v := ?_) (a' := ?_) #[true, true, true, true, true, true, true, true, true, true, true, true, true, true, true, true, true, true, true, true, true, true, true, true, true, true, true, false, false, false, false, false, false, false, false, false, false] rfl rfl (by kernel_rfl) (fun _ _ _ h => h) (Or.inl ⟨by rfl, ?_⟩) ?_ ?_
      rotate_left
      · intro w'
        go_simp
        with_reducible rfl
      rotate_left
      · simp only [Act.put, List.setIfInBounds_toArray, List.set_cons_zero, List.set_cons_succ, i64_w, i32_w]
        rfl
      refine pure_ (i := 27) (N := some 82) (v := ?_) (a' := ?_) #[true, true, true, true, true, true, true, true, true, true, true, true, true, true, true, true, true, true, true, true, true, true, true, true, true, true, true, true, false, false, false, false, false, false, false, false, false] rfl rfl (by kernel_rfl) (fun _ _ _ h => h) (Or.inl ⟨by rfl, ?_⟩) ?_ ?_
      rotate_left
      · intro w'
        go_simp
        with_reducible rfl
      rotate_left
      · simp only [Act.put, List.setIfInBounds_toArray, List.set_cons_zero, List.set_cons_succ, i64_w, i32_w]
        rfl
      refine pure_ (i := 28) (N := some 83) (v := ?_) (a' := ?_) #[true, true, true, true, true, true, true, true, true, true, true, true, true, true, true, true, true, true, true, true, true, true, true, true, true, true, true, true, true, false, false, false, false, false, false, false, false] rfl rfl (by kernel_rfl) (fun _ _ _ h => h) (Or.inl ⟨by rfl, ?_⟩) ?_ ?_
      rotate_left
      · intro w'
        go_simp
        with_reducible rfl
      rotate_left
      · simp only [Act.put, List.setIfInBounds_toArray, List.set_cons_zero, List.set_cons_succ, i64_w, i32_w]
        rfl
      refine pure_ (i := 30) (N := some 85) (v := ?_) (a' := ?_) #[true, true, true, true, true, true, true, true, true, true, true, true, true, true, true, true, true, true, true, true, true, true, true, true, true, true, true, true, true, false, true, false, false, false, false, false, false] rfl rfl (by kernel_rfl) (fun _ _ _ h => h) (Or.inl ⟨by rfl, ?_⟩) ?_ ?_
      rotate_left
      · intro w'
        go_simp
        with_reducible rfl
      rotate_left
      · simp only [Act.put, List.setIfInBounds_toArray, List.set_cons_zero, List.set_cons_succ, i64_w, i32_w]
        rfl
      refine take_ (i := 29) (N := some 84) (v := ?_) (a' := ?_) #[true, true, true, true, true, true, true, true, true, true, true, true, true, true, true, true, true, true, true, true, true, true, true, true, true, true, true, true, true, true, true, false, false, false, false, false, false] rfl rfl (by kernel_rfl) (fun _ _ _ h => h) (Or.inl ⟨by rfl, ?_⟩) hHeld ?_ ?_
      rotate_left
      · rintro w' ⟨s0, s1, s2, s3, s4, s5, s6, s7, s8, s9, s10, s11, s12⟩
        go_simp
        with_reducible rfl
      rotate_left
      · simp only [Act.put, List.setIfInBounds_toArray, List.set_cons_zero, List.set_cons_succ, i64_w, i32_w]
        rfl
      refine pure_ (i := 31) (N := some 86) (v := ?_) (a' := ?_) #[true, true, true, true, true, true, true, true, true, true, true, true, true, true, true, true, true, true, true, true, true, true, true, true, true, true, true, true, true, true, true, true, false, false, false, false, false] rfl rfl (by kernel_rfl) (fun _ _ _ h => h) (Or.inl ⟨by rfl, ?_⟩) ?_ ?_
      rotate_left
      · intro w'
        go_simp
        with_reducible rfl
      rotate_left
      · simp only [Act.put, List.setIfInBounds_toArray, List.set_cons_zero, List.set_cons_succ, i64_w, i32_w]
        rfl
      refine pure_ (i := 32) (N := some 87) (v := ?_) (a' := ?_) #[true, true, true, true, true, true, true, true, true, true, true, true, true, true, true, true, true, true, true, true, true, true, true, true, true, true, true, true, true, true, true, true, true, false, false, false, false] rfl rfl (by kernel_rfl) (fun _ _ _ h => h) (Or.inl ⟨by rfl, ?_⟩) ?_ ?_
      rotate_left
      · intro w'
        go_simp
        with_reducible rfl
      rotate_left
      · simp only [Act.put, List.setIfInBounds_toArray, List.set_cons_zero, List.set_cons_succ, i64_w, i32_w]
        rfl
      refine pure_ (i := 33) (N := some 88) (v := ?_) (a' := ?_) #[true, true, true, true, true, true, true, true, true, true, true, true, true, true, true, true, true, true, true, true, true, true, true, true, true, true, true, true, true, true, true, true, true, true, false, false, false] rfl rfl (by kernel_rfl) (fun _ _ _ h => h) (Or.inl ⟨by rfl, ?_⟩) ?_ ?_
      rotate_left
      · intro w'
        go_simp
        with_reducible rfl
      rotate_left
      · simp only [Act.put, List.setIfInBounds_toArray, List.set_cons_zero, List.set_cons_succ, i64_w, i32_w]
        rfl
      refine one_ (i := 34) (N := some 89) #[true, true, true, true, true, true, true, true, true, true, true, true, true, true, true, true, true, true, true, true, true, true, true, true, true, true, true, true, true, true, true, true, true, true, true, false, false] rfl rfl (by kernel_rfl) (by decide) (fun K hK => ?_)
      refine goes_ Try.func3 (by kernel_rfl) rfl #[] (by rfl) rfl rfl (by simp) ?_
      with_reducible refine (TrapRuns_any _).mono ?_
      rintro en w6 ⟨rfl, hb⟩
      refine ⟨_, rfl, ?_⟩
      refine hK.out _ _ ⟨(hb.cell (World.block_lt_of_cell? _ _ (hHeld.1))).trans (hHeld.1), (hb.cell (World.block_lt_of_cell? _ _ (hHeld.2.1))).trans (hHeld.2.1), (hb.cell (World.block_lt_of_cell? _ _ (hHeld.2.2.1))).trans (hHeld.2.2.1), (hb.cell (World.block_lt_of_cell? _ _ (hHeld.2.2.2.1))).trans (hHeld.2.2.2.1), (hb.cell (World.block_lt_of_cell? _ _ (hHeld.2.2.2.2.1))).trans (hHeld.2.2.2.2.1), (hb.cell (World.block_lt_of_cell? _ _ (hHeld.2.2.2.2.2.1))).trans (hHeld.2.2.2.2.2.1), (hb.cell (World.block_lt_of_cell? _ _ (hHeld.2.2.2.2.2.2.1))).trans (hHeld.2.2.2.2.2.2.1), (hb.cell (World.block_lt_of_cell? _ _ (hHeld.2.2.2.2.2.2.2.1))).trans (hHeld.2.2.2.2.2.2.2.1), (hb.cell (World.block_lt_of_cell? _ _ (hHeld.2.2.2.2.2.2.2.2.1))).trans (hHeld.2.2.2.2.2.2.2.2.1), (hb.cell (World.block_lt_of_cell? _ _ (hHeld.2.2.2.2.2.2.2.2.2.1))).trans (hHeld.2.2.2.2.2.2.2.2.2.1), (hb.cell (World.block_lt_of_cell? _ _ (hHeld.2.2.2.2.2.2.2.2.2.2.1))).trans (hHeld.2.2.2.2.2.2.2.2.2.2.1), (hb.cell (World.block_lt_of_cell? _ _ (hHeld.2.2.2.2.2.2.2.2.2.2.2.1))).trans (hHeld.2.2.2.2.2.2.2.2.2.2.2.1), (hb.cell (World.block_lt_of_cell? _ _ (hHeld.2.2.2.2.2.2.2.2.2.2.2.2))).trans (hHeld.2.2.2.2.2.2.2.2.2.2.2.2)⟩ (fun hHeld => ?_)
      clear hK K
      refine norm_ (a' := ?_) ?_ ?_
      rotate_left
      · show Act.put _ (some 89) _ = _
        simp only [Act.put, List.setIfInBounds_toArray, List.set_cons_zero, List.set_cons_succ, i64_w, i32_w]
        rfl
      refine pure_ (i := 35) (N := some 90) (v := ?_) (a' := ?_) #[true, true, true, true, true, true, true, true, true, true, true, true, true, true, true, true, true, true, true, true, true, true, true, true, true, true, true, true, true, true, true, true, true, true, true, true, false] rfl rfl (by kernel_rfl) (fun _ _ _ h => h) (Or.inl ⟨by rfl, ?_⟩) ?_ ?_
      rotate_left
      · intro w'
        go_simp
        with_reducible rfl
      rotate_left
      · simp only [Act.put, List.setIfInBounds_toArray, List.set_cons_zero, List.set_cons_succ, i64_w, i32_w]
        rfl
      refine pure_ (i := 36) (N := some 8) (v := ?_) (a' := ?_) #[true, true, true, true, true, true, true, true, true, true, true, true, true, true, true, true, true, true, true, true, true, true, true, true, true, true, true, true, true, true, true, true, true, true, true, true, true] rfl rfl (by kernel_rfl) (fun _ _ _ h => h) (Or.inl ⟨by rfl, ?_⟩) ?_ ?_
      rotate_left
      · intro w'
        go_simp
        with_reducible rfl
      rotate_left
      · simp only [Act.put, List.setIfInBounds_toArray, List.set_cons_zero, List.set_cons_succ, i64_w, i32_w]
        rfl
      refine done_ (by kernel_rfl) ?_
      go_wp2_with fail
      go_ret
      have hf := HB.out.1.trans ((hb4.mono HB.out.2).trans (pw_below_drewN (Below.refl _ _) q))
      exact ⟨rfl, hf.trans (hb.mono hf.size)⟩
end Go.Proofs.Ytcpinjdkgponnaa.Trap
