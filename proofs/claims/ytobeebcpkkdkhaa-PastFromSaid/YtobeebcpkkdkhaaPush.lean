/- Package past: Push (printed by wip/law11/gen_Push.py out of Push.body). -/
import Derived.Test.YtobeebcpkkdkhaaPast
set_option linter.unusedVariables false
set_option linter.unusedSimpArgs false
namespace Go.Proofs.Ytobeebcpkkdkhaa.Pa
open Go.RowKit Go.Proofs.YtobeebcpkkdkhaaW.PrintWords Go.Proofs.YtobeebcpkkdkhaaW.PrintLast Go.Proofs.Ytobeebcpkkdkhaa.PPastRuns

theorem exec_append {P : Program} {o : Oper} {a : Act} {w w1 : World} {v : Value} (s x : Operand) (t : TypeId) (ho : o.op = .call { callee := .builtin .append, args := #[s, x], argTypes := #[t, t] }) (vs vx : Value) (hs : a.eval s = vs) (hx : a.eval x = vx) (hr : (Builtin.append_ #[t, t] o.type #[vs, vx]).run P w = .ok v w1) : (execOp a.eval o).run P w = .ok (.value v) w1 := by
  unfold execOp
  simp only [ho, resolve, invoke, builtin, Sem.run_bind, Sem.run_pure, Result.andThen_ok, List.map_toArray, List.map_cons, List.map_nil, hs, hx, hr]
theorem own_lower2 {w : World} {base base' n size : Nat} {e : TypeId} {v : Value} {xs : List Value} (h : w.ownsRow base e size v n xs) (hb : base' ≤ base) : w.ownsRow base' e size v n xs := by
  refine ⟨h.1, ?_⟩
  rcases h.2 with h2 | ⟨g, cap, cur, e1, h3, r⟩
  · exact .inl h2
  · exact .inr ⟨g, cap, cur, e1, Nat.le_trans hb h3, r⟩
theorem own_slice {w : World} {base : Nat} {e : TypeId} {size n : Nat} {v : Value} {xs : List Value} (h : w.ownsRow base e size v n xs) : ∃ A c, v = .slice A n c := by
  rcases h.2 with ⟨rfl, rfl⟩ | ⟨g, cap, cur, rfl, _⟩
  · exact ⟨_, _, rfl⟩
  · exact ⟨_, _, rfl⟩
theorem row_cells {w : World} {q : Nat} {url : ByteArray} {x : Int} {fr : Nat × Nat} (h : w.heap[q]? = some (.cells #[.string url, .int .u64 x] 28 fr)) : ∀ j u, (enc [⟨url, x⟩])[j]? = some u → w.cell? ((⟨q, 0, none⟩ : Addr).add j) = some u := by
  intro j u hj
  rw [add_plain]
  match j with
  | 0 => simp [enc] at hj; subst hj; simp [World.cell?, h]
  | 1 => simp [enc] at hj; subst hj; simp [World.cell?, h]
  | j + 2 => simp [enc] at hj
/-- The first k of a row. -/
theorem RowOf.take {w : World} {r n cap : Nat} {l : List S28} (h : RowOf w (.slice (some ⟨r, 0, none⟩) n cap) l) (hn : n = l.length) (k : Nat) (hk : k ≤ l.length) : RowOf w (.slice (some ⟨r, 0, none⟩) k cap) (l.take k) := by
  subst hn
  rcases h.2 with ⟨e, _⟩ | ⟨g, cap', cur, e, h0, h1, h2, h3, h4, h5⟩
  · cases e
  · injection e with e1 e2 e3
    injection e1 with e1
    injection e1 with e1
    subst e1
    subst e3
    have hl : (l.take k).length = k := by rw [List.length_take]; omega
    refine ⟨by rw [enc_length], .inr ⟨r, cap, cur, by rw [hl], h0, h1, by omega, h3, h4, ?_⟩⟩
    rw [hl, enc_take, ← h5, List.take_take]
    congr 1
    omega
theorem Push_no (g : Nat) (v : Value) (l : List S28) (url : ByteArray) (w : World) (h : PastAt w g v l 11) : Calls Try.prog 9 #[.pointer (some ⟨g, 0, none⟩), .string url] w fun en w' => en = .returned (.int .i64 5) ∧ w' = w := by
  have c1 := h.c1
  go_enter Try.func9, Try.ntmps9
  go_wp2_with fail
  go_ret
  exact ⟨rfl, rfl⟩
set_option maxHeartbeats 1000000 in
set_option maxRecDepth 100000 in
theorem Push_yes2 (g : Nat) (v : Value) (l : List S28) (i : Nat) (url : ByteArray) (w : World) (h : PastAt w g v l (i : Int)) (hi : i < l.length) (h11 : i < 11) (hl : l.length ≤ 1000) : Calls Try.prog 9 #[.pointer (some ⟨g, 0, none⟩), .string url] w fun en w' => en = .returned (.int .i64 0) ∧ ∃ v', PastAt w' g v' (l.take (i + 1) ++ [⟨url, 0⟩]) ((i + 1 : Nat) : Int) ∧ Upd g w w' ∧ ∀ k, v'.ownBlock = some k → w.heap.size ≤ k := by
  have c1 := h.c1
  have f1 := h.f1
  have hne : ((i : Int) == 11) = false := beq_eq_false_iff_ne.2 (by omega)
  have hw : wrap64 ((i : Int) + 1) = (i : Int) + 1 := by unfold wrap64; omega
  obtain ⟨n, r, cap, hn, hv, hcap⟩ : ∃ n r cap, n = l.length ∧ v = .slice (some ⟨r, 0, none⟩) n cap ∧ n ≤ cap := by
    rcases h.row.2 with ⟨_, h0⟩ | ⟨r, cap, cur, e, _, _, hc, _⟩
    · omega
    · exact ⟨_, r, cap, rfl, e, hc⟩
  subst hv
  obtain ⟨H1, U1⟩ := h.move1 ((i : Int) + 1)
  have HH1 := Lib.hid H1
  have HU1 := Lib.hid U1
  clear H1 U1 h
  go_enter Try.func9, Try.ntmps9
  go_wp2_with fail
  generalize w.setCell ⟨g, 1, none⟩ (.int .i64 ((i : Int) + 1)) = W0 at HH1 HU1 ⊢
  clear c1 f1
  obtain ⟨k, hk⟩ : ∃ k : Int, (i : Int) + 1 = k := ⟨_, rfl⟩
  rw [hk] at HH1 ⊢
  obtain ⟨l1, hl1e⟩ : ∃ l1, l.take (i + 1) = l1 := ⟨_, rfl⟩
  have hlen : l1.length = i + 1 := by rw [← hl1e, List.length_take]; omega
  have HRow : RowOf W0 (.slice (some ⟨r, 0, none⟩) l1.length cap) l1 := by
    have := HH1.out.row.take hn (i + 1) (by omega)
    rw [hl1e] at this
    rw [hlen]
    exact this
  have hB1 : Below W0.heap.size W0 W0.drew := below_drew1 (Below.refl _ _)
  have HRA : Hid (∀ W', Below W0.drew.heap.size W0.drew W' → RowOf W' (.slice (some ⟨r, 0, none⟩) l1.length cap) l1) := Lib.hid (fun W' hB => (HRow.below hB1).below hB)
  have HG1 : Hid (W0.drew.heap[g]? = some (.cells #[.slice (some ⟨r, 0, none⟩) n cap, .int .i64 k] 55 (0, 0)) ∧ g < W0.drew.heap.size) := Lib.hid ⟨HH1.out.obj, lt_of_heap HH1.out.obj⟩
  have HU : Hid (Upd g w W0.drew) := Lib.hid (HU1.out.trans (Upd.of_below hB1))
  have K0 : W0.drew.cell? ⟨g, 0, none⟩ = some (.slice (some ⟨r, 0, none⟩) n cap) := HH1.out.c0
  have K1 : W0.drew.cell? ⟨g, 1, none⟩ = some (.int .i64 k) := HH1.out.c1
  have hl1 : l1.length ≤ 1000 := by omega
  have q0 : (0 : Int) ≤ k := by omega
  have q1 : k ≤ (cap : Int) := by have := hcap; omega
  have q2 : k.toNat = l1.length := by omega
  have HLEN := Lib.hid hlen
  clear HRow HH1 HU1 hB1 hlen hcap
  refine start_ (n := 18) (S := fun w' => w'.cell? ⟨g, 0, none⟩ = some (.slice (some ⟨r, 0, none⟩) n cap) ∧ w'.cell? ⟨g, 1, none⟩ = some (.int .i64 k)) (ds := [14, 17]) #[false, false, false, false, false, false, false, false, false, false, false, false, false, false, false, false, false, false] (by kernel_rfl) rfl rfl ⟨K0, K1⟩ (fun hHeld => ?_)
  clear K0 K1
  generalize hW1 : W0.drew = W1 at *
  refine pure_ (i := 0) (N := some 17) (v := ?_) (a' := ?_) #[true, false, false, false, false, false, false, false, false, false, false, false, false, false, false, false, false, false] rfl rfl (by kernel_rfl) (fun _ _ _ h => h) (Or.inl ⟨by rfl, ?_⟩) ?_ ?_
  rotate_left
  · intro w'
    go_simp
    with_reducible rfl
  rotate_left
  · simp only [Act.put, List.setIfInBounds_toArray, List.set_cons_zero, List.set_cons_succ, i64_w, i32_w]
    rfl
  refine pure_ (i := 1) (N := some 18) (v := ?_) (a' := ?_) #[true, true, false, false, false, false, false, false, false, false, false, false, false, false, false, false, false, false] rfl rfl (by kernel_rfl) (fun _ _ _ h => h) (Or.inl ⟨by rfl, ?_⟩) ?_ ?_
  rotate_left
  · intro w'
    go_simp
    with_reducible rfl
  rotate_left
  · simp only [Act.put, List.setIfInBounds_toArray, List.set_cons_zero, List.set_cons_succ, i64_w, i32_w]
    rfl
  refine pure_ (i := 2) (N := some 19) (v := ?_) (a' := ?_) #[true, true, true, false, false, false, false, false, false, false, false, false, false, false, false, false, false, false] rfl rfl (by kernel_rfl) (fun _ _ _ h => h) (Or.inl ⟨by rfl, ?_⟩) ?_ ?_
  rotate_left
  · intro w'
    go_simp
    with_reducible rfl
  rotate_left
  · simp only [Act.put, List.setIfInBounds_toArray, List.set_cons_zero, List.set_cons_succ, i64_w, i32_w]
    rfl
  refine pure_ (i := 3) (N := some 20) (v := ?_) (a' := ?_) #[true, true, true, true, false, false, false, false, false, false, false, false, false, false, false, false, false, false] rfl rfl (by kernel_rfl) (fun _ _ _ h => h) (Or.inl ⟨by rfl, ?_⟩) ?_ ?_
  rotate_left
  · intro w'
    go_simp
    with_reducible rfl
  rotate_left
  · simp only [Act.put, List.setIfInBounds_toArray, List.set_cons_zero, List.set_cons_succ, i64_w, i32_w]
    rfl
  refine pure_ (i := 5) (N := some 22) (v := ?_) (a' := ?_) #[true, true, true, true, false, true, false, false, false, false, false, false, false, false, false, false, false, false] rfl rfl (by kernel_rfl) (fun _ _ _ h => h) (Or.inl ⟨by rfl, ?_⟩) ?_ ?_
  rotate_left
  · intro w'
    go_simp
    with_reducible rfl
  rotate_left
  · simp only [Act.put, List.setIfInBounds_toArray, List.set_cons_zero, List.set_cons_succ, i64_w, i32_w]
    rfl
  refine pure_ (i := 6) (N := some 23) (v := ?_) (a' := ?_) #[true, true, true, true, false, true, true, false, false, false, false, false, false, false, false, false, false, false] rfl rfl (by kernel_rfl) (fun _ _ _ h => h) (Or.inl ⟨by rfl, ?_⟩) ?_ ?_
  rotate_left
  · intro w'
    go_simp
    with_reducible rfl
  rotate_left
  · simp only [Act.put, List.setIfInBounds_toArray, List.set_cons_zero, List.set_cons_succ, i64_w, i32_w]
    rfl
  refine pure_ (i := 7) (N := some 24) (v := ?_) (a' := ?_) #[true, true, true, true, false, true, true, true, false, false, false, false, false, false, false, false, false, false] rfl rfl (by kernel_rfl) (fun _ _ _ h => h) (Or.inl ⟨by rfl, ?_⟩) ?_ ?_
  rotate_left
  · intro w'
    go_simp
    with_reducible rfl
  rotate_left
  · simp only [Act.put, List.setIfInBounds_toArray, List.set_cons_zero, List.set_cons_succ, i64_w, i32_w]
    rfl
  refine pure_ (i := 11) (N := some 28) (v := ?_) (a' := ?_) #[true, true, true, true, false, true, true, true, false, false, false, true, false, false, false, false, false, false] rfl rfl (by kernel_rfl) (fun _ _ _ h => h) (Or.inl ⟨by rfl, ?_⟩) ?_ ?_
  rotate_left
  · intro w'
    go_simp
    with_reducible rfl
  rotate_left
  · simp only [Act.put, List.setIfInBounds_toArray, List.set_cons_zero, List.set_cons_succ, i64_w, i32_w]
    rfl
  refine pure_ (i := 12) (N := some 29) (v := ?_) (a' := ?_) #[true, true, true, true, false, true, true, true, false, false, false, true, true, false, false, false, false, false] rfl rfl (by kernel_rfl) (fun _ _ _ h => h) (Or.inl ⟨by rfl, ?_⟩) ?_ ?_
  rotate_left
  · intro w'
    go_simp
    with_reducible rfl
  rotate_left
  · simp only [Act.put, List.setIfInBounds_toArray, List.set_cons_zero, List.set_cons_succ, i64_w, i32_w]
    rfl
  refine take_ (i := 4) (N := some 21) (v := ?_) (a' := ?_) #[true, true, true, true, true, true, true, true, false, false, false, true, true, false, false, false, false, false] rfl rfl (by kernel_rfl) (fun _ _ _ h => h) (Or.inl ⟨by rfl, ?_⟩) hHeld ?_ ?_
  rotate_left
  · rintro w' ⟨s0, s1⟩
    go_simp
    with_reducible rfl
  rotate_left
  · simp only [Act.put, List.setIfInBounds_toArray, List.set_cons_zero, List.set_cons_succ, i64_w, i32_w]
    rfl
  refine take_ (i := 8) (N := some 25) (v := ?_) (a' := ?_) #[true, true, true, true, true, true, true, true, true, false, false, true, true, false, false, false, false, false] rfl rfl (by kernel_rfl) (fun _ _ _ h => h) (Or.inl ⟨by rfl, ?_⟩) hHeld ?_ ?_
  rotate_left
  · rintro w' ⟨s0, s1⟩
    go_simp
    with_reducible rfl
  rotate_left
  · simp only [Act.put, List.setIfInBounds_toArray, List.set_cons_zero, List.set_cons_succ, i64_w, i32_w]
    rfl
  refine pure_ (i := 9) (N := some 26) (v := ?_) (a' := ?_) #[true, true, true, true, true, true, true, true, true, true, false, true, true, false, false, false, false, false] rfl rfl (by kernel_rfl) (fun _ _ _ h => h) (Or.inl ⟨by rfl, ?_⟩) ?_ ?_
  rotate_left
  · intro w'
    go_simp
    with_reducible rfl
  rotate_left
  · simp only [Act.put, List.setIfInBounds_toArray, List.set_cons_zero, List.set_cons_succ, i64_w, i32_w]
    rfl
  refine join_ (σ := Value × Nat) 4 #[true, true, true, true, true, true, true, true, true, true, true, true, true, true, false, false, false, false] (fun s => [(27, s.1), (30, .slice (some ⟨s.2, 0, none⟩) 1 1)]) (fun s w' => w'.ownsRow W1.heap.size 28 2 s.1 l1.length (enc l1) ∧ w'.heap[s.2]? = some (.cells #[.string url, .int .u64 0] 28 (0, 0)) ∧ s.1.ownBlock ≠ some s.2 ∧ Below W1.heap.size W1 w' ∧ W1.heap.size ≤ s.2 ∧ (w'.cell? ⟨g, 0, none⟩ = some (.slice (some ⟨r, 0, none⟩) n cap) ∧ w'.cell? ⟨g, 1, none⟩ = some (.int .i64 k))) ?_ ?_
  rotate_left
  · intro hCont
    refine two_ (i := 10) (j := 13) (Ni := some 27) (Nj := some 30) #[true, true, true, true, true, true, true, true, true, true, true, true, true, false, false, false, false, false] #[true, true, true, true, true, true, true, true, true, true, false, true, true, true, false, false, false, false] rfl rfl rfl rfl (by kernel_rfl) (by decide) (by decide) (fun K hK => ?_) (fun K hK => ?_)
    · skip
      refine goes_ Try.func24 (by kernel_rfl) rfl #[.slice (some ⟨r, 0, none⟩) l1.length cap] (by rfl) rfl rfl (by simp only [List.map_toArray, List.map_cons, List.map_nil]; rfl) ?_
      with_reducible refine (Clone_any _ l1 _ (by first | exact HRA.out _ (Below.refl _ _) | exact HRA.out _ ((Below.refl _ _).alloc (Nat.le_refl _) _)) hl1).mono ?_
      rintro en w3 ⟨v2, rfl, h2, hB⟩
      refine ⟨_, rfl, ?_⟩
      refine hK.out _ _ ⟨(hB.cell (World.block_lt_of_cell? _ _ hHeld.1)).trans hHeld.1, (hB.cell (World.block_lt_of_cell? _ _ hHeld.2)).trans hHeld.2⟩ (fun hHeld => ?_)
      clear hK K
      refine norm_ (a' := ?_) ?_ ?_
      rotate_left
      · show Act.put _ (some 27) _ = _
        simp only [Act.put, List.setIfInBounds_toArray, List.set_cons_zero, List.set_cons_succ, i64_w, i32_w]
        rfl
      refine one_ (i := 13) (N := some 30) #[true, true, true, true, true, true, true, true, true, true, true, true, true, true, false, false, false, false] rfl rfl (by kernel_rfl) (by decide) (fun K hK => ?_)
      refine value_ (w1 := ?_) (v := ?_) (by rfl) rfl ?_ ?_
      rotate_left 2
      · go_simp
        constructor
        · rfl
        · rfl
      refine hK.out _ _ ⟨(World.cell?_alloc_lt _ _ _ (World.block_lt_of_cell? _ _ hHeld.1)).trans hHeld.1, (World.cell?_alloc_lt _ _ _ (World.block_lt_of_cell? _ _ hHeld.2)).trans hHeld.2⟩ (fun hHeld => ?_)
      clear hK K
      refine norm_ (a' := ?_) ?_ ?_
      rotate_left
      · show Act.put _ (some 30) _ = _
        simp only [Act.put, List.setIfInBounds_toArray, List.set_cons_zero, List.set_cons_succ, i64_w, i32_w]
        rfl
      exact norm_ (by simp only [putAll, Act.put, List.setIfInBounds_toArray, List.set_cons_zero, List.set_cons_succ]) (hCont (v2, w3.heap.size) _ ⟨h2.alloc _, heap_alloc_new w3 _, fun e => by have := (h2.lt _ e).2; omega, hB.alloc hB.size _, hB.size, hHeld⟩)
    · skip
      refine value_ (w1 := ?_) (v := ?_) (by rfl) rfl ?_ ?_
      rotate_left 2
      · go_simp
        constructor
        · rfl
        · rfl
      refine hK.out _ _ ⟨(World.cell?_alloc_lt _ _ _ (World.block_lt_of_cell? _ _ hHeld.1)).trans hHeld.1, (World.cell?_alloc_lt _ _ _ (World.block_lt_of_cell? _ _ hHeld.2)).trans hHeld.2⟩ (fun hHeld => ?_)
      clear hK K
      refine norm_ (a' := ?_) ?_ ?_
      rotate_left
      · show Act.put _ (some 30) _ = _
        simp only [Act.put, List.setIfInBounds_toArray, List.set_cons_zero, List.set_cons_succ, i64_w, i32_w]
        rfl
      refine one_ (i := 10) (N := some 27) #[true, true, true, true, true, true, true, true, true, true, true, true, true, true, false, false, false, false] rfl rfl (by kernel_rfl) (by decide) (fun K hK => ?_)
      refine goes_ Try.func24 (by kernel_rfl) rfl #[.slice (some ⟨r, 0, none⟩) l1.length cap] (by rfl) rfl rfl (by simp only [List.map_toArray, List.map_cons, List.map_nil]; rfl) ?_
      with_reducible refine (Clone_any _ l1 _ (by first | exact HRA.out _ (Below.refl _ _) | exact HRA.out _ ((Below.refl _ _).alloc (Nat.le_refl _) _)) hl1).mono ?_
      rintro en w3 ⟨v2, rfl, h2, hB⟩
      refine ⟨_, rfl, ?_⟩
      refine hK.out _ _ ⟨(hB.cell (World.block_lt_of_cell? _ _ hHeld.1)).trans hHeld.1, (hB.cell (World.block_lt_of_cell? _ _ hHeld.2)).trans hHeld.2⟩ (fun hHeld => ?_)
      clear hK K
      refine norm_ (a' := ?_) ?_ ?_
      rotate_left
      · show Act.put _ (some 27) _ = _
        simp only [Act.put, List.setIfInBounds_toArray, List.set_cons_zero, List.set_cons_succ, i64_w, i32_w]
        rfl
      exact norm_ (by simp only [putAll, Act.put, List.setIfInBounds_toArray, List.set_cons_zero, List.set_cons_succ]) (hCont (v2, W1.heap.size) _ ⟨own_lower2 h2 (by simp), (hB.block _ (by simp)).trans (heap_alloc_new W1 _), fun e => by have := (h2.lt _ e).1; simp at this; omega, ((Below.refl _ _).alloc (Nat.le_refl _) _).trans (hB.mono (by simp)), Nat.le_refl _, hHeld⟩)
  rintro ⟨v2, q⟩ w3 ⟨f1, f2, f3, f4, f5, hHeld⟩
  dsimp only at f1 f2 f3 f5
  refine norm_ (a' := ?_) ?_ ?_
  rotate_left
  · simp only [putAll, Act.put, List.setIfInBounds_toArray, List.set_cons_zero, List.set_cons_succ]
    rfl
  refine last_ (i := 14) (N := some 31) #[true, true, true, true, true, true, true, true, true, true, true, true, true, true, true, false, false, false] rfl rfl (by kernel_rfl) (by decide) (fun K hK => ?_)
  obtain ⟨v3, w4, hrun, h4, hg4⟩ := run_append_entries w3 W1.heap.size v2 l1 [⟨url, 0⟩] ⟨q, 0, none⟩ 1 32 f1 (row_cells f2) (by have := HLEN.out; simp; omega) f4.size
  refine value_ (w1 := w4) (v := v3) (by rfl) rfl ?_ ?_
  · exact exec_append (.tmp 27) (.tmp 30) 32 rfl _ _ rfl rfl hrun
  refine hK.out _ _ ?_
  clear hK K
  refine norm_ (a' := ?_) ?_ ?_
  rotate_left
  · show Act.put _ (some 31) _ = _
    simp only [Act.put, List.setIfInBounds_toArray, List.set_cons_zero, List.set_cons_succ, i64_w, i32_w]
    rfl
  refine pure_ (i := 15) (N := some 32) (v := ?_) (a' := ?_) #[true, true, true, true, true, true, true, true, true, true, true, true, true, true, true, true, false, false] rfl rfl (by kernel_rfl) (fun _ _ _ h => h) (Or.inl ⟨by rfl, ?_⟩) ?_ ?_
  rotate_left
  · intro w'
    go_simp
    with_reducible rfl
  rotate_left
  · simp only [Act.put, List.setIfInBounds_toArray, List.set_cons_zero, List.set_cons_succ, i64_w, i32_w]
    rfl
  refine pure_ (i := 16) (N := some 33) (v := ?_) (a' := ?_) #[true, true, true, true, true, true, true, true, true, true, true, true, true, true, true, true, true, false] rfl rfl (by kernel_rfl) (fun _ _ _ h => h) (Or.inl ⟨by rfl, ?_⟩) ?_ ?_
  rotate_left
  · intro w'
    go_simp
    with_reducible rfl
  rotate_left
  · simp only [Act.put, List.setIfInBounds_toArray, List.set_cons_zero, List.set_cons_succ, i64_w, i32_w]
    rfl
  refine last_ (i := 17) (N := none) #[true, true, true, true, true, true, true, true, true, true, true, true, true, true, true, true, true, true] rfl rfl (by kernel_rfl) (by decide) (fun K hK => ?_)
  have ho4 := (hg4.block g (by have := f4.size; have := HG1.out.2; omega) (fun e => by have := (f1.lt _ e.symm).1; have := HG1.out.2; omega)).trans ((f4.block g HG1.out.2).trans HG1.out.1)
  have k4 : w4.cell? ⟨g, 0, none⟩ = some (.slice (some ⟨r, 0, none⟩) n cap) := by simp [World.cell?, ho4]
  have z4 : w4.frozen? ⟨g, 0, none⟩ = false := by simp [World.frozen?, ho4]
  obtain ⟨A3, c3, e3⟩ := own_slice h4
  subst e3
  refine skip_ (w1 := ?_) (by rfl) rfl ?_ ?_
  rotate_left
  · go_simp
    rfl
  refine hK.out _ _ ?_
  clear hK K
  refine done_ (by kernel_rfl) ?_
  have hlen := HLEN.out
  have hlen2 : l1.length + 1 = (l1 ++ [(⟨url, 0⟩ : S28)]).length := by simp
  go_wp2_with fail
  go_ret
  rw [hl1e, show ((i + 1 : Nat) : Int) = k by omega]
  refine ⟨rfl, .slice A3 (l1 ++ [(⟨url, 0⟩ : S28)]).length c3, ⟨?_, ?_⟩, ?_, fun k hk => ?_⟩
  · rw [hlen2]
    simp [World.setCell, Array.getElem?_modify, ho4]
  · refine own_move (own_lower h4) (fun j hj => ?_)
    have hj2 := (h4.lt j hj).1
    exact Below.heap_setCell _ _ _ _ (by have := HG1.out.2; show j ≠ g; omega)
  · have hf4 := f4.size
    have hU := HU.out
    have hsz : w3.heap.size ≤ w4.heap.size := hg4.size
    refine hU.trans ⟨hg4.os.trans f4.os, hg4.tape.trans f4.tape, hg4.output.trans f4.output, by simp [World.setCell]; omega, fun j hj hjg => ?_⟩
    rw [Below.heap_setCell _ _ _ _ hjg, hg4.block j (by omega) (fun e => by have := (f1.lt _ e.symm).1; omega), f4.block j hj]
  · have h1 := (h4.lt k hk).1
    have h2 := HU.out.size
    omega
theorem Push_yes (g : Nat) (v : Value) (l : List S28) (i : Nat) (url : ByteArray) (w : World) (h : PastAt w g v l (i : Int)) (hi : i < l.length) (h11 : i < 11) (hl : l.length ≤ 1000) : Calls Try.prog 9 #[.pointer (some ⟨g, 0, none⟩), .string url] w fun en w' => en = .returned (.int .i64 0) ∧ ∃ v', PastAt w' g v' (l.take (i + 1) ++ [⟨url, 0⟩]) ((i + 1 : Nat) : Int) ∧ Upd g w w' :=
  (Push_yes2 g v l i url w h hi h11 hl).mono fun _ _ ⟨e, v', h1, h2, _⟩ => ⟨e, v', h1, h2⟩
end Go.Proofs.Ytobeebcpkkdkhaa.Pa
