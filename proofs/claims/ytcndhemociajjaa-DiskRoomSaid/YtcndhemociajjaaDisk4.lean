/- Package disk: put, goes, Clone, Sync, Read, Write .. (printed by wip/law23/gen_Disk4.py out of Disk4.body). -/
import Derived.Test.YtcndhemociajjaaDisk3
import Derived.Shelf.SlMaps.Clone
set_option linter.unusedVariables false
set_option linter.unusedSimpArgs false
namespace Go.Proofs.Ytcndhemociajjaa.Dk
open Go.RowKit Go.Maps Go.WideMaps Go.Proofs.YtcndhemociajjaaW.PrintWords Go.Proofs.YtcndhemociajjaaW.PrintLast Go.Proofs.Ytcndhemociajjaa.Sl Go.Proofs.Ytcndhemociajjaa.Mv Go.Proofs.Ytcndhemociajjaa.PDiskRoom

theorem exec_append {P : Program} {o : Oper} {a : Act} {w w1 : World} {v : Value} (s x : Operand) (t : TypeId) (ho : o.op = .call { callee := .builtin .append, args := #[s, x], argTypes := #[t, t] }) (vs vx : Value) (hs : a.eval s = vs) (hx : a.eval x = vx) (hr : (Builtin.append_ #[t, t] o.type #[vs, vx]).run P w = .ok v w1) : (execOp a.eval o).run P w = .ok (.value v) w1 := by
  unfold execOp
  simp only [ho, resolve, invoke, builtin, Sem.run_bind, Sem.run_pure, Result.andThen_ok, List.map_toArray, List.map_cons, List.map_nil, hs, hx, hr]
theorem lt_of_cell {w : World} {b o : Nat} {v : Value} (h : w.cell? ⟨b, o, none⟩ = some v) : b < w.heap.size := World.block_lt_of_cell? w _ h
theorem task_cells {W : World} {b : Nat} {t : Tk} {u : Value} (hu : t.f.v = u) (h : W.heap[b]? = some (.cells #[.string t.nm, .string t.tn, u, .bool t.wr] 48 (0, 0))) : ∀ j u, (tkEnc [t])[j]? = some u → W.cell? ((⟨b, 0, none⟩ : Addr).add j) = some u := fun j v hv => by
  rcases j with _ | _ | _ | _ | j <;> simp [tkEnc, Tk.cs] at hv <;> subst hv <;> simp [World.cell?, Addr.add, h, hu]
theorem named_ok (s : ByteArray) (h : s.size ≤ 16) (hs : s ≠ ⟨#[]⟩) : disk_named.f s = some true := by
  unfold disk_named.f
  rw [if_neg (fun e => hs (by
    obtain ⟨⟨l⟩⟩ := s
    rw [ByteArray.toList_eq] at e
    have e : l = [] := e
    rw [e])), decide_eq_true (by omega)]
theorem named_any (s : ByteArray) (h : s.size ≤ 16) (hs : s ≠ ⟨#[]⟩) (w : World) : Calls Try.prog 17 #[.string s] w fun e w' => e = .returned (.bool true) ∧ Below w.heap.size w w' := by
  refine (disk_named.calls s true w (named_ok s h hs)).mono ?_
  rintro e w1 ⟨rfl, hd⟩
  obtain ⟨q, rfl⟩ := hd.out
  exact ⟨rfl, pw_below_drewN (Below.refl _ _) q⟩
theorem goes_any (d : Nat) (w : World) (h3 : w.cell? ⟨d, 3, none⟩ = some (.bool false)) (h4 : w.cell? ⟨d, 4, none⟩ = some (.bool false)) : Calls Try.prog 18 #[.pointer (some ⟨d, 0, none⟩)] w fun e w' => e = .returned (.bool true) ∧ w' = w := by
  go_enter Try.func18, Try.ntmps18
  go_wp2_with fail
  go_ret
  exact ⟨rfl, rfl⟩
set_option maxHeartbeats 4000000 in
set_option maxRecDepth 100000 in
theorem put_any (d bf bn n1 n2 : Nat) (firm now : FS) (wait : List Tk) (vw : Value) (t : Tk) (w0 w : World) (h : DA w0 w d bf bn n1 n2 firm now wait vw) (hn : n2 < 90000) (hw : wait.length < 90000) (hnm : t.nm.size ≤ 16) (hto : t.tn.size ≤ 16) (hb : BRow w t.f.v t.f.l) : Calls Try.prog 19 #[.pointer (some ⟨d, 0, none⟩), .agg #[.string t.nm, .string t.tn, t.f.v, .bool t.wr]] w fun e w' => e = .returned (.int .i64 0) ∧ ∃ vw', DA w0 w' d bf bn n1 (n2 + 1) firm (doneL now t) (wait ++ [t]) vw' := by
  have HZ0 := Lib.hid (And.intro h hb)
  have HN := Lib.hid (And.intro hn (And.intro hw (And.intro hnm hto)))
  clear h hb hn hw hnm hto
  obtain ⟨A, c, hv, _⟩ := HZ0.out.2.form
  rw [hv]
  have HV := Lib.hid hv
  clear hv
  obtain ⟨q, hq⟩ : ∃ q, t.f.l.length = q := ⟨_, rfl⟩
  rw [hq] at HV ⊢
  clear hq
  go_enter Try.func19, Try.ntmps19
  go_upto_region 1 with fail
  have hk : (w.alloc (.cells #[.string t.nm, .string t.tn, .slice A q c, .bool t.wr] 48)).heap[w.heap.size]? = some (.cells #[.string t.nm, .string t.tn, .slice A q c, .bool t.wr] 48 (0, 0)) := heap_alloc_new _ _
  have HZ1 : Hid (DA w0 (w.alloc (.cells #[.string t.nm, .string t.tn, .slice A q c, .bool t.wr] 48)) d bf bn n1 n2 firm now wait vw ∧ BRow (w.alloc (.cells #[.string t.nm, .string t.tn, .slice A q c, .bool t.wr] 48)) t.f.v t.f.l) := Lib.hid ⟨HZ0.out.1.below ((Below.refl _ _).alloc (Nat.le_refl _) _), HZ0.out.2.below ((Below.refl _ _).alloc (Nat.le_refl _) _)⟩
  clear HZ0
  generalize w.alloc (.cells #[.string t.nm, .string t.tn, .slice A q c, .bool t.wr] 48) = w1 at hk HZ1 ⊢
  generalize w.heap.size = K at hk ⊢
  have HK : Hid (w1.drew.heap[K]? = some (.cells #[.string t.nm, .string t.tn, .slice A q c, .bool t.wr] 48 (0, 0))) := Lib.hid hk
  have HZ : Hid (DA w0 w1.drew d bf bn n1 n2 firm now wait vw ∧ BRow w1.drew t.f.v t.f.l) := Lib.hid ⟨HZ1.out.1.below (pw_below_drewN (Below.refl _ _) 1), HZ1.out.2.below (pw_below_drewN (Below.refl _ _) 1)⟩
  have S0 : w1.drew.cell? ⟨d, 1, none⟩ = some (.map (some bn)) := HZ.out.1.c.2.1
  have S1 : w1.drew.cell? ⟨K, 0, none⟩ = some (.string t.nm) := by simp [World.cell?, HK.out]
  have S2 : w1.drew.cell? ⟨K, 1, none⟩ = some (.string t.tn) := by simp [World.cell?, HK.out]
  have S3 : w1.drew.cell? ⟨K, 2, none⟩ = some (.slice A q c) := by simp [World.cell?, HK.out]
  have S4 : w1.drew.cell? ⟨K, 3, none⟩ = some (.bool t.wr) := by simp [World.cell?, HK.out]
  clear hk HZ1
  refine start_ (n := 6) (S := fun w' => w'.cell? ⟨d, 1, none⟩ = some (.map (some bn)) ∧ w'.cell? ⟨K, 0, none⟩ = some (.string t.nm) ∧ w'.cell? ⟨K, 1, none⟩ = some (.string t.tn) ∧ w'.cell? ⟨K, 2, none⟩ = some (.slice A q c) ∧ w'.cell? ⟨K, 3, none⟩ = some (.bool t.wr)) (ds := [5]) #[false, false, false, false, false, false] (by kernel_rfl) rfl rfl ⟨S0, S1, S2, S3, S4⟩ (fun hHeld => ?_)
  clear S0 S1 S2 S3 S4
  generalize w1.drew = W1 at HZ HK hHeld ⊢
  have hD := done_any bn n2 now t W1 HZ.out.1.nowM HN.out.1 HN.out.2.2.1 HN.out.2.2.2 HZ.out.2
  rw [HV.out] at hD
  refine pure_ (i := 0) (N := some 5) (v := ?_) (a' := ?_) #[true, false, false, false, false, false] rfl rfl (by kernel_rfl) (fun _ _ _ h => h) (Or.inl ⟨by rfl, ?_⟩) ?_ ?_
  rotate_left
  · intro w'
    go_simp
    with_reducible rfl
  rotate_left
  · simp only [Act.put, List.setIfInBounds_toArray, List.set_cons_zero, List.set_cons_succ, i64_w, i32_w]
    rfl
  refine pure_ (i := 1) (N := some 6) (v := ?_) (a' := ?_) #[true, true, false, false, false, false] rfl rfl (by kernel_rfl) (fun _ _ _ h => h) (Or.inl ⟨by rfl, ?_⟩) ?_ ?_
  rotate_left
  · intro w'
    go_simp
    with_reducible rfl
  rotate_left
  · simp only [Act.put, List.setIfInBounds_toArray, List.set_cons_zero, List.set_cons_succ, i64_w, i32_w]
    rfl
  refine pure_ (i := 2) (N := some 7) (v := ?_) (a' := ?_) #[true, true, true, false, false, false] rfl rfl (by kernel_rfl) (fun _ _ _ h => h) (Or.inl ⟨by rfl, ?_⟩) ?_ ?_
  rotate_left
  · intro w'
    go_simp
    with_reducible rfl
  rotate_left
  · simp only [Act.put, List.setIfInBounds_toArray, List.set_cons_zero, List.set_cons_succ, i64_w, i32_w]
    rfl
  refine take_ (i := 3) (N := some 8) (v := ?_) (a' := ?_) #[true, true, true, true, false, false] rfl rfl (by kernel_rfl) (fun _ _ _ h => h) (Or.inl ⟨by rfl, ?_⟩) hHeld ?_ ?_
  rotate_left
  · rintro w' ⟨s0, s1, s2, s3, s4⟩
    go_simp
    with_reducible rfl
  rotate_left
  · simp only [Act.put, List.setIfInBounds_toArray, List.set_cons_zero, List.set_cons_succ, i64_w, i32_w]
    rfl
  refine take_ (i := 4) (N := some 9) (v := ?_) (a' := ?_) #[true, true, true, true, true, false] rfl rfl (by kernel_rfl) (fun _ _ _ h => h) (Or.inl ⟨by rfl, ?_⟩) hHeld ?_ ?_
  rotate_left
  · rintro w' ⟨s0, s1, s2, s3, s4⟩
    go_simp
    with_reducible rfl
  rotate_left
  · simp only [Act.put, List.setIfInBounds_toArray, List.set_cons_zero, List.set_cons_succ, i64_w, i32_w]
    rfl
  refine last_ (i := 5) (N := some 10) #[true, true, true, true, true, true] rfl rfl (by kernel_rfl) (by decide) (fun K hK => ?_)
  refine goes_ Try.func22 (by kernel_rfl) rfl #[.map (some bn), .agg #[.string t.nm, .string t.tn, .slice A q c, .bool t.wr]] (by rfl) rfl rfl (by simp only [List.map_toArray, List.map_cons, List.map_nil]; rfl) ?_
  with_reducible refine (hD).mono ?_
  rintro e w3 ⟨rfl, hf3, hg3⟩
  refine ⟨_, rfl, ?_⟩
  refine hK.out _ _ ?_
  clear hK K
  refine norm_ (a' := ?_) ?_ ?_
  rotate_left
  · show Act.put _ (some 10) _ = _
    simp only [Act.put, List.setIfInBounds_toArray, List.set_cons_zero, List.set_cons_succ, i64_w, i32_w]
    rfl
  refine done_ (by kernel_rfl) ?_
  have HZ2 : Hid (DA w0 w3 d bf bn n1 (n2 + 1) firm (doneL now t) wait vw ∧ BRow w3 t.f.v t.f.l) := Lib.hid ⟨HZ.out.1.turn hf3 hg3, HZ.out.2.turned hg3 (HZ.out.2.ne_map HZ.out.1.nowM.map)⟩
  have HK2 : Hid (w3.heap[K]? = some (.cells #[.string t.nm, .string t.tn, .slice A q c, .bool t.wr] 48 (0, 0))) := Lib.hid ((hg3.block K (Array.getElem?_eq_some_iff.1 HK.out).1 (fun e => by
    obtain ⟨es, c0, hc⟩ := HZ.out.1.nowM.map.obj
    rw [← Option.some.inj e, HK.out] at hc
    cases hc)).trans HK.out)
  clear HZ HK hf3 hg3 hD hHeld
  obtain ⟨Aw, cw, hvw, _⟩ := HZ2.out.1.wrow.form
  subst hvw
  obtain ⟨nw, hnw⟩ : ∃ nw, wait.length = nw := ⟨_, rfl⟩
  rw [hnw] at HZ2
  have HNW := Lib.hid hnw
  clear hnw
  go_upto_region 2 with fail
  have HZ : Hid (DA w0 w3.drew d bf bn n1 (n2 + 1) firm (doneL now t) wait (.slice Aw nw cw) ∧ BRow w3.drew t.f.v t.f.l) := Lib.hid ⟨HZ2.out.1.below (pw_below_drewN (Below.refl _ _) 1), HZ2.out.2.below (pw_below_drewN (Below.refl _ _) 1)⟩
  have HK : Hid (w3.drew.heap[K]? = some (.cells #[.string t.nm, .string t.tn, .slice A q c, .bool t.wr] 48 (0, 0))) := Lib.hid HK2.out
  have S0 : w3.drew.cell? ⟨d, 2, none⟩ = some (.slice Aw nw cw) := HZ.out.1.c.2.2.1
  have S1 : w3.drew.cell? ⟨K, 0, none⟩ = some (.string t.nm) := by simp [World.cell?, HK.out]
  have S2 : w3.drew.cell? ⟨K, 1, none⟩ = some (.string t.tn) := by simp [World.cell?, HK.out]
  have S3 : w3.drew.cell? ⟨K, 2, none⟩ = some (.slice A q c) := by simp [World.cell?, HK.out]
  have S4 : w3.drew.cell? ⟨K, 3, none⟩ = some (.bool t.wr) := by simp [World.cell?, HK.out]
  clear HZ2 HK2 HK
  refine start_ (n := 11) (S := fun w' => w'.cell? ⟨d, 2, none⟩ = some (.slice Aw nw cw) ∧ w'.cell? ⟨K, 0, none⟩ = some (.string t.nm) ∧ w'.cell? ⟨K, 1, none⟩ = some (.string t.tn) ∧ w'.cell? ⟨K, 2, none⟩ = some (.slice A q c) ∧ w'.cell? ⟨K, 3, none⟩ = some (.bool t.wr)) (ds := [7, 10]) #[false, false, false, false, false, false, false, false, false, false, false] (by kernel_rfl) rfl rfl ⟨S0, S1, S2, S3, S4⟩ (fun hHeld => ?_)
  clear S0 S1 S2 S3 S4
  generalize w3.drew = W1 at HZ hHeld ⊢
  refine pure_ (i := 0) (N := some 11) (v := ?_) (a' := ?_) #[true, false, false, false, false, false, false, false, false, false, false] rfl rfl (by kernel_rfl) (fun _ _ _ h => h) (Or.inl ⟨by rfl, ?_⟩) ?_ ?_
  rotate_left
  · intro w'
    go_simp
    with_reducible rfl
  rotate_left
  · simp only [Act.put, List.setIfInBounds_toArray, List.set_cons_zero, List.set_cons_succ, i64_w, i32_w]
    rfl
  refine pure_ (i := 1) (N := some 12) (v := ?_) (a' := ?_) #[true, true, false, false, false, false, false, false, false, false, false] rfl rfl (by kernel_rfl) (fun _ _ _ h => h) (Or.inl ⟨by rfl, ?_⟩) ?_ ?_
  rotate_left
  · intro w'
    go_simp
    with_reducible rfl
  rotate_left
  · simp only [Act.put, List.setIfInBounds_toArray, List.set_cons_zero, List.set_cons_succ, i64_w, i32_w]
    rfl
  refine pure_ (i := 2) (N := some 13) (v := ?_) (a' := ?_) #[true, true, true, false, false, false, false, false, false, false, false] rfl rfl (by kernel_rfl) (fun _ _ _ h => h) (Or.inl ⟨by rfl, ?_⟩) ?_ ?_
  rotate_left
  · intro w'
    go_simp
    with_reducible rfl
  rotate_left
  · simp only [Act.put, List.setIfInBounds_toArray, List.set_cons_zero, List.set_cons_succ, i64_w, i32_w]
    rfl
  refine pure_ (i := 3) (N := some 14) (v := ?_) (a' := ?_) #[true, true, true, true, false, false, false, false, false, false, false] rfl rfl (by kernel_rfl) (fun _ _ _ h => h) (Or.inl ⟨by rfl, ?_⟩) ?_ ?_
  rotate_left
  · intro w'
    go_simp
    with_reducible rfl
  rotate_left
  · simp only [Act.put, List.setIfInBounds_toArray, List.set_cons_zero, List.set_cons_succ, i64_w, i32_w]
    rfl
  refine take_ (i := 4) (N := some 15) (v := ?_) (a' := ?_) #[true, true, true, true, true, false, false, false, false, false, false] rfl rfl (by kernel_rfl) (fun _ _ _ h => h) (Or.inl ⟨by rfl, ?_⟩) hHeld ?_ ?_
  rotate_left
  · rintro w' ⟨s0, s1, s2, s3, s4⟩
    go_simp
    with_reducible rfl
  rotate_left
  · simp only [Act.put, List.setIfInBounds_toArray, List.set_cons_zero, List.set_cons_succ, i64_w, i32_w]
    rfl
  refine take_ (i := 5) (N := some 16) (v := ?_) (a' := ?_) #[true, true, true, true, true, true, false, false, false, false, false] rfl rfl (by kernel_rfl) (fun _ _ _ h => h) (Or.inl ⟨by rfl, ?_⟩) hHeld ?_ ?_
  rotate_left
  · rintro w' ⟨s0, s1, s2, s3, s4⟩
    go_simp
    with_reducible rfl
  rotate_left
  · simp only [Act.put, List.setIfInBounds_toArray, List.set_cons_zero, List.set_cons_succ, i64_w, i32_w]
    rfl
  refine one_ (i := 6) (N := some 17) #[true, true, true, true, true, true, true, false, false, false, false] rfl rfl (by kernel_rfl) (by decide) (fun K hK => ?_)
  refine value_ (w1 := ?_) (v := ?_) (by rfl) rfl ?_ ?_
  rotate_left 2
  · go_simp
    constructor
    · rfl
    · rfl
  refine hK.out _ _ ⟨(Below.cell ((Below.refl W1.heap.size W1).alloc (Nat.le_refl _) _) (lt_of_cell hHeld.1)).trans hHeld.1, (Below.cell ((Below.refl W1.heap.size W1).alloc (Nat.le_refl _) _) (lt_of_cell hHeld.2.1)).trans hHeld.2.1, (Below.cell ((Below.refl W1.heap.size W1).alloc (Nat.le_refl _) _) (lt_of_cell hHeld.2.2.1)).trans hHeld.2.2.1, (Below.cell ((Below.refl W1.heap.size W1).alloc (Nat.le_refl _) _) (lt_of_cell hHeld.2.2.2.1)).trans hHeld.2.2.2.1, (Below.cell ((Below.refl W1.heap.size W1).alloc (Nat.le_refl _) _) (lt_of_cell hHeld.2.2.2.2)).trans hHeld.2.2.2.2⟩ (fun hHeld => ?_)
  clear hK K
  refine norm_ (a' := ?_) ?_ ?_
  rotate_left
  · show Act.put _ (some 17) _ = _
    simp only [Act.put, List.setIfInBounds_toArray, List.set_cons_zero, List.set_cons_succ, i64_w, i32_w]
    rfl
  refine last_ (i := 7) (N := some 18) #[true, true, true, true, true, true, true, true, false, false, false] rfl rfl (by kernel_rfl) (by decide) (fun K hK => ?_)
  obtain ⟨A5, c5, w5, hrun, hr5, hg5, ho5⟩ := run_append_task (W1.alloc (.cells #[.string t.nm, .string t.tn, .slice A q c, .bool t.wr] 48)) (.slice Aw nw cw) wait t ⟨W1.heap.size, 0, none⟩ 1 41 (HZ.out.1.wrow.below ((Below.refl _ _).alloc (Nat.le_refl _) _)) (task_cells HV.out (heap_alloc_new _ _)) ⟨_, _, _, HV.out⟩ (by have := HN.out.2.1; omega)
  rw [HNW.out] at hrun hr5 ho5
  refine value_ (w1 := w5) (v := .slice A5 (nw + 1) c5) (by rfl) rfl ?_ ?_
  · exact exec_append (.tmp 15) (.tmp 17) 41 rfl _ _ rfl rfl hrun
  refine hK.out _ _ ?_
  clear hK K
  refine norm_ (a' := ?_) ?_ ?_
  rotate_left
  · show Act.put _ (some 18) _ = _
    simp only [Act.put, List.setIfInBounds_toArray, List.set_cons_zero, List.set_cons_succ, i64_w, i32_w]
    rfl
  refine pure_ (i := 8) (N := some 19) (v := ?_) (a' := ?_) #[true, true, true, true, true, true, true, true, true, false, false] rfl rfl (by kernel_rfl) (fun _ _ _ h => h) (Or.inl ⟨by rfl, ?_⟩) ?_ ?_
  rotate_left
  · intro w'
    go_simp
    with_reducible rfl
  rotate_left
  · simp only [Act.put, List.setIfInBounds_toArray, List.set_cons_zero, List.set_cons_succ, i64_w, i32_w]
    rfl
  refine pure_ (i := 9) (N := some 20) (v := ?_) (a' := ?_) #[true, true, true, true, true, true, true, true, true, true, false] rfl rfl (by kernel_rfl) (fun _ _ _ h => h) (Or.inl ⟨by rfl, ?_⟩) ?_ ?_
  rotate_left
  · intro w'
    go_simp
    with_reducible rfl
  rotate_left
  · simp only [Act.put, List.setIfInBounds_toArray, List.set_cons_zero, List.set_cons_succ, i64_w, i32_w]
    rfl
  refine last_ (i := 10) (N := none) #[true, true, true, true, true, true, true, true, true, true, true] rfl rfl (by kernel_rfl) (by decide) (fun K hK => ?_)
  have HZ3 : DA w0 (W1.alloc (.cells #[.string t.nm, .string t.tn, .slice A q c, .bool t.wr] 48)) d bf bn n1 (n2 + 1) firm (doneL now t) wait (.slice Aw nw cw) := HZ.out.1.below ((Below.refl _ _).alloc (Nat.le_refl _) _)
  have hd5 := (hg5.block d HZ3.lt (fun e => HZ3.obj_ne_wait e.symm)).trans HZ3.obj
  have k4 : w5.cell? ⟨d, 2, none⟩ = some (.slice Aw nw cw) := by simp [World.cell?, hd5]
  have z4 : w5.frozen? ⟨d, 2, none⟩ = false := by simp [World.frozen?, hd5]
  refine skip_ (w1 := ?_) (by rfl) rfl ?_ ?_
  rotate_left
  · go_simp
    rfl
  refine hK.out _ _ ?_
  clear hK K
  refine done_ (by kernel_rfl) ?_
  have HP := Lib.hid (HZ3.push (t := t) ⟨HZ.out.2.below ((Below.refl _ _).alloc (Nat.le_refl _) _), HN.out.2.2⟩ hr5 hg5 ho5)
  clear HZ3 HZ hr5 hg5 ho5 hrun hd5 k4 z4 hHeld
  go_wp2_with fail
  go_ret
  exact ⟨rfl, _, HP.out⟩
/-- A row of bytes that is read. -/
def Src (w : World) (v : Value) (l : List Int) : Prop := ∃ (A : Option Addr) (c : Nat), v = .slice A l.length c ∧ (A = none → l = []) ∧ ∀ a, A = some a → ∀ j u, (l.map (Value.int .u8 ·))[j]? = some u → w.cell? (a.add j) = some u
theorem src_below {w w' : World} {v : Value} {l : List Int} (h : Src w v l) (hB : Below w.heap.size w w') : Src w' v l := by
  obtain ⟨A, c, e, h1, h2⟩ := h
  exact ⟨A, c, e, h1, fun a ha j u hu => (hB.cell (World.block_lt_of_cell? _ _ (h2 a ha j u hu))).trans (h2 a ha j u hu)⟩
theorem src_brow {w : World} {v : Value} {l : List Int} (h : BRow w v l) : Src w v l := by
  rcases h.2 with ⟨rfl, h0⟩ | ⟨r, o, cap, cur, hv, _⟩
  · have : l = [] := List.length_eq_zero_iff.1 h0
    subst this
    exact ⟨none, 0, rfl, fun _ => rfl, fun a e => by cases e⟩
  · subst hv
    exact ⟨some ⟨r, o, none⟩, cap, rfl, (fun e => by cases e), fun a e j u hu => by
      cases e
      have h1 := Sl.cell h j u hu
      rwa [show (⟨r, o, none⟩ : Addr).add j = ⟨r, o + j, none⟩ from by unfold Addr.add; split <;> simp_all]⟩
theorem infoU8 : (Try.prog.info? 5).map (fun i => (i.zero, i.size, i.bytes)) = some (some (.int .u8 0), 1, 1) := by kernel_rfl
theorem run_append_bytes (w : World) (v : Value) (l m : List Int) (a : Addr) (c : Nat) (ty : TypeId) (h : BRow w v l) (hm : ∀ j u, (m.map (Value.int .u8 ·))[j]? = some u → w.cell? (a.add j) = some u) (hl : l.length + m.length ≤ 100000) :
    ∃ A c' w', (Builtin.append_ #[26, 26] ty #[v, .slice (some a) m.length c]).run Try.prog w = .ok (.slice A (l ++ m).length c') w' ∧ BRow w' (.slice A (l ++ m).length c') (l ++ m) ∧ w.grownBy w' v.ownBlock ∧ ((Value.slice A (l ++ m).length c').ownBlock = v.ownBlock ∨ (Value.slice A (l ++ m).length c').ownBlock = some w.heap.size) := by
  obtain ⟨i0, hi, hzz⟩ := Option.map_eq_some_iff.1 infoU8
  simp only [Prod.mk.injEq] at hzz
  obtain ⟨hz0, hz1, hz2⟩ := hzz
  by_cases h0 : m.length = 0
  · have : m = [] := List.eq_nil_of_length_eq_zero h0
    subst this
    obtain ⟨A, c', rfl, _⟩ := h.form
    refine ⟨A, c', w, ?_, by simpa using h, World.grownBy.refl w _, .inl (by simp)⟩
    have := run_append_none w 26 ty 5 i0 1 Try.underlying26 hi _ _ _ h (some a) c
    simpa using this
  · obtain ⟨g', o', c', w', h1, h2, h3, h4⟩ := run_append_sl (P := Try.prog) w 26 ty 5 i0 _ 1 1 Try.underlying26 hi hz0 hz1 hz2 rfl v l.length (l.map (.int .u8 ·)) h a m.length c (m.map (.int .u8 ·)) (by simp) hm (by simp [Value.oneCell']) (by omega) (by unfold maxLen; omega) (by omega)
    refine ⟨some ⟨g', o', none⟩, c', w', by rw [List.length_append]; exact h1, by unfold BRow; rw [List.length_append, List.map_append]; exact h2, h3, ?_⟩
    rcases h4 with h4 | h4
    · exact .inl h4.symm
    · exact .inr (by rw [h4]; rfl)
theorem wpl_append_bytes {ops : Array Oper} {rest : List Oper} {o : Oper} {a : Act} {Q : Exit → Act → World → Prop} {W : World} (hgd : o.guard = none) (s x : Operand)
    (ho : o.op = .call { callee := .builtin .append, args := #[s, x], argTypes := #[26, 26] })
    (v : Value) (l m : List Int) (ad : Addr) (n c : Nat) (hn : n = m.length) (hs : a.eval s = v) (hx : a.eval x = .slice (some ad) n c) (h : BRow W v l) (hm : ∀ j u, (m.map (Value.int .u8 ·))[j]? = some u → W.cell? (ad.add j) = some u) (hl : l.length + m.length ≤ 100000)
    (K : ∀ A c' w', Hid (BRow w' (.slice A (l ++ m).length c') (l ++ m) ∧ W.grownBy w' v.ownBlock ∧ ((Value.slice A (l ++ m).length c').ownBlock = v.ownBlock ∨ (Value.slice A (l ++ m).length c').ownBlock = some W.heap.size)) → wpList Try.prog ops Q rest (a.put o.dst (.slice A (l ++ m).length c')) w') : wpList Try.prog ops Q (o :: rest) a W := by
  subst hn
  obtain ⟨A, c', w', hrun, h2, h3, h4⟩ := run_append_bytes W v l m ad c o.type h hm hl
  refine wpList_plain hgd fun _ hK => ?_
  unfold Oper.wp execOp
  simp only [ho, resolve, invoke, builtin, Sem.run_bind, Sem.run_pure, Result.andThen_ok, List.map_toArray, List.map_cons, List.map_nil, hs, hx, hrun]
  exact hK _ _ (K A c' w' (Lib.hid ⟨h2, h3, h4⟩))
theorem made_row (w : World) : BRow (w.alloc (.cells #[] 5)) (.slice (some ⟨w.heap.size, 0, none⟩) 0 0) [] :=
  Sl.of_own (World.ownsRow_made (base := w.heap.size) (e := 5) (size := 1) w #[] 0 (Nat.le_refl _) (by decide) (by rfl))
set_option maxHeartbeats 4000000 in
set_option maxRecDepth 100000 in
theorem Clone_any (v : Value) (l : List Int) (w : World) (h : Src w v l) (hl : l.length ≤ 5000) :
    Calls Try.prog 20 #[v] w fun en w' => ∃ (A : Option Addr) (c : Nat), en = .returned (.slice A l.length c) ∧ BRow w' (.slice A l.length c) l ∧ Below w.heap.size w w' ∧ ∀ k, (Value.slice A l.length c).ownBlock = some k → w.heap.size ≤ k := by
  obtain ⟨A, c, rfl, h1, h2⟩ := h
  cases A with
  | none =>
    have := h1 rfl
    subst this
    have hn : ∀ w : World, (binOp .eql 26 (.slice none 0 c) (.slice none 0 0)).run Try.prog w = .ok (.bool true) w := fun w => rfl
    go_enter Try.func20, Try.ntmps20
    go_wp2_with fail
    go_ret
    exact ⟨none, 0, rfl, Sl.nil _ _ _, Below.refl _ _, (fun k hk => by cases hk)⟩
  | some a =>
    have hn : ∀ w : World, (binOp .eql 26 (.slice (some a) l.length c) (.slice none 0 0)).run Try.prog w = .ok (.bool false) w := fun w => rfl
    have HM : Hid (∀ j u, (l.map (Value.int .u8 ·))[j]? = some u → (w.alloc (.cells #[] 5)).cell? (a.add j) = some u) := Lib.hid fun j u hu => by
      have h3 := h2 a rfl j u hu
      exact (((Below.refl w.heap.size w).alloc (Nat.le_refl _) (.cells #[] 5)).cell (World.block_lt_of_cell? _ _ h3)).trans h3
    have HO := Lib.hid (made_row w)
    clear h1 h2
    go_enter Try.func20, Try.ntmps20
    go_wp2_with (at_builtin; refine wpl_append_bytes rfl (.tmp 5) (.tmp 6) rfl (.slice (some ⟨w.heap.size, 0, none⟩) 0 0) [] l a _ c rfl rfl rfl HO.out HM.out (by simp; omega) ?_)
    rintro A2 c2 w' H2
    go_wp2_with fail
    go_ret
    refine ⟨A2, c2, by simp, H2.out.1, below_grown ((Below.refl _ _).alloc (Nat.le_refl _) _) H2.out.2.1 (fun k hk => by cases hk; exact Nat.le_refl _) (by simp), fun k hk => ?_⟩
    rcases H2.out.2.2 with h4 | h4
    · rw [show (Value.slice A2 l.length c2).ownBlock = _ from h4] at hk; cases hk; exact Nat.le_refl _
    · rw [show (Value.slice A2 l.length c2).ownBlock = _ from h4] at hk; cases hk; first | exact Nat.le_succ _ | simp
set_option maxHeartbeats 4000000 in
set_option maxRecDepth 100000 in
theorem New_any (w : World) : Calls Try.prog 6 #[] w fun e w' => ∃ d bf bn, e = .returned (.pointer (some ⟨d, 0, none⟩)) ∧ DA w w' d bf bn 0 0 [] [] [] (.slice none 0 0) := by
  have hmm := @Go.RowKit.run_makeMap Try.prog
  go_enter Try.func6, Try.ntmps6
  go_wp2_with fail
  go_ret
  have h1 := FM.made w
  have h2 := FM.made (w.alloc (.map #[] 0))
  have hb : Below (w.alloc (.map #[] 0)).heap.size (w.alloc (.map #[] 0)) ((w.alloc (.map #[] 0)).alloc (.map #[] 0)) := (Below.refl _ _).alloc (Nat.le_refl _) _
  have h1' := h1.below hb
  have hd := heap_alloc_new ((w.alloc (.map #[] 0)).alloc (.map #[] 0)) (.cells #[.map (some w.heap.size), .map (some (w.heap.size + 1)), .slice none 0 0, .bool false, .bool false, .int .i64 0] 43)
  have e2 : ((w.alloc (.map #[] 0)).alloc (.map #[] 0)).heap.size = w.heap.size + 1 + 1 := by simp
  rw [e2] at hd
  refine ⟨w.heap.size + 1 + 1, w.heap.size, w.heap.size + 1, rfl, ⟨(((Below.refl _ _).alloc (Nat.le_refl _) _).alloc (by simp) _).alloc (by simp; omega) _, hd, h1'.below ((Below.refl _ _).alloc (Nat.le_refl _) _), ?_, Sl.nil _ _ _, (fun t ht => by cases ht), ⟨by omega, by omega, by omega, by omega⟩, fun k hk => by cases hk⟩⟩
  have e : (w.alloc (.map #[] 0)).heap.size = w.heap.size + 1 := by simp
  rw [← e]
  exact h2.below ((Below.refl _ _).alloc (Nat.le_refl _) _)
set_option maxHeartbeats 4000000 in
set_option maxRecDepth 100000 in
theorem mclone_any (b n : Nat) (fs : FS) (w : World) (h : FM w b n fs) : Calls Try.prog 21 #[.map (some b)] w fun e w' => e = .returned (.map (some w.heap.size)) ∧ FM w' w.heap.size n fs ∧ Below w.heap.size w w' := by
  obtain ⟨D, ⟨es, clock, hb, F, hs, hD⟩, hsz, h5⟩ := h.map.out
  have hB : Below w.heap.size w (w.alloc (.map es clock)) := (Below.refl _ w).alloc (Nat.le_refl _) _
  have HR : Hid (FM (w.alloc (.map es clock)) w.heap.size n fs ∧ Below w.heap.size w (w.alloc (.map es clock))) := Lib.hid ⟨⟨h.nodup, ⟨D, ⟨es, clock, heap_alloc_new _ _, F, hs, hD⟩, hsz, h5⟩, fun p hp => ⟨(h.rows p hp).1.below hB, (h.rows p hp).2⟩⟩, hB⟩
  have hq := fun w => run_eql_map_nil_sl (P := Try.prog) w 40 _ _ (some b) Try.underlying40
  have HB := Lib.hid hb
  clear hb F hs hD hsz h5 h hB
  go_enter Try.func21, Try.ntmps21
  go_wp2_with fail
  rw [run_callFunc_extern Try.func23 (by kernel_rfl) (by kernel_rfl) (by kernel_rfl) (e := Extern.MapsClone.clone) (by kernel_rfl), run_maps_clone_sl w 40 HB.out]
  simp only [Result.andThen]
  rw [Oper.upon_value]
  go_wp2_with fail
  rw [run_typeAssert_map_sl _ 40 20 _ _ _ Try.underlying40]
  simp only [Result.andThen]
  rw [Oper.upon_value]
  go_wp2_with fail
  go_ret
  exact ⟨rfl, HR.out⟩
set_option maxHeartbeats 4000000 in
set_option maxRecDepth 100000 in
theorem Waiting_any (d bf bn n1 n2 : Nat) (firm now : FS) (wait : List Tk) (vw : Value) (w0 w : World) (h : DA w0 w d bf bn n1 n2 firm now wait vw) : Calls Try.prog 13 #[.pointer (some ⟨d, 0, none⟩)] w fun e w' => e = .returned (.int .i64 (wait.length : Int)) ∧ w' = w := by
  obtain ⟨A, c, rfl, _⟩ := h.wrow.form
  have y2 := h.c.2.2.1
  clear h
  go_enter Try.func13, Try.ntmps13
  go_wp2_with fail
  go_ret
  exact ⟨rfl, rfl⟩
set_option maxHeartbeats 4000000 in
set_option maxRecDepth 100000 in
/-- A file that is there. -/
theorem Read_any (d bf bn n1 n2 : Nat) (firm now : FS) (wait : List Tk) (vw : Value) (w0 w : World) (h : DA w0 w d bf bn n1 n2 firm now wait vw) (s : ByteArray) (hs : s.size ≤ 16) (f : Fl) (hf : lk now s = some f) (hl : f.l.length ≤ 5000) : Calls Try.prog 10 #[.pointer (some ⟨d, 0, none⟩), .string s] w fun e w' => ∃ (A : Option Addr) (c : Nat), e = .returned (.tuple #[.slice A f.l.length c, .bool true]) ∧ BRow w' (.slice A f.l.length c) f.l ∧ Below w.heap.size w w' := by
  have hlk := h.nowM.look s hs
  rw [hf] at hlk
  have hb := (h.nowM.rows _ (lk_mem hf)).1
  obtain ⟨A, c, hv, _⟩ := hb.form
  simp only [Option.map_some, Option.getD_some, Option.isSome_some] at hlk hv
  have HB := Lib.hid (And.intro hb hl)
  rw [hv] at hlk
  have HV := Lib.hid hv
  have y1 := h.c.2.1
  have y3 := h.c.2.2.2.1
  clear h hf hb hl hv
  go_enter Try.func10, Try.ntmps10
  go_wp2_with fail
  have hC := Clone_any f.v f.l w (src_brow HB.out.1) HB.out.2
  rw [HV.out] at hC
  refine hC.mono ?_
  rintro e w1 ⟨A2, c2, rfl, hr, hB, _⟩
  have H1 := Lib.hid (And.intro hr hB)
  clear hr hB hC
  go_wp2_with fail
  simp [bodyPost, results, Try.results10, go_sem]
  exact ⟨_, _, ⟨rfl, rfl⟩, H1.out⟩
set_option maxHeartbeats 4000000 in
set_option maxRecDepth 100000 in
/-- .. that isn't. -/
theorem Read_none (d bf bn n1 n2 : Nat) (firm now : FS) (wait : List Tk) (vw : Value) (w0 w : World) (h : DA w0 w d bf bn n1 n2 firm now wait vw) (s : ByteArray) (hs : s.size ≤ 16) (hf : lk now s = none) : Calls Try.prog 10 #[.pointer (some ⟨d, 0, none⟩), .string s] w fun e w' => e = .returned (.tuple #[.slice none 0 0, .bool false]) ∧ w' = w := by
  have hlk := h.nowM.look s hs
  rw [hf] at hlk
  simp only [Option.map_none, Option.getD_none, Option.isSome_none] at hlk
  have y1 := h.c.2.1
  clear h hf
  go_enter Try.func10, Try.ntmps10
  go_wp2_with fail
  simp [bodyPost, results, Try.results10, go_sem]
/-- Another block than the disk's own is as it was. -/
theorem FM.butd {w0 w w' : World} {d bf bn n1 n2 : Nat} {firm now : FS} {wait : List Tk} {vw : Value} (h : DA w0 w d bf bn n1 n2 firm now wait vw) (hB : ∀ k, k ≠ d → w'.heap[k]? = w.heap[k]?) {b n : Nat} {fs : FS} (hf : FM w b n fs) : FM w' b n fs :=
  hf.move (hB b (fun e => obj_ne_map h hf.map e.symm)) fun p hp k hk => hB k (fun e => h.obj_ne_bytes (hf.rows p hp).1 (by rw [hk, e]))
theorem set_other (w : World) (d j : Nat) (u : Value) : ∀ k, k ≠ d → (w.setCell ⟨d, j, none⟩ u).heap[k]? = w.heap[k]? := fun k hk => Below.heap_setCell _ _ _ _ hk
set_option maxHeartbeats 4000000 in
set_option maxRecDepth 100000 in
theorem Sync_any (d bf bn n1 n2 : Nat) (firm now : FS) (wait : List Tk) (vw : Value) (w0 w : World) (h : DA w0 w d bf bn n1 n2 firm now wait vw) : Calls Try.prog 8 #[.pointer (some ⟨d, 0, none⟩)] w fun e w' => e = .returned (.int .i64 0) ∧ ∃ bf', DA w0 w' d bf' bn n2 n2 now now [] (.slice none 0 0) := by
  have HZ := Lib.hid h
  have y1 := h.c.2.1
  have y3 := h.c.2.2.2.1
  have y4 := h.c.2.2.2.2.1
  clear h
  go_enter Try.func8, Try.ntmps8
  go_wp2_with fail
  refine (goes_any d w y3 y4).mono ?_
  rintro e w1 ⟨rfl, rfl⟩
  go_wp2_with fail
  refine (mclone_any bn n2 now w1 HZ.out.nowM).mono ?_
  rintro e w2 ⟨rfl, hf2, hB2⟩
  have hz2 := HZ.out.below hB2
  have c0 := hz2.c.1
  have c2 := hz2.c.2.2.1
  have z0 := hz2.z 0
  have z2 := hz2.z 2
  have H2 := Lib.hid (And.intro hz2 (And.intro hf2 hB2))
  clear hz2 hf2 hB2 y1 y3 y4
  go_wp2_with fail
  go_ret
  have h1 := H2.out.1
  have hB : ∀ k, k ≠ d → ((w2.setCell ⟨d, 0, none⟩ (.map (some w1.heap.size))).setCell ⟨d, 2, none⟩ (.slice none 0 0)).heap[k]? = w2.heap[k]? := fun k hk => (set_other _ d 2 _ k hk).trans (set_other _ d 0 _ k hk)
  have ho := h1.obj
  refine ⟨rfl, w1.heap.size, ⟨(h1.low.setCell h1.ge.1 _).setCell h1.ge.1 _, by simp [World.setCell, Array.getElem?_modify, ho], FM.butd h1 hB H2.out.2.1, FM.butd h1 hB h1.nowM, Sl.nil _ _ _, (fun t ht => by cases ht), ⟨h1.ge.1, HZ.out.low.size, h1.ge.2.2.1, fun e => by have := HZ.out.nowM.map.lt; omega⟩, fun k hk => by cases hk⟩⟩
set_option maxHeartbeats 4000000 in
set_option maxRecDepth 100000 in
theorem Write_any (d bf bn n1 n2 : Nat) (firm now : FS) (wait : List Tk) (vw : Value) (w0 w : World) (h : DA w0 w d bf bn n1 n2 firm now wait vw) (hn : n2 < 90000) (hw : wait.length < 90000) (ht : tot now ≤ 1000000) (s : ByteArray) (hs : s.size ≤ 16) (hs0 : s ≠ ⟨#[]⟩) (v : Value) (l : List Int) (hv : Src w v l) (hl : l.length ≤ 5000) :
    Calls Try.prog 7 #[.pointer (some ⟨d, 0, none⟩), .string s, v] w fun e w' =>
      (tot (dl now s) + l.length ≤ 4000 ∧ e = .returned (.int .i64 0) ∧ ∃ (vw' : Value) (A' : Option Addr) (c' : Nat), DA w0 w' d bf bn n1 (n2 + 1) firm (pt now s ⟨.slice A' l.length c', l⟩) (wait ++ [⟨s, ⟨#[]⟩, ⟨.slice A' l.length c', l⟩, true⟩]) vw') ∨
      (¬ tot (dl now s) + l.length ≤ 4000 ∧ e = .returned (.int .i64 9) ∧ DA w0 w' d bf bn n1 n2 firm now wait vw) := by
  have HZ0 := Lib.hid (And.intro h hv)
  have HN := Lib.hid (And.intro hn (And.intro hw (And.intro hs hl)))
  have HT := Lib.hid ht
  obtain ⟨A, c, e0, _, _⟩ := hv
  obtain ⟨Ao, co, e1, _⟩ := (lk_row h.nowM s).form
  obtain ⟨no, hno⟩ : ∃ no, ((lk now s).getD nilF).l.length = no := ⟨_, rfl⟩
  rw [hno] at e1
  have hto : tot (dl now s) + no = tot now := by
    rw [← hno]
    rcases dl_len now s h.nowM.nodup with ⟨a, _⟩ | ⟨x, a, _, _, b⟩
    · rw [dl_none _ _ a, a]; rfl
    · rw [a]; exact b
  have HL := Lib.hid (And.intro e1 hto)
  clear e1 hto hno
  have y3 := h.c.2.2.2.1
  have y4 := h.c.2.2.2.2.1
  subst e0
  clear h hn hw hl ht
  go_enter Try.func7, Try.ntmps7
  go_wp2_with fail
  refine (named_any s hs hs0 w).mono ?_
  rintro e w1 ⟨rfl, hB1⟩
  have HZ1 := Lib.hid (And.intro (HZ0.out.1.below hB1) (src_below HZ0.out.2 hB1))
  have y3 := HZ1.out.1.c.2.2.2.1
  have y4 := HZ1.out.1.c.2.2.2.2.1
  clear HZ0 hB1
  go_wp2_with fail
  refine (goes_any d w1 y3 y4).mono ?_
  rintro e w2 ⟨rfl, rfl⟩
  clear y3 y4
  go_upto_region 5 with fail
  have HZ : Hid (DA w0 w2.drew d bf bn n1 n2 firm now wait vw ∧ Src w2.drew (.slice A l.length c) l) := Lib.hid ⟨HZ1.out.1.below (pw_below_drewN (Below.refl _ _) 1), src_below HZ1.out.2 (pw_below_drewN (Below.refl _ _) 1)⟩
  clear HZ1
  have S0 : w2.drew.cell? ⟨d, 1, none⟩ = some (.map (some bn)) := HZ.out.1.c.2.1
  have S1 : FM w2.drew bn n2 now := HZ.out.1.nowM
  have S2 : (Instr.lookup 40 (.map (some bn)) (.string s) false).run Try.prog w2.drew = .ok (.slice Ao no co) w2.drew := by
    have h := S1.get s hs
    rw [lk_val, HL.out.1] at h
    exact h
  refine start_ (n := 15) (S := fun w' => w'.cell? ⟨d, 1, none⟩ = some (.map (some bn)) ∧ FM w' bn n2 now ∧ (Instr.lookup 40 (.map (some bn)) (.string s) false).run Try.prog w' = .ok (.slice Ao no co) w') (ds := []) #[false, false, false, false, false, false, false, false, false, false, false, false, false, false, false] (by kernel_rfl) rfl rfl ⟨S0, S1, S2⟩ (fun hHeld => ?_)
  clear S0 S1 S2
  generalize w2.drew = W1 at HZ hHeld ⊢
  refine pure_ (i := 0) (N := some 16) (v := ?_) (a' := ?_) #[true, false, false, false, false, false, false, false, false, false, false, false, false, false, false] rfl rfl (by kernel_rfl) (fun _ _ _ h => h) (Or.inl ⟨by rfl, ?_⟩) ?_ ?_
  rotate_left
  · intro w'
    go_simp
    with_reducible rfl
  rotate_left
  · simp only [Act.put, List.setIfInBounds_toArray, List.set_cons_zero, List.set_cons_succ, i64_w, i32_w]
    rfl
  refine pure_ (i := 2) (N := some 18) (v := ?_) (a' := ?_) #[true, false, true, false, false, false, false, false, false, false, false, false, false, false, false] rfl rfl (by kernel_rfl) (fun _ _ _ h => h) (Or.inl ⟨by rfl, ?_⟩) ?_ ?_
  rotate_left
  · intro w'
    go_simp
    with_reducible rfl
  rotate_left
  · simp only [Act.put, List.setIfInBounds_toArray, List.set_cons_zero, List.set_cons_succ, i64_w, i32_w]
    rfl
  refine pure_ (i := 3) (N := some 19) (v := ?_) (a' := ?_) #[true, false, true, true, false, false, false, false, false, false, false, false, false, false, false] rfl rfl (by kernel_rfl) (fun _ _ _ h => h) (Or.inl ⟨by rfl, ?_⟩) ?_ ?_
  rotate_left
  · intro w'
    go_simp
    with_reducible rfl
  rotate_left
  · simp only [Act.put, List.setIfInBounds_toArray, List.set_cons_zero, List.set_cons_succ, i64_w, i32_w]
    rfl
  refine pure_ (i := 4) (N := some 20) (v := ?_) (a' := ?_) #[true, false, true, true, true, false, false, false, false, false, false, false, false, false, false] rfl rfl (by kernel_rfl) (fun _ _ _ h => h) (Or.inl ⟨by rfl, ?_⟩) ?_ ?_
  rotate_left
  · intro w'
    go_simp
    with_reducible rfl
  rotate_left
  · simp only [Act.put, List.setIfInBounds_toArray, List.set_cons_zero, List.set_cons_succ, i64_w, i32_w]
    rfl
  refine pure_ (i := 6) (N := some 22) (v := ?_) (a' := ?_) #[true, false, true, true, true, false, true, false, false, false, false, false, false, false, false] rfl rfl (by kernel_rfl) (fun _ _ _ h => h) (Or.inl ⟨by rfl, ?_⟩) ?_ ?_
  rotate_left
  · intro w'
    go_simp
    with_reducible rfl
  rotate_left
  · simp only [Act.put, List.setIfInBounds_toArray, List.set_cons_zero, List.set_cons_succ, i64_w, i32_w]
    rfl
  refine pure_ (i := 10) (N := some 26) (v := ?_) (a' := ?_) #[true, false, true, true, true, false, true, false, false, false, true, false, false, false, false] rfl rfl (by kernel_rfl) (fun _ _ _ h => h) (Or.inl ⟨by rfl, ?_⟩) ?_ ?_
  rotate_left
  · intro w'
    go_simp
    with_reducible rfl
  rotate_left
  · simp only [Act.put, List.setIfInBounds_toArray, List.set_cons_zero, List.set_cons_succ, i64_w, i32_w]
    rfl
  refine pure_ (i := 11) (N := some 27) (v := ?_) (a' := ?_) #[true, false, true, true, true, false, true, false, false, false, true, true, false, false, false] rfl rfl (by kernel_rfl) (fun _ _ _ h => h) (Or.inl ⟨by rfl, ?_⟩) ?_ ?_
  rotate_left
  · intro w'
    go_simp
    with_reducible rfl
  rotate_left
  · simp only [Act.put, List.setIfInBounds_toArray, List.set_cons_zero, List.set_cons_succ, i64_w, i32_w]
    rfl
  refine take_ (i := 5) (N := some 21) (v := ?_) (a' := ?_) #[true, false, true, true, true, true, true, false, false, false, true, true, false, false, false] rfl rfl (by kernel_rfl) (fun _ _ _ h => h) (Or.inl ⟨by rfl, ?_⟩) hHeld ?_ ?_
  rotate_left
  · rintro w' ⟨s0, s1, s2⟩
    go_simp
    with_reducible rfl
  rotate_left
  · simp only [Act.put, List.setIfInBounds_toArray, List.set_cons_zero, List.set_cons_succ, i64_w, i32_w]
    rfl
  refine take_ (i := 7) (N := some 23) (v := ?_) (a' := ?_) #[true, false, true, true, true, true, true, true, false, false, true, true, false, false, false] rfl rfl (by kernel_rfl) (fun _ _ _ h => h) (Or.inl ⟨by rfl, ?_⟩) hHeld ?_ ?_
  rotate_left
  · rintro w' ⟨s0, s1, s2⟩
    go_simp
    with_reducible rfl
  rotate_left
  · simp only [Act.put, List.setIfInBounds_toArray, List.set_cons_zero, List.set_cons_succ, i64_w, i32_w]
    rfl
  refine pure_ (i := 8) (N := some 24) (v := ?_) (a' := ?_) #[true, false, true, true, true, true, true, true, true, false, true, true, false, false, false] rfl rfl (by kernel_rfl) (fun _ _ _ h => h) (Or.inl ⟨by rfl, ?_⟩) ?_ ?_
  rotate_left
  · intro w'
    go_simp
    with_reducible rfl
  rotate_left
  · simp only [Act.put, List.setIfInBounds_toArray, List.set_cons_zero, List.set_cons_succ, i64_w, i32_w]
    rfl
  refine one_ (i := 1) (N := some 17) #[true, true, true, true, true, true, true, true, true, false, true, true, false, false, false] rfl rfl (by kernel_rfl) (by decide) (fun K hK => ?_)
  refine goes_ Try.func12 (by kernel_rfl) rfl #[.pointer (some ⟨d, 0, none⟩)] (by rfl) rfl rfl (by simp only [List.map_toArray, List.map_cons, List.map_nil]; rfl) ?_
  with_reducible refine (Used_any d bn n2 now _ hHeld.1 hHeld.2.1 HT.out).mono ?_
  rintro e w3 ⟨rfl, hB3⟩
  refine ⟨_, rfl, ?_⟩
  refine hK.out _ _ ⟨(hB3.cell (lt_of_cell hHeld.1)).trans hHeld.1, hHeld.2.1.below hB3, (by have h := (hHeld.2.1.below hB3).get s hs; rw [lk_val, HL.out.1] at h; exact h)⟩ (fun hHeld => ?_)
  clear hK K
  refine norm_ (a' := ?_) ?_ ?_
  rotate_left
  · show Act.put _ (some 17) _ = _
    simp only [Act.put, List.setIfInBounds_toArray, List.set_cons_zero, List.set_cons_succ, i64_w, i32_w]
    rfl
  refine pure_ (i := 9) (N := some 25) (v := ?_) (a' := ?_) #[true, true, true, true, true, true, true, true, true, true, true, true, false, false, false] rfl rfl (by kernel_rfl) (fun _ _ _ h => h) (Or.inl ⟨by rfl, ?_⟩) ?_ ?_
  rotate_left
  · intro w'
    go_simp
    with_reducible rfl
  rotate_left
  · simp only [Act.put, List.setIfInBounds_toArray, List.set_cons_zero, List.set_cons_succ, i64_w, i32_w]
    rfl
  refine pure_ (i := 12) (N := some 28) (v := ?_) (a' := ?_) #[true, true, true, true, true, true, true, true, true, true, true, true, true, false, false] rfl rfl (by kernel_rfl) (fun _ _ _ h => h) (Or.inl ⟨by rfl, ?_⟩) ?_ ?_
  rotate_left
  · intro w'
    go_simp
    with_reducible rfl
  rotate_left
  · simp only [Act.put, List.setIfInBounds_toArray, List.set_cons_zero, List.set_cons_succ, i64_w, i32_w]
    rfl
  refine pure_ (i := 13) (N := some 29) (v := ?_) (a' := ?_) #[true, true, true, true, true, true, true, true, true, true, true, true, true, true, false] rfl rfl (by kernel_rfl) (fun _ _ _ h => h) (Or.inl ⟨by rfl, ?_⟩) ?_ ?_
  rotate_left
  · intro w'
    go_simp
    with_reducible rfl
  rotate_left
  · simp only [Act.put, List.setIfInBounds_toArray, List.set_cons_zero, List.set_cons_succ, i64_w, i32_w]
    rfl
  refine pure_ (i := 14) (N := some 15) (v := ?_) (a' := ?_) #[true, true, true, true, true, true, true, true, true, true, true, true, true, true, true] rfl rfl (by kernel_rfl) (fun _ _ _ h => h) (Or.inl ⟨by rfl, ?_⟩) ?_ ?_
  rotate_left
  · intro w'
    go_simp
    with_reducible rfl
  rotate_left
  · simp only [Act.put, List.setIfInBounds_toArray, List.set_cons_zero, List.set_cons_succ, i64_w, i32_w]
    rfl
  refine done_ (by kernel_rfl) ?_
  have HZ3 := Lib.hid (And.intro (HZ.out.1.below hB3) (src_below HZ.out.2 hB3))
  clear HZ hB3 hHeld
  have hw1 : wrap64 ((tot now : Int) - (no : Int)) = (tot (dl now s) : Int) := by have := HL.out.2; have := HT.out; unfold wrap64; omega
  have hw2 : wrap64 ((tot (dl now s) : Int) + (l.length : Int)) = (tot (dl now s) : Int) + (l.length : Int) := by have := HL.out.2; have := HT.out; have := HN.out.2.2.2; unfold wrap64; omega
  rw [hw1, hw2]
  clear hw1 hw2
  by_cases hroom : tot (dl now s) + l.length ≤ 4000
  · have q1 : decide ((4000 : Int) < (tot (dl now s) : Int) + (l.length : Int)) = false := by simp; omega
    rw [q1]
    clear q1
    go_wp2_with fail
    refine (Clone_any (.slice A l.length c) l w3 HZ3.out.2 HN.out.2.2.2).mono ?_
    rintro e w4 ⟨A4, c4, rfl, hr4, hB4, _⟩
    have HZ4 := Lib.hid (And.intro (HZ3.out.1.below hB4) hr4)
    clear HZ3 hr4 hB4
    go_wp2_with fail
    refine (put_any d bf bn n1 n2 firm now wait vw ⟨s, ⟨#[]⟩, ⟨.slice A4 l.length c4, l⟩, true⟩ w0 w4 HZ4.out.1 HN.out.1 HN.out.2.1 hs (by show (0 : Nat) ≤ 16; omega) HZ4.out.2).mono ?_
    rintro e w5 ⟨rfl, vw', h5⟩
    have H5 := Lib.hid h5
    clear HZ4 h5
    go_wp2_with fail
    go_ret
    exact .inl ⟨hroom, rfl, vw', A4, c4, H5.out⟩
  · have q1 : decide ((4000 : Int) < (tot (dl now s) : Int) + (l.length : Int)) = true := by simp; omega
    rw [q1]
    clear q1
    go_wp2_with fail
    go_ret
    exact .inr ⟨hroom, rfl, HZ3.out.1⟩
theorem C_of_brow {w : World} {A : Option Addr} {n c : Nat} {l : List Int} (h : BRow w (.slice A n c) l) (hn : n = l.length) : Kd.C (Kd.int .u8) w A n l := by
  subst hn
  have hm : l.length ≤ 9223372036854775807 := by
    rcases h.2 with ⟨_, h1⟩ | ⟨g, o, cap, cur, _, _, h2, h3, _⟩
    · omega
    · simp only [maxLen] at h3; omega
  refine ⟨rfl, hm, fun h0 => ?_⟩
  obtain ⟨g, o, c', e, _⟩ := Sl.form1 h h0
  cases e
  refine ⟨_, rfl, fun j p hj => ⟨[.int .u8 p], rfl, rfl, fun i u hu => ?_⟩⟩
  have hi : i = 0 := by
    rcases i with _ | i
    · rfl
    · simp at hu
  subst hi
  cases hu
  have := Sl.cell h j (.int .u8 p) (by rw [List.getElem?_map, hj]; rfl)
  show w.cell? ((⟨g, o, none⟩ : Addr).add (j * 1 + 0)) = _
  rwa [show (⟨g, o, none⟩ : Addr).add (j * 1 + 0) = ⟨g, o + j, none⟩ from by unfold Addr.add; simp]
theorem src_of_C {w : World} {A : Option Addr} {c : Nat} {l : List Int} (h : Kd.C (Kd.int .u8) w A l.length l) (m : Nat) (hm : m ≤ l.length) : Src w (.slice A m c) (l.take m) := by
  have hl : (l.take m).length = m := by rw [List.length_take]; omega
  refine ⟨A, c, by rw [hl], fun e => ?_, fun a ha j u hu => ?_⟩
  · subst e
    by_cases h0 : l.length = 0
    · have : l = [] := List.length_eq_zero_iff.1 h0
      rw [this]; simp
    · obtain ⟨ad, cs, e, _⟩ := Kd.C_get h 0 0 (by omega) (by omega)
      cases e
  · rw [List.getElem?_map] at hu
    obtain ⟨x, hx, rfl⟩ := Option.map_eq_some_iff.1 hu
    have hj : j < m := by
      have := (List.getElem?_eq_some_iff.1 hx).1
      omega
    rw [List.getElem?_take_of_lt hj] at hx
    obtain ⟨hjl, hjx⟩ := List.getElem?_eq_some_iff.1 hx
    obtain ⟨ad, cs, e, _, hK, hc⟩ := Kd.C_get h 0 (j : Int) (by omega) (by omega)
    have hK' : cs = [.int .u8 (l.getD (j : Int).toNat 0)] := hK
    subst hK'
    have hg : l.getD (j : Int).toNat 0 = x := by simp [List.getD_eq_getElem?_getD, hx]
    have h1 := hc 0 _ rfl
    rw [hg] at h1
    have hs : (j : Int).toNat * (Kd.int .u8).sz + 0 = j := by show (j : Int).toNat * 1 + 0 = j; omega
    rw [hs] at h1
    rw [ha] at e
    cases e
    exact h1
theorem same_from (l : List Int) (hl : l.length ≤ 1000000) : ∀ (d i : Nat), i + d = l.length → ∀ k, d < k → porticobook_Same_byte.l0 k l l (i : Int) = some true := by
  intro d
  induction d with
  | zero =>
    intro i hi k hk
    obtain ⟨k, rfl⟩ : ∃ m, k = m + 1 := ⟨k - 1, by omega⟩
    simp only [porticobook_Same_byte.l0]
    rw [if_neg (by omega)]
  | succ d ih =>
    intro i hi k hk
    obtain ⟨k, rfl⟩ : ∃ m, k = m + 1 := ⟨k - 1, by omega⟩
    have hw : wrap64 ((i : Int) + 1) = ((i + 1 : Nat) : Int) := by unfold wrap64; omega
    simp only [porticobook_Same_byte.l0]
    rw [if_pos (by omega), if_pos (by omega), if_pos (by omega), if_pos trivial, hw]
    exact ih (i + 1) (by omega) k (by omega)
theorem same_self (l : List Int) (hl : l.length ≤ 1000000) : porticobook_Same_byte.f (l.length + 1) l l = some true := by
  unfold porticobook_Same_byte.f
  rw [if_pos rfl]
  exact same_from l (by omega) l.length 0 (by omega) _ (by omega)
theorem Same_any {w : World} {A A' : Option Addr} {n c n' c' : Nat} {l : List Int} (h : Kd.C (Kd.int .u8) w A n l) (hn : n = l.length) (hc : l.length ≤ c) (h' : Kd.C (Kd.int .u8) w A' n' l) (hn' : n' = l.length) (hc' : l.length ≤ c') (hl : l.length ≤ 1000000) : Calls Try.prog 11 #[.slice A n c, .slice A' n' c'] w fun e w' => e = .returned (.bool true) ∧ Below w.heap.size w w' := by
  subst hn
  subst hn'
  refine (porticobook_Same_byte.calls _ A c l A' c' l true w h hc h' hc' (same_self l hl)).mono ?_
  rintro e w1 ⟨rfl, hd⟩
  obtain ⟨q, rfl⟩ := hd.out
  exact ⟨rfl, pw_below_drewN (Below.refl _ _) q⟩
theorem cap_le {w : World} {A : Option Addr} {n c : Nat} {l : List Int} (h : BRow w (.slice A n c) l) (hn : n = l.length) : l.length ≤ c := by
  subst hn
  obtain ⟨A', c', e, hc⟩ := h.form
  injection e with _ _ e3
  subst e3
  exact hc
theorem brow_lit (w : World) (cs : List Int) (n : Nat) (hn : cs.length = n) (hl : n ≤ 1000) : BRow (w.alloc (.cells (cs.map (Value.int .u8 ·)).toArray 5)) (.slice (some ⟨w.heap.size, 0, none⟩) n n) cs := by
  subst hn
  have h := Sl.of_own (World.ownsRow_lit (base := 0) (e := 5) (size := 1) w (cs.map (Value.int .u8 ·)).toArray cs.length (Nat.zero_le _) (by unfold maxLen; omega) (by simp))
  simpa using h
end Go.Proofs.Ytcndhemociajjaa.Dk
