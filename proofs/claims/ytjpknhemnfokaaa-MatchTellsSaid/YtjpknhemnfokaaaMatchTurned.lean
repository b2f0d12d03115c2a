/- MatchTurned: the walk (printed by wip/law14/gen_Turned.py out of Turned.body). -/
import Derived.Test.YtjpknhemnfokaaaTurnedPure2
set_option linter.unusedVariables false
set_option linter.unusedSimpArgs false
namespace Go.Proofs.Ytjpknhemnfokaaa.Mt
open Go.RowKit Go.Maps Go.Proofs.YtjpknhemnfokaaaW.PrintWords Go.Proofs.YtjpknhemnfokaaaW.PrintLast Go.Proofs.Ytjpknhemnfokaaa.Sl Go.Proofs.Ytjpknhemnfokaaa.Mv Go.Proofs.Ytjpknhemnfokaaa.PMatchTells

/-- A row of trees that is being made. -/
structure Stg (w0 w : World) (v : Value) (l : List Tr) : Prop where
  low : Below w0.heap.size w0 w
  row : TRow w v l
  fresh : ∀ k, v.ownBlock = some k → w0.heap.size ≤ k
theorem Stg.nil {w0 w : World} (h : Below w0.heap.size w0 w) : Stg w0 w (.slice none 0 0) [] := ⟨h, Sl.nil _ _ _, fun _ e => by cases e⟩
theorem Stg.below {w0 w w' : World} {v : Value} {l : List Tr} (h : Stg w0 w v l) (hB : Below w.heap.size w w') : Stg w0 w' v l := ⟨h.low.trans (hB.mono h.low.size), h.row.below hB, h.fresh⟩
theorem Stg.drewN {w0 w : World} {v : Value} {l : List Tr} (h : Stg w0 w v l) (n : Nat) : Stg w0 (w.drewN n) v l := h.below (pw_below_drewN (Below.refl _ _) n)
theorem Stg.alloc {w0 w : World} {v : Value} {l : List Tr} (h : Stg w0 w v l) (o : Obj) : Stg w0 (w.alloc o) v l := h.below ((Below.refl _ _).alloc (Nat.le_refl _) o)
theorem Stg.app {w0 w w' : World} {v v' : Value} {l l' : List Tr} (h : Stg w0 w v l) (hr : TRow w' v' l') (hg : w.grownBy w' v.ownBlock) (ho : v'.ownBlock = v.ownBlock ∨ v'.ownBlock = some w.heap.size) : Stg w0 w' v' l' :=
  ⟨below_grown h.low hg h.fresh h.low.size, hr, fun k hk => by
    rcases ho with ho | ho
    · exact h.fresh k (by rw [← ho]; exact hk)
    · rw [ho] at hk; cases hk; exact h.low.size⟩
structure StgI (w0 w : World) (v : Value) (l : List Int) : Prop where
  low : Below w0.heap.size w0 w
  row : IRow w v l
  fresh : ∀ k, v.ownBlock = some k → w0.heap.size ≤ k
theorem StgI.nil {w0 w : World} (h : Below w0.heap.size w0 w) : StgI w0 w (.slice none 0 0) [] := ⟨h, Sl.nil _ _ _, fun _ e => by cases e⟩
theorem StgI.alloc {w0 w : World} {v : Value} {l : List Int} (h : StgI w0 w v l) (o : Obj) : StgI w0 (w.alloc o) v l := ⟨h.low.alloc h.low.size o, h.row.below ((Below.refl _ _).alloc (Nat.le_refl _) o), h.fresh⟩
theorem StgI.app {w0 w w' : World} {v v' : Value} {l l' : List Int} (h : StgI w0 w v l) (hr : IRow w' v' l') (hg : w.grownBy w' v.ownBlock) (ho : v'.ownBlock = v.ownBlock ∨ v'.ownBlock = some w.heap.size) : StgI w0 w' v' l' :=
  ⟨below_grown h.low hg h.fresh h.low.size, hr, fun k hk => by
    rcases ho with ho | ho
    · exact h.fresh k (by rw [← ho]; exact hk)
    · rw [ho] at hk; cases hk; exact h.low.size⟩
theorem heap_new2 (w : World) (a b : Obj) : ((w.alloc a).alloc b).heap[w.heap.size + 1]? = some b := by
  have := heap_alloc_new (w.alloc a) b
  simpa using this
set_option maxHeartbeats 8000000 in
set_option maxRecDepth 1000000 in
theorem MatchTurned_any (n by_ : Int) (A : Option Addr) (cA : Nat) (ns : List Int) (w : World) (hr : Kd.C (Kd.int .i64) w A ns.length ns) (hc : ns.length ≤ cA) : Calls Try.prog 5 #[.int .i64 n, .int .i64 by_, .slice A ns.length cA] w fun en w' => en = .returned (.bool true) ∧ Below w.heap.size w w' := by
  obtain ⟨k, hk, hk1, hk9⟩ := withinN n 1 9 (by omega) (by omega)
  obtain ⟨c, hcw, _, hck⟩ := withinN by_ 0 k (by omega) (by omega)
  have HN := Lib.hid hr
  have k0 : (1 : Int) ≤ (k : Int) := by omega
  have k9 : (k : Int) ≤ 9 := by omega
  have c0 : (0 : Int) ≤ (c : Int) := by omega
  have ck : (c : Int) ≤ (k : Int) := by omega
  have HW := Lib.hid (And.intro hk hcw)
  have HK := Lib.hid (And.intro hk1 (And.intro hk9 hck))
  clear hr hk hcw hk1 hk9 hck hc
  go_enter Try.func5, Try.ntmps5
  go_wp2_with fail
  refine (porticobook_Within.calls n 1 9 _ w HW.out.1).mono ?_
  rintro e w1 ⟨rfl, ⟨q1, rfl⟩⟩
  have H1 : Hid (Below w.heap.size w (w.drewN q1)) := Lib.hid (pw_below_drewN (Below.refl _ _) q1)
  generalize w.drewN q1 = w1 at H1 ⊢
  go_wp2_with fail
  refine (porticobook_Within.calls by_ 0 (k : Int) _ w1 HW.out.2).mono ?_
  rintro e w2 ⟨rfl, ⟨q2, rfl⟩⟩
  have H2 : Hid (Below w.heap.size w (w1.drewN q2)) := Lib.hid (pw_below_drewN H1.out q2)
  clear H1
  generalize w1.drewN q2 = w2 at H2 ⊢
  go_wp2_with fail
  go_loopw [9, 10] (fun t9 t10 wr => ∃ (i c' : Nat) (A' : Option Addr), t9 = .slice A' i c' ∧ t10 = .int .i64 (i : Int) ∧ i ≤ k ∧ Hid (Stg w wr (.slice A' i c') (olds i))) (fun _ t _ => match t with | .int _ q => (k - q).toNat | _ => 0)
  case atStart => exact ⟨0, 0, none, rfl, rfl, by omega, Lib.hid (Stg.nil H2.out)⟩
  case round =>
    obtain ⟨i, c', A', rfl, rfl, hi, HI⟩ := hrel
    clear H2
    have i0 : (0 : Int) ≤ (i : Int) := by omega
    by_cases d1 : i < k
    · have i1 : (i : Int) < (k : Int) := by omega
      have hconv := letter48 wr i
      go_upto_region 7 with fail
      go_wp2_with (at_builtin; clear hconv; refine wpl_append_tree rfl (.tmp 30) (.tmp 37) rfl (.slice A' i c') (olds i) (nt i) (wr.heap.size + 1) 1 rfl rfl ((HI.out.alloc (.cells #[.int .u8 (48 + (i : Int))] 5)).alloc (.cells #[.string (nt i).a, .string (nt i).b, .string (nt i).c, .slice none 0 0, .slice none 0 0] 25)).row ?_ (by rw [olds_len]; have := HK.out; omega) ?_)
      · exact heap_new2 _ _ _
      rintro A7 c7 w7 hr7 hg7 ho7
      have H7 : Hid (Stg w w7 (.slice A7 (i + 1) c7) (olds (i + 1))) := Lib.hid (by
        rw [olds_len] at hr7 ho7
        rw [olds_succ]
        exact ((HI.out.alloc (.cells #[.int .u8 (48 + (i : Int))] 5)).alloc (.cells #[.string (nt i).a, .string (nt i).b, .string (nt i).c, .slice none 0 0, .slice none 0 0] 25)).app hr7 hg7 (by simpa using ho7))
      rw [olds_len]
      clear hr7 hg7 ho7 HI
      go_wp2_with fail
      go_roundw
      case rel => exact ⟨i + 1, c7, A7, rfl, by go_num, by omega, H7⟩
      case measure => first | (simp; omega) | simp
    · have i1 : ¬ (i : Int) < (k : Int) := by omega
      obtain rfl : i = k := by omega
      obtain ⟨g, o, c0', e0, hc1⟩ := HI.out.row.form1 (by rw [olds_len]; have := HK.out; omega)
      rw [olds_len] at e0 hc1
      obtain ⟨rfl, rfl⟩ : A' = some ⟨g, o, none⟩ ∧ c' = c0' := by
        injection e0 with e1 _ e3
        exact ⟨e1, e3⟩
      clear e0 i1 hi d1
      have q1 : (i : Int) ≤ (c' : Int) := by omega
      have q2 : (c : Int) ≤ (c' : Int) := by omega
      have HC1 := Lib.hid hc1
      clear hc1
      go_upto_region 8 with fail
      go_cut [11] (fun t11 wc => ∃ (A6 : Option Addr) (c6 : Nat), t11 = .slice A6 i c6 ∧ Hid (Stg w wc (.slice (some ⟨g, o, none⟩) i c') (olds i) ∧ TRow wc (.slice A6 i c6) ((turnedN i c).map nt)))
      case first =>
        have HZ : Hid (Stg w wr.drew (.slice (some ⟨g, o, none⟩) i c') (olds i)) := Lib.hid (HI.out.below (pw_below_drewN (Below.refl _ _) 1))
        have HTK : Hid (TRow wr.drew (.slice (some ⟨g, o, none⟩) c c') ((olds i).take c)) := Lib.hid (trow_take (by rw [olds_len]; exact HZ.out.row) (by rw [olds_len]; exact HK.out.2.2))
        clear HI
        have S0 : Below wr.drew.heap.size wr.drew wr.drew := Below.refl _ _
        have HD := Lib.hid (trow_drop (k := c) (by rw [olds_len]; exact HZ.out.row) (by rw [olds_len]; exact HK.out.2.2))
        rw [olds_len] at HD
        by_cases hci : c' = c
        · rw [if_pos hci] at HD
          have hci' : ((c' : Int) == (c : Int)) = true := by simp; omega
          refine start_ (n := 10) (S := fun w' => Below wr.drew.heap.size wr.drew w') (ds := [0, 4, 8]) #[false, false, false, false, false, false, false, false, false, false] (by kernel_rfl) rfl rfl (S0) (fun hHeld => ?_)
          clear S0
          generalize wr.drew = W1 at HZ HTK HD hHeld ⊢
          refine pure_ (i := 1) (N := some 40) (v := ?_) (a' := ?_) #[false, true, false, false, false, false, false, false, false, false] rfl rfl (by kernel_rfl) (fun _ _ _ h => h) (Or.inl ⟨by rfl, ?_⟩) ?_ ?_
          rotate_left
          · intro w'
            go_simp
            with_reducible rfl
          rotate_left
          · simp only [Act.put, List.setIfInBounds_toArray, List.set_cons_zero, List.set_cons_succ, i64_w, i32_w]
            rfl
          refine pure_ (i := 2) (N := some 41) (v := ?_) (a' := ?_) #[false, true, true, false, false, false, false, false, false, false] rfl rfl (by kernel_rfl) (fun _ _ _ h => h) (Or.inl ⟨by rfl, ?_⟩) ?_ ?_
          rotate_left
          · intro w'
            go_simp
            with_reducible rfl
          rotate_left
          · simp only [Act.put, List.setIfInBounds_toArray, List.set_cons_zero, List.set_cons_succ, i64_w, i32_w]
            rfl
          refine pure_ (i := 3) (N := some 42) (v := ?_) (a' := ?_) #[false, true, true, true, false, false, false, false, false, false] rfl rfl (by kernel_rfl) (fun _ _ _ h => h) (Or.inl ⟨by rfl, ?_⟩) ?_ ?_
          rotate_left
          · intro w'
            go_simp
            with_reducible rfl
          rotate_left
          · simp only [Act.put, List.setIfInBounds_toArray, List.set_cons_zero, List.set_cons_succ, i64_w, i32_w]
            rfl
          refine pure_ (i := 5) (N := some 44) (v := ?_) (a' := ?_) #[false, true, true, true, false, true, false, false, false, false] rfl rfl (by kernel_rfl) (fun _ _ _ h => h) (Or.inl ⟨by rfl, ?_⟩) ?_ ?_
          rotate_left
          · intro w'
            go_simp
            with_reducible rfl
          rotate_left
          · simp only [Act.put, List.setIfInBounds_toArray, List.set_cons_zero, List.set_cons_succ, i64_w, i32_w]
            rfl
          refine pure_ (i := 6) (N := some 45) (v := ?_) (a' := ?_) #[false, true, true, true, false, true, true, false, false, false] rfl rfl (by kernel_rfl) (fun _ _ _ h => h) (Or.inl ⟨by rfl, ?_⟩) ?_ ?_
          rotate_left
          · intro w'
            go_simp
            with_reducible rfl
          rotate_left
          · simp only [Act.put, List.setIfInBounds_toArray, List.set_cons_zero, List.set_cons_succ, i64_w, i32_w]
            rfl
          refine pure_ (i := 7) (N := some 46) (v := ?_) (a' := ?_) #[false, true, true, true, false, true, true, true, false, false] rfl rfl (by kernel_rfl) (fun _ _ _ h => h) (Or.inl ⟨by rfl, ?_⟩) ?_ ?_
          rotate_left
          · intro w'
            go_simp
            with_reducible rfl
          rotate_left
          · simp only [Act.put, List.setIfInBounds_toArray, List.set_cons_zero, List.set_cons_succ, i64_w, i32_w]
            rfl
          refine last_ (i := 0) (N := some 39) #[true, true, true, true, false, true, true, true, false, false] rfl rfl (by kernel_rfl) (by decide) (fun K hK => ?_)
          refine value_ (w1 := ?_) (v := ?_) (by rfl) rfl ?_ ?_
          rotate_left 2
          · go_simp
            constructor
            · rfl
            · rfl
          refine hK.out _ _ ?_
          clear hK K
          refine norm_ (a' := ?_) ?_ ?_
          rotate_left
          · show Act.put _ (some 39) _ = _
            simp only [Act.put, List.setIfInBounds_toArray, List.set_cons_zero, List.set_cons_succ, i64_w, i32_w]
            rfl
          refine last_ (i := 4) (N := some 43) #[true, true, true, true, true, true, true, true, false, false] rfl rfl (by kernel_rfl) (by decide) (fun K hK => ?_)
          have HDD : TRow (W1.alloc (.cells #[] 25)) (.slice (some ⟨g, o, none⟩) (i - c) (c' - c)) ((olds i).drop c) := HD.out.below ((Below.refl _ _).alloc (Nat.le_refl _) _)
          obtain ⟨A5, c5, w5, hrun, hr5, hg5, ho5⟩ := run_append_trees (W1.alloc (.cells #[] 25)) (.slice (some ⟨W1.heap.size, 0, none⟩) 0 0) [] ((olds i).drop c) ⟨g, o, none⟩ (c' - c) 23 (trow_made W1) (trow_cells HDD (by rw [List.length_drop, olds_len])) (by rw [List.length_drop, olds_len]; have := HK.out; simp; omega)
          rw [List.length_drop, olds_len] at hrun
          refine value_ (w1 := w5) (v := .slice A5 ([] ++ (olds i).drop c).length c5) (by rfl) rfl ?_ ?_
          · exact exec_append (.tmp 39) (.tmp 42) 23 rfl _ _ rfl rfl hrun
          refine hK.out _ _ ?_
          clear hK K
          refine norm_ (a' := ?_) ?_ ?_
          rotate_left
          · show Act.put _ (some 43) _ = _
            simp only [Act.put, List.setIfInBounds_toArray, List.set_cons_zero, List.set_cons_succ, i64_w, i32_w]
            rfl
          refine last_ (i := 8) (N := some 47) #[true, true, true, true, true, true, true, true, true, false] rfl rfl (by kernel_rfl) (by decide) (fun K hK => ?_)
          have HTT : TRow w5 (.slice (some ⟨g, o, none⟩) c c') ((olds i).take c) := Sl.move (HTK.out.below ((Below.refl _ _).alloc (Nat.le_refl _) _)) fun k hk => hg5.block k ((HTK.out.below ((Below.refl _ _).alloc (Nat.le_refl _) _)).lt k hk).1 (fun e => by have := (HTK.out.lt k hk).1; cases e; exact absurd this (Nat.lt_irrefl _))
          obtain ⟨A6, c6, w6, hrun6, hr6, hg6, ho6⟩ := run_append_trees w5 (.slice A5 ([] ++ (olds i).drop c).length c5) ([] ++ (olds i).drop c) ((olds i).take c) ⟨g, o, none⟩ c' 23 hr5 (trow_cells HTT (by rw [List.length_take, olds_len]; have := HK.out; omega)) (by simp [olds_len]; have := HK.out; omega)
          rw [List.length_take, olds_len, Nat.min_eq_left HK.out.2.2] at hrun6
          refine value_ (w1 := w6) (v := .slice A6 (([] ++ (olds i).drop c) ++ (olds i).take c).length c6) (by rfl) rfl ?_ ?_
          · exact exec_append (.tmp 43) (.tmp 46) 23 rfl _ _ rfl rfl hrun6
          refine hK.out _ _ ?_
          clear hK K
          refine norm_ (a' := ?_) ?_ ?_
          rotate_left
          · show Act.put _ (some 47) _ = _
            simp only [Act.put, List.setIfInBounds_toArray, List.set_cons_zero, List.set_cons_succ, i64_w, i32_w]
            rfl
          refine pure_ (i := 9) (N := some 11) (v := ?_) (a' := ?_) #[true, true, true, true, true, true, true, true, true, true] rfl rfl (by kernel_rfl) (fun _ _ _ h => h) (Or.inl ⟨by rfl, ?_⟩) ?_ ?_
          rotate_left
          · intro w'
            go_simp
            with_reducible rfl
          rotate_left
          · simp only [Act.put, List.setIfInBounds_toArray, List.set_cons_zero, List.set_cons_succ, i64_w, i32_w]
            rfl
          refine done_ (by kernel_rfl) ?_
          have hB5 : Below W1.heap.size W1 w5 := below_grown ((Below.refl _ _).alloc (Nat.le_refl _) _) hg5 (fun k hk => by cases hk; exact Nat.le_refl _) (by simp)
          have hB6 : Below W1.heap.size W1 w6 := below_grown hB5 hg6 (fun k hk => by
            rcases ho5 with ho | ho
            · rw [ho] at hk; cases hk; exact Nat.le_refl _
            · rw [ho] at hk; have := Option.some.inj hk; simp at this; omega) hB5.size
          have hl6 : (([] ++ (olds i).drop c) ++ (olds i).take c).length = i := by rw [List.nil_append, turned_eq, List.length_map, turned_len _ _ HK.out.2.2]
          rw [hl6] at hr6 ⊢
          rw [List.nil_append, turned_eq] at hr6
          have H6 : Hid (Stg w w6 (.slice (some ⟨g, o, none⟩) i c') (olds i) ∧ TRow w6 (.slice A6 i c6) ((turnedN i c).map nt)) := Lib.hid ⟨HZ.out.below hB6, hr6⟩
          clear hB5 hB6 hr6 hr5 hg5 hg6 ho5 ho6 hl6 hrun hrun6 HTT HDD
          go_wp2_with fail
          go_meet
          case rel => exact ⟨A6, c6, by rw [show (olds i).length - c + min c (olds i).length = i from by rw [olds_len]; have := HK.out; omega], H6⟩
        · rw [if_neg hci] at HD
          have hci' : ((c' : Int) == (c : Int)) = false := by simp; omega
          refine start_ (n := 10) (S := fun w' => Below wr.drew.heap.size wr.drew w') (ds := [0, 4, 8]) #[false, false, false, false, false, false, false, false, false, false] (by kernel_rfl) rfl rfl (S0) (fun hHeld => ?_)
          clear S0
          generalize wr.drew = W1 at HZ HTK HD hHeld ⊢
          refine pure_ (i := 1) (N := some 40) (v := ?_) (a' := ?_) #[false, true, false, false, false, false, false, false, false, false] rfl rfl (by kernel_rfl) (fun _ _ _ h => h) (Or.inl ⟨by rfl, ?_⟩) ?_ ?_
          rotate_left
          · intro w'
            go_simp
            with_reducible rfl
          rotate_left
          · simp only [Act.put, List.setIfInBounds_toArray, List.set_cons_zero, List.set_cons_succ, i64_w, i32_w]
            rfl
          refine pure_ (i := 2) (N := some 41) (v := ?_) (a' := ?_) #[false, true, true, false, false, false, false, false, false, false] rfl rfl (by kernel_rfl) (fun _ _ _ h => h) (Or.inl ⟨by rfl, ?_⟩) ?_ ?_
          rotate_left
          · intro w'
            go_simp
            with_reducible rfl
          rotate_left
          · simp only [Act.put, List.setIfInBounds_toArray, List.set_cons_zero, List.set_cons_succ, i64_w, i32_w]
            rfl
          refine pure_ (i := 3) (N := some 42) (v := ?_) (a' := ?_) #[false, true, true, true, false, false, false, false, false, false] rfl rfl (by kernel_rfl) (fun _ _ _ h => h) (Or.inl ⟨by rfl, ?_⟩) ?_ ?_
          rotate_left
          · intro w'
            go_simp
            with_reducible rfl
          rotate_left
          · simp only [Act.put, List.setIfInBounds_toArray, List.set_cons_zero, List.set_cons_succ, i64_w, i32_w]
            rfl
          refine pure_ (i := 5) (N := some 44) (v := ?_) (a' := ?_) #[false, true, true, true, false, true, false, false, false, false] rfl rfl (by kernel_rfl) (fun _ _ _ h => h) (Or.inl ⟨by rfl, ?_⟩) ?_ ?_
          rotate_left
          · intro w'
            go_simp
            with_reducible rfl
          rotate_left
          · simp only [Act.put, List.setIfInBounds_toArray, List.set_cons_zero, List.set_cons_succ, i64_w, i32_w]
            rfl
          refine pure_ (i := 6) (N := some 45) (v := ?_) (a' := ?_) #[false, true, true, true, false, true, true, false, false, false] rfl rfl (by kernel_rfl) (fun _ _ _ h => h) (Or.inl ⟨by rfl, ?_⟩) ?_ ?_
          rotate_left
          · intro w'
            go_simp
            with_reducible rfl
          rotate_left
          · simp only [Act.put, List.setIfInBounds_toArray, List.set_cons_zero, List.set_cons_succ, i64_w, i32_w]
            rfl
          refine pure_ (i := 7) (N := some 46) (v := ?_) (a' := ?_) #[false, true, true, true, false, true, true, true, false, false] rfl rfl (by kernel_rfl) (fun _ _ _ h => h) (Or.inl ⟨by rfl, ?_⟩) ?_ ?_
          rotate_left
          · intro w'
            go_simp
            with_reducible rfl
          rotate_left
          · simp only [Act.put, List.setIfInBounds_toArray, List.set_cons_zero, List.set_cons_succ, i64_w, i32_w]
            rfl
          refine last_ (i := 0) (N := some 39) #[true, true, true, true, false, true, true, true, false, false] rfl rfl (by kernel_rfl) (by decide) (fun K hK => ?_)
          refine value_ (w1 := ?_) (v := ?_) (by rfl) rfl ?_ ?_
          rotate_left 2
          · go_simp
            constructor
            · rfl
            · rfl
          refine hK.out _ _ ?_
          clear hK K
          refine norm_ (a' := ?_) ?_ ?_
          rotate_left
          · show Act.put _ (some 39) _ = _
            simp only [Act.put, List.setIfInBounds_toArray, List.set_cons_zero, List.set_cons_succ, i64_w, i32_w]
            rfl
          refine last_ (i := 4) (N := some 43) #[true, true, true, true, true, true, true, true, false, false] rfl rfl (by kernel_rfl) (by decide) (fun K hK => ?_)
          have HDD : TRow (W1.alloc (.cells #[] 25)) (.slice (some ⟨g, o + c * 5, none⟩) (i - c) (c' - c)) ((olds i).drop c) := HD.out.below ((Below.refl _ _).alloc (Nat.le_refl _) _)
          obtain ⟨A5, c5, w5, hrun, hr5, hg5, ho5⟩ := run_append_trees (W1.alloc (.cells #[] 25)) (.slice (some ⟨W1.heap.size, 0, none⟩) 0 0) [] ((olds i).drop c) ⟨g, o + c * 5, none⟩ (c' - c) 23 (trow_made W1) (trow_cells HDD (by rw [List.length_drop, olds_len])) (by rw [List.length_drop, olds_len]; have := HK.out; simp; omega)
          rw [List.length_drop, olds_len] at hrun
          refine value_ (w1 := w5) (v := .slice A5 ([] ++ (olds i).drop c).length c5) (by rfl) rfl ?_ ?_
          · exact exec_append (.tmp 39) (.tmp 42) 23 rfl _ _ rfl rfl hrun
          refine hK.out _ _ ?_
          clear hK K
          refine norm_ (a' := ?_) ?_ ?_
          rotate_left
          · show Act.put _ (some 43) _ = _
            simp only [Act.put, List.setIfInBounds_toArray, List.set_cons_zero, List.set_cons_succ, i64_w, i32_w]
            rfl
          refine last_ (i := 8) (N := some 47) #[true, true, true, true, true, true, true, true, true, false] rfl rfl (by kernel_rfl) (by decide) (fun K hK => ?_)
          have HTT : TRow w5 (.slice (some ⟨g, o, none⟩) c c') ((olds i).take c) := Sl.move (HTK.out.below ((Below.refl _ _).alloc (Nat.le_refl _) _)) fun k hk => hg5.block k ((HTK.out.below ((Below.refl _ _).alloc (Nat.le_refl _) _)).lt k hk).1 (fun e => by have := (HTK.out.lt k hk).1; cases e; exact absurd this (Nat.lt_irrefl _))
          obtain ⟨A6, c6, w6, hrun6, hr6, hg6, ho6⟩ := run_append_trees w5 (.slice A5 ([] ++ (olds i).drop c).length c5) ([] ++ (olds i).drop c) ((olds i).take c) ⟨g, o, none⟩ c' 23 hr5 (trow_cells HTT (by rw [List.length_take, olds_len]; have := HK.out; omega)) (by simp [olds_len]; have := HK.out; omega)
          rw [List.length_take, olds_len, Nat.min_eq_left HK.out.2.2] at hrun6
          refine value_ (w1 := w6) (v := .slice A6 (([] ++ (olds i).drop c) ++ (olds i).take c).length c6) (by rfl) rfl ?_ ?_
          · exact exec_append (.tmp 43) (.tmp 46) 23 rfl _ _ rfl rfl hrun6
          refine hK.out _ _ ?_
          clear hK K
          refine norm_ (a' := ?_) ?_ ?_
          rotate_left
          · show Act.put _ (some 47) _ = _
            simp only [Act.put, List.setIfInBounds_toArray, List.set_cons_zero, List.set_cons_succ, i64_w, i32_w]
            rfl
          refine pure_ (i := 9) (N := some 11) (v := ?_) (a' := ?_) #[true, true, true, true, true, true, true, true, true, true] rfl rfl (by kernel_rfl) (fun _ _ _ h => h) (Or.inl ⟨by rfl, ?_⟩) ?_ ?_
          rotate_left
          · intro w'
            go_simp
            with_reducible rfl
          rotate_left
          · simp only [Act.put, List.setIfInBounds_toArray, List.set_cons_zero, List.set_cons_succ, i64_w, i32_w]
            rfl
          refine done_ (by kernel_rfl) ?_
          have hB5 : Below W1.heap.size W1 w5 := below_grown ((Below.refl _ _).alloc (Nat.le_refl _) _) hg5 (fun k hk => by cases hk; exact Nat.le_refl _) (by simp)
          have hB6 : Below W1.heap.size W1 w6 := below_grown hB5 hg6 (fun k hk => by
            rcases ho5 with ho | ho
            · rw [ho] at hk; cases hk; exact Nat.le_refl _
            · rw [ho] at hk; have := Option.some.inj hk; simp at this; omega) hB5.size
          have hl6 : (([] ++ (olds i).drop c) ++ (olds i).take c).length = i := by rw [List.nil_append, turned_eq, List.length_map, turned_len _ _ HK.out.2.2]
          rw [hl6] at hr6 ⊢
          rw [List.nil_append, turned_eq] at hr6
          have H6 : Hid (Stg w w6 (.slice (some ⟨g, o, none⟩) i c') (olds i) ∧ TRow w6 (.slice A6 i c6) ((turnedN i c).map nt)) := Lib.hid ⟨HZ.out.below hB6, hr6⟩
          clear hB5 hB6 hr6 hr5 hg5 hg6 ho5 ho6 hl6 hrun hrun6 HTT HDD
          go_wp2_with fail
          go_meet
          case rel => exact ⟨A6, c6, by rw [show (olds i).length - c + min c (olds i).length = i from by rw [olds_len]; have := HK.out; omega], H6⟩
      case rest =>
        obtain ⟨A6, c6, rfl, H6⟩ := hcut
        clear HI HC1 q1 q2
        have ho1 : (olds i).length ≤ 1000 := by rw [olds_len]; have := HK.out; omega
        have hi10 : i < 10 := by have := HK.out; omega
        have hF := From_any (.slice (some ⟨g, o, none⟩) i c') (.slice A6 i c6) (olds i) ((turnedN i c).map nt) wc H6.out.1.row ho1 (olds_sz i) H6.out.2 (by rw [List.length_map, turned_len _ _ HK.out.2.2]; omega) (map_sz _)
        rw [from_olds i (by omega) _ (turned_nodup i hi10 c HK.out.2.2).2 (turned_nodup i hi10 c HK.out.2.2).1, turned_want i hi10 c HK.out.2.2, List.length_map, turned_len _ _ HK.out.2.2] at hF
        have HF := Lib.hid (And.intro ho1 hi10)
        clear ho1 hi10
        go_wp2_with fail
        refine hF.mono ?_
        rintro e w9 ⟨A9, c9, rfl, hr9, hB9, hf9⟩
        have H9 : Hid (Stg w w9 (.slice (some ⟨g, o, none⟩) i c') (olds i) ∧ TRow w9 (.slice A6 i c6) ((turnedN i c).map nt) ∧ IRow w9 (.slice A9 i c9) (wantL i c)) := Lib.hid ⟨H6.out.1.below hB9, H6.out.2.below hB9, hr9⟩
        clear hF H6 hr9 hB9 hf9
        go_wp2_with fail
        go_loopw [13, 14, 53] (fun t13 t14 t53 wr => ∃ (j cj : Nat) (Aj : Option Addr), t13 = .slice Aj j cj ∧ t53 = .int .i64 (j : Int) ∧ j ≤ i ∧ Hid (StgI w9 wr (.slice Aj j cj) (wantP i c j))) (fun _ _ t _ => match t with | .int _ q => (i - q).toNat | _ => 0)
        case atStart => exact ⟨0, 0, none, rfl, rfl, by omega, Lib.hid (StgI.nil (Below.refl _ _))⟩
        case round =>
          obtain ⟨j, cj, Aj, rfl, rfl, hj, HJ⟩ := hrel
          have j0 : (0 : Int) ≤ (j : Int) := by omega
          by_cases d1 : j < i
          · have j1 : (j : Int) < (i : Int) := by omega
            have hrem : Int.tmod ((j : Int) + (c : Int)) (i : Int) = (((j + c) % i : Nat) : Int) := by rw [← Int.natCast_add]; exact (Int.ofNat_tmod _ _).symm
            go_wp2_with (at_builtin; refine wpl_append_int rfl (.tmp 56) (.tmp 62) rfl (.slice Aj j cj) (wantP i c j) (((j + c) % i : Nat) : Int) wr.heap.size 1 rfl rfl (HJ.out.alloc _).row ?_ (by rw [wantP_len]; have := HK.out; omega) ?_)
            · exact heap_alloc_new _ _
            rintro A10 c10 w10 hr10 hg10 ho10
            have H10 : Hid (StgI w9 w10 (.slice A10 (j + 1) c10) (wantP i c (j + 1))) := Lib.hid (by
              rw [wantP_len] at hr10 ho10
              rw [wantP_succ]
              exact (HJ.out.alloc (.cells #[.int .i64 (((j + c) % i : Nat) : Int)] 3)).app hr10 hg10 (by simpa using ho10))
            rw [wantP_len]
            clear hr10 hg10 ho10 HJ hrem
            go_wp2_with fail
            go_roundw
            case rel => exact ⟨j + 1, c10, A10, rfl, by go_num, by omega, H10⟩
            case measure => first | (simp; omega) | simp
          · have j1 : ¬ (j : Int) < (i : Int) := by omega
            obtain rfl : j = i := by omega
            clear hj d1 j0
            go_upto_region 16 with fail
            have HA : Hid (Stg w wr (.slice (some ⟨g, o, none⟩) j c') (olds j) ∧ IRow wr (.slice A9 j c9) (wantL j c) ∧ IRow wr (.slice Aj j cj) (wantL j c)) := Lib.hid ⟨H9.out.1.below HJ.out.low, H9.out.2.2.below HJ.out.low, HJ.out.row⟩
            clear H9 HJ
            go_wp2_with fail
            refine (Same_rows HA.out.2.1 (wantL_len _ _).symm HA.out.2.2 (wantL_len _ _).symm (want_same j HF.out.2 c HK.out.2.2)).mono ?_
            rintro e w11 ⟨rfl, hB11⟩
            have H11 : Hid (Stg w w11 (.slice (some ⟨g, o, none⟩) j c') (olds j) ∧ IRow w11 (.slice A9 j c9) (wantL j c)) := Lib.hid ⟨HA.out.1.below hB11, HA.out.2.1.below hB11⟩
            clear HA hB11
            go_wp2_with fail
            refine (Moves_row H11.out.2 (wantL_len _ _).symm (turned_moves j HF.out.2 c HK.out.2.2)).mono ?_
            rintro e w12 ⟨rfl, hB12⟩
            have H12 : Hid (Stg w w12 (.slice (some ⟨g, o, none⟩) j c') (olds j)) := Lib.hid (H11.out.1.below hB12)
            clear H11 hB12
            have hself := from_olds j (by have := HF.out.2; omega) (List.range j) (fun _ h => List.mem_range.1 h) List.nodup_range
            rw [← range_map] at hself
            have hF := From_any (.slice (some ⟨g, o, none⟩) j c') (.slice (some ⟨g, o, none⟩) j c') (olds j) (olds j) w12 H12.out.row HF.out.1 (olds_sz j) H12.out.row HF.out.1 (olds_sz j)
            rw [hself, olds_len] at hF
            clear hself
            go_wp2_with fail
            refine hF.mono ?_
            rintro e w13 ⟨A13, c13, rfl, hr13, hB13, hf13⟩
            have H13 : Hid (Stg w w13 (.slice (some ⟨g, o, none⟩) j c') (olds j) ∧ IRow w13 (.slice A13 j c13) ((List.range j).map (fun (i : Nat) => (i : Int)))) := Lib.hid ⟨H12.out.below hB13, hr13⟩
            clear hF H12 hr13 hB13 hf13
            go_wp2_with fail
            refine (Moves_row H13.out.2 (by simp) (old_moves j HF.out.2)).mono ?_
            rintro e w14 ⟨rfl, hB14⟩
            have H14 : Hid (Stg w w14 (.slice (some ⟨g, o, none⟩) j c') (olds j)) := Lib.hid (H13.out.1.below hB14)
            clear H13 hB14
            have hmm := @Go.RowKit.run_makeMap Try.prog
            go_upto_block 4 with fail
            clear hmm
            obtain ⟨b, hb⟩ : ∃ b, w14.heap.size = b := ⟨_, rfl⟩
            have H15 : Hid (Below w14.heap.size w14 (w14.alloc (.map #[] 0)) ∧ w14.heap.size ≤ b ∧ ∃ f, MapV 3 (w14.alloc (.map #[] 0)) b 0 (cnt j 0) f ∧ Mask f 0) := Lib.hid ⟨(Below.refl _ _).alloc (Nat.le_refl _) _, by omega, _, by rw [← hb]; rw [show cnt j 0 = 0 from by simp [cnt]]; exact MapV.made w14 _, Mask.zero⟩
            rw [hb]
            clear hb
            generalize w14.alloc (.map #[] 0) = w15 at H15 ⊢
            go_cut [16] (fun t16 wc => ∃ (m : Nat), m < 2 ^ j ∧ Hid (Below w14.heap.size w14 wc ∧ w14.heap.size ≤ b ∧ ∃ (t : Nat) (f : Lit → Option Value), MapV 3 wc b t (cnt j m) f ∧ Mask f m))
            case first =>
              go_wp2_with fail
              go_loopw [16] (fun t16 wr => ∃ (i m : Nat), t16 = .int .i64 (i : Int) ∧ i ≤ ns.length ∧ i ≤ 5 ∧ m < 2 ^ j ∧ Hid (Below w14.heap.size w14 wr ∧ w14.heap.size ≤ b ∧ ∃ (f : Lit → Option Value), MapV 3 wr b i (cnt j m) f ∧ Mask f m)) (fun t _ => match t with | .int _ i => (5 - i).toNat | _ => 0)
              case atStart => exact ⟨0, 0, rfl, by omega, by omega, Nat.pow_pos (by omega), H15⟩
              case round =>
                obtain ⟨i, m, rfl, hi, hi5, hm, HI⟩ := hrel
                clear H15
                have i0 : (0 : Int) ≤ (i : Int) := by omega
                by_cases d1 : i < ns.length
                · have i1 : (i : Int) < (ns.length : Int) := by omega
                  by_cases d2 : i < 5
                  · have i2 : (i : Int) < 5 := by omega
                    obtain ⟨bA, oA, hA, hcell⟩ := ints_cell HN.out i d1
                    subst hA
                    have y1 : wr.cell? ⟨bA, oA + i, none⟩ = some (.int .i64 ns[i]) := (((H14.out.low.trans (HI.out.1.mono H14.out.low.size))).cell (World.block_lt_of_cell? _ _ hcell)).trans hcell
                    obtain ⟨x, hx, _, hxk⟩ := withinN ns[i] 0 (j - 1) (by omega) (by have := HF.out; omega)
                    rw [show ((j - 1 : Nat) : Int) = (j : Int) - 1 by have := HK.out; omega] at hx
                    have hxj : x < j := by have := HK.out; omega
                    have HX := Lib.hid (And.intro hx hxj)
                    clear hcell hx hxk hxj
                    go_wp2_with fail
                    refine (porticobook_Within.calls ns[i] 0 ((j : Int) - 1) _ wr HX.out.1).mono ?_
                    rintro e w16 ⟨rfl, ⟨q16, rfl⟩⟩
                    have H16 : Hid (Below w14.heap.size w14 (wr.drewN q16) ∧ w14.heap.size ≤ b ∧ ∃ (f : Lit → Option Value), MapV 3 (wr.drewN q16) b i (cnt j m) f ∧ Mask f m) := Lib.hid (by
                      obtain ⟨h1, h2, f, h3, h4⟩ := HI.out
                      exact ⟨pw_below_drewN h1 q16, h2, f, h3.below (pw_below_drewN (Below.refl _ _) q16), h4⟩)
                    clear HI y1
                    generalize wr.drewN q16 = w16 at H16 ⊢
                    have hwf : (Lit.int .i64 (x : Int)).wf = true := by have := HX.out.2; have := HF.out.2; simp [Lit.wf, IntKind.min, IntKind.max, IntKind.signed, IntKind.bits]; omega
                    obtain ⟨h1, h2, f, h3, h4⟩ := H16.out
                    obtain ⟨w17, hr17, hm17, hg17⟩ := h3.put intKeyed Try.underlying33 (by unfold maxLen; omega) (ki_key hwf) (.bool true) (upd f (ki x) _) (upd_same _ _ _) (fun y hy => upd_other _ _ hy)
                    have hst := cnt_step j HF.out.2 m hm x HX.out.2
                    have H17 : Hid (Below w14.heap.size w14 w17 ∧ w14.heap.size ≤ b ∧ ∃ (f : Lit → Option Value), MapV 3 w17 b (i + 1) (cnt j (m ||| 2 ^ x)) f ∧ Mask f (m ||| 2 ^ x)) := Lib.hid ⟨below_grown h1 hg17 (fun k hk => by cases hk; exact h2) h1.size, h2, _, by
                      have h5 := h4 x
                      rw [hst.2]
                      by_cases e : m.testBit x
                      · rw [if_pos e] at h5 ⊢
                        rw [h5] at hm17
                        exact hm17
                      · rw [if_neg e] at h5 ⊢
                        rw [h5] at hm17
                        exact hm17, h4.put x⟩
                    have hm2 := hst.1
                    clear H16 h1 h2 h3 h4 hm17 hg17 hst hwf
                    go_wp2_with fail
                    go_roundw
                    case rel => exact ⟨i + 1, m ||| 2 ^ x, by go_num, by omega, by omega, hm2, H17⟩
                    case measure => first | (simp; omega) | simp
                  · have i2 : ¬ (i : Int) < 5 := by omega
                    go_wp2_with fail
                    go_meet
                    case rel =>
                      obtain ⟨h1, h2, f, h3, h4⟩ := HI.out
                      exact ⟨m, hm, Lib.hid ⟨h1, h2, i, f, h3, h4⟩⟩
                · have i1 : ¬ (i : Int) < (ns.length : Int) := by omega
                  go_wp2_with fail
                  go_meet
                  case rel =>
                    obtain ⟨h1, h2, f, h3, h4⟩ := HI.out
                    exact ⟨m, hm, Lib.hid ⟨h1, h2, i, f, h3, h4⟩⟩
            case rest =>
              obtain ⟨m, hm, H17⟩ := hcut
              clear H15
              have H18 : Hid (Stg w wc (.slice (some ⟨g, o, none⟩) j c') (olds j) ∧ ∃ (t : Nat) (f : Lit → Option Value), MapV 3 wc b t (cnt j m) f ∧ Mask f m) := Lib.hid ⟨H14.out.below H17.out.1, H17.out.2.2⟩
              clear H17
              have HM := Lib.hid hm
              clear hm
              go_wp2_with fail
              go_loopw [17, 18, 107] (fun t17 t18 t107 wr => ∃ (i n' c'' : Nat) (A'' : Option Addr), t17 = .slice A'' n' c'' ∧ t107 = .int .i64 (i : Int) ∧ i ≤ j ∧ Hid (n' = (leftN i m).length ∧ Stg wc wr (.slice A'' n' c'') ((leftN i m).map nt))) (fun _ _ t _ => match t with | .int _ q => (j - q).toNat | _ => 0)
              case atStart => exact ⟨0, 0, 0, none, rfl, rfl, by omega, Lib.hid ⟨rfl, Stg.nil (Below.refl _ _)⟩⟩
              case round =>
                obtain ⟨i, n', c'', A'', rfl, rfl, hi, HI⟩ := hrel
                have i0 : (0 : Int) ≤ (i : Int) := by omega
                by_cases d1 : i < j
                · have i1 : (i : Int) < (j : Int) := by omega
                  obtain ⟨hold, t, f, hmap, hmk⟩ := H18.out
                  have hwf : (Lit.int .i64 (i : Int)).wf = true := by have := HF.out.2; simp [Lit.wf, IntKind.min, IntKind.max, IntKind.signed, IntKind.bits]; omega
                  have hlk := (hmap.below HI.out.2.low).get intKeyed Try.underlying33 (zeroBool wr) (ki_key hwf)
                  rw [hmk i] at hlk
                  have hsu := leftN_succ i m
                  by_cases e : m.testBit i
                  · rw [if_pos e] at hlk hsu
                    have HI2 : Hid (n' = (leftN (i + 1) m).length ∧ Stg wc wr (.slice A'' n' c'') ((leftN (i + 1) m).map nt)) := Lib.hid (by rw [hsu, List.append_nil]; exact HI.out)
                    clear hold hmap hmk hwf HI hsu e
                    simp only [Option.getD_some] at hlk
                    go_wp2_with fail
                    go_roundw
                    case rel => exact ⟨i + 1, n', c'', A'', rfl, by go_num, by omega, HI2⟩
                    case measure => first | (simp; omega) | simp
                  · rw [if_neg e] at hlk hsu
                    simp only [Option.getD_none] at hlk
                    have hcs := TRow.cells hold.row (olds_len j).symm i (by rw [olds_len]; exact d1)
                    rw [olds_get] at hcs
                    have hcell : ∀ {ad' : Addr} {u : Value}, wc.cell? ad' = some u → wr.cell? ad' = some u := fun h => (HI.out.2.low.cell (World.block_lt_of_cell? _ _ h)).trans h
                    have a0 := hcell hcs.1
                    have a1 := hcell hcs.2.1
                    have a2 := hcell hcs.2.2.1
                    have a3 := hcell hcs.2.2.2.1
                    have a4 := hcell hcs.2.2.2.2
                    have HSU := Lib.hid hsu
                    clear hold hmap hmk hwf hsu e hcs hcell
                    go_wp2_with (at_builtin; refine wpl_append_tree rfl (.tmp 114) (.tmp 119) rfl (.slice A'' n' c'') ((leftN i m).map nt) (nt i) wr.heap.size 1 rfl rfl (HI.out.2.alloc (.cells #[.string (nt i).a, .string (nt i).b, .string (nt i).c, .slice none 0 0, .slice none 0 0] 25)).row ?_ (by rw [List.length_map]; have := leftN_len i m; have := HF.out.2; omega) ?_)
                    · exact heap_alloc_new _ _
                    rintro A7 c7 w7 hr7 hg7 ho7
                    have H7 : Hid ((leftN i m).length + 1 = (leftN (i + 1) m).length ∧ Stg wc w7 (.slice A7 ((leftN i m).length + 1) c7) ((leftN (i + 1) m).map nt)) := Lib.hid (by
                      rw [HSU.out, List.map_append]
                      refine ⟨by rw [List.length_append]; rfl, ?_⟩
                      exact (HI.out.2.alloc (.cells #[.string (nt i).a, .string (nt i).b, .string (nt i).c, .slice none 0 0, .slice none 0 0] 25)).app hr7 hg7 (by simpa using ho7))
                    clear hr7 hg7 ho7 HI HSU hlk a0 a1 a2 a3 a4
                    go_wp2_with fail
                    go_roundw
                    case rel => exact ⟨i + 1, _, c7, A7, rfl, by go_num, by omega, H7⟩
                    case measure => first | (simp; omega) | simp
                · have i1 : ¬ (i : Int) < (j : Int) := by omega
                  obtain rfl : i = j := by omega
                  clear hi d1 i0
                  have H20 : Hid (n' = (leftN i m).length ∧ Stg w wr (.slice (some ⟨g, o, none⟩) i c') (olds i) ∧ TRow wr (.slice A'' n' c'') ((leftN i m).map nt) ∧ ∃ (t : Nat) (f : Lit → Option Value), MapV 3 wr b t (cnt i m) f) := Lib.hid (by
                    obtain ⟨hold, t, f, hmap, hmk⟩ := H18.out
                    exact ⟨HI.out.1, hold.below HI.out.2.low, HI.out.2.row, t, f, hmap.below HI.out.2.low⟩)
                  clear H18 HI
                  have hF := From_any (.slice (some ⟨g, o, none⟩) i c') (.slice A'' n' c'') (olds i) ((leftN i m).map nt) wr H20.out.2.1.row HF.out.1 (olds_sz i) H20.out.2.2.1 (by rw [List.length_map]; have := leftN_len i m; have := HF.out.2; omega) (map_sz _)
                  rw [from_olds i (by have := HF.out.2; omega) _ (leftN_lt i m) (leftN_nodup i m), List.length_map, ← H20.out.1] at hF
                  go_wp2_with fail
                  refine hF.mono ?_
                  rintro e w21 ⟨A21, c21, rfl, hr21, hB21, hf21⟩
                  have H21 : Hid (n' = (leftN i m).length ∧ Stg w w21 (.slice (some ⟨g, o, none⟩) i c') (olds i) ∧ IRow w21 (.slice A21 n' c21) (leftL i m) ∧ ∃ (t : Nat) (f : Lit → Option Value), MapV 3 w21 b t (cnt i m) f) := Lib.hid (by
                    obtain ⟨h1, h2, h3, t, f, h4⟩ := H20.out
                    exact ⟨h1, h2.below hB21, hr21, t, f, h4.below hB21⟩)
                  have hnl : n' = (leftL i m).length := by rw [leftL_len]; exact H21.out.1
                  have HNL := Lib.hid hnl
                  clear hF H20 hr21 hB21 hf21 hnl
                  have hlo := left_ok i HF.out.2 m HM.out
                  rw [← H21.out.1] at hlo
                  have HLO := Lib.hid hlo
                  clear hlo
                  go_wp2_with fail
                  refine (Kept_row H21.out.2.2.1 HNL.out HLO.out.1).mono ?_
                  rintro e w22 ⟨rfl, hB22⟩
                  have H22 : Hid (Stg w w22 (.slice (some ⟨g, o, none⟩) i c') (olds i) ∧ IRow w22 (.slice A21 n' c21) (leftL i m) ∧ ∃ (t : Nat) (f : Lit → Option Value), MapV 3 w22 b t (cnt i m) f) := Lib.hid (by
                    obtain ⟨h1, h2, h3, t, f, h4⟩ := H21.out
                    exact ⟨h2.below hB22, h3.below hB22, t, f, h4.below hB22⟩)
                  clear H21 hB22
                  go_wp2_with fail
                  refine (Moves_row H22.out.2.1 HNL.out HLO.out.2).mono ?_
                  rintro e w23 ⟨rfl, hB23⟩
                  have H23 : Hid (Stg w w23 (.slice (some ⟨g, o, none⟩) i c') (olds i) ∧ IRow w23 (.slice A21 n' c21) (leftL i m) ∧ ∃ (t : Nat) (f : Lit → Option Value), MapV 3 w23 b t (cnt i m) f) := Lib.hid (by
                    obtain ⟨h2, h3, t, f, h4⟩ := H22.out
                    exact ⟨h2.below hB23, h3.below hB23, t, f, h4.below hB23⟩)
                  clear H22 hB23
                  have hG := Gone_any i (.slice A21 n' c21) (leftL i m) w23 H23.out.2.1 (by rw [leftL_len]; have := leftN_len i m; have := HF.out.2; omega) (fun x hx => by
                    obtain ⟨y, hy, rfl⟩ := List.mem_map.1 hx
                    have := leftN_lt i m y hy
                    have := HF.out.2
                    simp [Lit.wf, IntKind.min, IntKind.max, IntKind.signed, IntKind.bits]; omega) (by have := HF.out.2; omega)
                  rw [gone_cnt i HF.out.2 m HM.out] at hG
                  go_wp2_with fail
                  refine hG.mono ?_
                  rintro e w24 ⟨A24, c24, rfl, hr24, hB24, hf24⟩
                  obtain ⟨h2, h3, t, f, h4⟩ := H23.out
                  have hlen := (h4.below hB24).len Try.underlying33 3
                  have H24 : Hid (Stg w w24 (.slice (some ⟨g, o, none⟩) i c') (olds i)) := Lib.hid (h2.below hB24)
                  clear H23 hG hr24 hB24 hf24 h2 h3 h4
                  have hF := From_any (.slice none 0 0) (.slice (some ⟨g, o, none⟩) i c') [] (olds i) w24 (Sl.nil _ _ _) (by decide) (fun t h => by cases h) H24.out.row HF.out.1 (olds_sz i)
                  rw [fromL_nil, olds_len] at hF
                  go_wp2_with fail
                  refine hF.mono ?_
                  rintro e w25 ⟨A25, c25, rfl, hr25, hB25, hf25⟩
                  have H25 : Hid (Stg w w25 (.slice (some ⟨g, o, none⟩) i c') (olds i) ∧ IRow w25 (.slice A25 i c25) (List.replicate i (-1))) := Lib.hid ⟨H24.out.below hB25, hr25⟩
                  clear hF H24 hr25 hB25 hf25 hlen
                  go_wp2_with fail
                  refine (Kept_row H25.out.2 (by simp) (none_kept i HF.out.2)).mono ?_
                  rintro e w26 ⟨rfl, hB26⟩
                  have H26 : Hid (Stg w w26 (.slice (some ⟨g, o, none⟩) i c') (olds i)) := Lib.hid (H25.out.1.below hB26)
                  clear H25 hB26
                  have hF := From_any (.slice (some ⟨g, o, none⟩) i c') (.slice none 0 0) (olds i) [] w26 H26.out.row HF.out.1 (olds_sz i) (Sl.nil _ _ _) (by decide) (fun t h => by cases h)
                  go_wp2_with fail
                  refine hF.mono ?_
                  rintro e w27 ⟨A27, c27, rfl, hr27, hB27, hf27⟩
                  have H27 : Hid (Stg w w27 (.slice (some ⟨g, o, none⟩) i c') (olds i)) := Lib.hid (H26.out.below hB27)
                  clear hF H26 hr27 hB27 hf27
                  go_wp2_with fail
                  refine (MatchRuns_any w27).mono ?_
                  rintro e w28 ⟨rfl, hB28⟩
                  have H28 := Lib.hid (H27.out.below hB28).low
                  clear H27 hB28
                  go_wp2_with fail
                  go_ret
                  exact ⟨rfl, H28.out⟩
end Go.Proofs.Ytjpknhemnfokaaa.Mt
