/- MatchTells: the walk (printed by wip/law14/gen_Tells.py out of Tells.body). -/
import Derived.Test.YtjpknhemnfokaaaRefMatch
set_option linter.unusedVariables false
set_option linter.unusedSimpArgs false
namespace Go.Proofs.Ytjpknhemnfokaaa.Mt
open Go.RowKit Go.Maps Go.Proofs.YtjpknhemnfokaaaW.PrintWords Go.Proofs.YtjpknhemnfokaaaW.PrintLast Go.Proofs.Ytjpknhemnfokaaa.Sl Go.Proofs.Ytjpknhemnfokaaa.Mv Go.Proofs.Ytjpknhemnfokaaa.PMatchTells

theorem wpl_append_trees {ops : Array Oper} {rest : List Oper} {o : Oper} {a : Act} {Q : Exit → Act → World → Prop} {W : World} (hgd : o.guard = none) (s x : Operand)
    (ho : o.op = .call { callee := .builtin .append, args := #[s, x], argTypes := #[23, 23] })
    (v : Value) (l m : List Tr) (ad : Option Addr) (n c : Nat) (hn : n = m.length) (hs : a.eval s = v) (hx : a.eval x = .slice ad n c) (h : TRow W v l) (hm : TRow W (.slice ad n c) m) (hl : l.length + m.length ≤ 90000)
    (K : ∀ A c' w', TRow w' (.slice A (l ++ m).length c') (l ++ m) → W.grownBy w' v.ownBlock → ((Value.slice A (l ++ m).length c').ownBlock = v.ownBlock ∨ (Value.slice A (l ++ m).length c').ownBlock = some W.heap.size) → wpList Try.prog ops Q rest (a.put o.dst (.slice A (l ++ m).length c')) w') : wpList Try.prog ops Q (o :: rest) a W := by
  subst hn
  have key : ∃ A c' w', (Builtin.append_ #[23, 23] o.type #[v, .slice ad m.length c]).run Try.prog W = .ok (.slice A (l ++ m).length c') w' ∧ TRow w' (.slice A (l ++ m).length c') (l ++ m) ∧ W.grownBy w' v.ownBlock ∧ ((Value.slice A (l ++ m).length c').ownBlock = v.ownBlock ∨ (Value.slice A (l ++ m).length c').ownBlock = some W.heap.size) := by
    by_cases h0 : m.length = 0
    · have : m = [] := List.eq_nil_of_length_eq_zero h0
      subst this
      obtain ⟨i0, hi, hzz⟩ := Option.map_eq_some_iff.1 infoTree
      obtain ⟨A, c', rfl, _⟩ := h.form
      refine ⟨A, c', W, ?_, by simpa using h, World.grownBy.refl W _, .inl (by simp)⟩
      have := run_append_none W 23 o.type 25 i0 5 Try.underlying23 hi _ _ _ h ad c
      simpa using this
    · obtain ⟨g, o', c0, e, _⟩ := hm.form1 (by omega)
      obtain ⟨rfl, rfl⟩ : ad = some ⟨g, o', none⟩ ∧ c = c0 := by
        injection e with e1 _ e3
        exact ⟨e1, e3⟩
      exact run_append_trees W v l m ⟨g, o', none⟩ c o.type h (trow_cells hm rfl) (by omega)
  obtain ⟨A, c', w', hrun, h2, h3, h4⟩ := key
  refine wpList_plain hgd fun _ hK => ?_
  unfold Oper.wp execOp
  simp only [ho, resolve, invoke, builtin, Sem.run_bind, Sem.run_pure, Result.andThen_ok, List.map_toArray, List.map_cons, List.map_nil, hs, hx, hrun]
  exact hK _ _ (K A c' w' h2 h3 h4)
structure Got (w W : World) (vo vn vf : Value) (lo ln : List Tr) : Prop where
  low : Below w.heap.size w W
  old : TRow W vo lo
  now : TRow W vn ln
  frm : IRow W vf (refP lo ln ln.length)
theorem Got.below {w W W' : World} {vo vn vf : Value} {lo ln : List Tr} (h : Got w W vo vn vf lo ln) (hB : Below W.heap.size W W') : Got w W' vo vn vf lo ln := ⟨h.low.trans (hB.mono h.low.size), h.old.below hB, h.now.below hB, h.frm.below hB⟩
def oc (o : Option Nat) : Nat := match o with | none => 0 | some _ => 1
theorem kc_succ2 (lo ln : List Tr) (j : Nat) : kc lo ln (j + 1) = kc lo ln j + oc (fst_ lo (us lo ln j) (g_ ln j)) := by
  rw [kc_succ]
  cases fst_ lo (us lo ln j) (g_ ln j) <;> rfl
/-- All that the last loop holds. -/
structure Pk (w W : World) (vo vn vf vl vg : Value) (lo ln ll : List Tr) (gl : List Int) (b kn : Nat) : Prop where
  got : Got w W vo vn vf lo ln
  mp : ∃ t f, t ≤ 9 ∧ MapV 3 W b t kn f
  left : TRow W vl ll
  gon : IRow W vg gl
theorem Pk.below {w W W' : World} {vo vn vf vl vg : Value} {lo ln ll : List Tr} {gl : List Int} {b kn : Nat} (h : Pk w W vo vn vf vl vg lo ln ll gl b kn) (hB : Below W.heap.size W W') : Pk w W' vo vn vf vl vg lo ln ll gl b kn := by
  obtain ⟨t, f, h1, h2⟩ := h.mp
  exact ⟨h.got.below hB, ⟨t, f, h1, h2.below hB⟩, h.left.below hB, h.gon.below hB⟩
set_option maxHeartbeats 8000000 in
set_option maxRecDepth 1000000 in
theorem MatchTells_any (A : Option Addr) (cA : Nat) (as_ : List Int) (B : Option Addr) (cB : Nat) (bs_ : List Int) (w : World) (hrA : Kd.C (Kd.int .i64) w A as_.length as_) (hcA : as_.length ≤ cA) (hrB : Kd.C (Kd.int .i64) w B bs_.length bs_) (hcB : bs_.length ≤ cB) : Calls Try.prog 4 #[.slice A as_.length cA, .slice B bs_.length cB] w fun en w' => en = .returned (.bool true) ∧ Below w.heap.size w w' := by
  have HP := Lib.hid (And.intro hrA hrB)
  clear hrA hrB hcA hcB
  go_enter Try.func4, Try.ntmps4
  go_wp2_with fail
  refine (kids_any A cA as_ w HP.out.1).mono ?_
  rintro e w1 ⟨Ao, co, lo, rfl, hr1, hl1, hs1, hB1⟩
  have H1 := Lib.hid (And.intro hr1 (And.intro hl1 (And.intro hs1 hB1)))
  clear hr1 hl1 hs1 hB1
  go_wp2_with fail
  refine (kids_any B cB bs_ w1 (Kd.C_below HP.out.2 H1.out.2.2.2)).mono ?_
  rintro e w2 ⟨An, cn, ln, rfl, hr2, hl2, hs2, hB2⟩
  have H2 := Lib.hid (And.intro (H1.out.1.below hB2) (And.intro hr2 (H1.out.2.2.2.trans (hB2.mono H1.out.2.2.2.size))))
  have HL := Lib.hid (And.intro (And.intro H1.out.2.1 H1.out.2.2.1) (And.intro hl2 hs2))
  clear H1 hr2 hl2 hs2 hB2
  have hF := From_any (.slice Ao lo.length co) (.slice An ln.length cn) lo ln w2 H2.out.1 (by have := HL.out.1.1; omega) (small_sz HL.out.1.2) H2.out.2.1 (by have := HL.out.2.1; omega) (small_sz HL.out.2.2)
  rw [from_ref lo ln HL.out.1.2 HL.out.2.2] at hF
  go_wp2_with fail
  refine hF.mono ?_
  rintro e w3 ⟨A7, c7, rfl, hr3, hB3, hf3⟩
  have H3 : Hid (Got w w3 (.slice Ao lo.length co) (.slice An ln.length cn) (.slice A7 ln.length c7) lo ln) := Lib.hid ⟨H2.out.2.2.trans (hB3.mono H2.out.2.2.size), H2.out.1.below hB3, H2.out.2.1.below hB3, hr3⟩
  clear hF H2 hr3 hB3 hf3
  go_wp2_with fail
  refine (Match_any (.slice Ao lo.length co) (.slice An ln.length cn) lo ln w3 H3.out.old (by have := HL.out.1.1; omega) H3.out.now (by have := HL.out.2.1; omega)).mono ?_
  rintro e w4 ⟨A4, c4, rfl, hr4, hB4⟩
  have H4 := Lib.hid (And.intro (H3.out.below hB4) hr4)
  clear H3 hr4 hB4
  go_wp2_with fail
  refine (Same_rows H4.out.1.frm (refP_len _ _ _).symm H4.out.2 (refP_len _ _ _).symm (same_self _ (by rw [refP_len]; have := HL.out.2.1; omega))).mono ?_
  rintro e w5 ⟨rfl, hB5⟩
  have H5 := Lib.hid (H4.out.1.below hB5)
  clear H4 hB5
  have n9 : (ln.length : Int) ≤ 9 := by have := HL.out.2.1; omega
  have o9 : (lo.length : Int) ≤ 9 := by have := HL.out.1.1; omega
  have hmm := @Go.RowKit.run_makeMap Try.prog
  go_upto_block 0 with fail
  clear hmm
  obtain ⟨b, hb⟩ : ∃ b, w5.heap.size = b := ⟨_, rfl⟩
  have H6 : Hid (Below w5.heap.size w5 (w5.alloc (.map #[] 0)) ∧ w5.heap.size ≤ b ∧ ∃ t f, t ≤ 0 ∧ MapV 3 (w5.alloc (.map #[] 0)) b t (kc lo ln 0) f ∧ MaskU f (us lo ln 0)) := Lib.hid ⟨(Below.refl _ _).alloc (Nat.le_refl _) _, by omega, 0, _, Nat.le_refl _, by rw [← hb]; exact MapV.made w5 _, MaskU.zero⟩
  rw [hb]
  clear hb
  generalize w5.alloc (.map #[] 0) = w6 at H6 ⊢
  go_cut [9] (fun t9 wc => Hid (Below w5.heap.size w5 wc ∧ w5.heap.size ≤ b ∧ ∃ t f, t ≤ 9 ∧ MapV 3 wc b t (kc lo ln ln.length) f ∧ MaskU f (us lo ln ln.length)))
  case first =>
    go_wp2_with fail
    go_loopw [9, 10, 35] (fun t9 t10 t35 wr => ∃ i : Nat, t35 = .int .i64 (i : Int) ∧ i ≤ ln.length ∧ Hid (Below w5.heap.size w5 wr ∧ w5.heap.size ≤ b ∧ ∃ t f, t ≤ i ∧ MapV 3 wr b t (kc lo ln i) f ∧ MaskU f (us lo ln i))) (fun _ _ t _ => match t with | .int _ q => (ln.length - q).toNat | _ => 0)
    case atStart => exact ⟨0, rfl, by omega, H6⟩
    case round =>
      obtain ⟨i, rfl, hi, HI⟩ := hrel
      clear H6
      have i0 : (0 : Int) ≤ (i : Int) := by omega
      by_cases d1 : i < ln.length
      · have i1 : (i : Int) < (ln.length : Int) := by omega
        obtain ⟨gf, of, c7', e0, _⟩ := H5.out.frm.form1 (by rw [refP_len]; omega)
        obtain ⟨rfl, rfl⟩ : A7 = some ⟨gf, of, none⟩ ∧ c7 = c7' := by
          injection e0 with e1 _ e3
          exact ⟨e1, e3⟩
        clear e0
        have hfr : IRow w5 (.slice (some ⟨gf, of, none⟩) (refP lo ln ln.length).length c7) (refP lo ln ln.length) := by rw [refP_len]; exact H5.out.frm
        have y0 := Sl.cell hfr i (.int .i64 (el lo ln i)) (by simp [refP, d1])
        have y1 := (HI.out.1.cell (World.block_lt_of_cell? _ _ y0)).trans y0
        clear y0 hfr
        rcases el_cases lo ln i with ⟨hf, he, hu⟩ | ⟨x, hf, he, hu, hx, hux, hea, heb⟩
        · rw [he] at y1
          have HI2 : Hid (Below w5.heap.size w5 wr.drew ∧ w5.heap.size ≤ b ∧ ∃ t f, t ≤ i + 1 ∧ MapV 3 wr.drew b t (kc lo ln (i + 1)) f ∧ MaskU f (us lo ln (i + 1))) := Lib.hid (by
            obtain ⟨h1, h2, t, f, h3, h4, h5⟩ := HI.out
            refine ⟨pw_below_drewN h1 1, h2, t, f, by omega, ?_, by rw [hu]; exact h5⟩
            have hk := kc_succ lo ln i
            rw [hf] at hk
            rw [hk]
            exact h4.below (pw_below_drewN (Below.refl _ _) 1))
          have z1 : ¬ (lo.length : Int) ≤ -1 := by omega
          have z1b : decide ((lo.length : Int) ≤ -1) = false := by simp; omega
          clear HI hf he hu
          go_upto_region 9 with fail
          refine start_ (n := 39) (S := fun w' => True) (ds := []) #[false, false, false, false, false, false, false, false, false, false, false, false, false, false, false, false, false, false, false, false, false, false, false, false, false, false, false, false, false, false, false, false, false, false, false, false, false, false, false] (by kernel_rfl) rfl rfl trivial (fun hHeld => ?_)
          refine pure_ (i := 0) (N := some 40) (v := ?_) (a' := ?_) #[true, false, false, false, false, false, false, false, false, false, false, false, false, false, false, false, false, false, false, false, false, false, false, false, false, false, false, false, false, false, false, false, false, false, false, false, false, false, false] rfl rfl (by kernel_rfl) (fun _ _ _ h => h) (Or.inl ⟨by rfl, ?_⟩) ?_ ?_
          rotate_left
          · intro w'
            go_simp
            with_reducible rfl
          rotate_left
          · simp only [Act.put, List.setIfInBounds_toArray, List.set_cons_zero, List.set_cons_succ, i64_w, i32_w]
            rfl
          refine pure_ (i := 1) (N := some 41) (v := ?_) (a' := ?_) #[true, true, false, false, false, false, false, false, false, false, false, false, false, false, false, false, false, false, false, false, false, false, false, false, false, false, false, false, false, false, false, false, false, false, false, false, false, false, false] rfl rfl (by kernel_rfl) (fun _ _ _ h => h) (Or.inl ⟨by rfl, ?_⟩) ?_ ?_
          rotate_left
          · intro w'
            go_simp
            with_reducible rfl
          rotate_left
          · simp only [Act.put, List.setIfInBounds_toArray, List.set_cons_zero, List.set_cons_succ, i64_w, i32_w]
            rfl
          refine pure_ (i := 2) (N := some 42) (v := ?_) (a' := ?_) #[true, true, true, false, false, false, false, false, false, false, false, false, false, false, false, false, false, false, false, false, false, false, false, false, false, false, false, false, false, false, false, false, false, false, false, false, false, false, false] rfl rfl (by kernel_rfl) (fun _ _ _ h => h) (Or.inl ⟨by rfl, ?_⟩) ?_ ?_
          rotate_left
          · intro w'
            go_simp
            with_reducible rfl
          rotate_left
          · simp only [Act.put, List.setIfInBounds_toArray, List.set_cons_zero, List.set_cons_succ, i64_w, i32_w]
            rfl
          refine pure_ (i := 3) (N := some 43) (v := ?_) (a' := ?_) #[true, true, true, true, false, false, false, false, false, false, false, false, false, false, false, false, false, false, false, false, false, false, false, false, false, false, false, false, false, false, false, false, false, false, false, false, false, false, false] rfl rfl (by kernel_rfl) (fun _ _ _ h => h) (Or.inl ⟨by rfl, ?_⟩) ?_ ?_
          rotate_left
          · intro w'
            go_simp
            with_reducible rfl
          rotate_left
          · simp only [Act.put, List.setIfInBounds_toArray, List.set_cons_zero, List.set_cons_succ, i64_w, i32_w]
            rfl
          refine pure_ (i := 4) (N := some 44) (v := ?_) (a' := ?_) #[true, true, true, true, true, false, false, false, false, false, false, false, false, false, false, false, false, false, false, false, false, false, false, false, false, false, false, false, false, false, false, false, false, false, false, false, false, false, false] rfl rfl (by kernel_rfl) (fun _ _ _ h => h) (Or.inl ⟨by rfl, ?_⟩) ?_ ?_
          rotate_left
          · intro w'
            go_simp
            with_reducible rfl
          rotate_left
          · simp only [Act.put, List.setIfInBounds_toArray, List.set_cons_zero, List.set_cons_succ, i64_w, i32_w]
            rfl
          refine pure_ (i := 5) (N := some 45) (v := ?_) (a' := ?_) #[true, true, true, true, true, true, false, false, false, false, false, false, false, false, false, false, false, false, false, false, false, false, false, false, false, false, false, false, false, false, false, false, false, false, false, false, false, false, false] rfl rfl (by kernel_rfl) (fun _ _ _ h => h) (Or.inl ⟨by rfl, ?_⟩) ?_ ?_
          rotate_left
          · intro w'
            go_simp
            with_reducible rfl
          rotate_left
          · simp only [Act.put, List.setIfInBounds_toArray, List.set_cons_zero, List.set_cons_succ, i64_w, i32_w]
            rfl
          refine pure_ (i := 6) (N := some 46) (v := ?_) (a' := ?_) #[true, true, true, true, true, true, true, false, false, false, false, false, false, false, false, false, false, false, false, false, false, false, false, false, false, false, false, false, false, false, false, false, false, false, false, false, false, false, false] rfl rfl (by kernel_rfl) (fun _ _ _ h => h) (Or.inl ⟨by rfl, ?_⟩) ?_ ?_
          rotate_left
          · intro w'
            go_simp
            with_reducible rfl
          rotate_left
          · simp only [Act.put, List.setIfInBounds_toArray, List.set_cons_zero, List.set_cons_succ, i64_w, i32_w]
            rfl
          refine pure_ (i := 7) (N := some 47) (v := ?_) (a' := ?_) #[true, true, true, true, true, true, true, true, false, false, false, false, false, false, false, false, false, false, false, false, false, false, false, false, false, false, false, false, false, false, false, false, false, false, false, false, false, false, false] rfl rfl (by kernel_rfl) (fun _ _ _ h => h) (Or.inl ⟨by rfl, ?_⟩) ?_ ?_
          rotate_left
          · intro w'
            go_simp
            with_reducible rfl
          rotate_left
          · simp only [Act.put, List.setIfInBounds_toArray, List.set_cons_zero, List.set_cons_succ, i64_w, i32_w]
            rfl
          refine pure_ (i := 8) (N := some 48) (v := undef) (a' := ?_) #[true, true, true, true, true, true, true, true, true, false, false, false, false, false, false, false, false, false, false, false, false, false, false, false, false, false, false, false, false, false, false, false, false, false, false, false, false, false, false] rfl rfl (by kernel_rfl) (fun _ _ _ h => h) (Or.inr ⟨by rfl, rfl⟩) ?_ ?_
          rotate_left
          · simp only [Act.put, List.setIfInBounds_toArray, List.set_cons_zero, List.set_cons_succ, i64_w, i32_w]
            rfl
          refine pure_ (i := 9) (N := some 49) (v := undef) (a' := ?_) #[true, true, true, true, true, true, true, true, true, true, false, false, false, false, false, false, false, false, false, false, false, false, false, false, false, false, false, false, false, false, false, false, false, false, false, false, false, false, false] rfl rfl (by kernel_rfl) (fun _ _ _ h => h) (Or.inr ⟨by rfl, rfl⟩) ?_ ?_
          rotate_left
          · simp only [Act.put, List.setIfInBounds_toArray, List.set_cons_zero, List.set_cons_succ, i64_w, i32_w]
            rfl
          refine pure_ (i := 10) (N := some 50) (v := undef) (a' := ?_) #[true, true, true, true, true, true, true, true, true, true, true, false, false, false, false, false, false, false, false, false, false, false, false, false, false, false, false, false, false, false, false, false, false, false, false, false, false, false, false] rfl rfl (by kernel_rfl) (fun _ _ _ h => h) (Or.inr ⟨by rfl, rfl⟩) ?_ ?_
          rotate_left
          · simp only [Act.put, List.setIfInBounds_toArray, List.set_cons_zero, List.set_cons_succ, i64_w, i32_w]
            rfl
          refine pure_ (i := 11) (N := some 51) (v := undef) (a' := ?_) #[true, true, true, true, true, true, true, true, true, true, true, true, false, false, false, false, false, false, false, false, false, false, false, false, false, false, false, false, false, false, false, false, false, false, false, false, false, false, false] rfl rfl (by kernel_rfl) (fun _ _ _ h => h) (Or.inr ⟨by rfl, rfl⟩) ?_ ?_
          rotate_left
          · simp only [Act.put, List.setIfInBounds_toArray, List.set_cons_zero, List.set_cons_succ, i64_w, i32_w]
            rfl
          refine pure_ (i := 12) (N := some 52) (v := undef) (a' := ?_) #[true, true, true, true, true, true, true, true, true, true, true, true, true, false, false, false, false, false, false, false, false, false, false, false, false, false, false, false, false, false, false, false, false, false, false, false, false, false, false] rfl rfl (by kernel_rfl) (fun _ _ _ h => h) (Or.inr ⟨by rfl, rfl⟩) ?_ ?_
          rotate_left
          · simp only [Act.put, List.setIfInBounds_toArray, List.set_cons_zero, List.set_cons_succ, i64_w, i32_w]
            rfl
          refine pure_ (i := 13) (N := some 53) (v := undef) (a' := ?_) #[true, true, true, true, true, true, true, true, true, true, true, true, true, true, false, false, false, false, false, false, false, false, false, false, false, false, false, false, false, false, false, false, false, false, false, false, false, false, false] rfl rfl (by kernel_rfl) (fun _ _ _ h => h) (Or.inr ⟨by rfl, rfl⟩) ?_ ?_
          rotate_left
          · simp only [Act.put, List.setIfInBounds_toArray, List.set_cons_zero, List.set_cons_succ, i64_w, i32_w]
            rfl
          refine pure_ (i := 14) (N := some 54) (v := undef) (a' := ?_) #[true, true, true, true, true, true, true, true, true, true, true, true, true, true, true, false, false, false, false, false, false, false, false, false, false, false, false, false, false, false, false, false, false, false, false, false, false, false, false] rfl rfl (by kernel_rfl) (fun _ _ _ h => h) (Or.inr ⟨by rfl, rfl⟩) ?_ ?_
          rotate_left
          · simp only [Act.put, List.setIfInBounds_toArray, List.set_cons_zero, List.set_cons_succ, i64_w, i32_w]
            rfl
          refine pure_ (i := 15) (N := some 55) (v := undef) (a' := ?_) #[true, true, true, true, true, true, true, true, true, true, true, true, true, true, true, true, false, false, false, false, false, false, false, false, false, false, false, false, false, false, false, false, false, false, false, false, false, false, false] rfl rfl (by kernel_rfl) (fun _ _ _ h => h) (Or.inr ⟨by rfl, rfl⟩) ?_ ?_
          rotate_left
          · simp only [Act.put, List.setIfInBounds_toArray, List.set_cons_zero, List.set_cons_succ, i64_w, i32_w]
            rfl
          refine pure_ (i := 16) (N := some 56) (v := undef) (a' := ?_) #[true, true, true, true, true, true, true, true, true, true, true, true, true, true, true, true, true, false, false, false, false, false, false, false, false, false, false, false, false, false, false, false, false, false, false, false, false, false, false] rfl rfl (by kernel_rfl) (fun _ _ _ h => h) (Or.inr ⟨by rfl, rfl⟩) ?_ ?_
          rotate_left
          · simp only [Act.put, List.setIfInBounds_toArray, List.set_cons_zero, List.set_cons_succ, i64_w, i32_w]
            rfl
          refine pure_ (i := 17) (N := some 57) (v := undef) (a' := ?_) #[true, true, true, true, true, true, true, true, true, true, true, true, true, true, true, true, true, true, false, false, false, false, false, false, false, false, false, false, false, false, false, false, false, false, false, false, false, false, false] rfl rfl (by kernel_rfl) (fun _ _ _ h => h) (Or.inr ⟨by rfl, rfl⟩) ?_ ?_
          rotate_left
          · simp only [Act.put, List.setIfInBounds_toArray, List.set_cons_zero, List.set_cons_succ, i64_w, i32_w]
            rfl
          refine pure_ (i := 18) (N := some 58) (v := undef) (a' := ?_) #[true, true, true, true, true, true, true, true, true, true, true, true, true, true, true, true, true, true, true, false, false, false, false, false, false, false, false, false, false, false, false, false, false, false, false, false, false, false, false] rfl rfl (by kernel_rfl) (fun _ _ _ h => h) (Or.inr ⟨by rfl, rfl⟩) ?_ ?_
          rotate_left
          · simp only [Act.put, List.setIfInBounds_toArray, List.set_cons_zero, List.set_cons_succ, i64_w, i32_w]
            rfl
          refine pure_ (i := 19) (N := some 59) (v := undef) (a' := ?_) #[true, true, true, true, true, true, true, true, true, true, true, true, true, true, true, true, true, true, true, true, false, false, false, false, false, false, false, false, false, false, false, false, false, false, false, false, false, false, false] rfl rfl (by kernel_rfl) (fun _ _ _ h => h) (Or.inr ⟨by rfl, rfl⟩) ?_ ?_
          rotate_left
          · simp only [Act.put, List.setIfInBounds_toArray, List.set_cons_zero, List.set_cons_succ, i64_w, i32_w]
            rfl
          refine pure_ (i := 20) (N := some 60) (v := undef) (a' := ?_) #[true, true, true, true, true, true, true, true, true, true, true, true, true, true, true, true, true, true, true, true, true, false, false, false, false, false, false, false, false, false, false, false, false, false, false, false, false, false, false] rfl rfl (by kernel_rfl) (fun _ _ _ h => h) (Or.inr ⟨by rfl, rfl⟩) ?_ ?_
          rotate_left
          · simp only [Act.put, List.setIfInBounds_toArray, List.set_cons_zero, List.set_cons_succ, i64_w, i32_w]
            rfl
          refine pure_ (i := 21) (N := some 61) (v := undef) (a' := ?_) #[true, true, true, true, true, true, true, true, true, true, true, true, true, true, true, true, true, true, true, true, true, true, false, false, false, false, false, false, false, false, false, false, false, false, false, false, false, false, false] rfl rfl (by kernel_rfl) (fun _ _ _ h => h) (Or.inr ⟨by rfl, rfl⟩) ?_ ?_
          rotate_left
          · simp only [Act.put, List.setIfInBounds_toArray, List.set_cons_zero, List.set_cons_succ, i64_w, i32_w]
            rfl
          refine pure_ (i := 22) (N := some 62) (v := undef) (a' := ?_) #[true, true, true, true, true, true, true, true, true, true, true, true, true, true, true, true, true, true, true, true, true, true, true, false, false, false, false, false, false, false, false, false, false, false, false, false, false, false, false] rfl rfl (by kernel_rfl) (fun _ _ _ h => h) (Or.inr ⟨by rfl, rfl⟩) ?_ ?_
          rotate_left
          · simp only [Act.put, List.setIfInBounds_toArray, List.set_cons_zero, List.set_cons_succ, i64_w, i32_w]
            rfl
          refine pure_ (i := 23) (N := some 63) (v := undef) (a' := ?_) #[true, true, true, true, true, true, true, true, true, true, true, true, true, true, true, true, true, true, true, true, true, true, true, true, false, false, false, false, false, false, false, false, false, false, false, false, false, false, false] rfl rfl (by kernel_rfl) (fun _ _ _ h => h) (Or.inr ⟨by rfl, rfl⟩) ?_ ?_
          rotate_left
          · simp only [Act.put, List.setIfInBounds_toArray, List.set_cons_zero, List.set_cons_succ, i64_w, i32_w]
            rfl
          refine pure_ (i := 24) (N := some 64) (v := undef) (a' := ?_) #[true, true, true, true, true, true, true, true, true, true, true, true, true, true, true, true, true, true, true, true, true, true, true, true, true, false, false, false, false, false, false, false, false, false, false, false, false, false, false] rfl rfl (by kernel_rfl) (fun _ _ _ h => h) (Or.inr ⟨by rfl, rfl⟩) ?_ ?_
          rotate_left
          · simp only [Act.put, List.setIfInBounds_toArray, List.set_cons_zero, List.set_cons_succ, i64_w, i32_w]
            rfl
          refine pure_ (i := 25) (N := some 65) (v := undef) (a' := ?_) #[true, true, true, true, true, true, true, true, true, true, true, true, true, true, true, true, true, true, true, true, true, true, true, true, true, true, false, false, false, false, false, false, false, false, false, false, false, false, false] rfl rfl (by kernel_rfl) (fun _ _ _ h => h) (Or.inr ⟨by rfl, rfl⟩) ?_ ?_
          rotate_left
          · simp only [Act.put, List.setIfInBounds_toArray, List.set_cons_zero, List.set_cons_succ, i64_w, i32_w]
            rfl
          refine pure_ (i := 26) (N := some 66) (v := undef) (a' := ?_) #[true, true, true, true, true, true, true, true, true, true, true, true, true, true, true, true, true, true, true, true, true, true, true, true, true, true, true, false, false, false, false, false, false, false, false, false, false, false, false] rfl rfl (by kernel_rfl) (fun _ _ _ h => h) (Or.inr ⟨by rfl, rfl⟩) ?_ ?_
          rotate_left
          · simp only [Act.put, List.setIfInBounds_toArray, List.set_cons_zero, List.set_cons_succ, i64_w, i32_w]
            rfl
          refine pure_ (i := 27) (N := some 67) (v := undef) (a' := ?_) #[true, true, true, true, true, true, true, true, true, true, true, true, true, true, true, true, true, true, true, true, true, true, true, true, true, true, true, true, false, false, false, false, false, false, false, false, false, false, false] rfl rfl (by kernel_rfl) (fun _ _ _ h => h) (Or.inr ⟨by rfl, rfl⟩) ?_ ?_
          rotate_left
          · simp only [Act.put, List.setIfInBounds_toArray, List.set_cons_zero, List.set_cons_succ, i64_w, i32_w]
            rfl
          refine pure_ (i := 28) (N := some 68) (v := undef) (a' := ?_) #[true, true, true, true, true, true, true, true, true, true, true, true, true, true, true, true, true, true, true, true, true, true, true, true, true, true, true, true, true, false, false, false, false, false, false, false, false, false, false] rfl rfl (by kernel_rfl) (fun _ _ _ h => h) (Or.inr ⟨by rfl, rfl⟩) ?_ ?_
          rotate_left
          · simp only [Act.put, List.setIfInBounds_toArray, List.set_cons_zero, List.set_cons_succ, i64_w, i32_w]
            rfl
          refine pure_ (i := 29) (N := some 69) (v := undef) (a' := ?_) #[true, true, true, true, true, true, true, true, true, true, true, true, true, true, true, true, true, true, true, true, true, true, true, true, true, true, true, true, true, true, false, false, false, false, false, false, false, false, false] rfl rfl (by kernel_rfl) (fun _ _ _ h => h) (Or.inr ⟨by rfl, rfl⟩) ?_ ?_
          rotate_left
          · simp only [Act.put, List.setIfInBounds_toArray, List.set_cons_zero, List.set_cons_succ, i64_w, i32_w]
            rfl
          refine pure_ (i := 30) (N := some 70) (v := undef) (a' := ?_) #[true, true, true, true, true, true, true, true, true, true, true, true, true, true, true, true, true, true, true, true, true, true, true, true, true, true, true, true, true, true, true, false, false, false, false, false, false, false, false] rfl rfl (by kernel_rfl) (fun _ _ _ h => h) (Or.inr ⟨by rfl, rfl⟩) ?_ ?_
          rotate_left
          · simp only [Act.put, List.setIfInBounds_toArray, List.set_cons_zero, List.set_cons_succ, i64_w, i32_w]
            rfl
          refine pure_ (i := 31) (N := some 71) (v := undef) (a' := ?_) #[true, true, true, true, true, true, true, true, true, true, true, true, true, true, true, true, true, true, true, true, true, true, true, true, true, true, true, true, true, true, true, true, false, false, false, false, false, false, false] rfl rfl (by kernel_rfl) (fun _ _ _ h => h) (Or.inr ⟨by rfl, rfl⟩) ?_ ?_
          rotate_left
          · simp only [Act.put, List.setIfInBounds_toArray, List.set_cons_zero, List.set_cons_succ, i64_w, i32_w]
            rfl
          refine pure_ (i := 32) (N := some 72) (v := undef) (a' := ?_) #[true, true, true, true, true, true, true, true, true, true, true, true, true, true, true, true, true, true, true, true, true, true, true, true, true, true, true, true, true, true, true, true, true, false, false, false, false, false, false] rfl rfl (by kernel_rfl) (fun _ _ _ h => h) (Or.inr ⟨by rfl, rfl⟩) ?_ ?_
          rotate_left
          · simp only [Act.put, List.setIfInBounds_toArray, List.set_cons_zero, List.set_cons_succ, i64_w, i32_w]
            rfl
          refine pure_ (i := 33) (N := some 73) (v := undef) (a' := ?_) #[true, true, true, true, true, true, true, true, true, true, true, true, true, true, true, true, true, true, true, true, true, true, true, true, true, true, true, true, true, true, true, true, true, true, false, false, false, false, false] rfl rfl (by kernel_rfl) (fun _ _ _ h => h) (Or.inr ⟨by rfl, rfl⟩) ?_ ?_
          rotate_left
          · simp only [Act.put, List.setIfInBounds_toArray, List.set_cons_zero, List.set_cons_succ, i64_w, i32_w]
            rfl
          refine pure_ (i := 34) (N := some 74) (v := undef) (a' := ?_) #[true, true, true, true, true, true, true, true, true, true, true, true, true, true, true, true, true, true, true, true, true, true, true, true, true, true, true, true, true, true, true, true, true, true, true, false, false, false, false] rfl rfl (by kernel_rfl) (fun _ _ _ h => h) (Or.inr ⟨by rfl, rfl⟩) ?_ ?_
          rotate_left
          · simp only [Act.put, List.setIfInBounds_toArray, List.set_cons_zero, List.set_cons_succ, i64_w, i32_w]
            rfl
          refine pure_ (i := 35) (N := some 75) (v := undef) (a' := ?_) #[true, true, true, true, true, true, true, true, true, true, true, true, true, true, true, true, true, true, true, true, true, true, true, true, true, true, true, true, true, true, true, true, true, true, true, true, false, false, false] rfl rfl (by kernel_rfl) (fun _ _ _ h => h) (Or.inr ⟨by rfl, rfl⟩) ?_ ?_
          rotate_left
          · simp only [Act.put, List.setIfInBounds_toArray, List.set_cons_zero, List.set_cons_succ, i64_w, i32_w]
            rfl
          refine pure_ (i := 36) (N := some 76) (v := undef) (a' := ?_) #[true, true, true, true, true, true, true, true, true, true, true, true, true, true, true, true, true, true, true, true, true, true, true, true, true, true, true, true, true, true, true, true, true, true, true, true, true, false, false] rfl rfl (by kernel_rfl) (fun _ _ _ h => h) (Or.inr ⟨by rfl, rfl⟩) ?_ ?_
          rotate_left
          · simp only [Act.put, List.setIfInBounds_toArray, List.set_cons_zero, List.set_cons_succ, i64_w, i32_w]
            rfl
          refine pure_ (i := 37) (N := some 77) (v := ?_) (a' := ?_) #[true, true, true, true, true, true, true, true, true, true, true, true, true, true, true, true, true, true, true, true, true, true, true, true, true, true, true, true, true, true, true, true, true, true, true, true, true, true, false] rfl rfl (by kernel_rfl) (fun _ _ _ h => h) (Or.inl ⟨by rfl, ?_⟩) ?_ ?_
          rotate_left
          · intro w'
            go_simp
            with_reducible rfl
          rotate_left
          · simp only [Act.put, List.setIfInBounds_toArray, List.set_cons_zero, List.set_cons_succ, i64_w, i32_w]
            rfl
          refine pure_ (i := 38) (N := some 78) (v := ?_) (a' := ?_) #[true, true, true, true, true, true, true, true, true, true, true, true, true, true, true, true, true, true, true, true, true, true, true, true, true, true, true, true, true, true, true, true, true, true, true, true, true, true, true] rfl rfl (by kernel_rfl) (fun _ _ _ h => h) (Or.inl ⟨by rfl, ?_⟩) ?_ ?_
          rotate_left
          · intro w'
            go_simp
            with_reducible rfl
          rotate_left
          · simp only [Act.put, List.setIfInBounds_toArray, List.set_cons_zero, List.set_cons_succ, i64_w, i32_w]
            rfl
          refine done_ (by kernel_rfl) ?_
          go_wp2_with fail
          go_roundw
          case rel => exact ⟨i + 1, by go_num, by omega, HI2⟩
          case measure => first | (simp; omega) | simp
        · rw [he] at y1
          obtain ⟨go, oo, co', e0, _⟩ := H5.out.old.form1 (by omega)
          obtain ⟨rfl, rfl⟩ : Ao = some ⟨go, oo, none⟩ ∧ co = co' := by
            injection e0 with e1 _ e3
            exact ⟨e1, e3⟩
          clear e0
          obtain ⟨gn, on, cn', e0, _⟩ := H5.out.now.form1 (by omega)
          obtain ⟨rfl, rfl⟩ : An = some ⟨gn, on, none⟩ ∧ cn = cn' := by
            injection e0 with e1 _ e3
            exact ⟨e1, e3⟩
          clear e0
          have hco := TRow.cells H5.out.old rfl x hx
          have hcn := TRow.cells H5.out.now rfl i d1
          rw [← g_get lo x hx, hea, heb] at hco
          rw [← g_get ln i d1] at hcn
          obtain ⟨ta, hta⟩ : ∃ ta, (g_ ln i).a = ta := ⟨_, rfl⟩
          obtain ⟨tb, htb⟩ : ∃ tb, (g_ ln i).b = tb := ⟨_, rfl⟩
          rw [hta, htb] at hco hcn
          have hcell : ∀ {ad' : Addr} {u : Value}, w5.cell? ad' = some u → wr.drew.cell? ad' = some u := fun h => (HI.out.1.cell (World.block_lt_of_cell? _ _ h)).trans h
          have S0 := hcell hco.1
          have S1 := hcell hco.2.1
          have S2 := hcell hcn.1
          have S3 := hcell hcn.2.1
          have hwf : (Lit.int .i64 (x : Int)).wf = true := by simp [Lit.wf, IntKind.min, IntKind.max, IntKind.signed, IntKind.bits]; omega
          have S4 : (Instr.lookup 33 (.map (some b)) (.int .i64 (x : Int)) false).run Try.prog wr.drew = .ok (.bool false) wr.drew := by
            obtain ⟨h1, h2, t, f, h3, h4, h5⟩ := HI.out
            have hlk := (h4.below (pw_below_drewN (Below.refl _ _) 1 : Below wr.heap.size wr wr.drew)).get intKeyed Try.underlying33 (zeroBool _) (ki_key hwf)
            rw [h5 x, hux] at hlk
            exact hlk
          have HI2 : Hid (∃ w8, (Instr.mapUpdate 33 (.map (some b)) (.int .i64 (x : Int)) (.bool true)).run Try.prog wr.drew = .ok () w8 ∧ (Below w5.heap.size w5 w8 ∧ w5.heap.size ≤ b ∧ ∃ t f, t ≤ i + 1 ∧ MapV 3 w8 b t (kc lo ln (i + 1)) f ∧ MaskU f (us lo ln (i + 1)))) := Lib.hid (by
            obtain ⟨h1, h2, t, f, h3, h4, h5⟩ := HI.out
            obtain ⟨w8, hr8, hm8, hg8⟩ := (h4.below (pw_below_drewN (Below.refl _ _) 1 : Below wr.heap.size wr wr.drew)).put intKeyed Try.underlying33 (by unfold maxLen; omega) (ki_key hwf) (.bool true) (upd f (ki x) _) (upd_same _ _ _) (fun y hy => upd_other _ _ hy)
            have hk := kc_succ lo ln i
            rw [hf] at hk
            rw [h5 x, hux] at hm8
            refine ⟨w8, hr8, below_grown (pw_below_drewN h1 1) hg8 (fun k hk => by cases hk; exact h2) h1.size, h2, t + 1, _, by omega, by rw [hk]; exact hm8, by rw [hu]; exact h5.put x⟩)
          have x0 : (0 : Int) ≤ (x : Int) := by omega
          have x1 : (x : Int) < (lo.length : Int) := by omega
          have z1 : ¬ (lo.length : Int) ≤ (x : Int) := by omega
          have z1b : decide ((lo.length : Int) ≤ (x : Int)) = false := by simp; omega
          have x0b : decide ((0 : Int) ≤ (x : Int)) = true := by simp
          clear HI hf he hu hux hea heb hco hcn hcell hta htb hwf
          go_upto_region 9 with fail
          refine start_ (n := 39) (S := fun w' => w'.cell? ⟨go, oo + x * 5, none⟩ = some (.string ta) ∧ w'.cell? ⟨go, oo + x * 5 + 1, none⟩ = some (.string tb) ∧ w'.cell? ⟨gn, on + i * 5, none⟩ = some (.string ta) ∧ w'.cell? ⟨gn, on + i * 5 + 1, none⟩ = some (.string tb) ∧ (Instr.lookup 33 (.map (some b)) (.int .i64 (x : Int)) false).run Try.prog w' = .ok (.bool false) w') (ds := []) #[false, false, false, false, false, false, false, false, false, false, false, false, false, false, false, false, false, false, false, false, false, false, false, false, false, false, false, false, false, false, false, false, false, false, false, false, false, false, false] (by kernel_rfl) rfl rfl ⟨S0, S1, S2, S3, S4⟩ (fun hHeld => ?_)
          refine pure_ (i := 0) (N := some 40) (v := ?_) (a' := ?_) #[true, false, false, false, false, false, false, false, false, false, false, false, false, false, false, false, false, false, false, false, false, false, false, false, false, false, false, false, false, false, false, false, false, false, false, false, false, false, false] rfl rfl (by kernel_rfl) (fun _ _ _ h => h) (Or.inl ⟨by rfl, ?_⟩) ?_ ?_
          rotate_left
          · intro w'
            go_simp
            with_reducible rfl
          rotate_left
          · simp only [Act.put, List.setIfInBounds_toArray, List.set_cons_zero, List.set_cons_succ, i64_w, i32_w]
            rfl
          refine pure_ (i := 1) (N := some 41) (v := ?_) (a' := ?_) #[true, true, false, false, false, false, false, false, false, false, false, false, false, false, false, false, false, false, false, false, false, false, false, false, false, false, false, false, false, false, false, false, false, false, false, false, false, false, false] rfl rfl (by kernel_rfl) (fun _ _ _ h => h) (Or.inl ⟨by rfl, ?_⟩) ?_ ?_
          rotate_left
          · intro w'
            go_simp
            with_reducible rfl
          rotate_left
          · simp only [Act.put, List.setIfInBounds_toArray, List.set_cons_zero, List.set_cons_succ, i64_w, i32_w]
            rfl
          refine pure_ (i := 2) (N := some 42) (v := ?_) (a' := ?_) #[true, true, true, false, false, false, false, false, false, false, false, false, false, false, false, false, false, false, false, false, false, false, false, false, false, false, false, false, false, false, false, false, false, false, false, false, false, false, false] rfl rfl (by kernel_rfl) (fun _ _ _ h => h) (Or.inl ⟨by rfl, ?_⟩) ?_ ?_
          rotate_left
          · intro w'
            go_simp
            with_reducible rfl
          rotate_left
          · simp only [Act.put, List.setIfInBounds_toArray, List.set_cons_zero, List.set_cons_succ, i64_w, i32_w]
            rfl
          refine pure_ (i := 3) (N := some 43) (v := ?_) (a' := ?_) #[true, true, true, true, false, false, false, false, false, false, false, false, false, false, false, false, false, false, false, false, false, false, false, false, false, false, false, false, false, false, false, false, false, false, false, false, false, false, false] rfl rfl (by kernel_rfl) (fun _ _ _ h => h) (Or.inl ⟨by rfl, ?_⟩) ?_ ?_
          rotate_left
          · intro w'
            go_simp
            with_reducible rfl
          rotate_left
          · simp only [Act.put, List.setIfInBounds_toArray, List.set_cons_zero, List.set_cons_succ, i64_w, i32_w]
            rfl
          refine pure_ (i := 4) (N := some 44) (v := ?_) (a' := ?_) #[true, true, true, true, true, false, false, false, false, false, false, false, false, false, false, false, false, false, false, false, false, false, false, false, false, false, false, false, false, false, false, false, false, false, false, false, false, false, false] rfl rfl (by kernel_rfl) (fun _ _ _ h => h) (Or.inl ⟨by rfl, ?_⟩) ?_ ?_
          rotate_left
          · intro w'
            go_simp
            with_reducible rfl
          rotate_left
          · simp only [Act.put, List.setIfInBounds_toArray, List.set_cons_zero, List.set_cons_succ, i64_w, i32_w]
            rfl
          refine pure_ (i := 5) (N := some 45) (v := ?_) (a' := ?_) #[true, true, true, true, true, true, false, false, false, false, false, false, false, false, false, false, false, false, false, false, false, false, false, false, false, false, false, false, false, false, false, false, false, false, false, false, false, false, false] rfl rfl (by kernel_rfl) (fun _ _ _ h => h) (Or.inl ⟨by rfl, ?_⟩) ?_ ?_
          rotate_left
          · intro w'
            go_simp
            with_reducible rfl
          rotate_left
          · simp only [Act.put, List.setIfInBounds_toArray, List.set_cons_zero, List.set_cons_succ, i64_w, i32_w]
            rfl
          refine pure_ (i := 6) (N := some 46) (v := ?_) (a' := ?_) #[true, true, true, true, true, true, true, false, false, false, false, false, false, false, false, false, false, false, false, false, false, false, false, false, false, false, false, false, false, false, false, false, false, false, false, false, false, false, false] rfl rfl (by kernel_rfl) (fun _ _ _ h => h) (Or.inl ⟨by rfl, ?_⟩) ?_ ?_
          rotate_left
          · intro w'
            go_simp
            with_reducible rfl
          rotate_left
          · simp only [Act.put, List.setIfInBounds_toArray, List.set_cons_zero, List.set_cons_succ, i64_w, i32_w]
            rfl
          refine pure_ (i := 7) (N := some 47) (v := ?_) (a' := ?_) #[true, true, true, true, true, true, true, true, false, false, false, false, false, false, false, false, false, false, false, false, false, false, false, false, false, false, false, false, false, false, false, false, false, false, false, false, false, false, false] rfl rfl (by kernel_rfl) (fun _ _ _ h => h) (Or.inl ⟨by rfl, ?_⟩) ?_ ?_
          rotate_left
          · intro w'
            go_simp
            with_reducible rfl
          rotate_left
          · simp only [Act.put, List.setIfInBounds_toArray, List.set_cons_zero, List.set_cons_succ, i64_w, i32_w]
            rfl
          refine pure_ (i := 8) (N := some 48) (v := ?_) (a' := ?_) #[true, true, true, true, true, true, true, true, true, false, false, false, false, false, false, false, false, false, false, false, false, false, false, false, false, false, false, false, false, false, false, false, false, false, false, false, false, false, false] rfl rfl (by kernel_rfl) (fun _ _ _ h => h) (Or.inl ⟨by rfl, ?_⟩) ?_ ?_
          rotate_left
          · intro w'
            go_simp
            with_reducible rfl
          rotate_left
          · simp only [Act.put, List.setIfInBounds_toArray, List.set_cons_zero, List.set_cons_succ, i64_w, i32_w]
            rfl
          refine pure_ (i := 9) (N := some 49) (v := ?_) (a' := ?_) #[true, true, true, true, true, true, true, true, true, true, false, false, false, false, false, false, false, false, false, false, false, false, false, false, false, false, false, false, false, false, false, false, false, false, false, false, false, false, false] rfl rfl (by kernel_rfl) (fun _ _ _ h => h) (Or.inl ⟨by rfl, ?_⟩) ?_ ?_
          rotate_left
          · intro w'
            go_simp
            with_reducible rfl
          rotate_left
          · simp only [Act.put, List.setIfInBounds_toArray, List.set_cons_zero, List.set_cons_succ, i64_w, i32_w]
            rfl
          refine take_ (i := 10) (N := some 50) (v := ?_) (a' := ?_) #[true, true, true, true, true, true, true, true, true, true, true, false, false, false, false, false, false, false, false, false, false, false, false, false, false, false, false, false, false, false, false, false, false, false, false, false, false, false, false] rfl rfl (by kernel_rfl) (fun _ _ _ h => h) (Or.inl ⟨by rfl, ?_⟩) hHeld ?_ ?_
          rotate_left
          · rintro w' ⟨s0, s1, s2, s3, s4⟩
            go_simp
            with_reducible rfl
          rotate_left
          · simp only [Act.put, List.setIfInBounds_toArray, List.set_cons_zero, List.set_cons_succ, i64_w, i32_w]
            rfl
          refine pure_ (i := 11) (N := some 51) (v := ?_) (a' := ?_) #[true, true, true, true, true, true, true, true, true, true, true, true, false, false, false, false, false, false, false, false, false, false, false, false, false, false, false, false, false, false, false, false, false, false, false, false, false, false, false] rfl rfl (by kernel_rfl) (fun _ _ _ h => h) (Or.inl ⟨by rfl, ?_⟩) ?_ ?_
          rotate_left
          · intro w'
            go_simp
            with_reducible rfl
          rotate_left
          · simp only [Act.put, List.setIfInBounds_toArray, List.set_cons_zero, List.set_cons_succ, i64_w, i32_w]
            rfl
          refine pure_ (i := 12) (N := some 52) (v := ?_) (a' := ?_) #[true, true, true, true, true, true, true, true, true, true, true, true, true, false, false, false, false, false, false, false, false, false, false, false, false, false, false, false, false, false, false, false, false, false, false, false, false, false, false] rfl rfl (by kernel_rfl) (fun _ _ _ h => h) (Or.inl ⟨by rfl, ?_⟩) ?_ ?_
          rotate_left
          · intro w'
            go_simp
            with_reducible rfl
          rotate_left
          · simp only [Act.put, List.setIfInBounds_toArray, List.set_cons_zero, List.set_cons_succ, i64_w, i32_w]
            rfl
          refine pure_ (i := 13) (N := some 53) (v := ?_) (a' := ?_) #[true, true, true, true, true, true, true, true, true, true, true, true, true, true, false, false, false, false, false, false, false, false, false, false, false, false, false, false, false, false, false, false, false, false, false, false, false, false, false] rfl rfl (by kernel_rfl) (fun _ _ _ h => h) (Or.inl ⟨by rfl, ?_⟩) ?_ ?_
          rotate_left
          · intro w'
            go_simp
            with_reducible rfl
          rotate_left
          · simp only [Act.put, List.setIfInBounds_toArray, List.set_cons_zero, List.set_cons_succ, i64_w, i32_w]
            rfl
          refine pure_ (i := 14) (N := some 54) (v := ?_) (a' := ?_) #[true, true, true, true, true, true, true, true, true, true, true, true, true, true, true, false, false, false, false, false, false, false, false, false, false, false, false, false, false, false, false, false, false, false, false, false, false, false, false] rfl rfl (by kernel_rfl) (fun _ _ _ h => h) (Or.inl ⟨by rfl, ?_⟩) ?_ ?_
          rotate_left
          · intro w'
            go_simp
            with_reducible rfl
          rotate_left
          · simp only [Act.put, List.setIfInBounds_toArray, List.set_cons_zero, List.set_cons_succ, i64_w, i32_w]
            rfl
          refine pure_ (i := 15) (N := some 55) (v := ?_) (a' := ?_) #[true, true, true, true, true, true, true, true, true, true, true, true, true, true, true, true, false, false, false, false, false, false, false, false, false, false, false, false, false, false, false, false, false, false, false, false, false, false, false] rfl rfl (by kernel_rfl) (fun _ _ _ h => h) (Or.inl ⟨by rfl, ?_⟩) ?_ ?_
          rotate_left
          · intro w'
            go_simp
            with_reducible rfl
          rotate_left
          · simp only [Act.put, List.setIfInBounds_toArray, List.set_cons_zero, List.set_cons_succ, i64_w, i32_w]
            rfl
          refine pure_ (i := 17) (N := some 57) (v := ?_) (a' := ?_) #[true, true, true, true, true, true, true, true, true, true, true, true, true, true, true, true, false, true, false, false, false, false, false, false, false, false, false, false, false, false, false, false, false, false, false, false, false, false, false] rfl rfl (by kernel_rfl) (fun _ _ _ h => h) (Or.inl ⟨by rfl, ?_⟩) ?_ ?_
          rotate_left
          · intro w'
            go_simp
            with_reducible rfl
          rotate_left
          · simp only [Act.put, List.setIfInBounds_toArray, List.set_cons_zero, List.set_cons_succ, i64_w, i32_w]
            rfl
          refine pure_ (i := 18) (N := some 58) (v := ?_) (a' := ?_) #[true, true, true, true, true, true, true, true, true, true, true, true, true, true, true, true, false, true, true, false, false, false, false, false, false, false, false, false, false, false, false, false, false, false, false, false, false, false, false] rfl rfl (by kernel_rfl) (fun _ _ _ h => h) (Or.inl ⟨by rfl, ?_⟩) ?_ ?_
          rotate_left
          · intro w'
            go_simp
            with_reducible rfl
          rotate_left
          · simp only [Act.put, List.setIfInBounds_toArray, List.set_cons_zero, List.set_cons_succ, i64_w, i32_w]
            rfl
          refine pure_ (i := 19) (N := some 59) (v := ?_) (a' := ?_) #[true, true, true, true, true, true, true, true, true, true, true, true, true, true, true, true, false, true, true, true, false, false, false, false, false, false, false, false, false, false, false, false, false, false, false, false, false, false, false] rfl rfl (by kernel_rfl) (fun _ _ _ h => h) (Or.inl ⟨by rfl, ?_⟩) ?_ ?_
          rotate_left
          · intro w'
            go_simp
            with_reducible rfl
          rotate_left
          · simp only [Act.put, List.setIfInBounds_toArray, List.set_cons_zero, List.set_cons_succ, i64_w, i32_w]
            rfl
          refine pure_ (i := 20) (N := some 60) (v := ?_) (a' := ?_) #[true, true, true, true, true, true, true, true, true, true, true, true, true, true, true, true, false, true, true, true, true, false, false, false, false, false, false, false, false, false, false, false, false, false, false, false, false, false, false] rfl rfl (by kernel_rfl) (fun _ _ _ h => h) (Or.inl ⟨by rfl, ?_⟩) ?_ ?_
          rotate_left
          · intro w'
            go_simp
            with_reducible rfl
          rotate_left
          · simp only [Act.put, List.setIfInBounds_toArray, List.set_cons_zero, List.set_cons_succ, i64_w, i32_w]
            rfl
          refine take_ (i := 16) (N := some 56) (v := ?_) (a' := ?_) #[true, true, true, true, true, true, true, true, true, true, true, true, true, true, true, true, true, true, true, true, true, false, false, false, false, false, false, false, false, false, false, false, false, false, false, false, false, false, false] rfl rfl (by kernel_rfl) (fun _ _ _ h => h) (Or.inl ⟨by rfl, ?_⟩) hHeld ?_ ?_
          rotate_left
          · rintro w' ⟨s0, s1, s2, s3, s4⟩
            go_simp
            with_reducible rfl
          rotate_left
          · simp only [Act.put, List.setIfInBounds_toArray, List.set_cons_zero, List.set_cons_succ, i64_w, i32_w]
            rfl
          refine take_ (i := 21) (N := some 61) (v := ?_) (a' := ?_) #[true, true, true, true, true, true, true, true, true, true, true, true, true, true, true, true, true, true, true, true, true, true, false, false, false, false, false, false, false, false, false, false, false, false, false, false, false, false, false] rfl rfl (by kernel_rfl) (fun _ _ _ h => h) (Or.inl ⟨by rfl, ?_⟩) hHeld ?_ ?_
          rotate_left
          · rintro w' ⟨s0, s1, s2, s3, s4⟩
            go_simp
            with_reducible rfl
          rotate_left
          · simp only [Act.put, List.setIfInBounds_toArray, List.set_cons_zero, List.set_cons_succ, i64_w, i32_w]
            rfl
          refine pure_ (i := 22) (N := some 62) (v := ?_) (a' := ?_) #[true, true, true, true, true, true, true, true, true, true, true, true, true, true, true, true, true, true, true, true, true, true, true, false, false, false, false, false, false, false, false, false, false, false, false, false, false, false, false] rfl rfl (by kernel_rfl) (fun _ _ _ h => h) (Or.inl ⟨by rfl, ?_⟩) ?_ ?_
          rotate_left
          · intro w'
            go_simp
            with_reducible rfl
          rotate_left
          · simp only [Act.put, List.setIfInBounds_toArray, List.set_cons_zero, List.set_cons_succ, i64_w, i32_w]
            rfl
          refine pure_ (i := 23) (N := some 63) (v := ?_) (a' := ?_) #[true, true, true, true, true, true, true, true, true, true, true, true, true, true, true, true, true, true, true, true, true, true, true, true, false, false, false, false, false, false, false, false, false, false, false, false, false, false, false] rfl rfl (by kernel_rfl) (fun _ _ _ h => h) (Or.inl ⟨by rfl, ?_⟩) ?_ ?_
          rotate_left
          · intro w'
            go_simp
            with_reducible rfl
          rotate_left
          · simp only [Act.put, List.setIfInBounds_toArray, List.set_cons_zero, List.set_cons_succ, i64_w, i32_w]
            rfl
          refine pure_ (i := 24) (N := some 64) (v := ?_) (a' := ?_) #[true, true, true, true, true, true, true, true, true, true, true, true, true, true, true, true, true, true, true, true, true, true, true, true, true, false, false, false, false, false, false, false, false, false, false, false, false, false, false] rfl rfl (by kernel_rfl) (fun _ _ _ h => h) (Or.inl ⟨by rfl, ?_⟩) ?_ ?_
          rotate_left
          · intro w'
            go_simp
            with_reducible rfl
          rotate_left
          · simp only [Act.put, List.setIfInBounds_toArray, List.set_cons_zero, List.set_cons_succ, i64_w, i32_w]
            rfl
          refine pure_ (i := 25) (N := some 65) (v := ?_) (a' := ?_) #[true, true, true, true, true, true, true, true, true, true, true, true, true, true, true, true, true, true, true, true, true, true, true, true, true, true, false, false, false, false, false, false, false, false, false, false, false, false, false] rfl rfl (by kernel_rfl) (fun _ _ _ h => h) (Or.inl ⟨by rfl, ?_⟩) ?_ ?_
          rotate_left
          · intro w'
            go_simp
            with_reducible rfl
          rotate_left
          · simp only [Act.put, List.setIfInBounds_toArray, List.set_cons_zero, List.set_cons_succ, i64_w, i32_w]
            rfl
          refine pure_ (i := 26) (N := some 66) (v := ?_) (a' := ?_) #[true, true, true, true, true, true, true, true, true, true, true, true, true, true, true, true, true, true, true, true, true, true, true, true, true, true, true, false, false, false, false, false, false, false, false, false, false, false, false] rfl rfl (by kernel_rfl) (fun _ _ _ h => h) (Or.inl ⟨by rfl, ?_⟩) ?_ ?_
          rotate_left
          · intro w'
            go_simp
            with_reducible rfl
          rotate_left
          · simp only [Act.put, List.setIfInBounds_toArray, List.set_cons_zero, List.set_cons_succ, i64_w, i32_w]
            rfl
          refine pure_ (i := 27) (N := some 67) (v := ?_) (a' := ?_) #[true, true, true, true, true, true, true, true, true, true, true, true, true, true, true, true, true, true, true, true, true, true, true, true, true, true, true, true, false, false, false, false, false, false, false, false, false, false, false] rfl rfl (by kernel_rfl) (fun _ _ _ h => h) (Or.inl ⟨by rfl, ?_⟩) ?_ ?_
          rotate_left
          · intro w'
            go_simp
            with_reducible rfl
          rotate_left
          · simp only [Act.put, List.setIfInBounds_toArray, List.set_cons_zero, List.set_cons_succ, i64_w, i32_w]
            rfl
          refine pure_ (i := 28) (N := some 68) (v := ?_) (a' := ?_) #[true, true, true, true, true, true, true, true, true, true, true, true, true, true, true, true, true, true, true, true, true, true, true, true, true, true, true, true, true, false, false, false, false, false, false, false, false, false, false] rfl rfl (by kernel_rfl) (fun _ _ _ h => h) (Or.inl ⟨by rfl, ?_⟩) ?_ ?_
          rotate_left
          · intro w'
            go_simp
            with_reducible rfl
          rotate_left
          · simp only [Act.put, List.setIfInBounds_toArray, List.set_cons_zero, List.set_cons_succ, i64_w, i32_w]
            rfl
          refine pure_ (i := 30) (N := some 70) (v := ?_) (a' := ?_) #[true, true, true, true, true, true, true, true, true, true, true, true, true, true, true, true, true, true, true, true, true, true, true, true, true, true, true, true, true, false, true, false, false, false, false, false, false, false, false] rfl rfl (by kernel_rfl) (fun _ _ _ h => h) (Or.inl ⟨by rfl, ?_⟩) ?_ ?_
          rotate_left
          · intro w'
            go_simp
            with_reducible rfl
          rotate_left
          · simp only [Act.put, List.setIfInBounds_toArray, List.set_cons_zero, List.set_cons_succ, i64_w, i32_w]
            rfl
          refine pure_ (i := 31) (N := some 71) (v := ?_) (a' := ?_) #[true, true, true, true, true, true, true, true, true, true, true, true, true, true, true, true, true, true, true, true, true, true, true, true, true, true, true, true, true, false, true, true, false, false, false, false, false, false, false] rfl rfl (by kernel_rfl) (fun _ _ _ h => h) (Or.inl ⟨by rfl, ?_⟩) ?_ ?_
          rotate_left
          · intro w'
            go_simp
            with_reducible rfl
          rotate_left
          · simp only [Act.put, List.setIfInBounds_toArray, List.set_cons_zero, List.set_cons_succ, i64_w, i32_w]
            rfl
          refine pure_ (i := 32) (N := some 72) (v := ?_) (a' := ?_) #[true, true, true, true, true, true, true, true, true, true, true, true, true, true, true, true, true, true, true, true, true, true, true, true, true, true, true, true, true, false, true, true, true, false, false, false, false, false, false] rfl rfl (by kernel_rfl) (fun _ _ _ h => h) (Or.inl ⟨by rfl, ?_⟩) ?_ ?_
          rotate_left
          · intro w'
            go_simp
            with_reducible rfl
          rotate_left
          · simp only [Act.put, List.setIfInBounds_toArray, List.set_cons_zero, List.set_cons_succ, i64_w, i32_w]
            rfl
          refine pure_ (i := 33) (N := some 73) (v := ?_) (a' := ?_) #[true, true, true, true, true, true, true, true, true, true, true, true, true, true, true, true, true, true, true, true, true, true, true, true, true, true, true, true, true, false, true, true, true, true, false, false, false, false, false] rfl rfl (by kernel_rfl) (fun _ _ _ h => h) (Or.inl ⟨by rfl, ?_⟩) ?_ ?_
          rotate_left
          · intro w'
            go_simp
            with_reducible rfl
          rotate_left
          · simp only [Act.put, List.setIfInBounds_toArray, List.set_cons_zero, List.set_cons_succ, i64_w, i32_w]
            rfl
          refine take_ (i := 29) (N := some 69) (v := ?_) (a' := ?_) #[true, true, true, true, true, true, true, true, true, true, true, true, true, true, true, true, true, true, true, true, true, true, true, true, true, true, true, true, true, true, true, true, true, true, false, false, false, false, false] rfl rfl (by kernel_rfl) (fun _ _ _ h => h) (Or.inl ⟨by rfl, ?_⟩) hHeld ?_ ?_
          rotate_left
          · rintro w' ⟨s0, s1, s2, s3, s4⟩
            go_simp
            with_reducible rfl
          rotate_left
          · simp only [Act.put, List.setIfInBounds_toArray, List.set_cons_zero, List.set_cons_succ, i64_w, i32_w]
            rfl
          refine take_ (i := 34) (N := some 74) (v := ?_) (a' := ?_) #[true, true, true, true, true, true, true, true, true, true, true, true, true, true, true, true, true, true, true, true, true, true, true, true, true, true, true, true, true, true, true, true, true, true, true, false, false, false, false] rfl rfl (by kernel_rfl) (fun _ _ _ h => h) (Or.inl ⟨by rfl, ?_⟩) hHeld ?_ ?_
          rotate_left
          · rintro w' ⟨s0, s1, s2, s3, s4⟩
            go_simp
            with_reducible rfl
          rotate_left
          · simp only [Act.put, List.setIfInBounds_toArray, List.set_cons_zero, List.set_cons_succ, i64_w, i32_w]
            rfl
          refine pure_ (i := 35) (N := some 75) (v := ?_) (a' := ?_) #[true, true, true, true, true, true, true, true, true, true, true, true, true, true, true, true, true, true, true, true, true, true, true, true, true, true, true, true, true, true, true, true, true, true, true, true, false, false, false] rfl rfl (by kernel_rfl) (fun _ _ _ h => h) (Or.inl ⟨by rfl, ?_⟩) ?_ ?_
          rotate_left
          · intro w'
            go_simp
            with_reducible rfl
          rotate_left
          · simp only [Act.put, List.setIfInBounds_toArray, List.set_cons_zero, List.set_cons_succ, i64_w, i32_w]
            rfl
          refine pure_ (i := 36) (N := some 76) (v := ?_) (a' := ?_) #[true, true, true, true, true, true, true, true, true, true, true, true, true, true, true, true, true, true, true, true, true, true, true, true, true, true, true, true, true, true, true, true, true, true, true, true, true, false, false] rfl rfl (by kernel_rfl) (fun _ _ _ h => h) (Or.inl ⟨by rfl, ?_⟩) ?_ ?_
          rotate_left
          · intro w'
            go_simp
            with_reducible rfl
          rotate_left
          · simp only [Act.put, List.setIfInBounds_toArray, List.set_cons_zero, List.set_cons_succ, i64_w, i32_w]
            rfl
          refine pure_ (i := 37) (N := some 77) (v := ?_) (a' := ?_) #[true, true, true, true, true, true, true, true, true, true, true, true, true, true, true, true, true, true, true, true, true, true, true, true, true, true, true, true, true, true, true, true, true, true, true, true, true, true, false] rfl rfl (by kernel_rfl) (fun _ _ _ h => h) (Or.inl ⟨by rfl, ?_⟩) ?_ ?_
          rotate_left
          · intro w'
            go_simp
            with_reducible rfl
          rotate_left
          · simp only [Act.put, List.setIfInBounds_toArray, List.set_cons_zero, List.set_cons_succ, i64_w, i32_w]
            rfl
          refine pure_ (i := 38) (N := some 78) (v := ?_) (a' := ?_) #[true, true, true, true, true, true, true, true, true, true, true, true, true, true, true, true, true, true, true, true, true, true, true, true, true, true, true, true, true, true, true, true, true, true, true, true, true, true, true] rfl rfl (by kernel_rfl) (fun _ _ _ h => h) (Or.inl ⟨by rfl, ?_⟩) ?_ ?_
          rotate_left
          · intro w'
            go_simp
            with_reducible rfl
          rotate_left
          · simp only [Act.put, List.setIfInBounds_toArray, List.set_cons_zero, List.set_cons_succ, i64_w, i32_w]
            rfl
          refine done_ (by kernel_rfl) ?_
          clear S0 S1 S2 S3 S4
          obtain ⟨w8, hr8, H8⟩ := HI2.out
          have H8 := Lib.hid H8
          clear HI2 hHeld
          go_wp2_with fail
          go_roundw
          case rel => exact ⟨i + 1, by go_num, by omega, H8⟩
          case measure => first | (simp; omega) | simp
      · have i1 : ¬ (i : Int) < (ln.length : Int) := by omega
        obtain rfl : i = ln.length := by omega
        go_wp2_with fail
        go_meet
        case rel =>
          obtain ⟨h1, h2, t, f, h3, h4⟩ := HI.out
          exact Lib.hid ⟨h1, h2, t, f, by omega, h4⟩
  case rest =>
    clear H6
    have H7 : Hid (Got w wc (.slice Ao lo.length co) (.slice An ln.length cn) (.slice A7 ln.length c7) lo ln ∧ ∃ t f, t ≤ 9 ∧ MapV 3 wc b t (kc lo ln ln.length) f ∧ MaskU f (us lo ln ln.length)) := Lib.hid ⟨H5.out.below hcut.out.1, hcut.out.2.2⟩
    clear hcut H5
    obtain ⟨un, hun⟩ : ∃ un, us lo ln ln.length = un := ⟨_, rfl⟩
    rw [hun] at H7
    have HUN := Lib.hid hun
    clear hun
    go_wp2_with fail
    go_loopw [11, 12, 86] (fun t11 t12 t86 wr => ∃ (i n' c'' : Nat) (A'' : Option Addr), t11 = .slice A'' n' c'' ∧ t86 = .int .i64 (i : Int) ∧ i ≤ lo.length ∧ Hid (n' = (freeN un i).length ∧ StgI wc wr (.slice A'' n' c'') (freeL un i))) (fun _ _ t _ => match t with | .int _ q => (lo.length - q).toNat | _ => 0)
    case atStart => exact ⟨0, 0, 0, none, rfl, rfl, by omega, Lib.hid ⟨rfl, StgI.nil (Below.refl _ _)⟩⟩
    case round =>
      obtain ⟨i, n', c'', A'', rfl, rfl, hi, HI⟩ := hrel
      have i0 : (0 : Int) ≤ (i : Int) := by omega
      by_cases d1 : i < lo.length
      · have i1 : (i : Int) < (lo.length : Int) := by omega
        obtain ⟨hgot, t, f, ht, hmap, hmk⟩ := H7.out
        have hwf : (Lit.int .i64 (i : Int)).wf = true := by simp [Lit.wf, IntKind.min, IntKind.max, IntKind.signed, IntKind.bits]; omega
        have hlk := (hmap.below HI.out.2.low).get intKeyed Try.underlying33 (zeroBool wr) (ki_key hwf)
        rw [hmk i] at hlk
        have hsu := freeN_succ un i
        cases e : un i with
        | true =>
          rw [if_pos e] at hlk hsu
          have HI2 : Hid (n' = (freeN un (i + 1)).length ∧ StgI wc wr (.slice A'' n' c'') (freeL un (i + 1))) := Lib.hid (by unfold freeL; rw [hsu, List.append_nil]; exact HI.out)
          clear hgot hmap hmk hwf HI hsu e ht
          simp only [Option.getD_some] at hlk
          go_wp2_with fail
          go_roundw
          case rel => exact ⟨i + 1, n', c'', A'', rfl, by go_num, by omega, HI2⟩
          case measure => first | (simp; omega) | simp
        | false =>
          have e' : ¬ un i = true := by rw [e]; decide
          rw [if_neg e'] at hlk hsu
          simp only [Option.getD_none] at hlk
          have HSU := Lib.hid hsu
          clear hgot hmap hmk hwf hsu e e' ht
          have hn' : n' = (freeL un i).length := by unfold freeL; rw [List.length_map]; exact HI.out.1
          have HNN := Lib.hid hn'
          clear hn'
          go_wp2_with (at_builtin; refine wpl_append_int rfl (.tmp 93) (.tmp 95) rfl (.slice A'' n' c'') (freeL un i) (i : Int) wr.heap.size 1 rfl rfl (HI.out.2.alloc _).row ?_ (by rw [← HNN.out, HI.out.1]; have := freeN_len un i; omega) ?_)
          · exact heap_alloc_new _ _
          rintro A9 c9 w9 hr9 hg9 ho9
          have H9 : Hid (n' + 1 = (freeN un (i + 1)).length ∧ StgI wc w9 (.slice A9 (n' + 1) c9) (freeL un (i + 1))) := Lib.hid (by
            rw [← HNN.out] at hr9 ho9
            refine ⟨by rw [HSU.out, List.length_append, HI.out.1]; rfl, ?_⟩
            have h1 := (HI.out.2.alloc (.cells #[.int .i64 (i : Int)] 3)).app hr9 hg9 (by simpa using ho9)
            rwa [show freeL un i ++ [(i : Int)] = freeL un (i + 1) from by unfold freeL; rw [HSU.out, List.map_append]; rfl] at h1)
          rw [← HNN.out]
          clear hr9 hg9 ho9 HI HSU HNN hlk
          go_wp2_with fail
          go_roundw
          case rel => exact ⟨i + 1, _, c9, A9, rfl, by go_num, by omega, H9⟩
          case measure => first | (simp; omega) | simp
      · have i1 : ¬ (i : Int) < (lo.length : Int) := by omega
        obtain rfl : i = lo.length := by omega
        clear hi d1 i0
        have H8 : Hid (Got w wr (.slice Ao lo.length co) (.slice An ln.length cn) (.slice A7 ln.length c7) lo ln ∧ (∃ t f, t ≤ 9 ∧ MapV 3 wr b t (kc lo ln ln.length) f) ∧ n' = (freeN un lo.length).length ∧ IRow wr (.slice A'' n' c'') (freeL un lo.length)) := Lib.hid (by
          obtain ⟨hgot, t, f, ht, hmap, hmk⟩ := H7.out
          exact ⟨hgot.below HI.out.2.low, ⟨t, f, ht, hmap.below HI.out.2.low⟩, HI.out.1, HI.out.2.row⟩)
        clear H7 HI
        go_upto_region 22 with fail
        have hmd := trow_made wr
        have hod : TRow (wr.alloc (.cells #[] 25)) (.slice Ao lo.length co) lo := H8.out.1.old.below ((Below.refl _ _).alloc (Nat.le_refl _) _)
        have HMO := Lib.hid (And.intro hmd hod)
        clear hmd hod
        go_wp2_with (at_builtin; refine wpl_append_trees rfl (.tmp 98) (.tmp 99) rfl (.slice (some ⟨wr.heap.size, 0, none⟩) 0 0) [] lo Ao lo.length co rfl rfl rfl HMO.out.1 HMO.out.2 (by simp; omega) ?_)
        rintro A14 c14 w14 hr14 hg14 ho14
        have H14 : Hid (Stg wr w14 (.slice A14 lo.length c14) lo) := Lib.hid (by
          refine ⟨below_grown ((Below.refl _ _).alloc (Nat.le_refl _) _) hg14 (fun k hk => by cases hk; exact Nat.le_refl _) (by simp), hr14, fun k hk => ?_⟩
          rcases ho14 with ho | ho
          · rw [show (Value.slice A14 lo.length c14).ownBlock = _ from ho] at hk; cases hk; exact Nat.le_refl _
          · rw [show (Value.slice A14 lo.length c14).ownBlock = _ from ho] at hk; cases hk; first | exact Nat.le_succ _ | simp)
        clear hr14 hg14 ho14 HMO
        have e0 : lf lo (us lo ln 0) = lo := lf_zero lo
        have HL4 : Hid (lo.length = (lf lo (us lo ln 0)).length ∧ n' = (freeN un lo.length).length ∧ Pk w w14 (.slice Ao lo.length co) (.slice An ln.length cn) (.slice A7 ln.length c7) (.slice A14 lo.length c14) (.slice A'' n' c'') lo ln (lf lo (us lo ln 0)) (freeL un lo.length) b (kc lo ln ln.length)) := Lib.hid (by
          obtain ⟨h1, ⟨t, f, h2, h3⟩, h4, h5⟩ := H8.out
          rw [e0]
          exact ⟨rfl, h4, h1.below H14.out.low, ⟨t, f, h2, h3.below H14.out.low⟩, H14.out.row, h5.below H14.out.low⟩)
        clear H14 H8 e0
        go_wp2_with fail
        go_loopw [13, 14, 103] (fun t13 t14 t103 wq => ∃ (j nl cl : Nat) (Al : Option Addr), t13 = .int .i64 (kc lo ln j : Int) ∧ t14 = .slice Al nl cl ∧ t103 = .int .i64 (j : Int) ∧ j ≤ ln.length ∧ Hid (nl = (lf lo (us lo ln j)).length ∧ n' = (freeN un lo.length).length ∧ Pk w wq (.slice Ao lo.length co) (.slice An ln.length cn) (.slice A7 ln.length c7) (.slice Al nl cl) (.slice A'' n' c'') lo ln (lf lo (us lo ln j)) (freeL un lo.length) b (kc lo ln ln.length))) (fun _ _ t _ => match t with | .int _ q => (ln.length - q).toNat | _ => 0)
        case atStart => exact ⟨0, lo.length, c14, A14, rfl, rfl, rfl, by omega, HL4⟩
        case round =>
          obtain ⟨j, nl, cl, Al, rfl, rfl, rfl, hj, HJ⟩ := hrel
          clear HL4
          have j0 : (0 : Int) ≤ (j : Int) := by omega
          by_cases d1 : j < ln.length
          · have j1 : (j : Int) < (ln.length : Int) := by omega
            obtain ⟨gn, on, cn', e0, _⟩ := HJ.out.2.2.got.now.form1 (by omega)
            obtain ⟨rfl, rfl⟩ : An = some ⟨gn, on, none⟩ ∧ cn = cn' := by
              injection e0 with e1 _ e3
              exact ⟨e1, e3⟩
            clear e0
            go_upto_block 5 with fail
            go_cut [13, 14] (fun t13 t14 wc => ∃ (nl' cl' : Nat) (Al' : Option Addr), t13 = .int .i64 (kc lo ln (j + 1) : Int) ∧ t14 = .slice Al' nl' cl' ∧ Hid (nl' = (lf lo (us lo ln (j + 1))).length ∧ n' = (freeN un lo.length).length ∧ Pk w wc (.slice Ao lo.length co) (.slice (some ⟨gn, on, none⟩) ln.length cn) (.slice A7 ln.length c7) (.slice Al' nl' cl') (.slice A'' n' c'') lo ln (lf lo (us lo ln (j + 1))) (freeL un lo.length) b (kc lo ln ln.length)))
            case first =>
              have hcs := TRow.cells HJ.out.2.2.got.now rfl j d1
              rw [← g_get ln j d1] at hcs
              obtain ⟨t, ht⟩ : ∃ t, g_ ln j = t := ⟨_, rfl⟩
              rw [ht] at hcs
              have a0 := hcs.1
              have a1 := hcs.2.1
              have a2 := hcs.2.2.1
              have a3 := hcs.2.2.2.1
              have a4 := hcs.2.2.2.2
              have HT := Lib.hid ht
              clear hcs ht
              go_upto_region 26 with fail
              have h8 : (wr.alloc (.cells #[.string t.a, .string t.b, .string t.c, .slice none 0 0, .slice none 0 0] 25)).heap[wr.heap.size]? = some (.cells #[.string t.a, .string t.b, .string t.c, .slice none 0 0, .slice none 0 0] 25 (0, 0)) := heap_alloc_new _ _
              obtain ⟨u, hu⟩ : ∃ u, us lo ln j = u := ⟨_, rfl⟩
              have hus : us lo ln (j + 1) = setU u (fst_ lo u t) := by simp only [us]; rw [hu, HT.out]
              have hkc : kc lo ln (j + 1) = kc lo ln j + oc (fst_ lo u t) := by rw [kc_succ2, hu, HT.out]
              rw [hu] at HJ
              have HU := Lib.hid (And.intro hus hkc)
              clear hu hus hkc
              obtain ⟨L, hL⟩ : ∃ L, lf lo u = L := ⟨_, rfl⟩
              rw [hL] at HJ
              have HLL := Lib.hid hL
              have hL9 : L.length ≤ 9 := by rw [← hL]; have := lf_len lo u; have := HL.out.1.1; omega
              have HL9 := Lib.hid hL9
              clear hL hL9
              have HJ2 : Hid (nl = L.length ∧ n' = (freeN un lo.length).length ∧ Pk w (wr.alloc (.cells #[.string t.a, .string t.b, .string t.c, .slice none 0 0, .slice none 0 0] 25)) (.slice Ao lo.length co) (.slice (some ⟨gn, on, none⟩) ln.length cn) (.slice A7 ln.length c7) (.slice Al nl cl) (.slice A'' n' c'') lo ln L (freeL un lo.length) b (kc lo ln ln.length)) := Lib.hid ⟨HJ.out.1, HJ.out.2.1, HJ.out.2.2.below ((Below.refl _ _).alloc (Nat.le_refl _) _)⟩
              clear HJ a0 a1 a2 a3 a4
              generalize wr.alloc (.cells #[.string t.a, .string t.b, .string t.c, .slice none 0 0, .slice none 0 0] 25) = w8 at h8 HJ2 ⊢
              generalize wr.heap.size = K8 at h8 ⊢
              have H8 := Lib.hid h8
              clear h8
              have hk9 := kc_le lo ln j
              have k9 : (kc lo ln j : Int) ≤ 9 := by omega
              have k0 : (0 : Int) ≤ (kc lo ln j : Int) := by omega
              clear hk9
              go_wp2_with fail
              go_loopw [13, 14, 109] (fun t13 t14 t109 wq => ∃ i : Nat, t13 = .int .i64 (kc lo ln j : Int) ∧ t14 = .slice Al nl cl ∧ t109 = .int .i64 (i : Int) ∧ i ≤ nl ∧ Hid ((∀ i' < i, sm (g_ L i') t = false) ∧ Below w8.heap.size w8 wq)) (fun _ _ t _ => match t with | .int _ q => (nl - q).toNat | _ => 0)
              case atStart => exact ⟨0, rfl, rfl, rfl, by omega, Lib.hid ⟨fun i' h => by omega, Below.refl _ _⟩⟩
              case round =>
                obtain ⟨i, rfl, rfl, rfl, hi, HI⟩ := hrel
                have i0 : (0 : Int) ≤ (i : Int) := by omega
                by_cases d2 : i < nl
                · have i1 : (i : Int) < (nl : Int) := by omega
                  have i2 : (i : Int) ≤ 9 := by have := HL9.out; have := HJ2.out.1; omega
                  obtain ⟨gl, ol, cl', e0, hcl⟩ := HJ2.out.2.2.left.form1 (by rw [← HJ2.out.1]; omega)
                  obtain ⟨rfl, rfl⟩ : Al = some ⟨gl, ol, none⟩ ∧ cl = cl' := by
                    injection e0 with e1 _ e3
                    exact ⟨e1, e3⟩
                  clear e0
                  have hlf := HJ2.out.2.2.left.below HI.out.2
                  have hcs := TRow.cells hlf HJ2.out.1 i (by rw [← HJ2.out.1]; exact d2)
                  rw [← g_get L i (by rw [← HJ2.out.1]; exact d2)] at hcs
                  obtain ⟨s, hs⟩ : ∃ s, g_ L i = s := ⟨_, rfl⟩
                  rw [hs] at hcs
                  have a0 := hcs.1
                  have a1 := hcs.2.1
                  have a2 := hcs.2.2.1
                  have a3 := hcs.2.2.2.1
                  have a4 := hcs.2.2.2.2
                  have HS := Lib.hid hs
                  have HCL := Lib.hid hcl
                  clear hcs hs hlf hcl
                  go_upto_region 29 with fail
                  have h11 : (wr.alloc (.cells #[.string s.a, .string s.b, .string s.c, .slice none 0 0, .slice none 0 0] 25)).heap[wr.heap.size]? = some (.cells #[.string s.a, .string s.b, .string s.c, .slice none 0 0, .slice none 0 0] 25 (0, 0)) := heap_alloc_new _ _
                  have HI2 : Hid ((∀ i' < i, sm (g_ L i') t = false) ∧ Below w8.heap.size w8 (wr.alloc (.cells #[.string s.a, .string s.b, .string s.c, .slice none 0 0, .slice none 0 0] 25))) := Lib.hid ⟨HI.out.1, HI.out.2.alloc HI.out.2.size _⟩
                  clear HI a0 a1 a2 a3 a4
                  generalize wr.alloc (.cells #[.string s.a, .string s.b, .string s.c, .slice none 0 0, .slice none 0 0] 25) = w11 at h11 HI2 ⊢
                  generalize wr.heap.size = K11 at h11 ⊢
                  have h8 := (HI2.out.2.block K8 (Array.getElem?_eq_some_iff.1 H8.out).1).trans H8.out
                  have x0 : w11.cell? ⟨K11, 0, none⟩ = some (.string s.a) := by simp [World.cell?, h11]
                  have x1 : w11.cell? ⟨K11, 1, none⟩ = some (.string s.b) := by simp [World.cell?, h11]
                  have n0 : w11.cell? ⟨K8, 0, none⟩ = some (.string t.a) := by simp [World.cell?, h8]
                  have n1 : w11.cell? ⟨K8, 1, none⟩ = some (.string t.b) := by simp [World.cell?, h8]
                  clear h11 h8
                  have hs0 := str_beq s.a t.a
                  have hs1 := str_beq s.b t.b
                  by_cases hsm : sm s t = true
                  · obtain ⟨ea, eb⟩ := sm_iff.1 hsm
                    rw [decide_eq_true ea] at hs0
                    rw [decide_eq_true eb] at hs1
                    obtain ⟨x, hx, hcut⟩ := free_some lo u t i (by rw [HLL.out, ← HJ2.out.1]; exact d2) (by rw [HLL.out]; exact HI2.out.1) (by rw [HLL.out, HS.out]; exact hsm)
                    have hus := HU.out.1
                    have hkc := HU.out.2
                    rw [hx] at hus hkc
                    rw [← hus, HLL.out] at hcut
                    have HC := Lib.hid (And.intro hkc hcut)
                    clear hsm ea eb hx hus hkc hcut
                    have q1 : (i : Int) ≤ (nl : Int) := by omega
                    have q2 : (i : Int) + 1 ≤ (nl : Int) := by omega
                    have q3 : (nl : Int) ≤ (cl : Int) := by have := HCL.out; have := HJ2.out.1; omega
                    have q4 : (i : Int) ≤ (cl : Int) := by omega
                    have q5 : (0 : Int) ≤ (i : Int) + 1 := by omega
                    have hw1 : wrap64 ((i : Int) + 1) = (i : Int) + 1 := by unfold wrap64; omega
                    go_upto_region 31 with fail
                    have HZ : Hid (Pk w w11.drew (.slice Ao lo.length co) (.slice (some ⟨gn, on, none⟩) ln.length cn) (.slice A7 ln.length c7) (.slice (some ⟨gl, ol, none⟩) nl cl) (.slice A'' n' c'') lo ln L (freeL un lo.length) b (kc lo ln ln.length)) := Lib.hid ((HJ2.out.2.2.below HI2.out.2).below (pw_below_drewN (Below.refl _ _) 1))
                    have hln : nl = L.length := HJ2.out.1
                    have hpl : TRow w11.drew (.slice (some ⟨gl, ol, none⟩) L.length cl) L := by rw [← hln]; exact HZ.out.left
                    have HTK : Hid (TRow w11.drew (.slice (some ⟨gl, ol, none⟩) i cl) (L.take i)) := Lib.hid (trow_take hpl (by omega))
                    have HD : Hid (TRow w11.drew (.slice (some ⟨gl, (if cl = i + 1 then ol else ol + (i + 1) * 5), none⟩) (nl - (i + 1)) (cl - (i + 1))) (L.drop (i + 1))) := Lib.hid (by rw [hln]; exact trow_drop hpl (by omega))
                    have HN1 := Lib.hid (And.intro hln HJ2.out.2.1)
                    clear hln hpl HJ2 HI2 x0 x1 n0 n1 hs0 hs1
                    have S0 : Below w11.drew.heap.size w11.drew w11.drew := Below.refl _ _
                    by_cases hci : cl = i + 1
                    · subst hci
                      rw [if_pos rfl] at HD
                      have q7 : (i : Int) ≤ (i : Int) + 1 := by omega
                      clear q3 q4
                      refine start_ (n := 11) (S := fun w' => Below w11.drew.heap.size w11.drew w') (ds := [0, 4, 9]) #[false, false, false, false, false, false, false, false, false, false, false] (by kernel_rfl) rfl rfl (S0) (fun hHeld => ?_)
                      clear S0
                      generalize w11.drew = W1 at HZ HTK HD hHeld ⊢
                      refine pure_ (i := 1) (N := some 129) (v := ?_) (a' := ?_) #[false, true, false, false, false, false, false, false, false, false, false] rfl rfl (by kernel_rfl) (fun _ _ _ h => h) (Or.inl ⟨by rfl, ?_⟩) ?_ ?_
                      rotate_left
                      · intro w'
                        go_simp
                        with_reducible rfl
                      rotate_left
                      · simp only [Act.put, List.setIfInBounds_toArray, List.set_cons_zero, List.set_cons_succ, i64_w, i32_w]
                        rfl
                      refine pure_ (i := 2) (N := some 130) (v := ?_) (a' := ?_) #[false, true, true, false, false, false, false, false, false, false, false] rfl rfl (by kernel_rfl) (fun _ _ _ h => h) (Or.inl ⟨by rfl, ?_⟩) ?_ ?_
                      rotate_left
                      · intro w'
                        go_simp
                        with_reducible rfl
                      rotate_left
                      · simp only [Act.put, List.setIfInBounds_toArray, List.set_cons_zero, List.set_cons_succ, i64_w, i32_w]
                        rfl
                      refine pure_ (i := 3) (N := some 131) (v := ?_) (a' := ?_) #[false, true, true, true, false, false, false, false, false, false, false] rfl rfl (by kernel_rfl) (fun _ _ _ h => h) (Or.inl ⟨by rfl, ?_⟩) ?_ ?_
                      rotate_left
                      · intro w'
                        go_simp
                        with_reducible rfl
                      rotate_left
                      · simp only [Act.put, List.setIfInBounds_toArray, List.set_cons_zero, List.set_cons_succ, i64_w, i32_w]
                        rfl
                      refine pure_ (i := 5) (N := some 133) (v := ?_) (a' := ?_) #[false, true, true, true, false, true, false, false, false, false, false] rfl rfl (by kernel_rfl) (fun _ _ _ h => h) (Or.inl ⟨by rfl, ?_⟩) ?_ ?_
                      rotate_left
                      · intro w'
                        go_simp
                        with_reducible rfl
                      rotate_left
                      · simp only [Act.put, List.setIfInBounds_toArray, List.set_cons_zero, List.set_cons_succ, i64_w, i32_w]
                        rfl
                      refine pure_ (i := 6) (N := some 134) (v := ?_) (a' := ?_) #[false, true, true, true, false, true, true, false, false, false, false] rfl rfl (by kernel_rfl) (fun _ _ _ h => h) (Or.inl ⟨by rfl, ?_⟩) ?_ ?_
                      rotate_left
                      · intro w'
                        go_simp
                        with_reducible rfl
                      rotate_left
                      · simp only [Act.put, List.setIfInBounds_toArray, List.set_cons_zero, List.set_cons_succ, i64_w, i32_w]
                        rfl
                      refine pure_ (i := 7) (N := some 135) (v := ?_) (a' := ?_) #[false, true, true, true, false, true, true, true, false, false, false] rfl rfl (by kernel_rfl) (fun _ _ _ h => h) (Or.inl ⟨by rfl, ?_⟩) ?_ ?_
                      rotate_left
                      · intro w'
                        go_simp
                        with_reducible rfl
                      rotate_left
                      · simp only [Act.put, List.setIfInBounds_toArray, List.set_cons_zero, List.set_cons_succ, i64_w, i32_w]
                        rfl
                      refine pure_ (i := 8) (N := some 136) (v := ?_) (a' := ?_) #[false, true, true, true, false, true, true, true, true, false, false] rfl rfl (by kernel_rfl) (fun _ _ _ h => h) (Or.inl ⟨by rfl, ?_⟩) ?_ ?_
                      rotate_left
                      · intro w'
                        go_simp
                        with_reducible rfl
                      rotate_left
                      · simp only [Act.put, List.setIfInBounds_toArray, List.set_cons_zero, List.set_cons_succ, i64_w, i32_w]
                        rfl
                      refine last_ (i := 0) (N := some 128) #[true, true, true, true, false, true, true, true, true, false, false] rfl rfl (by kernel_rfl) (by decide) (fun K hK => ?_)
                      refine value_ (w1 := ?_) (v := ?_) (by rfl) rfl ?_ ?_
                      rotate_left 2
                      · go_simp
                        constructor
                        · rfl
                        · rfl
                      refine hK.out _ _ ?_
                      clear hK K
                      refine norm_ (a' := ?_) ?_ ?_
                      rotate_left
                      · show Act.put _ (some 128) _ = _
                        simp only [Act.put, List.setIfInBounds_toArray, List.set_cons_zero, List.set_cons_succ, i64_w, i32_w]
                        rfl
                      refine last_ (i := 4) (N := some 132) #[true, true, true, true, true, true, true, true, true, false, false] rfl rfl (by kernel_rfl) (by decide) (fun K hK => ?_)
                      have HTT : TRow (W1.alloc (.cells #[] 25)) (.slice (some ⟨gl, ol, none⟩) i (i + 1)) (L.take i) := HTK.out.below ((Below.refl _ _).alloc (Nat.le_refl _) _)
                      have hli : (L.take i).length = i := by rw [List.length_take]; have := HN1.out.1; omega
                      obtain ⟨A5, c5, w5_, hrun, hr5, hg5, ho5⟩ := run_append_trees (W1.alloc (.cells #[] 25)) (.slice (some ⟨W1.heap.size, 0, none⟩) 0 0) [] (L.take i) ⟨gl, ol, none⟩ (i + 1) 23 (trow_made W1) (trow_cells HTT hli.symm) (by rw [hli]; simp; omega)
                      rw [hli] at hrun
                      refine value_ (w1 := w5_) (v := .slice A5 ([] ++ L.take i).length c5) (by rfl) rfl ?_ ?_
                      · exact exec_append (.tmp 128) (.tmp 131) 23 rfl _ _ rfl rfl hrun
                      refine hK.out _ _ ?_
                      clear hK K
                      refine norm_ (a' := ?_) ?_ ?_
                      rotate_left
                      · show Act.put _ (some 132) _ = _
                        simp only [Act.put, List.setIfInBounds_toArray, List.set_cons_zero, List.set_cons_succ, i64_w, i32_w]
                        rfl
                      refine last_ (i := 9) (N := some 137) #[true, true, true, true, true, true, true, true, true, true, false] rfl rfl (by kernel_rfl) (by decide) (fun K hK => ?_)
                      have HDD : TRow w5_ (.slice (some ⟨gl, ol, none⟩) (nl - (i + 1)) ((i + 1) - (i + 1))) (L.drop (i + 1)) := Sl.move (HD.out.below ((Below.refl _ _).alloc (Nat.le_refl _) _)) fun k hk => hg5.block k ((HD.out.below ((Below.refl _ _).alloc (Nat.le_refl _) _)).lt k hk).1 (fun e => by have := (HD.out.lt k hk).1; cases e; exact absurd this (Nat.lt_irrefl _))
                      have hld : (L.drop (i + 1)).length = nl - (i + 1) := by rw [List.length_drop]; have := HN1.out.1; omega
                      obtain ⟨A6, c6, w6_, hrun6, hr6, hg6, ho6⟩ := run_append_trees w5_ (.slice A5 ([] ++ L.take i).length c5) ([] ++ L.take i) (L.drop (i + 1)) ⟨gl, ol, none⟩ ((i + 1) - (i + 1)) 23 hr5 (trow_cells HDD hld.symm) (by rw [hld, List.nil_append, hli]; have := HN1.out.1; have := HL9.out; omega)
                      rw [hld] at hrun6
                      refine value_ (w1 := w6_) (v := .slice A6 (([] ++ L.take i) ++ L.drop (i + 1)).length c6) (by rfl) rfl ?_ ?_
                      · exact exec_append (.tmp 132) (.tmp 136) 23 rfl _ _ rfl rfl hrun6
                      refine hK.out _ _ ?_
                      clear hK K
                      refine norm_ (a' := ?_) ?_ ?_
                      rotate_left
                      · show Act.put _ (some 137) _ = _
                        simp only [Act.put, List.setIfInBounds_toArray, List.set_cons_zero, List.set_cons_succ, i64_w, i32_w]
                        rfl
                      refine pure_ (i := 10) (N := some 14) (v := ?_) (a' := ?_) #[true, true, true, true, true, true, true, true, true, true, true] rfl rfl (by kernel_rfl) (fun _ _ _ h => h) (Or.inl ⟨by rfl, ?_⟩) ?_ ?_
                      rotate_left
                      · intro w'
                        go_simp
                        with_reducible rfl
                      rotate_left
                      · simp only [Act.put, List.setIfInBounds_toArray, List.set_cons_zero, List.set_cons_succ, i64_w, i32_w]
                        rfl
                      refine done_ (by kernel_rfl) ?_
                      have hB5 : Below W1.heap.size W1 w5_ := below_grown ((Below.refl _ _).alloc (Nat.le_refl _) _) hg5 (fun k hk => by cases hk; exact Nat.le_refl _) (by simp)
                      have hB6 : Below W1.heap.size W1 w6_ := below_grown hB5 hg6 (fun k hk => by
                        rcases ho5 with ho | ho
                        · rw [ho] at hk; cases hk; exact Nat.le_refl _
                        · rw [ho] at hk; cases hk; first | exact Nat.le_succ _ | simp) hB5.size
                      have hr6' : TRow w6_ (.slice A6 ([] ++ L.take i ++ L.drop (i + 1)).length c6) (lf lo (us lo ln (j + 1))) := by
                        have h := hr6
                        rw [List.nil_append, HC.out.2] at h ⊢
                        exact h
                      have hl6 : ([] ++ L.take i ++ L.drop (i + 1)).length = (lf lo (us lo ln (j + 1))).length := by rw [List.nil_append, HC.out.2]
                      have H9 : Hid (([] ++ L.take i ++ L.drop (i + 1)).length = (lf lo (us lo ln (j + 1))).length ∧ n' = (freeN un lo.length).length ∧ Pk w w6_ (.slice Ao lo.length co) (.slice (some ⟨gn, on, none⟩) ln.length cn) (.slice A7 ln.length c7) (.slice A6 ([] ++ L.take i ++ L.drop (i + 1)).length c6) (.slice A'' n' c'') lo ln (lf lo (us lo ln (j + 1))) (freeL un lo.length) b (kc lo ln ln.length)) := Lib.hid ⟨hl6, HN1.out.2, (HZ.out.got.below hB6), (HZ.out.below hB6).mp, hr6', (HZ.out.below hB6).gon⟩
                      have hlx : (([] : List Tr) ++ L.take i ++ L.drop (i + 1)).length = i + (nl - (i + 1)) := by rw [List.length_append, List.nil_append, hli, hld]
                      rw [hlx] at H9
                      have HKC := Lib.hid HC.out.1
                      clear hB5 hB6 hr6 hr6' hl6 hr5 hg5 hg6 ho5 ho6 hrun hrun6 HTT HDD hli hld hlx HZ HTK HD hHeld
                      go_wp2_with fail
                      go_meet
                      case rel => exact ⟨i + (nl - (i + 1)), c6, A6, by rw [HKC.out]; rfl, rfl, H9⟩
                    · rw [if_neg hci] at HD
                      have hci' : ((cl : Int) == (i : Int) + 1) = false := by simp; omega
                      refine start_ (n := 11) (S := fun w' => Below w11.drew.heap.size w11.drew w') (ds := [0, 4, 9]) #[false, false, false, false, false, false, false, false, false, false, false] (by kernel_rfl) rfl rfl (S0) (fun hHeld => ?_)
                      clear S0
                      generalize w11.drew = W1 at HZ HTK HD hHeld ⊢
                      refine pure_ (i := 1) (N := some 129) (v := ?_) (a' := ?_) #[false, true, false, false, false, false, false, false, false, false, false] rfl rfl (by kernel_rfl) (fun _ _ _ h => h) (Or.inl ⟨by rfl, ?_⟩) ?_ ?_
                      rotate_left
                      · intro w'
                        go_simp
                        with_reducible rfl
                      rotate_left
                      · simp only [Act.put, List.setIfInBounds_toArray, List.set_cons_zero, List.set_cons_succ, i64_w, i32_w]
                        rfl
                      refine pure_ (i := 2) (N := some 130) (v := ?_) (a' := ?_) #[false, true, true, false, false, false, false, false, false, false, false] rfl rfl (by kernel_rfl) (fun _ _ _ h => h) (Or.inl ⟨by rfl, ?_⟩) ?_ ?_
                      rotate_left
                      · intro w'
                        go_simp
                        with_reducible rfl
                      rotate_left
                      · simp only [Act.put, List.setIfInBounds_toArray, List.set_cons_zero, List.set_cons_succ, i64_w, i32_w]
                        rfl
                      refine pure_ (i := 3) (N := some 131) (v := ?_) (a' := ?_) #[false, true, true, true, false, false, false, false, false, false, false] rfl rfl (by kernel_rfl) (fun _ _ _ h => h) (Or.inl ⟨by rfl, ?_⟩) ?_ ?_
                      rotate_left
                      · intro w'
                        go_simp
                        with_reducible rfl
                      rotate_left
                      · simp only [Act.put, List.setIfInBounds_toArray, List.set_cons_zero, List.set_cons_succ, i64_w, i32_w]
                        rfl
                      refine pure_ (i := 5) (N := some 133) (v := ?_) (a' := ?_) #[false, true, true, true, false, true, false, false, false, false, false] rfl rfl (by kernel_rfl) (fun _ _ _ h => h) (Or.inl ⟨by rfl, ?_⟩) ?_ ?_
                      rotate_left
                      · intro w'
                        go_simp
                        with_reducible rfl
                      rotate_left
                      · simp only [Act.put, List.setIfInBounds_toArray, List.set_cons_zero, List.set_cons_succ, i64_w, i32_w]
                        rfl
                      refine pure_ (i := 6) (N := some 134) (v := ?_) (a' := ?_) #[false, true, true, true, false, true, true, false, false, false, false] rfl rfl (by kernel_rfl) (fun _ _ _ h => h) (Or.inl ⟨by rfl, ?_⟩) ?_ ?_
                      rotate_left
                      · intro w'
                        go_simp
                        with_reducible rfl
                      rotate_left
                      · simp only [Act.put, List.setIfInBounds_toArray, List.set_cons_zero, List.set_cons_succ, i64_w, i32_w]
                        rfl
                      refine pure_ (i := 7) (N := some 135) (v := ?_) (a' := ?_) #[false, true, true, true, false, true, true, true, false, false, false] rfl rfl (by kernel_rfl) (fun _ _ _ h => h) (Or.inl ⟨by rfl, ?_⟩) ?_ ?_
                      rotate_left
                      · intro w'
                        go_simp
                        with_reducible rfl
                      rotate_left
                      · simp only [Act.put, List.setIfInBounds_toArray, List.set_cons_zero, List.set_cons_succ, i64_w, i32_w]
                        rfl
                      refine pure_ (i := 8) (N := some 136) (v := ?_) (a' := ?_) #[false, true, true, true, false, true, true, true, true, false, false] rfl rfl (by kernel_rfl) (fun _ _ _ h => h) (Or.inl ⟨by rfl, ?_⟩) ?_ ?_
                      rotate_left
                      · intro w'
                        go_simp
                        with_reducible rfl
                      rotate_left
                      · simp only [Act.put, List.setIfInBounds_toArray, List.set_cons_zero, List.set_cons_succ, i64_w, i32_w]
                        rfl
                      refine last_ (i := 0) (N := some 128) #[true, true, true, true, false, true, true, true, true, false, false] rfl rfl (by kernel_rfl) (by decide) (fun K hK => ?_)
                      refine value_ (w1 := ?_) (v := ?_) (by rfl) rfl ?_ ?_
                      rotate_left 2
                      · go_simp
                        constructor
                        · rfl
                        · rfl
                      refine hK.out _ _ ?_
                      clear hK K
                      refine norm_ (a' := ?_) ?_ ?_
                      rotate_left
                      · show Act.put _ (some 128) _ = _
                        simp only [Act.put, List.setIfInBounds_toArray, List.set_cons_zero, List.set_cons_succ, i64_w, i32_w]
                        rfl
                      refine last_ (i := 4) (N := some 132) #[true, true, true, true, true, true, true, true, true, false, false] rfl rfl (by kernel_rfl) (by decide) (fun K hK => ?_)
                      have HTT : TRow (W1.alloc (.cells #[] 25)) (.slice (some ⟨gl, ol, none⟩) i cl) (L.take i) := HTK.out.below ((Below.refl _ _).alloc (Nat.le_refl _) _)
                      have hli : (L.take i).length = i := by rw [List.length_take]; have := HN1.out.1; omega
                      obtain ⟨A5, c5, w5_, hrun, hr5, hg5, ho5⟩ := run_append_trees (W1.alloc (.cells #[] 25)) (.slice (some ⟨W1.heap.size, 0, none⟩) 0 0) [] (L.take i) ⟨gl, ol, none⟩ cl 23 (trow_made W1) (trow_cells HTT hli.symm) (by rw [hli]; simp; omega)
                      rw [hli] at hrun
                      refine value_ (w1 := w5_) (v := .slice A5 ([] ++ L.take i).length c5) (by rfl) rfl ?_ ?_
                      · exact exec_append (.tmp 128) (.tmp 131) 23 rfl _ _ rfl rfl hrun
                      refine hK.out _ _ ?_
                      clear hK K
                      refine norm_ (a' := ?_) ?_ ?_
                      rotate_left
                      · show Act.put _ (some 132) _ = _
                        simp only [Act.put, List.setIfInBounds_toArray, List.set_cons_zero, List.set_cons_succ, i64_w, i32_w]
                        rfl
                      refine last_ (i := 9) (N := some 137) #[true, true, true, true, true, true, true, true, true, true, false] rfl rfl (by kernel_rfl) (by decide) (fun K hK => ?_)
                      have HDD : TRow w5_ (.slice (some ⟨gl, ol + (i + 1) * 5, none⟩) (nl - (i + 1)) (cl - (i + 1))) (L.drop (i + 1)) := Sl.move (HD.out.below ((Below.refl _ _).alloc (Nat.le_refl _) _)) fun k hk => hg5.block k ((HD.out.below ((Below.refl _ _).alloc (Nat.le_refl _) _)).lt k hk).1 (fun e => by have := (HD.out.lt k hk).1; cases e; exact absurd this (Nat.lt_irrefl _))
                      have hld : (L.drop (i + 1)).length = nl - (i + 1) := by rw [List.length_drop]; have := HN1.out.1; omega
                      obtain ⟨A6, c6, w6_, hrun6, hr6, hg6, ho6⟩ := run_append_trees w5_ (.slice A5 ([] ++ L.take i).length c5) ([] ++ L.take i) (L.drop (i + 1)) ⟨gl, ol + (i + 1) * 5, none⟩ (cl - (i + 1)) 23 hr5 (trow_cells HDD hld.symm) (by rw [hld, List.nil_append, hli]; have := HN1.out.1; have := HL9.out; omega)
                      rw [hld] at hrun6
                      refine value_ (w1 := w6_) (v := .slice A6 (([] ++ L.take i) ++ L.drop (i + 1)).length c6) (by rfl) rfl ?_ ?_
                      · exact exec_append (.tmp 132) (.tmp 136) 23 rfl _ _ rfl rfl hrun6
                      refine hK.out _ _ ?_
                      clear hK K
                      refine norm_ (a' := ?_) ?_ ?_
                      rotate_left
                      · show Act.put _ (some 137) _ = _
                        simp only [Act.put, List.setIfInBounds_toArray, List.set_cons_zero, List.set_cons_succ, i64_w, i32_w]
                        rfl
                      refine pure_ (i := 10) (N := some 14) (v := ?_) (a' := ?_) #[true, true, true, true, true, true, true, true, true, true, true] rfl rfl (by kernel_rfl) (fun _ _ _ h => h) (Or.inl ⟨by rfl, ?_⟩) ?_ ?_
                      rotate_left
                      · intro w'
                        go_simp
                        with_reducible rfl
                      rotate_left
                      · simp only [Act.put, List.setIfInBounds_toArray, List.set_cons_zero, List.set_cons_succ, i64_w, i32_w]
                        rfl
                      refine done_ (by kernel_rfl) ?_
                      have hB5 : Below W1.heap.size W1 w5_ := below_grown ((Below.refl _ _).alloc (Nat.le_refl _) _) hg5 (fun k hk => by cases hk; exact Nat.le_refl _) (by simp)
                      have hB6 : Below W1.heap.size W1 w6_ := below_grown hB5 hg6 (fun k hk => by
                        rcases ho5 with ho | ho
                        · rw [ho] at hk; cases hk; exact Nat.le_refl _
                        · rw [ho] at hk; cases hk; first | exact Nat.le_succ _ | simp) hB5.size
                      have hr6' : TRow w6_ (.slice A6 ([] ++ L.take i ++ L.drop (i + 1)).length c6) (lf lo (us lo ln (j + 1))) := by
                        have h := hr6
                        rw [List.nil_append, HC.out.2] at h ⊢
                        exact h
                      have hl6 : ([] ++ L.take i ++ L.drop (i + 1)).length = (lf lo (us lo ln (j + 1))).length := by rw [List.nil_append, HC.out.2]
                      have H9 : Hid (([] ++ L.take i ++ L.drop (i + 1)).length = (lf lo (us lo ln (j + 1))).length ∧ n' = (freeN un lo.length).length ∧ Pk w w6_ (.slice Ao lo.length co) (.slice (some ⟨gn, on, none⟩) ln.length cn) (.slice A7 ln.length c7) (.slice A6 ([] ++ L.take i ++ L.drop (i + 1)).length c6) (.slice A'' n' c'') lo ln (lf lo (us lo ln (j + 1))) (freeL un lo.length) b (kc lo ln ln.length)) := Lib.hid ⟨hl6, HN1.out.2, (HZ.out.got.below hB6), (HZ.out.below hB6).mp, hr6', (HZ.out.below hB6).gon⟩
                      have hlx : (([] : List Tr) ++ L.take i ++ L.drop (i + 1)).length = i + (nl - (i + 1)) := by rw [List.length_append, List.nil_append, hli, hld]
                      rw [hlx] at H9
                      have HKC := Lib.hid HC.out.1
                      clear hB5 hB6 hr6 hr6' hl6 hr5 hg5 hg6 ho5 ho6 hrun hrun6 HTT HDD hli hld hlx HZ HTK HD hHeld
                      go_wp2_with fail
                      go_meet
                      case rel => exact ⟨i + (nl - (i + 1)), c6, A6, by rw [HKC.out]; rfl, rfl, H9⟩
                  · have hsm' : sm s t = false := Bool.eq_false_iff.2 hsm
                    have HI3 : Hid ((∀ i' < i + 1, sm (g_ L i') t = false) ∧ Below w8.heap.size w8 w11) := Lib.hid ⟨fun i' h => by
                      rcases Nat.lt_succ_iff_lt_or_eq.1 h with h | h
                      · exact HI2.out.1 i' h
                      · rw [h, HS.out]; exact hsm', HI2.out.2⟩
                    by_cases ea : s.a = t.a
                    · have eb : ¬ s.b = t.b := fun e => hsm (sm_iff.2 ⟨ea, e⟩)
                      rw [decide_eq_true ea] at hs0
                      rw [decide_eq_false eb] at hs1
                      clear hsm hsm' ea eb HI2
                      go_wp2_with fail
                      go_roundw
                      case rel => exact ⟨i + 1, rfl, rfl, by go_num, by omega, HI3⟩
                      case measure => first | (simp; omega) | simp
                    · rw [decide_eq_false ea] at hs0
                      clear hsm hsm' ea HI2
                      go_wp2_with fail
                      go_roundw
                      case rel => exact ⟨i + 1, rfl, rfl, by go_num, by omega, HI3⟩
                      case measure => first | (simp; omega) | simp
                · have i1 : ¬ (i : Int) < (nl : Int) := by omega
                  obtain rfl : i = nl := by omega
                  have hno : fst_ lo u t = none := free_none lo u t (by rw [HLL.out, ← HJ2.out.1]; exact HI.out.1)
                  have hus := HU.out.1
                  have hkc := HU.out.2
                  rw [hno] at hus hkc
                  rw [setU_none] at hus
                  have H9 : Hid (i = (lf lo (us lo ln (j + 1))).length ∧ n' = (freeN un lo.length).length ∧ Pk w wr (.slice Ao lo.length co) (.slice (some ⟨gn, on, none⟩) ln.length cn) (.slice A7 ln.length c7) (.slice Al i cl) (.slice A'' n' c'') lo ln (lf lo (us lo ln (j + 1))) (freeL un lo.length) b (kc lo ln ln.length)) := Lib.hid (by
                    rw [hus, HLL.out]
                    exact ⟨HJ2.out.1, HJ2.out.2.1, HJ2.out.2.2.below HI.out.2⟩)
                  have HKC := Lib.hid hkc
                  clear hno hus hkc HI HJ2
                  go_wp2_with fail
                  go_meet
                  case rel => exact ⟨i, cl, Al, by rw [HKC.out]; rfl, rfl, H9⟩
            case rest =>
              obtain ⟨nl', cl', Al', rfl, rfl, H9⟩ := hcut
              clear HJ
              go_wp2_with fail
              go_roundw
              case rel => exact ⟨j + 1, nl', cl', Al', rfl, rfl, by go_num, by omega, H9⟩
              case measure => first | (simp; omega) | simp
          · have j1 : ¬ (j : Int) < (ln.length : Int) := by omega
            obtain rfl : j = ln.length := by omega
            clear hj d1 j0
            go_wp2_with fail
            refine (Kept_row HJ.out.2.2.got.frm (refP_len _ _ _).symm (kept_cnt _ (by rw [refP_len]; have := HL.out.2.1; omega))).mono ?_
            rintro e w21 ⟨rfl, hB21⟩
            have H21 := Lib.hid (And.intro HJ.out.2.1 (HJ.out.2.2.below hB21))
            clear HJ hB21
            obtain ⟨t, f, ht9, hmap⟩ := H21.out.2.mp
            have hlen := hmap.len Try.underlying33 3
            clear hmap ht9
            have hkk : ((refP lo ln ln.length).countP (fun y => decide (0 ≤ y)) : Int) = (kc lo ln ln.length : Int) := rfl
            rw [hkk]
            have hG := Gone_any lo.length (.slice A7 ln.length c7) (refP lo ln ln.length) w21 (by have h := H21.out.2.got.frm; exact h) (by rw [refP_len]; have := HL.out.2.1; omega) (fun x hx => by
              obtain ⟨y, hy, rfl⟩ := List.mem_map.1 hx
              have h1 := el_lo lo ln y
              have := HL.out.1.1
              simp [Lit.wf, IntKind.min, IntKind.max, IntKind.signed, IntKind.bits]; omega) (by have := HL.out.1.1; omega)
            rw [gone_free, HUN.out] at hG
            go_wp2_with fail
            refine hG.mono ?_
            rintro e w24 ⟨A24, c24, rfl, hr24, hB24, hf24⟩
            have H24 := Lib.hid (And.intro H21.out.1 (And.intro hr24 (H21.out.2.below hB24)))
            clear hG H21 hr24 hB24 hf24 hlen
            have hfl : n' = (freeL un lo.length).length := by unfold freeL; rw [List.length_map]; exact H24.out.1
            have HFL := Lib.hid hfl
            clear hfl
            go_wp2_with fail
            refine (Same_rows H24.out.2.1 rfl H24.out.2.2.gon HFL.out (same_self _ (by have := H24.out.1; have := HFL.out; have := freeN_len un lo.length; have := HL.out.1.1; omega))).mono ?_
            rintro e w25 ⟨rfl, hB25⟩
            have H25 := Lib.hid (H24.out.2.2.got.below hB25).low
            clear H24 hB25
            go_wp2_with fail
            refine (MatchRuns_any w25).mono ?_
            rintro e w28 ⟨rfl, hB28⟩
            have H28 := Lib.hid (H25.out.trans (hB28.mono H25.out.size))
            clear H25 hB28
            go_wp2_with fail
            go_ret
            exact ⟨rfl, H28.out⟩
end Go.Proofs.Ytjpknhemnfokaaa.Mt
