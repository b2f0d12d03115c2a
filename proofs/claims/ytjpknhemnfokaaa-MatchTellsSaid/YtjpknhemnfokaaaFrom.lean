/- Package match: From (printed by wip/law14/gen_From.py out of From.body). -/
import Derived.Test.YtjpknhemnfokaaaMatch
import Derived.Test.YtjpknhemnfokaaaWLast
import Derived.Lib.MinMax
import Derived.Lib.Hide
import Derived.WalkLawsBesides
import Derived.BigQuiet
import Derived.Deep.QuietTactic
import Derived.Deep.LoopGhost
import Derived.Deep.DeepCutAuto
import Derived.Deep.CutBlock
set_option linter.unusedVariables false
set_option linter.unusedSimpArgs false
namespace Go.Proofs.Ytjpknhemnfokaaa.Mt
open Go.RowKit Go.Maps Go.Proofs.YtjpknhemnfokaaaW.PrintWords Go.Proofs.YtjpknhemnfokaaaW.PrintLast Go.Proofs.Ytjpknhemnfokaaa.Sl Go.Proofs.Ytjpknhemnfokaaa.Mv

abbrev kk (t : Tr) : Lit := kq t.a t.b
/-- The places of each key ahead of i. -/
noncomputable def places (l : List Tr) : Nat → Lit → List Int
  | 0 => fun _ => []
  | i + 1 => match l[i]? with
    | some t => upd (places l i) (kk t) (places l i (kk t) ++ [(i : Int)])
    | none => places l i
theorem places_succ (l : List Tr) (i : Nat) (h : i < l.length) : places l (i + 1) = upd (places l i) (kk l[i]) (places l i (kk l[i]) ++ [(i : Int)]) := by
  simp only [places, List.getElem?_eq_getElem h]
theorem places_len (l : List Tr) (i : Nat) (k : Lit) : (places l i k).length ≤ i := by
  induction i with
  | zero => simp [places]
  | succ i ih =>
    simp only [places]
    cases e : l[i]? with
    | none => simp only; omega
    | some t =>
      simp only [upd]
      split
      · subst_vars
        simp
        exact ih
      · omega
theorem exec_append {P : Program} {o : Oper} {a : Act} {w w1 : World} {v : Value} (s x : Operand) (t : TypeId) (ho : o.op = .call { callee := .builtin .append, args := #[s, x], argTypes := #[t, t] }) (vs vx : Value) (hs : a.eval s = vs) (hx : a.eval x = vx) (hr : (Builtin.append_ #[t, t] o.type #[vs, vx]).run P w = .ok v w1) : (execOp a.eval o).run P w = .ok (.value v) w1 := by
  unfold execOp
  simp only [ho, resolve, invoke, builtin, Sem.run_bind, Sem.run_pure, Result.andThen_ok, List.map_toArray, List.map_cons, List.map_nil, hs, hx, hr]
theorem exec_put {P : Program} {o : Oper} {a : Act} {w w1 : World} (m x v : Operand) (t : TypeId) (ho : o.op = .mapUpdate t m x v) (vm vx vv : Value) (hm : a.eval m = vm) (hx : a.eval x = vx) (hv : a.eval v = vv) (hr : (Instr.mapUpdate t vm vx vv).run P w = .ok () w1) : (execOp a.eval o).run P w = .ok .skip w1 := by
  unfold execOp
  simp only [ho, hm, hx, hv, Sem.run_bind, hr, Result.andThen_ok, Sem.run_pure]
theorem one_cell {w : World} {q : Nat} {x : Int} (h : w.heap[q]? = some (.cells #[.int .i64 x] 3 (0, 0))) : ∀ j u, ([x].map (Value.int .i64 ·))[j]? = some u → w.cell? ((⟨q, 0, none⟩ : Addr).add j) = some u := fun j u hu => by
  rcases j with _ | j
  · cases hu
    simp [World.cell?, Addr.add, h]
  · simp at hu
theorem tail_if {w : World} {g o c : Nat} {x : Int} {l : List Int} (h : IRow w (.slice (some ⟨g, o, none⟩) (l.length + 1) c) (x :: l)) : IRow w (.slice (if c = 1 then some ⟨g, o, none⟩ else some ⟨g, o + 1, none⟩) l.length (c - 1)) l := by
  have h1 := h.tail
  split
  · rename_i e
    rw [if_pos e] at h1
    exact h1
  · rename_i e
    rw [if_neg e] at h1
    exact h1
theorem Left.other {w0 w w' : World} {b n : Nat} {f : Lit → Option Value} {p : Lit → List Int} {X : Option Nat} (h : Left w0 w b n f p) (hg : w.grownBy w' X) (hX : ∀ k, X = some k → w0.heap.size ≤ k ∧ k ≠ b ∧ ∀ kl, (at_ f kl).ownBlock ≠ some k) : Left w0 w' b n f p := by
  obtain ⟨m, hm⟩ := h.map
  exact ⟨below_grown h.low hg (fun k hk => (hX k hk).1) h.low.size, ⟨m, hm.grown hg (fun e => (hX b e).2.1 rfl)⟩, h.mb, fun kl => Sl.move (h.row kl) fun k hk => hg.block k ((h.row kl).lt k hk).1 (fun e => (hX k e.symm).2.2 kl hk), h.apart, h.fresh⟩
/-- .. and the row that is made. -/
structure FS (w0 w : World) (b n : Nat) (f : Lit → Option Value) (p : Lit → List Int) (vo : Value) (out : List Int) : Prop where
  left : Left w0 w b n f p
  row : IRow w vo out
  fresh : ∀ q, vo.ownBlock = some q → w0.heap.size ≤ q ∧ ∀ kl, (at_ f kl).ownBlock ≠ some q
section
variable {w0 w w' : World} {b n : Nat} {f : Lit → Option Value} {p : Lit → List Int} {vo vo' v' key : Value} {out out' q : List Int} {kl : Lit}
theorem FS.below (h : FS w0 w b n f p vo out) (hB : Below w.heap.size w w') : FS w0 w' b n f p vo out := ⟨h.left.below hB, h.row.below hB, h.fresh⟩
theorem FS.push (h : FS w0 w b n f p vo out) (hg : w.grownBy w' vo.ownBlock) (hr : IRow w' vo' out') (ho : vo'.ownBlock = vo.ownBlock ∨ vo'.ownBlock = some w.heap.size) : FS w0 w' b n f p vo' out' := by
  obtain ⟨m, hm⟩ := h.left.map
  refine ⟨h.left.other hg fun k hk => ⟨(h.fresh k hk).1, fun e => ?_, (h.fresh k hk).2⟩, hr, fun k hk => ?_⟩
  · obtain ⟨_, cur, hc⟩ := h.row.lt k hk
    exact hm.ne hc e.symm
  · rcases ho with ho | ho
    · exact h.fresh k (by rw [← ho]; exact hk)
    · rw [ho] at hk
      cases hk
      exact ⟨h.left.low.size, fun kl e => absurd ((h.left.row kl).lt _ e).1 (Nat.lt_irrefl _)⟩
theorem FS.cut (h : FS w0 w b n f p vo out) (hr : IRow w v' q) (ho : v'.ownBlock = (at_ f kl).ownBlock) (hn : n < maxLen) (hkey : keyOf Try.prog 39 key = some kl) :
    ∃ w4, (Instr.mapUpdate 37 (.map (some b)) key v').run Try.prog w = .ok () w4 ∧ FS w0 w4 b (n + 1) (upd f kl (some v')) (upd p kl q) vo out := by
  obtain ⟨w4, hrun, hL, hg⟩ := h.left.put (World.grownBy.refl w _) hr (.inl ho) hn hkey
  obtain ⟨m, hm⟩ := h.left.map
  refine ⟨w4, hrun, hL, Sl.move h.row fun k hk => hg.block k (h.row.lt k hk).1 (fun e => ?_), fun k hk => ⟨(h.fresh k hk).1, fun x => ?_⟩⟩
  · obtain ⟨_, cur, hc⟩ := h.row.lt k hk
    cases e
    exact hm.ne hc rfl
  · by_cases e : x = kl
    · subst e
      rw [at_, upd_same]
      show v'.ownBlock ≠ _
      rw [ho]
      exact (h.fresh k hk).2 _
    · rw [at_, upd_other _ _ e]
      exact (h.fresh k hk).2 x
end
/-- From which each goes on. -/
noncomputable def fromGo : (Lit → List Int) → List Tr → List Int
  | _, [] => []
  | p, t :: r => match p (kk t) with
    | [] => -1 :: fromGo p r
    | x :: xs => x :: fromGo (upd p (kk t) xs) r
noncomputable def fromL (lo ln : List Tr) : List Int := fromGo (places lo lo.length) ln
set_option maxHeartbeats 8000000 in
set_option maxRecDepth 1000000 in
theorem From_any (vo vn : Value) (lo ln : List Tr) (w : World) (ho : TRow w vo lo) (hlo : lo.length ≤ 1000) (hso : ∀ t ∈ lo, t.a.size ≤ maxLen ∧ t.b.size ≤ maxLen) (hn : TRow w vn ln) (hln : ln.length ≤ 1000) (hsn : ∀ t ∈ ln, t.a.size ≤ maxLen ∧ t.b.size ≤ maxLen) : Calls Try.prog 6 #[vo, vn] w fun e w' => ∃ A c, e = .returned (.slice A ln.length c) ∧ IRow w' (.slice A ln.length c) (fromL lo ln) ∧ Below w.heap.size w w' ∧ ∀ k, (Value.slice A ln.length c).ownBlock = some k → w.heap.size ≤ k := by
  obtain ⟨A1, c1, rfl, hc1⟩ := hn.form
  have HN := Lib.hid (And.intro hn (And.intro hln (And.intro hsn hc1)))
  clear hn hln hsn hc1
  obtain ⟨A0, c0, rfl, hc0⟩ := ho.form
  have HO := Lib.hid (And.intro ho (And.intro hlo (And.intro hso hc0)))
  clear ho hlo hso hc0
  have hmm := @Go.RowKit.run_makeMap Try.prog
  go_enter Try.func6, Try.ntmps6
  go_wp2_with fail
  clear hmm
  obtain ⟨b, hb⟩ : ∃ b, w.heap.size = b := ⟨_, rfl⟩
  have H1 : Hid (Left w (w.alloc (.map #[] 0)) b 0 (fun _ => none) (fun _ => [])) := Lib.hid (by rw [← hb]; exact Left.made (Below.refl _ _))
  rw [hb]
  clear hb
  generalize w.alloc (.map #[] 0) = w1 at H1 ⊢
  go_loopw [15] (fun t15 wr => ∃ (i n : Nat) (f : Lit → Option Value), t15 = .int .i64 (i : Int) ∧ i ≤ lo.length ∧ n ≤ i ∧ Hid (Left w wr b n f (places lo i))) (fun t _ => match t with | .int _ q => (lo.length - q).toNat | _ => 0)
  case atStart => exact ⟨0, 0, _, rfl, by omega, by omega, H1⟩
  case round =>
    obtain ⟨i, n, f, rfl, hi, hn, HI⟩ := hrel
    clear H1
    have g0 : (0 : Int) ≤ (i : Int) := by omega
    by_cases d1 : i < lo.length
    · have g1 : (i : Int) < (lo.length : Int) := by omega
      have g2 : (i : Int) ≤ 1000 := by have := HO.out.2.1; omega
      obtain ⟨g, o, c', e0, hc1⟩ := HO.out.1.form1 (by omega)
      cases e0
      obtain ⟨t, ht⟩ : ∃ t, lo[i] = t := ⟨_, rfl⟩
      have hcs := TRow.cells HO.out.1 rfl i d1
      rw [ht] at hcs
      have hcell : ∀ {ad' : Addr} {u : Value}, w.cell? ad' = some u → wr.cell? ad' = some u := fun h => (HI.out.low.cell (World.block_lt_of_cell? _ _ h)).trans h
      have a0 := hcell hcs.1
      have a1 := hcell hcs.2.1
      have a2 := hcell hcs.2.2.1
      have a3 := hcell hcs.2.2.2.1
      have a4 := hcell hcs.2.2.2.2
      have hsz := HO.out.2.2.1 t (by rw [← ht]; exact List.getElem_mem d1)
      have hk := kq_key t.a t.b hsz.1 hsz.2
      have hpl := places_succ lo i d1
      rw [ht] at hpl
      have HT := Lib.hid (And.intro hk hpl)
      clear hcell hcs hsz hk hpl ht
      go_upto_region 5 with fail
      generalize hW0 : wr.alloc (.cells #[.string t.a, .string t.b, .string t.c, .slice none 0 0, .slice none 0 0] 25) = W0
      have hK : W0.heap[wr.heap.size]? = some (.cells #[.string t.a, .string t.b, .string t.c, .slice none 0 0, .slice none 0 0] 25 (0, 0)) := by rw [← hW0]; exact heap_alloc_new _ _
      have HL : Hid (Left w W0.drew b n f (places lo i)) := Lib.hid (HI.out.below (by rw [← hW0]; exact pw_below_drewN ((Below.refl _ _).alloc (Nat.le_refl _) _) 1))
      generalize wr.heap.size = K at hK ⊢
      have HX : Hid (∀ w', Below W0.drew.heap.size W0.drew w' → w'.cell? ⟨K, 0, none⟩ = some (.string t.a) ∧ w'.cell? ⟨K, 1, none⟩ = some (.string t.b) ∧ w'.cell? ⟨K, 2, none⟩ = some (.string t.c) ∧ w'.cell? ⟨K, 3, none⟩ = some (.slice none 0 0) ∧ w'.cell? ⟨K, 4, none⟩ = some (.slice none 0 0) ∧ (Instr.lookup 37 (.map (some b)) (.agg #[.string t.a, .string t.b]) false).run Try.prog w' = .ok (at_ f (kk t)) w') := Lib.hid fun w' hB => by
        have h1 : w'.heap[K]? = _ := (hB.block K (Array.getElem?_eq_some_iff.1 hK).1).trans hK
        obtain ⟨m, hm⟩ := (HL.out.below hB).map
        refine ⟨by simp [World.cell?, h1], by simp [World.cell?, h1], by simp [World.cell?, h1], by simp [World.cell?, h1], by simp [World.cell?, h1], ?_⟩
        exact hm.get klaw Try.underlying37 (kzero w') HT.out.1
      have S0 : Below W0.drew.heap.size W0.drew W0.drew := Below.refl _ _
      clear hK hW0 a0 a1 a2 a3 a4 HI
      refine start_ (n := 11) (S := fun w' => Below W0.drew.heap.size W0.drew w' ∧ w'.cell? ⟨K, 0, none⟩ = some (.string t.a) ∧ w'.cell? ⟨K, 1, none⟩ = some (.string t.b) ∧ w'.cell? ⟨K, 2, none⟩ = some (.string t.c) ∧ w'.cell? ⟨K, 3, none⟩ = some (.slice none 0 0) ∧ w'.cell? ⟨K, 4, none⟩ = some (.slice none 0 0) ∧ (Instr.lookup 37 (.map (some b)) (.agg #[.string t.a, .string t.b]) false).run Try.prog w' = .ok (at_ f (kk t)) w') (ds := [9, 10]) #[false, false, false, false, false, false, false, false, false, false, false] (by kernel_rfl) rfl rfl ⟨S0, (HX.out _ S0).1, (HX.out _ S0).2.1, (HX.out _ S0).2.2.1, (HX.out _ S0).2.2.2.1, (HX.out _ S0).2.2.2.2.1, (HX.out _ S0).2.2.2.2.2⟩ (fun hHeld => ?_)
      clear S0
      generalize hW1 : W0.drew = W1 at *
      refine pure_ (i := 0) (N := some 20) (v := ?_) (a' := ?_) #[true, false, false, false, false, false, false, false, false, false, false] rfl rfl (by kernel_rfl) (fun _ _ _ h => h) (Or.inl ⟨by rfl, ?_⟩) ?_ ?_
      rotate_left
      · intro w'
        go_simp
        with_reducible rfl
      rotate_left
      · simp only [Act.put, List.setIfInBounds_toArray, List.set_cons_zero, List.set_cons_succ, i64_w, i32_w]
        rfl
      refine pure_ (i := 3) (N := some 23) (v := ?_) (a' := ?_) #[true, false, false, true, false, false, false, false, false, false, false] rfl rfl (by kernel_rfl) (fun _ _ _ h => h) (Or.inl ⟨by rfl, ?_⟩) ?_ ?_
      rotate_left
      · intro w'
        go_simp
        with_reducible rfl
      rotate_left
      · simp only [Act.put, List.setIfInBounds_toArray, List.set_cons_zero, List.set_cons_succ, i64_w, i32_w]
        rfl
      refine pure_ (i := 7) (N := some 27) (v := ?_) (a' := ?_) #[true, false, false, true, false, false, false, true, false, false, false] rfl rfl (by kernel_rfl) (fun _ _ _ h => h) (Or.inl ⟨by rfl, ?_⟩) ?_ ?_
      rotate_left
      · intro w'
        go_simp
        with_reducible rfl
      rotate_left
      · simp only [Act.put, List.setIfInBounds_toArray, List.set_cons_zero, List.set_cons_succ, i64_w, i32_w]
        rfl
      refine take_ (i := 1) (N := some 21) (v := ?_) (a' := ?_) #[true, true, false, true, false, false, false, true, false, false, false] rfl rfl (by kernel_rfl) (fun _ _ _ h => h) (Or.inl ⟨by rfl, ?_⟩) hHeld ?_ ?_
      rotate_left
      · rintro w' ⟨s0, s1, s2, s3, s4, s5, s6⟩
        go_simp
        with_reducible rfl
      rotate_left
      · simp only [Act.put, List.setIfInBounds_toArray, List.set_cons_zero, List.set_cons_succ, i64_w, i32_w]
        rfl
      refine take_ (i := 4) (N := some 24) (v := ?_) (a' := ?_) #[true, true, false, true, true, false, false, true, false, false, false] rfl rfl (by kernel_rfl) (fun _ _ _ h => h) (Or.inl ⟨by rfl, ?_⟩) hHeld ?_ ?_
      rotate_left
      · rintro w' ⟨s0, s1, s2, s3, s4, s5, s6⟩
        go_simp
        with_reducible rfl
      rotate_left
      · simp only [Act.put, List.setIfInBounds_toArray, List.set_cons_zero, List.set_cons_succ, i64_w, i32_w]
        rfl
      refine join_ (σ := Nat) 2 #[true, true, true, true, true, true, true, true, true, false, false] (fun s => [(22, .agg #[.string t.a, .string t.b]), (25, .agg #[.string t.a, .string t.b]), (26, at_ f (kk t)), (28, .slice (some ⟨s, 0, none⟩) 1 1)]) (fun s w' => w'.heap[s]? = some (.cells #[.int .i64 (i : Int)] 3 (0, 0)) ∧ W1.heap.size ≤ s ∧ (Below W1.heap.size W1 w' ∧ w'.cell? ⟨K, 0, none⟩ = some (.string t.a) ∧ w'.cell? ⟨K, 1, none⟩ = some (.string t.b) ∧ w'.cell? ⟨K, 2, none⟩ = some (.string t.c) ∧ w'.cell? ⟨K, 3, none⟩ = some (.slice none 0 0) ∧ w'.cell? ⟨K, 4, none⟩ = some (.slice none 0 0) ∧ (Instr.lookup 37 (.map (some b)) (.agg #[.string t.a, .string t.b]) false).run Try.prog w' = .ok (at_ f (kk t)) w')) ?_ ?_
      rotate_left
      · intro hCont
        refine two_ (i := 2) (j := 8) (Ni := some 22) (Nj := some 28) #[true, true, true, true, true, false, false, true, false, false, false] #[true, true, false, true, true, false, false, true, true, false, false] rfl rfl rfl rfl (by kernel_rfl) (by decide) (by decide) (fun K hK => ?_) (fun K hK => ?_)
        · skip
          refine goes_ Try.func14 (by kernel_rfl) rfl #[.agg #[.string t.a, .string t.b, .string t.c, .slice none 0 0, .slice none 0 0]] (by rfl) rfl rfl (by simp only [List.map_toArray, List.map_cons, List.map_nil]; rfl) ?_
          with_reducible refine (of_any t _).mono ?_
          rintro en w2 ⟨rfl, hB2⟩
          refine ⟨_, rfl, ?_⟩
          refine hK.out _ _ ⟨(hHeld.1.trans (hB2.mono hHeld.1.size)), (HX.out _ (hHeld.1.trans (hB2.mono hHeld.1.size))).1, (HX.out _ (hHeld.1.trans (hB2.mono hHeld.1.size))).2.1, (HX.out _ (hHeld.1.trans (hB2.mono hHeld.1.size))).2.2.1, (HX.out _ (hHeld.1.trans (hB2.mono hHeld.1.size))).2.2.2.1, (HX.out _ (hHeld.1.trans (hB2.mono hHeld.1.size))).2.2.2.2.1, (HX.out _ (hHeld.1.trans (hB2.mono hHeld.1.size))).2.2.2.2.2⟩ (fun hHeld => ?_)
          clear hK K
          refine norm_ (a' := ?_) ?_ ?_
          rotate_left
          · show Act.put _ (some 22) _ = _
            simp only [Act.put, List.setIfInBounds_toArray, List.set_cons_zero, List.set_cons_succ, i64_w, i32_w]
            rfl
          refine two_ (i := 5) (j := 8) (Ni := some 25) (Nj := some 28) #[true, true, true, true, true, true, false, true, false, false, false] #[true, true, true, true, true, false, false, true, true, false, false] rfl rfl rfl rfl (by kernel_rfl) (by decide) (by decide) (fun K hK => ?_) (fun K hK => ?_)
          · skip
            refine goes_ Try.func14 (by kernel_rfl) rfl #[.agg #[.string t.a, .string t.b, .string t.c, .slice none 0 0, .slice none 0 0]] (by rfl) rfl rfl (by simp only [List.map_toArray, List.map_cons, List.map_nil]; rfl) ?_
            with_reducible refine (of_any t _).mono ?_
            rintro en w5 ⟨rfl, hB5⟩
            refine ⟨_, rfl, ?_⟩
            refine hK.out _ _ ⟨(hHeld.1.trans (hB5.mono hHeld.1.size)), (HX.out _ (hHeld.1.trans (hB5.mono hHeld.1.size))).1, (HX.out _ (hHeld.1.trans (hB5.mono hHeld.1.size))).2.1, (HX.out _ (hHeld.1.trans (hB5.mono hHeld.1.size))).2.2.1, (HX.out _ (hHeld.1.trans (hB5.mono hHeld.1.size))).2.2.2.1, (HX.out _ (hHeld.1.trans (hB5.mono hHeld.1.size))).2.2.2.2.1, (HX.out _ (hHeld.1.trans (hB5.mono hHeld.1.size))).2.2.2.2.2⟩ (fun hHeld => ?_)
            clear hK K
            refine norm_ (a' := ?_) ?_ ?_
            rotate_left
            · show Act.put _ (some 25) _ = _
              simp only [Act.put, List.setIfInBounds_toArray, List.set_cons_zero, List.set_cons_succ, i64_w, i32_w]
              rfl
            refine take_ (i := 6) (N := some 26) (v := ?_) (a' := ?_) #[true, true, true, true, true, true, true, true, false, false, false] rfl rfl (by kernel_rfl) (fun _ _ _ h => h) (Or.inl ⟨by rfl, ?_⟩) hHeld ?_ ?_
            rotate_left
            · rintro w' ⟨s0, s1, s2, s3, s4, s5, s6⟩
              go_simp
              with_reducible rfl
            rotate_left
            · simp only [Act.put, List.setIfInBounds_toArray, List.set_cons_zero, List.set_cons_succ, i64_w, i32_w]
              rfl
            refine one_ (i := 8) (N := some 28) #[true, true, true, true, true, true, true, true, true, false, false] rfl rfl (by kernel_rfl) (by decide) (fun K hK => ?_)
            have hz := hHeld.1.size
            refine value_ (w1 := ?_) (v := ?_) (by rfl) rfl ?_ ?_
            rotate_left 2
            · go_simp
              constructor
              · rfl
              · rfl
            refine hK.out _ _ ⟨(hHeld.1.alloc hHeld.1.size _), (HX.out _ (hHeld.1.alloc hHeld.1.size _)).1, (HX.out _ (hHeld.1.alloc hHeld.1.size _)).2.1, (HX.out _ (hHeld.1.alloc hHeld.1.size _)).2.2.1, (HX.out _ (hHeld.1.alloc hHeld.1.size _)).2.2.2.1, (HX.out _ (hHeld.1.alloc hHeld.1.size _)).2.2.2.2.1, (HX.out _ (hHeld.1.alloc hHeld.1.size _)).2.2.2.2.2⟩ (fun hHeld => ?_)
            clear hK K
            refine norm_ (a' := ?_) ?_ ?_
            rotate_left
            · show Act.put _ (some 28) _ = _
              simp only [Act.put, List.setIfInBounds_toArray, List.set_cons_zero, List.set_cons_succ, i64_w, i32_w]
              rfl
            exact norm_ (by simp only [putAll, Act.put, List.setIfInBounds_toArray, List.set_cons_zero, List.set_cons_succ]) (hCont w5.heap.size _ ⟨heap_alloc_new w5 _, hz, hHeld⟩)
          · skip
            have hz := hHeld.1.size
            refine value_ (w1 := ?_) (v := ?_) (by rfl) rfl ?_ ?_
            rotate_left 2
            · go_simp
              constructor
              · rfl
              · rfl
            refine hK.out _ _ ⟨(hHeld.1.alloc hHeld.1.size _), (HX.out _ (hHeld.1.alloc hHeld.1.size _)).1, (HX.out _ (hHeld.1.alloc hHeld.1.size _)).2.1, (HX.out _ (hHeld.1.alloc hHeld.1.size _)).2.2.1, (HX.out _ (hHeld.1.alloc hHeld.1.size _)).2.2.2.1, (HX.out _ (hHeld.1.alloc hHeld.1.size _)).2.2.2.2.1, (HX.out _ (hHeld.1.alloc hHeld.1.size _)).2.2.2.2.2⟩ (fun hHeld => ?_)
            clear hK K
            refine norm_ (a' := ?_) ?_ ?_
            rotate_left
            · show Act.put _ (some 28) _ = _
              simp only [Act.put, List.setIfInBounds_toArray, List.set_cons_zero, List.set_cons_succ, i64_w, i32_w]
              rfl
            refine one_ (i := 5) (N := some 25) #[true, true, true, true, true, true, false, true, true, false, false] rfl rfl (by kernel_rfl) (by decide) (fun K hK => ?_)
            refine goes_ Try.func14 (by kernel_rfl) rfl #[.agg #[.string t.a, .string t.b, .string t.c, .slice none 0 0, .slice none 0 0]] (by rfl) rfl rfl (by simp only [List.map_toArray, List.map_cons, List.map_nil]; rfl) ?_
            with_reducible refine (of_any t _).mono ?_
            rintro en w5 ⟨rfl, hB5⟩
            refine ⟨_, rfl, ?_⟩
            refine hK.out _ _ ⟨(hHeld.1.trans (hB5.mono hHeld.1.size)), (HX.out _ (hHeld.1.trans (hB5.mono hHeld.1.size))).1, (HX.out _ (hHeld.1.trans (hB5.mono hHeld.1.size))).2.1, (HX.out _ (hHeld.1.trans (hB5.mono hHeld.1.size))).2.2.1, (HX.out _ (hHeld.1.trans (hB5.mono hHeld.1.size))).2.2.2.1, (HX.out _ (hHeld.1.trans (hB5.mono hHeld.1.size))).2.2.2.2.1, (HX.out _ (hHeld.1.trans (hB5.mono hHeld.1.size))).2.2.2.2.2⟩ (fun hHeld => ?_)
            clear hK K
            refine norm_ (a' := ?_) ?_ ?_
            rotate_left
            · show Act.put _ (some 25) _ = _
              simp only [Act.put, List.setIfInBounds_toArray, List.set_cons_zero, List.set_cons_succ, i64_w, i32_w]
              rfl
            refine take_ (i := 6) (N := some 26) (v := ?_) (a' := ?_) #[true, true, true, true, true, true, true, true, true, false, false] rfl rfl (by kernel_rfl) (fun _ _ _ h => h) (Or.inl ⟨by rfl, ?_⟩) hHeld ?_ ?_
            rotate_left
            · rintro w' ⟨s0, s1, s2, s3, s4, s5, s6⟩
              go_simp
              with_reducible rfl
            rotate_left
            · simp only [Act.put, List.setIfInBounds_toArray, List.set_cons_zero, List.set_cons_succ, i64_w, i32_w]
              rfl
            exact norm_ (by simp only [putAll, Act.put, List.setIfInBounds_toArray, List.set_cons_zero, List.set_cons_succ]) (hCont w2.heap.size _ ⟨(hB5.block _ (by simp)).trans (heap_alloc_new w2 _), hz, hHeld⟩)
        · skip
          have hz := hHeld.1.size
          refine value_ (w1 := ?_) (v := ?_) (by rfl) rfl ?_ ?_
          rotate_left 2
          · go_simp
            constructor
            · rfl
            · rfl
          refine hK.out _ _ ⟨(hHeld.1.alloc hHeld.1.size _), (HX.out _ (hHeld.1.alloc hHeld.1.size _)).1, (HX.out _ (hHeld.1.alloc hHeld.1.size _)).2.1, (HX.out _ (hHeld.1.alloc hHeld.1.size _)).2.2.1, (HX.out _ (hHeld.1.alloc hHeld.1.size _)).2.2.2.1, (HX.out _ (hHeld.1.alloc hHeld.1.size _)).2.2.2.2.1, (HX.out _ (hHeld.1.alloc hHeld.1.size _)).2.2.2.2.2⟩ (fun hHeld => ?_)
          clear hK K
          refine norm_ (a' := ?_) ?_ ?_
          rotate_left
          · show Act.put _ (some 28) _ = _
            simp only [Act.put, List.setIfInBounds_toArray, List.set_cons_zero, List.set_cons_succ, i64_w, i32_w]
            rfl
          refine one_ (i := 2) (N := some 22) #[true, true, true, true, true, false, false, true, true, false, false] rfl rfl (by kernel_rfl) (by decide) (fun K hK => ?_)
          refine goes_ Try.func14 (by kernel_rfl) rfl #[.agg #[.string t.a, .string t.b, .string t.c, .slice none 0 0, .slice none 0 0]] (by rfl) rfl rfl (by simp only [List.map_toArray, List.map_cons, List.map_nil]; rfl) ?_
          with_reducible refine (of_any t _).mono ?_
          rintro en w2 ⟨rfl, hB2⟩
          refine ⟨_, rfl, ?_⟩
          refine hK.out _ _ ⟨(hHeld.1.trans (hB2.mono hHeld.1.size)), (HX.out _ (hHeld.1.trans (hB2.mono hHeld.1.size))).1, (HX.out _ (hHeld.1.trans (hB2.mono hHeld.1.size))).2.1, (HX.out _ (hHeld.1.trans (hB2.mono hHeld.1.size))).2.2.1, (HX.out _ (hHeld.1.trans (hB2.mono hHeld.1.size))).2.2.2.1, (HX.out _ (hHeld.1.trans (hB2.mono hHeld.1.size))).2.2.2.2.1, (HX.out _ (hHeld.1.trans (hB2.mono hHeld.1.size))).2.2.2.2.2⟩ (fun hHeld => ?_)
          clear hK K
          refine norm_ (a' := ?_) ?_ ?_
          rotate_left
          · show Act.put _ (some 22) _ = _
            simp only [Act.put, List.setIfInBounds_toArray, List.set_cons_zero, List.set_cons_succ, i64_w, i32_w]
            rfl
          refine one_ (i := 5) (N := some 25) #[true, true, true, true, true, true, false, true, true, false, false] rfl rfl (by kernel_rfl) (by decide) (fun K hK => ?_)
          refine goes_ Try.func14 (by kernel_rfl) rfl #[.agg #[.string t.a, .string t.b, .string t.c, .slice none 0 0, .slice none 0 0]] (by rfl) rfl rfl (by simp only [List.map_toArray, List.map_cons, List.map_nil]; rfl) ?_
          with_reducible refine (of_any t _).mono ?_
          rintro en w5 ⟨rfl, hB5⟩
          refine ⟨_, rfl, ?_⟩
          refine hK.out _ _ ⟨(hHeld.1.trans (hB5.mono hHeld.1.size)), (HX.out _ (hHeld.1.trans (hB5.mono hHeld.1.size))).1, (HX.out _ (hHeld.1.trans (hB5.mono hHeld.1.size))).2.1, (HX.out _ (hHeld.1.trans (hB5.mono hHeld.1.size))).2.2.1, (HX.out _ (hHeld.1.trans (hB5.mono hHeld.1.size))).2.2.2.1, (HX.out _ (hHeld.1.trans (hB5.mono hHeld.1.size))).2.2.2.2.1, (HX.out _ (hHeld.1.trans (hB5.mono hHeld.1.size))).2.2.2.2.2⟩ (fun hHeld => ?_)
          clear hK K
          refine norm_ (a' := ?_) ?_ ?_
          rotate_left
          · show Act.put _ (some 25) _ = _
            simp only [Act.put, List.setIfInBounds_toArray, List.set_cons_zero, List.set_cons_succ, i64_w, i32_w]
            rfl
          refine take_ (i := 6) (N := some 26) (v := ?_) (a' := ?_) #[true, true, true, true, true, true, true, true, true, false, false] rfl rfl (by kernel_rfl) (fun _ _ _ h => h) (Or.inl ⟨by rfl, ?_⟩) hHeld ?_ ?_
          rotate_left
          · rintro w' ⟨s0, s1, s2, s3, s4, s5, s6⟩
            go_simp
            with_reducible rfl
          rotate_left
          · simp only [Act.put, List.setIfInBounds_toArray, List.set_cons_zero, List.set_cons_succ, i64_w, i32_w]
            rfl
          exact norm_ (by simp only [putAll, Act.put, List.setIfInBounds_toArray, List.set_cons_zero, List.set_cons_succ]) (hCont W1.heap.size _ ⟨(hB5.block _ (by have := hB2.size; simp at this; omega)).trans ((hB2.block _ (by simp)).trans (heap_alloc_new W1 _)), hz, hHeld⟩)
      rintro q w8 ⟨f1, f2, hHeld⟩
      refine norm_ (a' := ?_) ?_ ?_
      rotate_left
      · simp only [putAll, Act.put, List.setIfInBounds_toArray, List.set_cons_zero, List.set_cons_succ]
        rfl
      refine last_ (i := 9) (N := some 29) #[true, true, true, true, true, true, true, true, true, true, false] rfl rfl (by kernel_rfl) (by decide) (fun K hK => ?_)
      have HL8 := HL.out.below hHeld.1
      obtain ⟨A9, c9, w9, hrun, hr9, hg9, ho9⟩ := run_append_ints w8 (at_ f (kk t)) (places lo i (kk t)) [(i : Int)] ⟨q, 0, none⟩ 1 26 (HL8.row (kk t)) (one_cell f1) (by have := places_len lo i (kk t); simp; omega)
      refine value_ (w1 := w9) (v := .slice A9 (places lo i (kk t) ++ [(i : Int)]).length c9) (by rfl) rfl ?_ ?_
      · exact exec_append (.tmp 26) (.tmp 28) 26 rfl _ _ rfl rfl hrun
      refine hK.out _ _ ?_
      clear hK K
      refine norm_ (a' := ?_) ?_ ?_
      rotate_left
      · show Act.put _ (some 29) _ = _
        simp only [Act.put, List.setIfInBounds_toArray, List.set_cons_zero, List.set_cons_succ, i64_w, i32_w]
        rfl
      refine last_ (i := 10) (N := none) #[true, true, true, true, true, true, true, true, true, true, true] rfl rfl (by kernel_rfl) (by decide) (fun K hK => ?_)
      obtain ⟨w10, hr10, hL10, hg10⟩ := HL8.put (kl := kk t) hg9 hr9 ho9 (by unfold maxLen; omega) HT.out.1
      refine skip_ (w1 := w10) (by rfl) rfl ?_ ?_
      · exact exec_put (.tmp 20) (.tmp 22) (.tmp 29) _ rfl _ _ _ rfl rfl rfl hr10
      refine hK.out _ _ ?_
      clear hK K
      refine done_ (by kernel_rfl) ?_
      have HN := Lib.hid (hL10)
      clear HL HX f1 f2 hHeld HL8 hrun hr9 hg9 ho9 hr10 hL10 hg10
      go_wp2_with fail
      go_roundw
      case rel => exact ⟨i + 1, n + 1, _, by go_num, by omega, by omega, Lib.hid (by rw [HT.out.2]; exact HN.out)⟩
      case measure => first | (simp; omega) | simp
    · have g1 : ¬ (i : Int) < (lo.length : Int) := by omega
      go_wp2_with fail
      obtain rfl : i = lo.length := by omega
      have H2 : Hid (∃ out p, FS w wr b n f p (.slice none 0 0) out ∧ out.length = 0 ∧ (∀ kl, (p kl).length ≤ 1000) ∧ out ++ fromGo p (ln.drop 0) = fromL lo ln) := Lib.hid ⟨[], places lo lo.length, ⟨HI.out, Sl.nil _ _ _, fun q h => by cases h⟩, rfl, fun kl => by have := places_len lo lo.length kl; have := HO.out.2.1; omega, rfl⟩
      have hnn : n ≤ 1000 := by have := HO.out.2.1; omega
      have HNN := Lib.hid hnn
      clear HI HO hi hn d1 g1 g0 hnn
      go_loopw [8, 33] (fun t8 t33 wq => ∃ (j c' n' : Nat) (A' : Option Addr) (f : Lit → Option Value), t33 = .int .i64 (j : Int) ∧ t8 = .slice A' j c' ∧ j ≤ ln.length ∧ n' ≤ 1000 + j ∧ Hid (∃ out p, FS w wq b n' f p (.slice A' j c') out ∧ out.length = j ∧ (∀ kl, (p kl).length ≤ 1000) ∧ out ++ fromGo p (ln.drop j) = fromL lo ln)) (fun _ t _ => match t with | .int _ q => (ln.length - q).toNat | _ => 0)
      case atStart => exact ⟨0, 0, n, none, f, rfl, rfl, by omega, by have := HNN.out; omega, H2⟩
      case round =>
        obtain ⟨j, c', n', A', f, rfl, rfl, hj, hn', HJ⟩ := hrel
        clear H2 HNN
        have g0 : (0 : Int) ≤ (j : Int) := by omega
        by_cases d1 : j < ln.length
        · have g1 : (j : Int) < (ln.length : Int) := by omega
          have g2 : (j : Int) ≤ 1000 := by have := HN.out.2.1; omega
          obtain ⟨out, p, hFS, hol, hpl, hgo⟩ := HJ.out
          obtain ⟨g, o, c2, e0, hc1⟩ := HN.out.1.form1 (by omega)
          cases e0
          obtain ⟨t, ht⟩ : ∃ t, ln[j] = t := ⟨_, rfl⟩
          have hcs := TRow.cells HN.out.1 rfl j d1
          rw [ht] at hcs
          have hcell : ∀ {ad' : Addr} {u : Value}, w.cell? ad' = some u → wr.cell? ad' = some u := fun h => (hFS.left.low.cell (World.block_lt_of_cell? _ _ h)).trans h
          have a0 := hcell hcs.1
          have a1 := hcell hcs.2.1
          have a2 := hcell hcs.2.2.1
          have a3 := hcell hcs.2.2.2.1
          have a4 := hcell hcs.2.2.2.2
          have hsz := HN.out.2.2.1 t (by rw [← ht]; exact List.getElem_mem d1)
          have HK := Lib.hid (kq_key t.a t.b hsz.1 hsz.2)
          rw [List.drop_eq_getElem_cons d1, ht] at hgo
          have HG := Lib.hid (And.intro hol (And.intro hpl hgo))
          have HF := Lib.hid hFS
          clear hcell hcs hsz ht hol hpl hgo hFS HJ
          go_upto_region 11 with fail
          have HF2 : Hid (FS w (wr.alloc (.cells #[.string t.a, .string t.b, .string t.c, .slice none 0 0, .slice none 0 0] 25)) b n' f p (.slice A' j c') out) := Lib.hid (HF.out.below ((Below.refl _ _).alloc (Nat.le_refl _) _))
          have HKB : Hid ((wr.alloc (.cells #[.string t.a, .string t.b, .string t.c, .slice none 0 0, .slice none 0 0] 25)).heap[wr.heap.size]? = some (.cells #[.string t.a, .string t.b, .string t.c, .slice none 0 0, .slice none 0 0] 25 (0, 0)) ∧ w.heap.size ≤ wr.heap.size) := Lib.hid ⟨heap_alloc_new _ _, HF.out.left.low.size⟩
          clear HF a0 a1 a2 a3 a4
          generalize wr.alloc (.cells #[.string t.a, .string t.b, .string t.c, .slice none 0 0, .slice none 0 0] 25) = w2 at HF2 HKB ⊢
          generalize wr.heap.size = K at HKB ⊢
          have hkb := HKB.out.1
          have b0 : w2.cell? ⟨K, 0, none⟩ = some (.string t.a) := by simp [World.cell?, hkb]
          have b1 : w2.cell? ⟨K, 1, none⟩ = some (.string t.b) := by simp [World.cell?, hkb]
          have b2 : w2.cell? ⟨K, 2, none⟩ = some (.string t.c) := by simp [World.cell?, hkb]
          have b3 : w2.cell? ⟨K, 3, none⟩ = some (.slice none 0 0) := by simp [World.cell?, hkb]
          have b4 : w2.cell? ⟨K, 4, none⟩ = some (.slice none 0 0) := by simp [World.cell?, hkb]
          clear hkb
          go_wp2_with fail
          refine (of_any t w2).mono ?_
          rintro e w5 ⟨rfl, hB5⟩
          have HF5 : Hid (FS w w5 b n' f p (.slice A' j c') out) := Lib.hid (HF2.out.below hB5)
          have HK5 : Hid (w5.heap[K]? = some (.cells #[.string t.a, .string t.b, .string t.c, .slice none 0 0, .slice none 0 0] 25 (0, 0))) := Lib.hid ((hB5.block K (Array.getElem?_eq_some_iff.1 HKB.out.1).1).trans HKB.out.1)
          clear HF2 HKB hB5 b0 b1 b2 b3 b4
          obtain ⟨m5, hm5⟩ := HF5.out.left.map
          have hlk := hm5.get klaw Try.underlying37 (kzero w5) HK.out
          obtain ⟨A6, c6, e6, hc6⟩ := (HF5.out.left.row (kk t)).form
          rw [show ((f (kq t.a t.b)).getD (.slice none 0 0)) = .slice A6 (p (kk t)).length c6 from e6] at hlk
          have HE := Lib.hid e6
          have hl6 := HG.out.2.1 (kk t)
          clear hm5 e6
          cases hp : p (kk t) with
          | nil =>
            rw [hp] at hlk
            simp only [List.length_nil] at hlk
            have HP := Lib.hid hp
            clear hl6 hc6 hp
            have hBa : Below w5.heap.size w5 (w5.alloc (.cells #[.int .i64 (-1)] 3)) := (Below.refl _ _).alloc (Nat.le_refl _) _
            have HF6 : Hid (FS w (w5.alloc (.cells #[.int .i64 (-1)] 3)) b n' f p (.slice A' j c') out) := Lib.hid (HF5.out.below hBa)
            have HA := Lib.hid (heap_alloc_new w5 (.cells #[.int .i64 (-1)] 3))
            clear hBa
            go_wp2_with (at_builtin; refine wpl_append_int rfl (.tmp 44) (.tmp 45) rfl (.slice A' j c') out (-1) w5.heap.size 1 rfl rfl HF6.out.row HA.out (by have := HG.out.1; omega) ?_)
            rintro A7 c7 w7 hr7 hg7 ho7
            simp only [HG.out.1] at hr7 ho7 ⊢
            have H7 : Hid (FS w w7 b n' f p (.slice A7 (j + 1) c7) (out ++ [-1])) := Lib.hid (HF6.out.push hg7 (by simpa [HG.out.1] using hr7) (by simpa using ho7))
            clear hr7 hg7 ho7 hlk HF5 HF6 HA HK5 HE
            go_wp2_with fail
            go_roundw
            case rel => exact ⟨j + 1, c7, n', A7, f, by go_num, rfl, by omega, by omega, Lib.hid ⟨out ++ [-1], p, H7.out, by rw [List.length_append, HG.out.1]; rfl, HG.out.2.1, by have h := HG.out.2.2; simp only [fromGo, HP.out] at h; rw [List.append_assoc]; exact h⟩⟩
            case measure => first | (simp; omega) | simp
          | cons x xs =>
            rw [hp] at hlk hl6
            simp only [List.length_cons] at hlk hl6
            have hrow : IRow w5 (.slice A6 (xs.length + 1) c6) (x :: xs) := by
              have h1 := HF5.out.left.row (kk t)
              rw [HE.out, hp] at h1
              exact h1
            obtain ⟨g6, o6, c6', e7, hc7, y7⟩ := hrow.head
            cases e7
            have HP := Lib.hid hp
            have HR := Lib.hid hrow
            have q3 : (0 : Int) ≤ (xs.length : Int) := by omega
            have q4 : (xs.length : Int) + 1 ≤ 1000 := by omega
            have q5 : (1 : Int) ≤ (xs.length : Int) + 1 := by omega
            have HC := Lib.hid hc7
            clear hp hrow hc6 hc7 hl6
            have hBa : Below w5.heap.size w5 (w5.alloc (.cells #[.int .i64 x] 3)) := (Below.refl _ _).alloc (Nat.le_refl _) _
            have HF6 : Hid (FS w (w5.alloc (.cells #[.int .i64 x] 3)) b n' f p (.slice A' j c') out) := Lib.hid (HF5.out.below hBa)
            have HA := Lib.hid (heap_alloc_new w5 (.cells #[.int .i64 x] 3))
            clear hBa
            go_wp2_with (at_builtin; refine wpl_append_int rfl (.tmp 47) (.tmp 51) rfl (.slice A' j c') out x w5.heap.size 1 rfl rfl HF6.out.row HA.out (by have := HG.out.1; omega) ?_)
            rintro A7 c7 w7 hr7 hg7 ho7
            simp only [HG.out.1] at hr7 ho7 ⊢
            have H7 : Hid (FS w w7 b n' f p (.slice A7 (j + 1) c7) (out ++ [x])) := Lib.hid (HF6.out.push hg7 (by simpa [HG.out.1] using hr7) (by simpa using ho7))
            have HK7 : Hid (w7.heap[K]? = some (.cells #[.string t.a, .string t.b, .string t.c, .slice none 0 0, .slice none 0 0] 25 (0, 0))) := Lib.hid (by
              have h1 : (w5.alloc (.cells #[.int .i64 x] 3)).heap[K]? = some (.cells #[.string t.a, .string t.b, .string t.c, .slice none 0 0, .slice none 0 0] 25 (0, 0)) := (((Below.refl w5.heap.size w5).alloc (Nat.le_refl _) (.cells #[.int .i64 x] 3)).block K (Array.getElem?_eq_some_iff.1 HK5.out).1).trans HK5.out
              refine (hg7.block K (Array.getElem?_eq_some_iff.1 h1).1 (fun e => ?_)).trans h1
              obtain ⟨_, cur, hc⟩ := HF6.out.row.lt K e.symm
              rw [h1] at hc
              injection hc with hc
              injection hc with _ hc
              exact absurd hc (by decide))
            clear hr7 hg7 ho7 hlk HF5 HF6 HA HK5 y7
            go_upto_region 15 with fail
            have HK8 : Hid (∀ w', Below w7.drew.heap.size w7.drew w' → w'.cell? ⟨K, 0, none⟩ = some (.string t.a) ∧ w'.cell? ⟨K, 1, none⟩ = some (.string t.b) ∧ w'.cell? ⟨K, 2, none⟩ = some (.string t.c) ∧ w'.cell? ⟨K, 3, none⟩ = some (.slice none 0 0) ∧ w'.cell? ⟨K, 4, none⟩ = some (.slice none 0 0)) := Lib.hid fun w' hB => by
              have h1 : w'.heap[K]? = _ := (hB.block K (Array.getElem?_eq_some_iff.1 HK7.out).1).trans HK7.out
              exact ⟨by simp [World.cell?, h1], by simp [World.cell?, h1], by simp [World.cell?, h1], by simp [World.cell?, h1], by simp [World.cell?, h1]⟩
            have H8 : Hid (FS w w7.drew b n' f p (.slice A7 (j + 1) c7) (out ++ [x])) := Lib.hid (H7.out.below (pw_below_drewN (Below.refl _ _) 1))
            have S0 : Below w7.drew.heap.size w7.drew w7.drew := Below.refl _ _
            clear HK7 H7 HR
            refine start_ (n := 6) (S := fun w' => Below w7.drew.heap.size w7.drew w' ∧ w'.cell? ⟨K, 0, none⟩ = some (.string t.a) ∧ w'.cell? ⟨K, 1, none⟩ = some (.string t.b) ∧ w'.cell? ⟨K, 2, none⟩ = some (.string t.c) ∧ w'.cell? ⟨K, 3, none⟩ = some (.slice none 0 0) ∧ w'.cell? ⟨K, 4, none⟩ = some (.slice none 0 0)) (ds := [5]) #[false, false, false, false, false, false] (by kernel_rfl) rfl rfl ⟨S0, (HK8.out _ S0).1, (HK8.out _ S0).2.1, (HK8.out _ S0).2.2.1, (HK8.out _ S0).2.2.2.1, (HK8.out _ S0).2.2.2.2⟩ (fun hHeld => ?_)
            clear S0
            generalize hW1 : w7.drew = W1 at *
            refine pure_ (i := 0) (N := some 53) (v := ?_) (a' := ?_) #[true, false, false, false, false, false] rfl rfl (by kernel_rfl) (fun _ _ _ h => h) (Or.inl ⟨by rfl, ?_⟩) ?_ ?_
            rotate_left
            · intro w'
              go_simp
              with_reducible rfl
            rotate_left
            · simp only [Act.put, List.setIfInBounds_toArray, List.set_cons_zero, List.set_cons_succ, i64_w, i32_w]
              rfl
            refine pure_ (i := 3) (N := some 56) (v := ?_) (a' := ?_) #[true, false, false, true, false, false] rfl rfl (by kernel_rfl) (fun _ _ _ h => h) (Or.inl ⟨by rfl, ?_⟩) ?_ ?_
            rotate_left
            · intro w'
              go_simp
              with_reducible rfl
            rotate_left
            · simp only [Act.put, List.setIfInBounds_toArray, List.set_cons_zero, List.set_cons_succ, i64_w, i32_w]
              rfl
            refine pure_ (i := 4) (N := some 57) (v := ?_) (a' := ?_) #[true, false, false, true, true, false] rfl rfl (by kernel_rfl) (fun _ _ _ h => h) (Or.inl ⟨by rfl, ?_⟩) ?_ ?_
            rotate_left
            · intro w'
              go_simp
              with_reducible rfl
            rotate_left
            · simp only [Act.put, List.setIfInBounds_toArray, List.set_cons_zero, List.set_cons_succ, i64_w, i32_w]
              rfl
            refine take_ (i := 1) (N := some 54) (v := ?_) (a' := ?_) #[true, true, false, true, true, false] rfl rfl (by kernel_rfl) (fun _ _ _ h => h) (Or.inl ⟨by rfl, ?_⟩) hHeld ?_ ?_
            rotate_left
            · rintro w' ⟨s0, s1, s2, s3, s4, s5⟩
              go_simp
              with_reducible rfl
            rotate_left
            · simp only [Act.put, List.setIfInBounds_toArray, List.set_cons_zero, List.set_cons_succ, i64_w, i32_w]
              rfl
            refine one_ (i := 2) (N := some 55) #[true, true, true, true, true, false] rfl rfl (by kernel_rfl) (by decide) (fun K hK => ?_)
            refine goes_ Try.func14 (by kernel_rfl) rfl #[.agg #[.string t.a, .string t.b, .string t.c, .slice none 0 0, .slice none 0 0]] (by rfl) rfl rfl (by simp only [List.map_toArray, List.map_cons, List.map_nil]; rfl) ?_
            with_reducible refine (of_any t _).mono ?_
            rintro en w8 ⟨rfl, hB8⟩
            refine ⟨_, rfl, ?_⟩
            refine hK.out _ _ ⟨(hHeld.1.trans (hB8.mono hHeld.1.size)), (HK8.out _ (hHeld.1.trans (hB8.mono hHeld.1.size))).1, (HK8.out _ (hHeld.1.trans (hB8.mono hHeld.1.size))).2.1, (HK8.out _ (hHeld.1.trans (hB8.mono hHeld.1.size))).2.2.1, (HK8.out _ (hHeld.1.trans (hB8.mono hHeld.1.size))).2.2.2.1, (HK8.out _ (hHeld.1.trans (hB8.mono hHeld.1.size))).2.2.2.2⟩ (fun hHeld => ?_)
            clear hK K
            refine norm_ (a' := ?_) ?_ ?_
            rotate_left
            · show Act.put _ (some 55) _ = _
              simp only [Act.put, List.setIfInBounds_toArray, List.set_cons_zero, List.set_cons_succ, i64_w, i32_w]
              rfl
            refine last_ (i := 5) (N := none) #[true, true, true, true, true, true] rfl rfl (by kernel_rfl) (by decide) (fun K hK => ?_)
            have H9 := H8.out.below hHeld.1
            have hr9 : IRow w8 (.slice (some ⟨g6, o6, none⟩) (xs.length + 1) c6) (x :: xs) := by have h1 := H9.left.row (kk t); rw [HE.out, HP.out] at h1; exact h1
            obtain ⟨w10, hr10, hF10⟩ := H9.cut (kl := kk t) (tail_if hr9) (by rw [HE.out]; split <;> rfl) (by unfold maxLen; omega) HK.out
            refine skip_ (w1 := w10) (by rfl) rfl ?_ ?_
            · exact exec_put (.tmp 53) (.tmp 55) (.tmp 57) _ rfl _ _ _ rfl rfl rfl hr10
            refine hK.out _ _ ?_
            clear hK K
            refine done_ (by kernel_rfl) ?_
            have HF10 := Lib.hid hF10
            clear hF10 hr10 hr9 H9 H8 HK8 hHeld HE
            go_wp2_with fail
            go_roundw
            case rel => exact ⟨j + 1, c7, n' + 1, A7, _, by go_num, rfl, by omega, by omega, Lib.hid ⟨out ++ [x], _, HF10.out, by rw [List.length_append, HG.out.1]; rfl, fun kl => by
              unfold upd
              split
              · have := HG.out.2.1 (kk t)
                rw [HP.out] at this
                simp at this
                omega
              · exact HG.out.2.1 kl, by have h := HG.out.2.2; simp only [fromGo, HP.out] at h; rw [List.append_assoc]; exact h⟩⟩
            case measure => first | (simp; omega) | simp
        · have g1 : ¬ (j : Int) < (ln.length : Int) := by omega
          obtain rfl : j = ln.length := by omega
          go_wp2_with fail
          go_ret
          obtain ⟨out, p, hFS, hol, _, hgo⟩ := HJ.out
          rw [List.drop_length] at hgo
          simp only [fromGo, List.append_nil] at hgo
          subst hgo
          exact ⟨A', c', rfl, hFS.row, hFS.left.low, fun k hk => (hFS.fresh k hk).1⟩
end Go.Proofs.Ytjpknhemnfokaaa.Mt
