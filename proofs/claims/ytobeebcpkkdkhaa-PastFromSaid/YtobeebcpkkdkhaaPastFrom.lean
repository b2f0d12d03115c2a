/- PastFrom: the walk (printed by wip/law11/gen_PFrom.py out of PFrom.body). -/
import Derived.Test.YtobeebcpkkdkhaaRoomy
import Derived.Lib.MinMax
set_option linter.unusedVariables false
set_option linter.unusedSimpArgs false
namespace Go.Proofs.Ytobeebcpkkdkhaa.Pa
open Go.RowKit Go.Proofs.YtobeebcpkkdkhaaW.PrintWords Go.Proofs.YtobeebcpkkdkhaaW.PrintLast Go.Proofs.Ytobeebcpkkdkhaa.PPastRuns

/-- Nothing appended is nothing done. -/
theorem append_nil_run {P : Program} (w : World) (base : Nat) (t ty e : TypeId) (i : TypeInfo) (size : Nat) (ht : P.underlying t = some (.slice e)) (hi : P.info? e = some i) (v : Value) (n : Nat) (xs : List Value) (hown : w.ownsRow base e size v n xs) (c : Nat) : (Builtin.append_ #[t, t] ty #[v, .slice none 0 c]).run P w = .ok v w := by
  rcases hown.2 with ⟨rfl, rfl⟩ | ⟨g, cap, cur, rfl, _, _, hnc, _⟩
  · simp [Builtin.append_, run_underlying ht, sizeOf, typeInfo, hi, Builtin.lenOf, Builtin.firstCells]
  · simp [Builtin.append_, run_underlying ht, sizeOf, typeInfo, hi, Builtin.lenOf, Builtin.firstCells, hnc, storeCells]
theorem wpl_append3 {ops : Array Oper} {rest : List Oper} {o : Oper} {a : Act} {Q : Exit → Act → World → Prop} {W : World} (hgd : o.guard = none) (s x : Operand)
    (ho : o.op = .call { callee := .builtin .append, args := #[s, x], argTypes := #[32, 32] })
    (g0 : Nat) (m : List S28) (A : Option Addr) (c : Nat) (base : Nat) (hs : a.eval s = .slice (some ⟨g0, 0, none⟩) 0 0) (hx : a.eval x = .slice A m.length c) (h : W.ownsRow base 28 2 (.slice (some ⟨g0, 0, none⟩) 0 0) 0 (enc [])) (hm : ∀ j u, (enc m)[j]? = some u → ∃ ad, A = some ad ∧ W.cell? (ad.add j) = some u) (hl : m.length ≤ 100000) (hb : base ≤ W.heap.size)
    (K : ∀ r' c' w', w'.ownsRow base 28 2 (.slice (some ⟨r', 0, none⟩) m.length c') m.length (enc m) → W.grownBy w' (some g0) → wpList Try.prog ops Q rest (a.put o.dst (.slice (some ⟨r', 0, none⟩) m.length c')) w') : wpList Try.prog ops Q (o :: rest) a W := by
  obtain ⟨i0, hi, hzz⟩ := Option.map_eq_some_iff.1 infoEntry
  simp only [Prod.mk.injEq] at hzz
  obtain ⟨hz0, hz1, hz2⟩ := hzz
  cases m with
  | nil =>
    have hrun : (Builtin.append_ #[32, 32] o.type #[.slice (some ⟨g0, 0, none⟩) 0 0, .slice A 0 c]).run Try.prog W = .ok (.slice (some ⟨g0, 0, none⟩) 0 0) W ∨ ∃ ad, A = some ad := by
      cases A with
      | none => exact .inl (append_nil_run W base 32 o.type 28 i0 2 Try.underlying32 hi _ 0 _ h c)
      | some ad => exact .inr ⟨ad, rfl⟩
    rcases hrun with hrun | ⟨ad, rfl⟩
    · refine wpList_plain hgd fun _ hK => ?_
      unfold Oper.wp execOp
      simp only [ho, resolve, invoke, builtin, Sem.run_bind, Sem.run_pure, Result.andThen_ok, List.map_toArray, List.map_cons, List.map_nil, hs, hx, List.length_nil, hrun]
      exact hK _ _ (K g0 0 W (by simpa using h) (World.grownBy.refl W _))
    · obtain ⟨v', w', h1, h2, h3, h4, h5⟩ := run_append_own_at (P := Try.prog) W base 32 o.type 28 i0 _ 2 24 Try.underlying32 hi hz0 hz1 hz2 rfl (by decide) (.slice (some ⟨g0, 0, none⟩) 0 0) 0 (enc []) h ad 0 c [] rfl (fun j u hu => by simp at hu) (by simp) (by unfold maxLen; omega) (by omega) hb
      refine wpList_plain hgd fun _ hK => ?_
      unfold Oper.wp execOp
      simp only [ho, resolve, invoke, builtin, Sem.run_bind, Sem.run_pure, Result.andThen_ok, List.map_toArray, List.map_cons, List.map_nil, hs, hx, List.length_nil, h1]
      have h2' : w'.ownsRow base 28 2 v' 0 (enc []) := by simpa using h2
      obtain ⟨r', c', rfl⟩ : ∃ r' c', v' = .slice (some ⟨r', 0, none⟩) 0 c' := by
        rcases h2'.2 with ⟨e1, _⟩ | ⟨g, cap, cur, e1, _⟩
        · subst e1
          rcases h5 with h5 | h5 <;> cases h5
        · exact ⟨g, cap, e1⟩
      exact hK _ _ (K r' c' w' h2' h3)
  | cons e m =>
    have hA : ∃ ad, A = some ad := by
      obtain ⟨ad, h1, _⟩ := hm 0 _ (by simp [enc]; rfl)
      exact ⟨ad, h1⟩
    obtain ⟨ad, rfl⟩ := hA
    obtain ⟨v', w', h1, h2, h3, _⟩ := run_append_own (P := Try.prog) W base 32 o.type 28 i0 _ 2 24 Try.underlying32 hi hz0 hz1 hz2 rfl (by decide) (.slice (some ⟨g0, 0, none⟩) 0 0) 0 (enc []) h ad (e :: m).length c (enc (e :: m)) (enc_length _) (fun j u hu => by obtain ⟨ad', e1, h1⟩ := hm j u hu; cases e1; exact h1) (enc_one _) (by unfold maxLen; omega) (by omega) hb
    refine wpList_plain hgd fun _ hK => ?_
    unfold Oper.wp execOp
    simp only [ho, resolve, invoke, builtin, Sem.run_bind, Sem.run_pure, Result.andThen_ok, List.map_toArray, List.map_cons, List.map_nil, hs, hx, h1]
    have h2' : w'.ownsRow base 28 2 v' (e :: m).length (enc (e :: m)) := by simpa [enc] using h2
    obtain ⟨r', c', rfl⟩ : ∃ r' c', v' = .slice (some ⟨r', 0, none⟩) (e :: m).length c' := by
      rcases h2'.2 with ⟨e1, h0⟩ | ⟨g, cap, cur, e1, _⟩
      · simp at h0
      · exact ⟨g, cap, e1⟩
    exact hK _ _ (K r' c' w' h2' h3)
theorem made_row1 (w : World) : (w.alloc (.cells #[] 28)).ownsRow w.heap.size 28 2 (.slice (some ⟨w.heap.size, 0, none⟩) 0 0) 0 (enc []) :=
  World.ownsRow_made (base := w.heap.size) (e := 28) (size := 2) w #[] 0 (Nat.le_refl _) (by decide) (by rfl)
theorem below_grown1 {B : Nat} {w0 w w' : World} {row : Option Nat} (h : Below B w0 w) (g : w.grownBy w' row) (hr : ∀ k, row = some k → B ≤ k) (hB : B ≤ w.heap.size) : Below B w0 w' :=
  ⟨g.os.trans h.os, g.tape.trans h.tape, g.output.trans h.output, Nat.le_trans h.size g.size, fun k hk => (g.block k (by omega) (fun e => by have := hr k e.symm; omega)).trans (h.block k hk)⟩
theorem St.mk_rows {w w6 w7 : World} {g : Nat} {v vo : Value} {l m : List S28} {at_ : Int} (hB : Below w.heap.size w w6) (ho : RowOf w6 vo m) (hb : ∀ k, vo.ownBlock = some k → w.heap.size ≤ k) (s : St w6 g w7 v l at_ []) : St w g w7 v l at_ [(vo, m)] := by
  refine ⟨s.past, hB.trans (s.low.mono hB.size), Nat.le_trans hB.size s.ge, fun k hk => Nat.le_trans hB.size (s.vge k hk), fun p hp => ?_⟩
  obtain rfl : p = (vo, m) := by simpa using hp
  exact ⟨ho.below s.low, fun k hk => ⟨fun e => by have h5 := s.vge k e; have h6 := (ho.lt k hk).2; omega, hb k hk⟩⟩
theorem St.set {w0 w w' : World} {g : Nat} {v vo : Value} {l m m' : List S28} {at_ : Int} (h : St w0 g w v l at_ [(vo, m)]) {ro : Nat} (hr : vo.ownBlock = some ro) (hU : Upd ro w w') (hm : RowOf w' vo m') : St w0 g w' v l at_ [(vo, m')] := by
  have h1 := h.rows (vo, m) (by simp)
  have hg : g ≠ ro := fun e => row_ne h.past.obj h1.1 ro hr e.symm
  refine ⟨⟨(hU.block g (lt_of_heap h.past.obj) hg).trans h.past.obj, own_move h.past.row (fun k hk => hU.block k (h.past.row.lt k hk).2 (fun e => (h1.2 ro hr).1 (by rw [← e]; exact hk)))⟩, hU.below h.low (h1.2 ro hr).2, h.ge, h.vge, fun p hp => ?_⟩
  obtain rfl : p = (vo, m') := by simpa using hp
  exact ⟨hm, h1.2⟩
theorem take_cells {w : World} {A : Option Addr} {l : List S28} (hl : ∀ j u, (enc l)[j]? = some u → ∃ ad, A = some ad ∧ w.cell? (ad.add j) = some u) (k : Nat) (o : Obj) : ∀ j u, (enc (l.take k))[j]? = some u → ∃ ad, A = some ad ∧ (w.alloc o).cell? (ad.add j) = some u := fun j u hu => by
  rw [enc_take] at hu
  rw [List.getElem?_take] at hu
  have hu : (enc l)[j]? = some u := by
    split at hu
    · exact hu
    · cases hu
  obtain ⟨ad, e, hc⟩ := hl j u hu
  exact ⟨ad, e, by rw [((Below.refl w.heap.size w).alloc (Nat.le_refl _) o).cell (lt_of_cell hc)]; exact hc⟩
def FromL.T15 : Bool × List (List Nat × List Nat) := (true, [([], []), ([0], [0]), ([], []), ([1, 2, 1], [1, 2]), ([3, 3], [3]), ([4], [4]), ([5, 4, 4], [4, 5]), ([4], [4]), ([6, 7, 4], [4, 6, 7]), ([4, 8], [4, 8]), ([9, 6], [9]), ([10], [10]), ([11, 10], [10, 11]), ([10, 12], [10, 12]), ([13, 10], [13]), ([14], [14]), ([14], [14]), ([14], [14]), ([16, 17, 14], [14, 16, 17]), ([18, 14], [14, 18]), ([15, 19, 14], [14, 15, 19]), ([14, 20], [14, 20]), ([21, 14], [21]), ([22, 22], [22]), ([22, 23], [22, 23]), ([24, 23, 0, 1, 2, 3, 4, 5, 6, 7, 8, 9, 10, 11, 12, 13, 14, 15, 16, 17, 18, 19, 20, 21, 22, 23, 24], [24])])
def FromL.B15 : List Nat := [0, 1, 0, 7, 15, 31, 63, 31, 255, 511, 1023, 2047, 4095, 8191, 16383, 32767, 32767, 32767, 229375, 491519, 1048575, 2097151, 4194303, 8388607, 16777215, 33554431]
theorem FromL.tab15 : rtab .any (opsOf Try.f6 15) = FromL.T15 := by kernel_rfl
theorem FromL.bits15 : waitsOk FromL.T15.2 FromL.B15 = true := by kernel_rfl
set_option maxHeartbeats 4000000 in
set_option maxRecDepth 100000 in
theorem PastFrom_any (A : Option Addr) (c : Nat) (l : List S28) (at_ : Int) (w : World) (hl : ∀ j u, (enc l)[j]? = some u → ∃ ad, A = some ad ∧ w.cell? (ad.add j) = some u) (hc : l.length ≤ c) (hg : Good l) : Calls Try.prog 6 #[.slice A l.length c, .int .i64 at_] w fun en w' => en = .returned (.bool true) ∧ Below w.heap.size w w' := by
  obtain ⟨k, hk, hk0, hk1⟩ : ∃ k : Nat, min (l.length : Int) 14 = (k : Int) ∧ k ≤ l.length ∧ k ≤ 14 := ⟨min l.length 14, by omega, by omega, by omega⟩
  have hkc : (k : Int) ≤ (c : Int) := by omega
  have hk2 : (0 : Int) ≤ (k : Int) := by omega
  have HL := Lib.hid (take_cells hl k (.cells #[] 28))
  obtain ⟨m, hm⟩ : ∃ m, l.take k = m := ⟨_, rfl⟩
  have hml : m.length = k := by rw [← hm, List.length_take]; omega
  have HG : Hid (Good m) := Lib.hid (fun e he => hg e (List.mem_of_mem_take (hm ▸ he)))
  rw [hm] at HL
  obtain rfl := hml.symm
  have HMade := Lib.hid (made_row1 w)
  have q0 : (0 : Int) ≤ (m.length : Int) := by omega
  have q1 : (m.length : Int) ≤ 14 := by omega
  clear hl hg hm hk0 hk1 hc
  go_enter Try.func6, Try.ntmps6
  go_wp2_with (at_builtin; refine wpl_append3 rfl (.tmp 12) (.tmp 17) rfl w.heap.size m A c w.heap.size rfl rfl HMade.out HL.out (by omega) (by simp) ?_)
  intro ro co w1 hm1 hg1
  have H1 : Hid (RowOf w1 (.slice (some ⟨ro, 0, none⟩) m.length co) m ∧ Below w.heap.size w w1 ∧ w.heap.size ≤ ro) := Lib.hid ⟨own_lower hm1, below_grown1 ((Below.refl _ _).alloc (Nat.le_refl _) _) hg1 (fun k hk => by cases hk; exact Nat.le_refl _) (by simp), (hm1.lt ro rfl).1⟩
  clear hm1 hg1 HMade HL
  go_wp2_with fail
  refine (Roomy_any ro co m w1 H1.out.1 (by omega) ⟨#[120]⟩).mono ?_
  rintro e w2 ⟨r, rfl, h2, hB2, hr2⟩
  have H2 : Hid (RowOf w2 (.slice (some ⟨ro, 0, none⟩) m.length co) m ∧ Below w.heap.size w w2 ∧ w.heap.size ≤ ro ∧ RowOf w2 (.slice (some ⟨r, 0, none⟩) (m.length + 80) (m.length + 80)) (m ++ List.replicate 80 ⟨⟨#[120]⟩, 0⟩) ∧ RowOf w2 (.slice (some ⟨r, 0, none⟩) m.length (m.length + 80)) m ∧ w1.heap.size ≤ r ∧ w.heap.size ≤ w1.heap.size) := Lib.hid (by
    refine ⟨H1.out.1.below hB2, H1.out.2.1.trans (hB2.mono H1.out.2.1.size), H1.out.2.2, h2, ?_, hr2, H1.out.2.1.size⟩
    have := h2.take (by rw [List.length_append, List.length_replicate]) m.length (by rw [List.length_append]; omega)
    rwa [List.take_append_of_le_length (Nat.le_refl _), List.take_length] at this)
  clear h2 hB2 hr2 H1
  go_wp2_with fail
  have hp : ∀ (g : Nat) (w : World), (binOp .neq 22 (.pointer (some ⟨g, 0, none⟩)) (.pointer none)).run Try.prog w = .ok (.bool true) w := fun g w => rfl
  by_cases hmay : m.length ≤ 12 ∧ 0 ≤ at_ ∧ at_ < (m.length : Int)
  · obtain ⟨c1, c2, c3⟩ := hmay
    obtain ⟨i, rfl⟩ := Int.eq_ofNat_of_zero_le c2
    have c3' : i < m.length := by omega
    refine (From_yes _ m (i : Int) w2 H2.out.2.2.2.2.1 HG.out c1 c2 c3).mono ?_
    rintro e w3 ⟨g, v3, rfl, h3⟩
    have H3 : Hid (St w g w3 v3 (m.map cleanE) (i : Int) [(.slice (some ⟨ro, 0, none⟩) m.length co, m)] ∧ RowOf w3 (.slice (some ⟨r, 0, none⟩) (m.length + 80) (m.length + 80)) (m ++ List.replicate 80 ⟨⟨#[120]⟩, 0⟩)) := Lib.hid ⟨St.mk_rows H2.out.2.1 H2.out.1 (fun k hk => by cases hk; exact H2.out.2.2.1) h3, H2.out.2.2.2.1.below h3.low⟩
    clear h3 H2
    have b1 : (m.length : Int) ≤ 12 := by omega
    go_wp2_with fail
    refine (Intact_any r _ m w3 ⟨#[120]⟩ H3.out.2 H3.out.1.row0 (by omega)).mono ?_
    rintro e w4 ⟨rfl, hB4⟩
    have H4 : Hid (St w g w4 v3 (m.map cleanE) (i : Int) [(.slice (some ⟨ro, 0, none⟩) m.length co, part m 0)]) := Lib.hid (by rw [part_zero]; exact H3.out.1.below hB4)
    clear hB4 H3
    go_wp2_with fail
    go_loopw [57] (fun t57 wr => ∃ j : Nat, t57 = .int .i64 (j : Int) ∧ j ≤ m.length ∧ Hid (St w g wr v3 (m.map cleanE) (i : Int) [(.slice (some ⟨ro, 0, none⟩) m.length co, part m j)])) (fun t _ => match t with | .int _ i => (m.length - i).toNat | _ => 0)
    case atStart => exact ⟨0, rfl, by omega, H4⟩
    case round =>
      obtain ⟨j, rfl, hj, HI⟩ := hrel
      clear H4
      by_cases d1 : j < m.length
      · have d2 : (j : Int) < (m.length : Int) := by omega
        have d3 : (0 : Int) ≤ (j : Int) := by omega
        obtain ⟨x, hx1, hx2, hx3⟩ := HG.out.at d1
        have hpl : (part m j).length = m.length := part_length m j
        have hpg := List.getElem?_eq_some_iff.1 (part_get m j d1)
        have y1 := (row_cellr HI.out.row0 j (by rw [hpl]; exact d1)).2
        rw [hpg.2, hx1] at y1
        have z1 := own_fro HI.out.row0 (j * 2 + 1)
        have HN : Hid (St w g (wr.setCell ⟨ro, j * 2 + 1, none⟩ (.int .u64 (Fl.cl x : Int))) v3 (m.map cleanE) (i : Int) [(.slice (some ⟨ro, 0, none⟩) m.length co, part m (j + 1))]) := Lib.hid (by
          refine HI.out.set rfl (set_upd wr ro (j * 2 + 1) (.int .u64 (Fl.cl x : Int))) ?_
          have h0 : RowOf wr (.slice (some ⟨ro, 0, none⟩) m.length co) (part m j) := HI.out.row0
          unfold RowOf at h0
          rw [hpl] at h0
          have hr := own_set h0 (j * 2 + 1) (by omega) (.int .u64 (Fl.cl x : Int))
          rw [enc_set1 (part m j) j (by rw [hpl]; exact d1) (Fl.cl x : Int), hpg.2, ← hx3, part_set m j d1] at hr
          unfold RowOf
          rw [part_length]
          exact hr)
        have HX2 := Lib.hid hx2
        clear hx1 hx2 hx3 hpg HI hpl
        go_wp2_with fail
        refine (Fl.Clean_any x HX2.out _).mono ?_
        rintro e w7 ⟨rfl, rfl⟩
        go_wp2_with fail
        go_roundw
        case rel => exact ⟨j + 1, by go_num, by omega, HN⟩
        case measure => simp; omega
      · have d2 : ¬ (j : Int) < (m.length : Int) := by omega
        obtain rfl : j = m.length := by omega
        obtain ⟨L, hL⟩ : ∃ L, m.map cleanE = L := ⟨_, rfl⟩
        have hLl : L.length = m.length := by rw [← hL, List.length_map]
        have HS : Hid (St w g wr v3 L (i : Int) [(.slice (some ⟨ro, 0, none⟩) m.length co, L)]) := Lib.hid (by have := HI.out; rw [part_all, hL] at this; exact this)
        have HLL := Lib.hid hLl
        clear HI hL hLl
        go_wp2_with fail
        refine (Go_yes g v3 L i i 0 wr HS.out.past (by omega) (by rw [HLL.out]; omega) (by omega) (by rw [HLL.out]; exact c3')).mono ?_
        rintro e w7 ⟨rfl, h7, hU7⟩
        have hiL : i < L.length := by rw [HLL.out]; exact c3'
        have H7 := Lib.hid ((HS.out.go hU7 h7).alloc (.cells #[.string L[i].f0, .int .u64 L[i].f1] 28))
        clear h7 hU7 HS
        go_wp2_with fail
        have y1 : (w7.alloc (.cells #[.string L[i].f0, .int .u64 L[i].f1] 28)).cell? ⟨w7.heap.size, 0, none⟩ = some (.string L[i].f0) := by simp [go_sem]
        have y2 : (w7.alloc (.cells #[.string L[i].f0, .int .u64 L[i].f1] 28)).cell? ⟨w7.heap.size, 1, none⟩ = some (.int .u64 L[i].f1) := by simp [go_sem]
        generalize w7.alloc (.cells #[.string L[i].f0, .int .u64 L[i].f1] 28) = w8 at H7 y1 y2 ⊢
        generalize w7.heap.size = K2 at y1 y2 ⊢
        have y3 := (row_cellr H7.out.row0 i hiL).1
        have y4 := (row_cellr H7.out.row0 i hiL).2
        generalize L[i].f0 = sE at y1 y3 ⊢
        generalize L[i].f1 = xE at y2 y4 ⊢
        have S0 : w8.drew.cell? ⟨K2, 0, none⟩ = some (.string sE) := y1
        have S1 : w8.drew.cell? ⟨K2, 1, none⟩ = some (.int .u64 xE) := y2
        have S2 : w8.drew.cell? ⟨ro, i * 2, none⟩ = some (.string sE) := y3
        have S3 : w8.drew.cell? ⟨ro, i * 2 + 1, none⟩ = some (.int .u64 xE) := y4
        have HZ := Lib.hid H7.out.drew
        clear y1 y2 y3 y4 H7
        refine start_ (n := 26) (S := fun w' => w'.cell? ⟨K2, 0, none⟩ = some (.string sE) ∧ w'.cell? ⟨K2, 1, none⟩ = some (.int .u64 xE) ∧ w'.cell? ⟨ro, i * 2, none⟩ = some (.string sE) ∧ w'.cell? ⟨ro, i * 2 + 1, none⟩ = some (.int .u64 xE)) (ds := []) #[false, false, false, false, false, false, false, false, false, false, false, false, false, false, false, false, false, false, false, false, false, false, false, false, false, false] (by kernel_rfl) rfl rfl ⟨S0, S1, S2, S3⟩ (fun hHeld => ?_); refine with_tabW FromL.tab15 FromL.bits15 (fun HT_ HW_ => ?_)
        clear S0 S1 S2 S3
        generalize w8.drew = w10 at hHeld HZ ⊢
        refine pure_ (i := 0) (N := some 76) (v := ?_) (a' := ?_) #[true, false, false, false, false, false, false, false, false, false, false, false, false, false, false, false, false, false, false, false, false, false, false, false, false, false] rfl rfl (any_of HT_.out (by kernel_rfl)) (fun _ _ _ h => h) (Or.inl ⟨by rfl, ?_⟩) ?_ ?_
        rotate_left
        · intro w'
          go_simp
          with_reducible rfl
        rotate_left
        · simp only [Act.put, List.setIfInBounds_toArray, List.set_cons_zero, List.set_cons_succ, i64_w, i32_w]
          rfl
        refine pure_ (i := 2) (N := some 78) (v := ?_) (a' := ?_) #[true, false, true, false, false, false, false, false, false, false, false, false, false, false, false, false, false, false, false, false, false, false, false, false, false, false] rfl rfl (any_of HT_.out (by kernel_rfl)) (fun _ _ _ h => h) (Or.inl ⟨by rfl, ?_⟩) ?_ ?_
        rotate_left
        · intro w'
          go_simp
          with_reducible rfl
        rotate_left
        · simp only [Act.put, List.setIfInBounds_toArray, List.set_cons_zero, List.set_cons_succ, i64_w, i32_w]
          rfl
        refine one_ (i := 1) (N := some 77) #[true, true, true, false, false, false, false, false, false, false, false, false, false, false, false, false, false, false, false, false, false, false, false, false, false, false] rfl rfl (one_of HT_.out (by kernel_rfl)) (by decide) (fun K hK => ?_)
        refine goes_ Try.func12 (by kernel_rfl) rfl #[.pointer (some ⟨g, 0, none⟩)] (by rfl) rfl rfl (by simp only [List.map_toArray, List.map_cons, List.map_nil]; rfl) ?_
        with_reducible refine (Entries_any2 g v3 L (i : Int) _ HZ.out.past (by rw [HLL.out]; omega)).mono ?_
        rintro en w3 ⟨v9, rfl, h9, hB9, hf9⟩
        refine ⟨_, rfl, ?_⟩
        refine hK.out _ _ ⟨(hB9.cell (lt_of_cell hHeld.1)).trans hHeld.1, (hB9.cell (lt_of_cell hHeld.2.1)).trans hHeld.2.1, (hB9.cell (lt_of_cell hHeld.2.2.1)).trans hHeld.2.2.1, (hB9.cell (lt_of_cell hHeld.2.2.2)).trans hHeld.2.2.2⟩ (fun hHeld => ?_)
        clear hK K
        refine norm_ (a' := ?_) ?_ ?_
        rotate_left
        · show Act.put _ (some 77) _ = _
          simp only [Act.put, List.setIfInBounds_toArray, List.set_cons_zero, List.set_cons_succ, i64_w, i32_w]
          rfl
        refine one_ (i := 3) (N := some 79) #[true, true, true, true, false, false, false, false, false, false, false, false, false, false, false, false, false, false, false, false, false, false, false, false, false, false] rfl rfl (one_of HT_.out (by kernel_rfl)) (by decide) (fun K hK => ?_)
        refine goes_ Try.func11 (by kernel_rfl) rfl #[v9, .slice (some ⟨ro, 0, none⟩) m.length co] (by rfl) rfl rfl (by simp only [List.map_toArray, List.map_cons, List.map_nil]; rfl) ?_
        with_reducible refine (Same_rows L _ (same_self L (by rw [HLL.out]; omega)) _ _ _ h9 (HZ.out.below hB9).row0).mono ?_
        rintro en w5 ⟨rfl, q5, rfl⟩
        refine ⟨_, rfl, ?_⟩
        refine hK.out _ _ ⟨hHeld.1, hHeld.2.1, hHeld.2.2.1, hHeld.2.2.2⟩ (fun hHeld => ?_)
        clear hK K
        refine norm_ (a' := ?_) ?_ ?_
        rotate_left
        · show Act.put _ (some 79) _ = _
          simp only [Act.put, List.setIfInBounds_toArray, List.set_cons_zero, List.set_cons_succ, i64_w, i32_w]
          rfl
        refine pure_ (i := 4) (N := some 80) (v := ?_) (a' := ?_) #[true, true, true, true, true, false, false, false, false, false, false, false, false, false, false, false, false, false, false, false, false, false, false, false, false, false] rfl rfl (any_of HT_.out (by kernel_rfl)) (fun _ _ _ h => h) (Or.inl ⟨by rfl, ?_⟩) ?_ ?_
        rotate_left
        · intro w'
          go_simp
          with_reducible rfl
        rotate_left
        · simp only [Act.put, List.setIfInBounds_toArray, List.set_cons_zero, List.set_cons_succ, i64_w, i32_w]
          rfl
        refine pure_ (i := 5) (N := some 81) (v := ?_) (a' := ?_) #[true, true, true, true, true, true, false, false, false, false, false, false, false, false, false, false, false, false, false, false, false, false, false, false, false, false] rfl rfl (any_of HT_.out (by kernel_rfl)) (fun _ _ _ h => h) (Or.inl ⟨by rfl, ?_⟩) ?_ ?_
        rotate_left
        · intro w'
          go_simp
          with_reducible rfl
        rotate_left
        · simp only [Act.put, List.setIfInBounds_toArray, List.set_cons_zero, List.set_cons_succ, i64_w, i32_w]
          rfl
        refine pure_ (i := 7) (N := some 83) (v := ?_) (a' := ?_) #[true, true, true, true, true, true, false, true, false, false, false, false, false, false, false, false, false, false, false, false, false, false, false, false, false, false] rfl rfl (any_of HT_.out (by kernel_rfl)) (fun _ _ _ h => h) (Or.inl ⟨by rfl, ?_⟩) ?_ ?_
        rotate_left
        · intro w'
          go_simp
          with_reducible rfl
        rotate_left
        · simp only [Act.put, List.setIfInBounds_toArray, List.set_cons_zero, List.set_cons_succ, i64_w, i32_w]
          rfl
        refine one_ (i := 6) (N := some 82) #[true, true, true, true, true, true, true, true, false, false, false, false, false, false, false, false, false, false, false, false, false, false, false, false, false, false] rfl rfl (one_of HT_.out (by kernel_rfl)) (by decide) (fun K hK => ?_)
        refine goes_ Try.func13 (by kernel_rfl) rfl #[.pointer (some ⟨g, 0, none⟩)] (by rfl) rfl rfl (by simp only [List.map_toArray, List.map_cons, List.map_nil]; rfl) ?_
        with_reducible refine (At_any g v3 L (i : Int) _ ((HZ.out.below hB9).drewN q5).past).mono ?_
        rintro en w6 ⟨rfl, rfl⟩
        refine ⟨_, rfl, ?_⟩
        refine hK.out _ _ ⟨hHeld.1, hHeld.2.1, hHeld.2.2.1, hHeld.2.2.2⟩ (fun hHeld => ?_)
        clear hK K
        refine norm_ (a' := ?_) ?_ ?_
        rotate_left
        · show Act.put _ (some 82) _ = _
          simp only [Act.put, List.setIfInBounds_toArray, List.set_cons_zero, List.set_cons_succ, i64_w, i32_w]
          rfl
        refine pure_ (i := 8) (N := some 84) (v := ?_) (a' := ?_) #[true, true, true, true, true, true, true, true, true, false, false, false, false, false, false, false, false, false, false, false, false, false, false, false, false, false] rfl rfl (any_of HT_.out (by kernel_rfl)) (fun _ _ _ h => h) (Or.inl ⟨by rfl, ?_⟩) ?_ ?_
        rotate_left
        · intro w'
          go_simp
          with_reducible rfl
        rotate_left
        · simp only [Act.put, List.setIfInBounds_toArray, List.set_cons_zero, List.set_cons_succ, i64_w, i32_w]
          rfl
        refine pure_ (i := 9) (N := some 85) (v := ?_) (a' := ?_) #[true, true, true, true, true, true, true, true, true, true, false, false, false, false, false, false, false, false, false, false, false, false, false, false, false, false] rfl rfl (any_of HT_.out (by kernel_rfl)) (fun _ _ _ h => h) (Or.inl ⟨by rfl, ?_⟩) ?_ ?_
        rotate_left
        · intro w'
          go_simp
          with_reducible rfl
        rotate_left
        · simp only [Act.put, List.setIfInBounds_toArray, List.set_cons_zero, List.set_cons_succ, i64_w, i32_w]
          rfl
        refine pure_ (i := 10) (N := some 86) (v := ?_) (a' := ?_) #[true, true, true, true, true, true, true, true, true, true, true, false, false, false, false, false, false, false, false, false, false, false, false, false, false, false] rfl rfl (any_of HT_.out (by kernel_rfl)) (fun _ _ _ h => h) (Or.inl ⟨by rfl, ?_⟩) ?_ ?_
        rotate_left
        · intro w'
          go_simp
          with_reducible rfl
        rotate_left
        · simp only [Act.put, List.setIfInBounds_toArray, List.set_cons_zero, List.set_cons_succ, i64_w, i32_w]
          rfl
        refine pure_ (i := 11) (N := some 87) (v := ?_) (a' := ?_) #[true, true, true, true, true, true, true, true, true, true, true, true, false, false, false, false, false, false, false, false, false, false, false, false, false, false] rfl rfl (any_of HT_.out (by kernel_rfl)) (fun _ _ _ h => h) (Or.inl ⟨by rfl, ?_⟩) ?_ ?_
        rotate_left
        · intro w'
          go_simp
          with_reducible rfl
        rotate_left
        · simp only [Act.put, List.setIfInBounds_toArray, List.set_cons_zero, List.set_cons_succ, i64_w, i32_w]
          rfl
        refine pure_ (i := 12) (N := some 88) (v := ?_) (a' := ?_) #[true, true, true, true, true, true, true, true, true, true, true, true, true, false, false, false, false, false, false, false, false, false, false, false, false, false] rfl rfl (any_of HT_.out (by kernel_rfl)) (fun _ _ _ h => h) (Or.inl ⟨by rfl, ?_⟩) ?_ ?_
        rotate_left
        · intro w'
          go_simp
          with_reducible rfl
        rotate_left
        · simp only [Act.put, List.setIfInBounds_toArray, List.set_cons_zero, List.set_cons_succ, i64_w, i32_w]
          rfl
        refine pure_ (i := 13) (N := some 89) (v := ?_) (a' := ?_) #[true, true, true, true, true, true, true, true, true, true, true, true, true, true, false, false, false, false, false, false, false, false, false, false, false, false] rfl rfl (any_of HT_.out (by kernel_rfl)) (fun _ _ _ h => h) (Or.inl ⟨by rfl, ?_⟩) ?_ ?_
        rotate_left
        · intro w'
          go_simp
          with_reducible rfl
        rotate_left
        · simp only [Act.put, List.setIfInBounds_toArray, List.set_cons_zero, List.set_cons_succ, i64_w, i32_w]
          rfl
        refine pure_ (i := 14) (N := some 90) (v := ?_) (a' := ?_) #[true, true, true, true, true, true, true, true, true, true, true, true, true, true, true, false, false, false, false, false, false, false, false, false, false, false] rfl rfl (any_of HT_.out (by kernel_rfl)) (fun _ _ _ h => h) (Or.inl ⟨by rfl, ?_⟩) ?_ ?_
        rotate_left
        · intro w'
          go_simp
          with_reducible rfl
        rotate_left
        · simp only [Act.put, List.setIfInBounds_toArray, List.set_cons_zero, List.set_cons_succ, i64_w, i32_w]
          rfl
        refine pure_ (i := 16) (N := some 92) (v := ?_) (a' := ?_) #[true, true, true, true, true, true, true, true, true, true, true, true, true, true, true, false, true, false, false, false, false, false, false, false, false, false] rfl rfl (any_of HT_.out (by kernel_rfl)) (fun _ _ _ h => h) (Or.inl ⟨by rfl, ?_⟩) ?_ ?_
        rotate_left
        · intro w'
          go_simp
          with_reducible rfl
        rotate_left
        · simp only [Act.put, List.setIfInBounds_toArray, List.set_cons_zero, List.set_cons_succ, i64_w, i32_w]
          rfl
        refine pure_ (i := 17) (N := some 93) (v := ?_) (a' := ?_) #[true, true, true, true, true, true, true, true, true, true, true, true, true, true, true, false, true, true, false, false, false, false, false, false, false, false] rfl rfl (any_of HT_.out (by kernel_rfl)) (fun _ _ _ h => h) (Or.inl ⟨by rfl, ?_⟩) ?_ ?_
        rotate_left
        · intro w'
          go_simp
          with_reducible rfl
        rotate_left
        · simp only [Act.put, List.setIfInBounds_toArray, List.set_cons_zero, List.set_cons_succ, i64_w, i32_w]
          rfl
        refine pure_ (i := 18) (N := some 94) (v := ?_) (a' := ?_) #[true, true, true, true, true, true, true, true, true, true, true, true, true, true, true, false, true, true, true, false, false, false, false, false, false, false] rfl rfl (any_of HT_.out (by kernel_rfl)) (fun _ _ _ h => h) (Or.inl ⟨by rfl, ?_⟩) ?_ ?_
        rotate_left
        · intro w'
          go_simp
          with_reducible rfl
        rotate_left
        · simp only [Act.put, List.setIfInBounds_toArray, List.set_cons_zero, List.set_cons_succ, i64_w, i32_w]
          rfl
        refine take_ (i := 15) (N := some 91) (v := ?_) (a' := ?_) #[true, true, true, true, true, true, true, true, true, true, true, true, true, true, true, true, true, true, true, false, false, false, false, false, false, false] rfl rfl (take_ofW HT_.out HW_.out (by kernel_rfl)) (fun _ _ _ h => h) (Or.inl ⟨by rfl, ?_⟩) hHeld ?_ ?_
        rotate_left
        · rintro w' ⟨s0, s1, s2, s3⟩
          go_simp
          with_reducible rfl
        rotate_left
        · simp only [Act.put, List.setIfInBounds_toArray, List.set_cons_zero, List.set_cons_succ, i64_w, i32_w]
          rfl
        refine take_ (i := 19) (N := some 95) (v := ?_) (a' := ?_) #[true, true, true, true, true, true, true, true, true, true, true, true, true, true, true, true, true, true, true, true, false, false, false, false, false, false] rfl rfl (take_ofW HT_.out HW_.out (by kernel_rfl)) (fun _ _ _ h => h) (Or.inl ⟨by rfl, ?_⟩) hHeld ?_ ?_
        rotate_left
        · rintro w' ⟨s0, s1, s2, s3⟩
          go_simp
          with_reducible rfl
        rotate_left
        · simp only [Act.put, List.setIfInBounds_toArray, List.set_cons_zero, List.set_cons_succ, i64_w, i32_w]
          rfl
        refine pure_ (i := 20) (N := some 96) (v := ?_) (a' := ?_) #[true, true, true, true, true, true, true, true, true, true, true, true, true, true, true, true, true, true, true, true, true, false, false, false, false, false] rfl rfl (any_of HT_.out (by kernel_rfl)) (fun _ _ _ h => h) (Or.inl ⟨by rfl, ?_⟩) ?_ ?_
        rotate_left
        · intro w'
          go_simp
          with_reducible rfl
        rotate_left
        · simp only [Act.put, List.setIfInBounds_toArray, List.set_cons_zero, List.set_cons_succ, i64_w, i32_w]
          rfl
        refine pure_ (i := 21) (N := some 97) (v := ?_) (a' := ?_) #[true, true, true, true, true, true, true, true, true, true, true, true, true, true, true, true, true, true, true, true, true, true, false, false, false, false] rfl rfl (any_of HT_.out (by kernel_rfl)) (fun _ _ _ h => h) (Or.inl ⟨by rfl, ?_⟩) ?_ ?_
        rotate_left
        · intro w'
          go_simp
          with_reducible rfl
        rotate_left
        · simp only [Act.put, List.setIfInBounds_toArray, List.set_cons_zero, List.set_cons_succ, i64_w, i32_w]
          rfl
        refine pure_ (i := 22) (N := some 98) (v := ?_) (a' := ?_) #[true, true, true, true, true, true, true, true, true, true, true, true, true, true, true, true, true, true, true, true, true, true, true, false, false, false] rfl rfl (any_of HT_.out (by kernel_rfl)) (fun _ _ _ h => h) (Or.inl ⟨by rfl, ?_⟩) ?_ ?_
        rotate_left
        · intro w'
          go_simp
          with_reducible rfl
        rotate_left
        · simp only [Act.put, List.setIfInBounds_toArray, List.set_cons_zero, List.set_cons_succ, i64_w, i32_w]
          rfl
        refine one_ (i := 23) (N := some 99) #[true, true, true, true, true, true, true, true, true, true, true, true, true, true, true, true, true, true, true, true, true, true, true, true, false, false] rfl rfl (one_of HT_.out (by kernel_rfl)) (by decide) (fun K hK => ?_)
        refine goes_ Try.func3 (by kernel_rfl) rfl #[] (by rfl) rfl rfl (by simp) ?_
        with_reducible refine (PastRuns_any _).mono ?_
        rintro en w6 ⟨rfl, hB6⟩
        refine ⟨_, rfl, ?_⟩
        refine hK.out _ _ ⟨(hB6.cell (lt_of_cell hHeld.1)).trans hHeld.1, (hB6.cell (lt_of_cell hHeld.2.1)).trans hHeld.2.1, (hB6.cell (lt_of_cell hHeld.2.2.1)).trans hHeld.2.2.1, (hB6.cell (lt_of_cell hHeld.2.2.2)).trans hHeld.2.2.2⟩ (fun hHeld => ?_)
        clear hK K
        refine norm_ (a' := ?_) ?_ ?_
        rotate_left
        · show Act.put _ (some 99) _ = _
          simp only [Act.put, List.setIfInBounds_toArray, List.set_cons_zero, List.set_cons_succ, i64_w, i32_w]
          rfl
        refine pure_ (i := 24) (N := some 100) (v := ?_) (a' := ?_) #[true, true, true, true, true, true, true, true, true, true, true, true, true, true, true, true, true, true, true, true, true, true, true, true, true, false] rfl rfl (any_of HT_.out (by kernel_rfl)) (fun _ _ _ h => h) (Or.inl ⟨by rfl, ?_⟩) ?_ ?_
        rotate_left
        · intro w'
          go_simp
          with_reducible rfl
        rotate_left
        · simp only [Act.put, List.setIfInBounds_toArray, List.set_cons_zero, List.set_cons_succ, i64_w, i32_w]
          rfl
        refine pure_ (i := 25) (N := some 4) (v := ?_) (a' := ?_) #[true, true, true, true, true, true, true, true, true, true, true, true, true, true, true, true, true, true, true, true, true, true, true, true, true, true] rfl rfl (any_of HT_.out (by kernel_rfl)) (fun _ _ _ h => h) (Or.inl ⟨by rfl, ?_⟩) ?_ ?_
        rotate_left
        · intro w'
          go_simp
          with_reducible rfl
        rotate_left
        · simp only [Act.put, List.setIfInBounds_toArray, List.set_cons_zero, List.set_cons_succ, i64_w, i32_w]
          rfl
        refine done_ (done_of HT_.out (by kernel_rfl)) ?_
        have hf := (((HZ.out.below hB9).drewN q5).below hB6).low
        go_wp2_with fail
        go_ret
        exact ⟨rfl, hf⟩
  · refine (From_no _ m at_ w2 H2.out.2.2.2.2.1 (by omega) hmay).mono ?_
    rintro e w3 ⟨rfl, rfl⟩
    have hway : at_ < 0 ∨ (0 ≤ at_ ∧ (m.length : Int) ≤ at_) ∨ (0 ≤ at_ ∧ at_ < (m.length : Int) ∧ decide ((m.length : Int) ≤ 12) = false) := by
      by_cases e1 : at_ < 0
      · exact .inl e1
      · by_cases e2 : (m.length : Int) ≤ at_
        · exact .inr (.inl ⟨by omega, e2⟩)
        · exact .inr (.inr ⟨by omega, by omega, decide_eq_false (by omega)⟩)
    clear hmay hk
    rcases hway with d1 | ⟨d1, d2⟩ | ⟨d1, d2, d3⟩
    all_goals
      go_wp2_with fail
      refine (Intact_any r _ m w3 ⟨#[120]⟩ H2.out.2.2.2.1 H2.out.1 (by omega)).mono ?_
      rintro e w4 ⟨rfl, hB4⟩
      have HB := Lib.hid (H2.out.2.1.trans (hB4.mono H2.out.2.1.size))
      clear hB4
      go_wp2_with fail
      refine (PastRuns_any w4).mono ?_
      rintro e w9 ⟨rfl, hB⟩
      go_wp2_with fail
      go_ret
      exact ⟨rfl, HB.out.trans (hB.mono HB.out.size)⟩
end Go.Proofs.Ytobeebcpkkdkhaa.Pa
