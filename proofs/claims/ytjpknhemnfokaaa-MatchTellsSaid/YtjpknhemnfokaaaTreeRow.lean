/- Rows of trees: append, cuts; the laws' own map of numbers to bools; letters; Within. -/
import Derived.Test.YtjpknhemnfokaaaTurnedPure
import Derived.Lib.ConvBytes
set_option linter.unusedVariables false
set_option linter.unusedSimpArgs false
namespace Go.Proofs.Ytjpknhemnfokaaa.Mt
open Go.RowKit Go.Maps Go.Proofs.YtjpknhemnfokaaaW.PrintWords Go.Proofs.YtjpknhemnfokaaaW.PrintLast Go.Proofs.Ytjpknhemnfokaaa.Sl Go.Proofs.Ytjpknhemnfokaaa.Mv Go.Proofs.Ytjpknhemnfokaaa.PMatchTells

theorem infoTree : (Try.prog.info? 25).map (fun i => (i.zero, i.size, i.bytes)) = some (some (.agg #[(.string ⟨#[]⟩), (.string ⟨#[]⟩), (.string ⟨#[]⟩), .slice none 0 0, .slice none 0 0]), 5, 96) := by kernel_rfl
theorem trEnc_append (l m : List Tr) : trEnc (l ++ m) = trEnc l ++ trEnc m := by
  induction l with
  | nil => rfl
  | cons e l ih => simp [trEnc, ih]
theorem trEnc_take (l : List Tr) (k : Nat) : trEnc (l.take k) = (trEnc l).take (k * 5) := by
  induction l generalizing k with
  | nil => simp [trEnc]
  | cons e l ih =>
    cases k with
    | zero => simp [trEnc]
    | succ k =>
      have h5 : e.cs.length = 5 := rfl
      have ht : e.cs.take ((k + 1) * 5) = e.cs := List.take_of_length_le (by rw [h5]; omega)
      rw [List.take_succ_cons, trEnc, trEnc, ih, List.take_append, h5, show (k + 1) * 5 - 5 = k * 5 by omega, ht]
theorem trEnc_drop (l : List Tr) (k : Nat) : trEnc (l.drop k) = (trEnc l).drop (k * 5) := by
  induction l generalizing k with
  | nil => simp [trEnc]
  | cons e l ih =>
    cases k with
    | zero => simp [trEnc]
    | succ k =>
      have h5 : e.cs.length = 5 := rfl
      have ht : e.cs.drop ((k + 1) * 5) = [] := List.drop_of_length_le (by rw [h5]; omega)
      rw [List.drop_succ_cons, trEnc, ih, List.drop_append, h5, show (k + 1) * 5 - 5 = k * 5 by omega, ht, List.nil_append]
theorem trEnc_one (l : List Tr) : ∀ u ∈ trEnc l, u.oneCell' = true := by
  induction l with
  | nil => intro u h; simp [trEnc] at h
  | cons e l ih =>
    intro u h
    simp only [trEnc, Tr.cs, List.cons_append, List.nil_append, List.mem_cons] at h
    rcases h with rfl | rfl | rfl | rfl | rfl | h
    · rfl
    · rfl
    · rfl
    · rfl
    · rfl
    · exact ih u h
theorem TRow.form {w : World} {v : Value} {l : List Tr} (h : TRow w v l) : ∃ A c, v = .slice A l.length c ∧ l.length ≤ c := Sl.form h
theorem trow_take {w : World} {l : List Tr} {c q o : Nat} (h : TRow w (.slice (some ⟨q, o, none⟩) l.length c) l) {k : Nat} (hk : k ≤ l.length) : TRow w (.slice (some ⟨q, o, none⟩) k c) (l.take k) := by
  unfold TRow
  rw [List.length_take, Nat.min_eq_left hk, trEnc_take]
  exact Sl.take h k hk
theorem trow_drop {w : World} {l : List Tr} {c q o : Nat} (h : TRow w (.slice (some ⟨q, o, none⟩) l.length c) l) {k : Nat} (hk : k ≤ l.length) : TRow w (.slice (some ⟨q, (if c = k then o else o + k * 5), none⟩) (l.length - k) (c - k)) (l.drop k) := by
  unfold TRow
  rw [List.length_drop, trEnc_drop]
  exact Sl.drop h k hk
theorem trow_cells {w : World} {l : List Tr} {n c q o : Nat} (h : TRow w (.slice (some ⟨q, o, none⟩) n c) l) (hn : n = l.length) : ∀ j u, (trEnc l)[j]? = some u → w.cell? ((⟨q, o, none⟩ : Addr).add j) = some u := fun j u hu => by
  subst hn
  have h1 := Sl.cell h j u hu
  rwa [show (⟨q, o, none⟩ : Addr).add j = ⟨q, o + j, none⟩ from by unfold Addr.add; split <;> simp_all]
theorem run_append_trees (w : World) (v : Value) (l m : List Tr) (a : Addr) (c : Nat) (ty : TypeId) (h : TRow w v l) (hm : ∀ j u, (trEnc m)[j]? = some u → w.cell? (a.add j) = some u) (hl : l.length + m.length ≤ 100000) :
    ∃ A c' w', (Builtin.append_ #[23, 23] ty #[v, .slice (some a) m.length c]).run Try.prog w = .ok (.slice A (l ++ m).length c') w' ∧ TRow w' (.slice A (l ++ m).length c') (l ++ m) ∧ w.grownBy w' v.ownBlock ∧ ((Value.slice A (l ++ m).length c').ownBlock = v.ownBlock ∨ (Value.slice A (l ++ m).length c').ownBlock = some w.heap.size) := by
  obtain ⟨i0, hi, hzz⟩ := Option.map_eq_some_iff.1 infoTree
  simp only [Prod.mk.injEq] at hzz
  obtain ⟨hz0, hz1, hz2⟩ := hzz
  by_cases h0 : m.length = 0
  · have : m = [] := List.eq_nil_of_length_eq_zero h0
    subst this
    obtain ⟨A, c', rfl, _⟩ := h.form
    refine ⟨A, c', w, ?_, by simpa using h, World.grownBy.refl w _, .inl (by simp)⟩
    have := run_append_none w 23 ty 25 i0 5 Try.underlying23 hi _ _ _ h (some a) c
    simpa using this
  · obtain ⟨g', o', c', w', h1, h2, h3, h4⟩ := run_append_sl (P := Try.prog) w 23 ty 25 i0 _ 5 96 Try.underlying23 hi hz0 hz1 hz2 rfl v l.length (trEnc l) h a m.length c (trEnc m) (trEnc_length m) hm (trEnc_one m) (by omega) (by unfold maxLen; omega) (by omega)
    refine ⟨some ⟨g', o', none⟩, c', w', by rw [List.length_append]; exact h1, by unfold TRow; rw [List.length_append, trEnc_append]; exact h2, h3, ?_⟩
    rcases h4 with h4 | h4
    · exact .inl h4.symm
    · exact .inr (by rw [h4]; rfl)
theorem tree_cells {W : World} {b : Nat} {t : Tr} (h : W.heap[b]? = some (.cells #[.string t.a, .string t.b, .string t.c, .slice none 0 0, .slice none 0 0] 25 (0, 0))) : ∀ j u, (trEnc [t])[j]? = some u → W.cell? ((⟨b, 0, none⟩ : Addr).add j) = some u := fun j u hu => by
  rcases j with _ | _ | _ | _ | _ | j <;> simp [trEnc, Tr.cs] at hu <;> subst hu <;> simp [World.cell?, Addr.add, h]
theorem wpl_append_tree {ops : Array Oper} {rest : List Oper} {o : Oper} {a : Act} {Q : Exit → Act → World → Prop} {W : World} (hgd : o.guard = none) (s x : Operand)
    (ho : o.op = .call { callee := .builtin .append, args := #[s, x], argTypes := #[23, 23] })
    (v : Value) (l : List Tr) (m : Tr) (b c : Nat) (hs : a.eval s = v) (hx : a.eval x = .slice (some ⟨b, 0, none⟩) 1 c) (h : TRow W v l) (hm : W.heap[b]? = some (.cells #[.string m.a, .string m.b, .string m.c, .slice none 0 0, .slice none 0 0] 25 (0, 0))) (hl : l.length ≤ 90000)
    (K : ∀ A c' w', TRow w' (.slice A (l ++ [m]).length c') (l ++ [m]) → W.grownBy w' v.ownBlock → ((Value.slice A (l ++ [m]).length c').ownBlock = v.ownBlock ∨ (Value.slice A (l ++ [m]).length c').ownBlock = some W.heap.size) → wpList Try.prog ops Q rest (a.put o.dst (.slice A (l ++ [m]).length c')) w') : wpList Try.prog ops Q (o :: rest) a W := by
  obtain ⟨A, c', w', hrun, h2, h3, h4⟩ := run_append_trees W v l [m] ⟨b, 0, none⟩ c o.type h (tree_cells hm) (by simp; omega)
  refine wpList_plain hgd fun _ hK => ?_
  unfold Oper.wp execOp
  have hrun' : (Builtin.append_ #[23, 23] o.type #[v, .slice (some ⟨b, 0, none⟩) 1 c]).run Try.prog W = .ok (.slice A (l ++ [m]).length c') w' := hrun
  simp only [ho, resolve, invoke, builtin, Sem.run_bind, Sem.run_pure, Result.andThen_ok, List.map_toArray, List.map_cons, List.map_nil, hs, hx, hrun']
  exact hK _ _ (K A c' w' h2 h3 h4)
theorem trow_made (w : World) : TRow (w.alloc (.cells #[] 25)) (.slice (some ⟨w.heap.size, 0, none⟩) 0 0) [] :=
  Sl.of_own (World.ownsRow_made (base := w.heap.size) (e := 25) (size := 5) w #[] 0 (Nat.le_refl _) (by decide) (by rfl))
theorem within (a lo hi : Int) (h : lo ≤ hi) (h0 : -1000000 ≤ lo) (h1 : hi ≤ 1000000) : ∃ r : Int, porticobook_Within.f a lo hi = some r ∧ lo ≤ r ∧ r ≤ hi := by
  have e1 : wrap64 ((wrap64 (hi - lo)) + 1) = hi - lo + 1 := by unfold wrap64; omega
  unfold porticobook_Within.f
  rw [e1, if_neg (by omega)]
  have hl := Int.tmod_lt_of_pos a (show (0 : Int) < hi - lo + 1 by omega)
  have hg := Int.lt_tmod_of_pos a (show (0 : Int) < hi - lo + 1 by omega)
  generalize Int.tmod a (hi - lo + 1) = q at *
  by_cases c : q < 0
  · rw [if_pos c]
    refine ⟨lo + (q + hi - lo + 1), ?_, by omega, by omega⟩
    congr 1
    unfold wrap64
    omega
  · rw [if_neg c]
    refine ⟨lo + q, ?_, by omega, by omega⟩
    congr 1
    unfold wrap64
    omega
theorem withinN (a : Int) (lo hi : Nat) (h : lo ≤ hi) (h1 : hi ≤ 1000000) : ∃ r : Nat, porticobook_Within.f a lo hi = some (r : Int) ∧ lo ≤ r ∧ r ≤ hi := by
  obtain ⟨r, h2, h3, h4⟩ := within a lo hi (by omega) (by omega) (by omega)
  obtain ⟨n, rfl⟩ : ∃ n : Nat, r = (n : Int) := ⟨r.toNat, by omega⟩
  exact ⟨n, h2, by omega, by omega⟩
theorem one_byte (W : World) (x : Int) : (convert 35 9 (.slice (some ⟨W.heap.size, 0, none⟩) 1 1)).run Try.prog (W.alloc (.cells #[.int .u8 x] 5)) = .ok (.string ⟨#[UInt8.ofNat x.toNat]⟩) (W.alloc (.cells #[.int .u8 x] 5)) := by
  rw [run_convert_bytes_string _ _ _ 5 _ _ _ Try.underlying35 Try.underlying5 Try.underlying9]
  rw [run_bytesToString _ _ _ _ [x] (by simp [loadCells, loadCellsFrom, go_sem])]
  rfl
theorem letter48 (W : World) (i : Nat) : (convert 35 9 (.slice (some ⟨W.heap.size, 0, none⟩) 1 1)).run Try.prog (W.alloc (.cells #[.int .u8 (48 + (i : Int))] 5)) = .ok (.string (nt i).b) (W.alloc (.cells #[.int .u8 (48 + (i : Int))] 5)) := by
  rw [one_byte W (48 + (i : Int))]
  unfold nt bs
  rw [show (48 + (i : Int)).toNat = 48 + i by omega]
theorem spot_int {w : World} (a : Addr) (x : Nat) (h : a.spot = some x) (v : Int) (hc : w.cell? a = some (.int .i64 v)) : False := by
  obtain ⟨b, o, sp⟩ := a
  dsimp only at h
  subst h
  unfold World.cell? at hc
  dsimp only at hc
  split at hc
  · simp at hc
  · cases hc
theorem ints_cell {w : World} {A : Option Addr} {l : List Int} (h : Kd.C (Kd.int .i64) w A l.length l) (i : Nat) (hi : i < l.length) : ∃ b o, A = some ⟨b, o, none⟩ ∧ w.cell? ⟨b, o + i, none⟩ = some (.int .i64 l[i]) := by
  have key : ∀ k, (hk : k < l.length) → ∃ ad, A = some ad ∧ w.cell? (ad.add k) = some (.int .i64 l[k]) := fun k hk => by
    obtain ⟨ad, cs, e, _, hK, hc⟩ := Kd.C_get h 0 (k : Int) (by omega) (by omega)
    have hK' : cs = [.int .i64 (l.getD (k : Int).toNat 0)] := hK
    subst hK'
    have hg : l.getD (k : Int).toNat 0 = l[k] := by simp [List.getD_eq_getElem?_getD, hk]
    have := hc 0 _ rfl
    rw [hg] at this
    have hs : (k : Int).toNat * (Kd.int .i64).sz + 0 = k := by show (k : Int).toNat * 1 + 0 = k; omega
    rw [hs] at this
    exact ⟨ad, e, this⟩
  obtain ⟨ad0, e0, h0⟩ := key 0 (by omega)
  obtain ⟨ad, e, h1⟩ := key i hi
  rw [e0] at e
  injection e with e
  subst e
  obtain ⟨b, o, sp⟩ := ad0
  cases sp with
  | none =>
    refine ⟨b, o, e0, ?_⟩
    rwa [show (⟨b, o, none⟩ : Addr).add i = ⟨b, o + i, none⟩ from by unfold Addr.add; split <;> simp_all] at h1
  | some x =>
    exfalso
    rw [show (⟨b, o, some x⟩ : Addr).add 0 = ⟨b, o, some x⟩ from by unfold Addr.add; simp] at h0
    exact spot_int _ x rfl _ h0
end Go.Proofs.Ytjpknhemnfokaaa.Mt
