/- Rows of numbers (slices of int) that may begin within their block: append, cuts. For any seat. -/
import Derived.Test.YtfllecoenjljpaaSl
import Derived.OwnWalk
set_option linter.unusedVariables false
set_option linter.unusedSimpArgs false
namespace Go.Proofs.Ytfllecoenjljpaa.Sl
open Go.RowKit

abbrev IRow (w : World) (v : Value) (l : List Int) : Prop := Sl w 3 1 v l.length (l.map (.int .i64 ·))
theorem infoInt : (Try.prog.info? 3).map (fun i => (i.zero, i.size, i.bytes)) = some (some (.int .i64 0), 1, 8) := by kernel_rfl
theorem run_append_ints (w : World) (v : Value) (l m : List Int) (a : Addr) (c : Nat) (ty : TypeId) (h : IRow w v l) (hm : ∀ j u, (m.map (Value.int .i64 ·))[j]? = some u → w.cell? (a.add j) = some u) (hl : l.length + m.length ≤ 100000) :
    ∃ A c' w', (Builtin.append_ #[29, 29] ty #[v, .slice (some a) m.length c]).run Try.prog w = .ok (.slice A (l ++ m).length c') w' ∧ IRow w' (.slice A (l ++ m).length c') (l ++ m) ∧ w.grownBy w' v.ownBlock ∧ ((Value.slice A (l ++ m).length c').ownBlock = v.ownBlock ∨ (Value.slice A (l ++ m).length c').ownBlock = some w.heap.size) := by
  obtain ⟨i0, hi, hzz⟩ := Option.map_eq_some_iff.1 infoInt
  simp only [Prod.mk.injEq] at hzz
  obtain ⟨hz0, hz1, hz2⟩ := hzz
  by_cases h0 : m.length = 0
  · have : m = [] := List.eq_nil_of_length_eq_zero h0
    subst this
    obtain ⟨A, c', rfl, _⟩ := h.form
    refine ⟨A, c', w, ?_, by simpa using h, World.grownBy.refl w _, .inl (by simp)⟩
    have := run_append_none w 29 ty 3 i0 1 Try.underlying29 hi _ _ _ h (some a) c
    simpa using this
  · obtain ⟨g', o', c', w', h1, h2, h3, h4⟩ := run_append_sl (P := Try.prog) w 29 ty 3 i0 _ 1 8 Try.underlying29 hi hz0 hz1 hz2 rfl v l.length (l.map (.int .i64 ·)) h a m.length c (m.map (.int .i64 ·)) (by simp) hm (by simp [Value.oneCell']) (by omega) (by unfold maxLen; omega) (by omega)
    refine ⟨some ⟨g', o', none⟩, c', w', by rw [List.length_append]; exact h1, by unfold IRow; rw [List.length_append, List.map_append]; exact h2, h3, ?_⟩
    rcases h4 with h4 | h4
    · exact .inl h4.symm
    · exact .inr (by rw [h4]; rfl)
theorem wpl_append_int {ops : Array Oper} {rest : List Oper} {o : Oper} {a : Act} {Q : Exit → Act → World → Prop} {W : World} (hgd : o.guard = none) (s x : Operand)
    (ho : o.op = .call { callee := .builtin .append, args := #[s, x], argTypes := #[29, 29] })
    (v : Value) (l : List Int) (m : Int) (b c : Nat) (hs : a.eval s = v) (hx : a.eval x = .slice (some ⟨b, 0, none⟩) 1 c) (h : IRow W v l) (hm : W.heap[b]? = some (.cells #[.int .i64 m] 3 (0, 0))) (hl : l.length ≤ 90000)
    (K : ∀ A c' w', IRow w' (.slice A (l ++ [m]).length c') (l ++ [m]) → W.grownBy w' v.ownBlock → ((Value.slice A (l ++ [m]).length c').ownBlock = v.ownBlock ∨ (Value.slice A (l ++ [m]).length c').ownBlock = some W.heap.size) → wpList Try.prog ops Q rest (a.put o.dst (.slice A (l ++ [m]).length c')) w') : wpList Try.prog ops Q (o :: rest) a W := by
  obtain ⟨A, c', w', hrun, h2, h3, h4⟩ := run_append_ints W v l [m] ⟨b, 0, none⟩ c o.type h (fun j u hu => by
    rcases j with _ | j
    · cases hu
      simp [World.cell?, Addr.add, hm]
    · simp at hu) (by simp; omega)
  refine wpList_plain hgd fun _ hK => ?_
  unfold Oper.wp execOp
  have hrun' : (Builtin.append_ #[29, 29] o.type #[v, .slice (some ⟨b, 0, none⟩) 1 c]).run Try.prog W = .ok (.slice A (l ++ [m]).length c') w' := hrun
  simp only [ho, resolve, invoke, builtin, Sem.run_bind, Sem.run_pure, Result.andThen_ok, List.map_toArray, List.map_cons, List.map_nil, hs, hx, hrun']
  exact hK _ _ (K A c' w' h2 h3 h4)
theorem IRow.below {w w' : World} {v : Value} {l : List Int} (h : IRow w v l) (hB : Below w.heap.size w w') : IRow w' v l := Sl.below h hB (Nat.le_refl _)
theorem IRow.form {w : World} {v : Value} {l : List Int} (h : IRow w v l) : ∃ A c, v = .slice A l.length c ∧ l.length ≤ c := Sl.form h
theorem irow_lit (w : World) (a : Int) : IRow (w.alloc (.cells #[.int .i64 a] 3)) (.slice (some ⟨w.heap.size, 0, none⟩) 1 1) [a] :=
  Sl.of_own (World.ownsRow_lit (base := 0) (e := 3) (size := 1) w #[.int .i64 a] 1 (Nat.zero_le _) (by decide) (by rfl))
/-- The row's first is cut off. -/
theorem IRow.tail {w : World} {g o c : Nat} {x : Int} {l : List Int} (h : IRow w (.slice (some ⟨g, o, none⟩) (l.length + 1) c) (x :: l)) : IRow w (.slice (some ⟨g, (if c = 1 then o else o + 1), none⟩) l.length (c - 1)) l := by
  have h1 := Sl.drop (n := l.length + 1) h 1 (by omega)
  simpa using h1
theorem IRow.head {w : World} {v : Value} {x : Int} {l : List Int} (h : IRow w v (x :: l)) : ∃ g o c, v = .slice (some ⟨g, o, none⟩) (l.length + 1) c ∧ l.length + 1 ≤ c ∧ w.cell? ⟨g, o, none⟩ = some (.int .i64 x) := by
  obtain ⟨g, o, c, rfl, hc⟩ := Sl.form1 h (by simp)
  refine ⟨g, o, c, rfl, hc, ?_⟩
  exact Sl.cell h 0 _ (by simp)
end Go.Proofs.Ytfllecoenjljpaa.Sl
