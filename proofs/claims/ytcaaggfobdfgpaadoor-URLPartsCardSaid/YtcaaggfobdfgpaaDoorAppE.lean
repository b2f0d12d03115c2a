/- append(append([]T{}, xs...), y, z): the two appends as runs, told by cells; an empty literal's slice needs nothing of the memory. -/
import Derived.Test.YtcaaggfobdfgpaaDoorSl
set_option linter.unusedVariables false
set_option linter.unusedSimpArgs false
namespace Go.Proofs.YtcaaggfobdfgpaaDoor.Sl
open Go.RowKit

theorem exec_app {P : Program} {o : Oper} {a : Act} {w w1 : World} {v : Value} (s x : Operand) (t : TypeId) (ho : o.op = .call { callee := .builtin .append, args := #[s, x], argTypes := #[t, t] }) (vs vx : Value) (hs : a.eval s = vs) (hx : a.eval x = vx)
    (hr : (Builtin.append_ #[t, t] o.type #[vs, vx]).run P w = .ok v w1) : (execOp a.eval o).run P w = .ok (.value v) w1 := by
  unfold execOp
  simp only [ho, resolve, invoke, builtin, Sem.run_bind, Sem.run_pure, Result.andThen_ok, List.map_toArray, List.map_cons, List.map_nil, hs, hx, hr]
/-- The same in a region of fixed order. -/
theorem wpl_app {P : Program} {ops : Array Oper} {rest : List Oper} {o : Oper} {a : Act} {Q : Exit → Act → World → Prop} {w w1 : World} {v : Value} (hg : o.guard = none) (s x : Operand) (t : TypeId) (ho : o.op = .call { callee := .builtin .append, args := #[s, x], argTypes := #[t, t] }) (vs vx : Value) (hs : a.eval s = vs) (hx : a.eval x = vx)
    (hr : (Builtin.append_ #[t, t] o.type #[vs, vx]).run P w = .ok v w1) (hK : wpList P ops Q rest (a.put o.dst v) w1) : wpList P ops Q (o :: rest) a w := by
  have hw : Region.wanted o (yielded ops a.tmps) = true := by simp [Region.wanted, hg]
  rw [wpList, if_pos hw]
  refine .inl ?_
  unfold Oper.wp
  rw [exec_app s x t ho vs vx hs hx hr]
  exact hK
/-- What stands behind the first append onto an empty literal: n elements, cells xs, made from base on. -/
def App (w : World) (base : Nat) (e : TypeId) (size : Nat) (v : Value) (n : Nat) (xs : List Value) : Prop :=
  (∀ k, v.ownBlock = some k → base ≤ k) ∧ ((n = 0 ∧ xs = [] ∧ ∃ b, v = .slice (some ⟨b, 0, none⟩) 0 0) ∨ (0 < n ∧ Sl w e size v n xs))
theorem App.below {w w' : World} {base : Nat} {e : TypeId} {size : Nat} {v : Value} {n : Nat} {xs : List Value} (h : App w base e size v n xs) (hB : Below w.heap.size w w') : App w' base e size v n xs := by
  refine ⟨h.1, ?_⟩
  rcases h.2 with h2 | ⟨h2, h3⟩
  · exact .inl h2
  · exact .inr ⟨h2, h3.below hB (Nat.le_refl _)⟩
/-- the first one. -/
theorem app_first {P : Program} (w : World) (base : Nat) (hbase : base ≤ w.heap.size) (b : Nat) (hb : base ≤ b) (t ty e : TypeId) (i : TypeInfo) (z : Value) (size bytes : Nat) (ht : P.underlying t = some (.slice e)) (hi : P.info? e = some i) (hz : i.zero = some z)
    (hsize : i.size = size) (hby : i.bytes = bytes) (hzs : z.cells.size = size) (A : Option Addr) (m c : Nat) (news : List Value) (hl : news.length = m * size) (hnews : 0 < m → ∃ a, A = some a ∧ ∀ j u, news[j]? = some u → w.cell? (a.add j) = some u)
    (hm : m ≤ 1000000) (hbytes : bytes ≤ 1000) :
    ∃ v w', (Builtin.append_ #[t, t] ty #[.slice (some ⟨b, 0, none⟩) 0 0, .slice A m c]).run P w = .ok v w' ∧ App w' base e size v m news ∧ Below w.heap.size w w' := by
  subst hsize
  subst hby
  rcases Nat.eq_zero_or_pos m with h0 | h0
  · subst h0
    have hn : news = [] := List.eq_nil_of_length_eq_zero (by simpa using hl)
    refine ⟨.slice (some ⟨b, 0, none⟩) 0 0, w, ?_, ⟨fun k hk => by cases hk; exact hb, .inl ⟨rfl, hn, b, rfl⟩⟩, Below.refl _ _⟩
    cases A
    all_goals simp [Builtin.append_, run_underlying ht, sizeOf, typeInfo, hi, Builtin.lenOf, Builtin.firstCells, loadCells, loadCellsFrom, storeCells, *]
  · obtain ⟨a, rfl, hc⟩ := hnews h0
    have hmul : m * i.bytes ≤ 1000000000 := by
      have := Nat.mul_le_mul hm hbytes
      omega
    have hr := run_append_grow (P := P) (w := w) t ty e i z ht hi hz ⟨b, 0, none⟩ 0 0 [] (by simp) (fun j v hj => by simp at hj) a m c news hl hc (by omega) (by omega) (growslice_fits (by omega) (by simp only [Nat.zero_add]; omega))
    simp only [Nat.zero_add, List.size_toArray, List.length_nil] at hr
    have hge := grownCap_ge w m 0 e
    have hcm : grownCap w m 0 e ≤ maxLen := grownCap_le_maxLen w m 0 e (by unfold maxLen; omega)
    refine ⟨_, _, hr, ⟨fun k hk => by cases hk; exact hbase, .inr ⟨h0, hl, .inr ⟨w.heap.size, 0, _, _, rfl, heap_alloc_new w.drew _, hge, hcm, ?_, ?_⟩⟩⟩, ?_⟩
    · simp only [Array.size_append, List.size_toArray, size_zeroCells, hzs, hl, List.length_nil, Nat.zero_add, ← Nat.add_mul]
      apply Nat.le_of_eq
      congr 1
      omega
    · simp only [Array.toList_append, List.drop_zero, List.nil_append]
      rw [← hl]
      exact List.take_left
    · exact ((Below.refl w.heap.size w).drew).alloc (Nat.le_refl _) _
/-- the second one: a literal of m elements, m at least one. -/
theorem app_second {P : Program} (w : World) (base : Nat) (hbase : base ≤ w.heap.size) (t ty e : TypeId) (i : TypeInfo) (z : Value) (size bytes : Nat) (ht : P.underlying t = some (.slice e)) (hi : P.info? e = some i) (hz : i.zero = some z)
    (hsize : i.size = size) (hby : i.bytes = bytes) (hzs : z.cells.size = size) (v : Value) (n : Nat) (xs : List Value) (hv : App w base e size v n xs) (a : Addr) (m c : Nat) (news : List Value) (hl : news.length = m * size)
    (hnews : ∀ j u, news[j]? = some u → w.cell? (a.add j) = some u) (h1 : ∀ u ∈ news, u.oneCell' = true) (hm0 : 0 < m) (hn : n + m ≤ 1000000) (hbytes : bytes ≤ 1000) :
    ∃ v' w', (Builtin.append_ #[t, t] ty #[v, .slice (some a) m c]).run P w = .ok v' w' ∧ Sl w' e size v' (n + m) (xs ++ news) ∧ (∀ k, v'.ownBlock = some k → base ≤ k) ∧ Below base w w' ∧ ∀ (g : Nat) (cs : Array Value) (q : TypeId), w.heap[g]? = some (Obj.cells cs q (0, 0)) → q ≠ e → w'.heap[g]? = w.heap[g]? := by
  rcases hv.2 with ⟨rfl, rfl, b, rfl⟩ | ⟨hp, hs⟩
  · obtain ⟨v', w', hr, ha, hB⟩ := app_first (P := P) w base hbase b (hv.1 b rfl) t ty e i z size bytes ht hi hz hsize hby hzs (some a) m c news hl (fun _ => ⟨a, rfl, hnews⟩) (by omega) hbytes
    refine ⟨v', w', hr, ?_, ha.1, hB.mono hbase, fun g cs q hg _ => hB.block g (Array.getElem?_eq_some_iff.1 hg).1⟩
    rcases ha.2 with ⟨h, _⟩ | ⟨_, h⟩
    · omega
    · simpa using h
  · have hmul : (n + m) * bytes ≤ 1000000000 := by
      have := Nat.mul_le_mul hn hbytes
      omega
    obtain ⟨g', o', c', w', hr, hs', hg, ho⟩ := run_append_sl (P := P) w t ty e i z size bytes ht hi hz hsize hby hzs v n xs hs a m c news hl hnews h1 hm0 (by unfold maxLen; omega) (by omega)
    refine ⟨_, w', hr, hs', ?_, ?_, ?_⟩
    · intro k hk
      cases hk
      rcases ho with ho | ho
      · exact hv.1 g' ho
      · rw [ho]; exact hbase
    · exact (Below.refl base w).grown hg hbase (fun k hk => hv.1 k hk)
    · intro g cs q hgb hq
      refine hg.block g (Array.getElem?_eq_some_iff.1 hgb).1 (fun e1 => ?_)
      obtain ⟨cur, hcur⟩ := (hs.lt g e1.symm).2
      rw [hcur] at hgb
      injection hgb with hgb
      injection hgb with _ hgb
      exact hq hgb.symm
end Go.Proofs.YtcaaggfobdfgpaaDoor.Sl
