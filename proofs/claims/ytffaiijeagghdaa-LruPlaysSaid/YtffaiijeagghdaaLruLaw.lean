/- Package lru: words for the laws' walks: letters, rows of texts. -/
import Derived.Test.YtffaiijeagghdaaLruPure
import Derived.Lib.ConvBytes
set_option linter.unusedVariables false
set_option linter.unusedSimpArgs false
namespace Go.Proofs.Ytffaiijeagghdaa.Lr
open Go.RowKit Go.Proofs.YtffaiijeagghdaaW.PrintWords Go.Proofs.YtffaiijeagghdaaW.PrintLast Go.Proofs.Ytffaiijeagghdaa.Sl Go.Proofs.Ytffaiijeagghdaa.PLruPlays

theorem within (a lo hi : Int) (h : lo ≤ hi) (h0 : -1000000 ≤ lo) (h1 : hi ≤ 1000000) : ∃ r : Int, porticobook_Within.f a lo hi = some r ∧ lo ≤ r ∧ r ≤ hi := by
  have e1 : wrap64 ((wrap64 (hi - lo)) + 1) = hi - lo + 1 := by unfold wrap64; omega
  unfold porticobook_Within.f
  rw [e1, if_neg (by omega)]
  have hl := Int.tmod_lt_of_pos a (show (0 : Int) < hi - lo + 1 by omega)
  have hg := Int.lt_tmod_of_pos a (show (0 : Int) < hi - lo + 1 by omega)
  generalize Int.tmod a (hi - lo + 1) = q at *
  by_cases c : q < 0
  · rw [if_pos c]
    refine ⟨lo + (q + hi - lo + 1), ?_, by omega, by omega⟩
    congr 1
    unfold wrap64
    omega
  · rw [if_neg c]
    refine ⟨lo + q, ?_, by omega, by omega⟩
    congr 1
    unfold wrap64
    omega
/-- A number's letter. -/
def wi (n : Int) (x : Int) : Nat := ((porticobook_Within.f x 0 n).getD 0).toNat
theorem wi_spec (n x : Int) (h : 0 ≤ n) (h1 : n ≤ 1000) : porticobook_Within.f x 0 n = some (wi n x : Int) ∧ (wi n x : Int) ≤ n := by
  obtain ⟨r, hr, h0, h2⟩ := within x 0 n h (by omega) (by omega)
  unfold wi
  rw [hr]
  simp only [Option.getD_some]
  exact ⟨by rw [Int.toNat_of_nonneg h0], by omega⟩
def lb (i : Nat) : ByteArray := ⟨#[UInt8.ofNat (97 + i)]⟩
theorem one_byte (W : World) (x : Int) : (convert 34 9 (.slice (some ⟨W.heap.size, 0, none⟩) 1 1)).run Try.prog (W.alloc (.cells #[.int .u8 x] 5)) = .ok (.string ⟨#[UInt8.ofNat x.toNat]⟩) (W.alloc (.cells #[.int .u8 x] 5)) := by
  rw [run_convert_bytes_string _ _ _ 5 _ _ _ Try.underlying34 Try.underlying5 Try.underlying9]
  rw [run_bytesToString _ _ _ _ [x] (by simp [loadCells, loadCellsFrom, go_sem])]
  rfl
theorem letter (W : World) (i : Nat) : (convert 34 9 (.slice (some ⟨W.heap.size, 0, none⟩) 1 1)).run Try.prog (W.alloc (.cells #[.int .u8 (97 + (i : Int))] 5)) = .ok (.string (lb i)) (W.alloc (.cells #[.int .u8 (97 + (i : Int))] 5)) := by
  rw [one_byte W (97 + (i : Int))]
  unfold lb
  rw [show (97 + (i : Int)).toNat = 97 + i by omega]
theorem run_append_strs (w : World) (v : Value) (l m : List ByteArray) (a : Addr) (c : Nat) (ty : TypeId) (h : SRow w v l) (hm : ∀ j u, (m.map Value.string)[j]? = some u → w.cell? (a.add j) = some u) (hl : l.length + m.length ≤ 100000) :
    ∃ A c' w', (Builtin.append_ #[30, 30] ty #[v, .slice (some a) m.length c]).run Try.prog w = .ok (.slice A (l ++ m).length c') w' ∧ SRow w' (.slice A (l ++ m).length c') (l ++ m) ∧ w.grownBy w' v.ownBlock ∧ ((Value.slice A (l ++ m).length c').ownBlock = v.ownBlock ∨ (Value.slice A (l ++ m).length c').ownBlock = some w.heap.size) := by
  obtain ⟨i0, hi, hzz⟩ := Option.map_eq_some_iff.1 infoStr
  simp only [Prod.mk.injEq] at hzz
  obtain ⟨hz0, hz1, hz2⟩ := hzz
  by_cases h0 : m.length = 0
  · have : m = [] := List.eq_nil_of_length_eq_zero h0
    subst this
    obtain ⟨A, c', rfl, _⟩ := h.form
    refine ⟨A, c', w, ?_, by simpa using h, World.grownBy.refl w _, .inl (by simp)⟩
    have := run_append_none w 30 ty 9 i0 1 Try.underlying30 hi _ _ _ h (some a) c
    simpa using this
  · obtain ⟨g', o', c', w', h1, h2, h3, h4⟩ := run_append_sl (P := Try.prog) w 30 ty 9 i0 _ 1 16 Try.underlying30 hi hz0 hz1 hz2 rfl v l.length (l.map .string) h a m.length c (m.map .string) (by simp) hm (by simp [Value.oneCell']) (by omega) (by unfold maxLen; omega) (by omega)
    refine ⟨some ⟨g', o', none⟩, c', w', by rw [List.length_append]; exact h1, by unfold SRow; rw [List.length_append, List.map_append]; exact h2, h3, ?_⟩
    rcases h4 with h4 | h4
    · exact .inl h4.symm
    · exact .inr (by rw [h4]; rfl)
theorem wpl_append_str {ops : Array Oper} {rest : List Oper} {o : Oper} {a : Act} {Q : Exit → Act → World → Prop} {W : World} (hgd : o.guard = none) (s x : Operand)
    (ho : o.op = .call { callee := .builtin .append, args := #[s, x], argTypes := #[30, 30] })
    (v : Value) (l : List ByteArray) (m : ByteArray) (b c : Nat) (hs : a.eval s = v) (hx : a.eval x = .slice (some ⟨b, 0, none⟩) 1 c) (h : SRow W v l) (hm : W.heap[b]? = some (.cells #[.string m] 9 (0, 0))) (hl : l.length ≤ 90000)
    (K : ∀ A c' w', SRow w' (.slice A (l ++ [m]).length c') (l ++ [m]) → W.grownBy w' v.ownBlock → ((Value.slice A (l ++ [m]).length c').ownBlock = v.ownBlock ∨ (Value.slice A (l ++ [m]).length c').ownBlock = some W.heap.size) → wpList Try.prog ops Q rest (a.put o.dst (.slice A (l ++ [m]).length c')) w') : wpList Try.prog ops Q (o :: rest) a W := by
  obtain ⟨A, c', w', hrun, h2, h3, h4⟩ := run_append_strs W v l [m] ⟨b, 0, none⟩ c o.type h (fun j u hu => by
    rcases j with _ | j
    · cases hu
      simp [World.cell?, Addr.add, hm]
    · simp at hu) (by simp; omega)
  refine wpList_plain hgd fun _ hK => ?_
  unfold Oper.wp execOp
  have hrun' : (Builtin.append_ #[30, 30] o.type #[v, .slice (some ⟨b, 0, none⟩) 1 c]).run Try.prog W = .ok (.slice A (l ++ [m]).length c') w' := hrun
  simp only [ho, resolve, invoke, builtin, Sem.run_bind, Sem.run_pure, Result.andThen_ok, List.map_toArray, List.map_cons, List.map_nil, hs, hx, hrun']
  exact hK _ _ (K A c' w' h2 h3 h4)
theorem srow_ne {w : World} {v v' : Value} {l : List ByteArray} {l' : List H} (h : SRow w v l) (h' : RowOf w v' l') (k : Nat) (hk : v.ownBlock = some k) : v'.ownBlock ≠ some k := fun e => by
  obtain ⟨_, c1, e1⟩ := h.lt k hk
  obtain ⟨_, c2, e2⟩ := h'.lt k e
  rw [e1] at e2
  injection e2 with e2
  injection e2 with _ e2
  exact absurd e2 (by decide)
theorem srow_ne_cache {w : World} {v v' : Value} {l : List ByteArray} {l' : List H} {g : Nat} {room : Int} (h : SRow w v l) (h' : CacheAt w g room v' l') : v.ownBlock ≠ some g := fun e => by
  obtain ⟨_, c1, e1⟩ := h.lt g e
  rw [h'.obj] at e1
  injection e1 with e1
  injection e1 with _ e1
  exact absurd e1 (by decide)
theorem SRow.upd {w w' : World} {g : Nat} {room : Int} {v vo : Value} {L : List H} {l : List ByteArray} (h : SRow w vo l) (hc : CacheAt w g room v L) (hU : Upd g v w w') : SRow w' vo l :=
  Sl.move h fun k hk => hU.block k (h.lt k hk).1 (fun e => srow_ne_cache h hc (by rw [hk, e])) (srow_ne h hc.row k hk)
/-- A cache of the law's own, and a row of texts beside it. -/
structure LT (w0 w : World) (g : Nat) (room : Int) (v : Value) (L : List H) (vo : Value) (l : List ByteArray) : Prop where
  ls : LS w0 w g room v L
  row : SRow w vo l
  fresh : ∀ k, vo.ownBlock = some k → w0.heap.size ≤ k
variable {w0 w w' : World} {g : Nat} {room : Int} {v v' vo vo' : Value} {L L' : List H} {l l' : List ByteArray}
theorem LT.below (h : LT w0 w g room v L vo l) (hB : Below w.heap.size w w') : LT w0 w' g room v L vo l := ⟨h.ls.below hB, h.row.below hB, h.fresh⟩
theorem LT.app (h : LT w0 w g room v L vo l) (hg : w.grownBy w' vo.ownBlock) (hr : SRow w' vo' l') (ho : vo'.ownBlock = vo.ownBlock ∨ vo'.ownBlock = some w.heap.size) : LT w0 w' g room v L vo' l' := by
  have hgb : w'.heap[g]? = w.heap[g]? := hg.block g h.ls.cache.lt (fun e => srow_ne_cache h.row h.ls.cache e.symm)
  refine ⟨⟨⟨hgb.trans h.ls.cache.obj, Sl.move h.ls.cache.row fun k hk => hg.block k (h.ls.cache.row.lt k hk).1 (fun e => srow_ne h.row h.ls.cache.row k e.symm hk)⟩, below_grown h.ls.low hg h.fresh h.ls.low.size, h.ls.ge, h.ls.vge⟩, hr, fun k hk => ?_⟩
  rcases ho with ho | ho
  · exact h.fresh k (by rw [← ho]; exact hk)
  · rw [ho] at hk
    have := h.ls.low.size
    cases hk
    exact this
/-- The puts, the last ahead. -/
def puts (ns : List Int) : Nat → List H
  | 0 => []
  | k + 1 => (lb (wi 9 (ns.getD k 0)), (k : Int)) :: puts ns k
theorem puts_length (ns : List Int) (k : Nat) : (puts ns k).length = k := by
  induction k with
  | zero => rfl
  | succ k ih => simp [puts, ih]
theorem puts_drop (ns : List Int) (m j : Nat) (h : j ≤ m) : (puts ns m).drop (m - j) = puts ns j := by
  induction m with
  | zero =>
    obtain rfl : j = 0 := by omega
    rfl
  | succ m ih =>
    by_cases e : j = m + 1
    · subst e; simp
    · rw [show m + 1 - j = (m - j) + 1 by omega, puts, List.drop_succ_cons, ih (by omega)]
theorem puts_step (ns : List Int) (m j : Nat) (h : j < m) : (puts ns m).take (m - j) = (puts ns m).take (m - (j + 1)) ++ [(lb (wi 9 (ns.getD j 0)), (j : Int))] := by
  have h1 := puts_drop ns m (j + 1) (by omega)
  have hl := puts_length ns m
  rw [show m - j = m - (j + 1) + 1 by omega, List.take_succ_eq_append_getElem (by rw [hl]; omega)]
  congr 2
  rw [List.drop_eq_getElem_cons (by rw [hl]; omega), puts] at h1
  injection h1
/-- Is the text among the first q? -/
def inB (W : List ByteArray) (q : Nat) (s : ByteArray) : Bool := (W.take q).any (fun x => x == s)
theorem inB_succ (W : List ByteArray) (q : Nat) (s : ByteArray) (h : q < W.length) : inB W (q + 1) s = (inB W q s || (W[q].toList == s.toList)) := by
  unfold inB
  rw [List.take_succ_eq_append_getElem h, List.any_append, ← beq_toListBytes]
  simp
theorem inB_all (W : List H) (s : ByteArray) : inB (W.map (·.1)) (W.map (·.1)).length s = true ↔ ∃ y ∈ W, y.1 = s := by
  unfold inB
  rw [List.take_length, List.any_eq_true]
  constructor
  · rintro ⟨x, hx, e⟩
    obtain ⟨y, hy, rfl⟩ := List.mem_map.1 hx
    exact ⟨y, hy, beqT.1 e⟩
  · rintro ⟨y, hy, e⟩
    exact ⟨y.1, List.mem_map_of_mem hy, beqT.2 e⟩
theorem nub_in {l : List H} {s : ByteArray} : (∃ y ∈ nub l, y.1 = s) ↔ ∃ y ∈ l, y.1 = s := by
  constructor
  · rintro ⟨y, hy, e⟩
    exact ⟨y, nub_mem hy, e⟩
  · rintro ⟨y, hy, e⟩
    obtain ⟨z, hz, e2⟩ := nub_has hy
    exact ⟨z, hz, e2.trans e⟩
end Go.Proofs.Ytffaiijeagghdaa.Lr
