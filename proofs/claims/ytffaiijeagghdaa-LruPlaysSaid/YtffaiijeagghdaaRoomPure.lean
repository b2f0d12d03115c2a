/- LruRoom: two caches beside each other; the plain law. -/
import Derived.Test.YtffaiijeagghdaaLruLaw
set_option linter.unusedVariables false
set_option linter.unusedSimpArgs false
namespace Go.Proofs.Ytffaiijeagghdaa.Lr
open Go.RowKit Go.Proofs.YtffaiijeagghdaaW.PrintWords Go.Proofs.YtffaiijeagghdaaW.PrintLast Go.Proofs.Ytffaiijeagghdaa.Sl Go.Proofs.Ytffaiijeagghdaa.PLruPlays

def sq (lo hi : Nat) : List H := (List.range' lo (hi - lo)).map (fun j => (lb j, (j : Int)))
theorem sq_length (lo hi : Nat) : (sq lo hi).length = hi - lo := by simp [sq]
theorem sq_snoc (lo hi : Nat) (h : lo ≤ hi) : sq lo (hi + 1) = sq lo hi ++ [(lb hi, (hi : Int))] := by
  unfold sq
  rw [show hi + 1 - lo = hi - lo + 1 by omega, List.range'_concat, List.map_append]
  simp
  constructor
  · congr 1; omega
  · omega
theorem sq_cons (lo hi : Nat) (h : lo < hi) : sq lo hi = (lb lo, (lo : Int)) :: sq (lo + 1) hi := by
  unfold sq
  rw [show hi - lo = (hi - (lo + 1)) + 1 by omega, List.range'_succ]
  simp
theorem lb_inj : ∀ i < 20, ∀ j < i, lb j ≠ lb i := by decide
theorem sq_none (lo i : Nat) (h : i < 20) : idx (sq lo i) (lb i) = -1 := by
  refine idx_miss _ _ fun j hj => ?_
  rw [sq_length] at hj
  simp only [sq, List.getElem_map, List.getElem_range']
  exact beq_eq_false_iff_ne.2 (lb_inj i h _ (by omega))
theorem sq_put (r i : Nat) (h : i < 20) (hr : 1 ≤ r) : putL (r : Int) (sq (i - r) i) (lb i) (i : Int) = sq (i + 1 - r) (i + 1) ∧ putO (r : Int) (sq (i - r) i) (lb i) (i : Int) = if i < r then [] else [((i - r : Nat) : Int)] := by
  have e0 : put0 (sq (i - r) i) (lb i) (i : Int) = sq (i - r) (i + 1) := by
    unfold put0
    rw [took_none (sq_none _ i h), sq_snoc _ _ (by omega)]
  have e1 : over (r : Int) (sq (i - r) i) (lb i) (i : Int) = if i < r then 0 else 1 := by
    unfold over
    rw [e0, sq_length, Int.toNat_natCast]
    split <;> omega
  have e2 : has (sq (i - r) i) (lb i) = none := has_none (sq_none _ i h)
  unfold putL putO
  rw [e0, e1, e2]
  by_cases c : i < r
  · rw [if_pos c, if_pos c]
    refine ⟨?_, by simp⟩
    rw [show i + 1 - r = 0 by omega, show i - r = 0 by omega]
    simp
  · rw [if_neg c, if_neg c]
    rw [sq_cons (i - r) (i + 1) (by omega)]
    refine ⟨?_, by simp⟩
    rw [show i + 1 - r = i - r + 1 by omega]
    simp
theorem none_put (s : ByteArray) (n : Int) : putL 0 [] s n = [] ∧ putO 0 [] s n = [n] := by
  constructor <;> simp [putL, putO, over, put0, took, has]
def upto (k : Nat) : List Int := (List.range k).map (fun (j : Nat) => (j : Int))
theorem upto_succ (k : Nat) : upto (k + 1) = upto k ++ [(k : Int)] := by simp [upto, List.range_succ]
theorem upto_length (k : Nat) : (upto k).length = k := by simp [upto]
theorem went_step (r i : Nat) (hr : 1 ≤ r) : upto (i - r) ++ (if i < r then [] else [((i - r : Nat) : Int)]) = upto (i + 1 - r) := by
  by_cases c : i < r
  · rw [if_pos c, show i - r = 0 by omega, show i + 1 - r = 0 by omega, List.append_nil]
  · rw [if_neg c, show i + 1 - r = i - r + 1 by omega, upto_succ]
/-- Back again: what is taken and put again is the last. -/
theorem sq_again (r m : Nat) (hm : 0 < m) (hm20 : m ≤ 20) (hr : 1 ≤ r) : idx (sq (m - r) m) (lb (m - r)) = ((0 : Nat) : Int) ∧ (sq (m - r) m)[0]? = some (lb (m - r), ((m - r : Nat) : Int)) ∧ idx (sq (m - r + 1) m) (lb (m - r)) = -1 ∧ putO (r : Int) (sq (m - r + 1) m) (lb (m - r)) ((m - r : Nat) : Int) = [] ∧ putL (r : Int) (sq (m - r + 1) m) (lb (m - r)) ((m - r : Nat) : Int) = sq (m - r + 1) m ++ [(lb (m - r), ((m - r : Nat) : Int))] := by
  have e1 : idx (sq (m - r + 1) m) (lb (m - r)) = -1 := by
    refine idx_miss _ _ fun j hj => ?_
    rw [sq_length] at hj
    simp only [sq, List.getElem_map, List.getElem_range']
    exact beq_eq_false_iff_ne.2 (fun e => lb_inj _ (by omega) (m - r) (by omega) e.symm)
  have e2 : over (r : Int) (sq (m - r + 1) m) (lb (m - r)) ((m - r : Nat) : Int) = 0 := by
    unfold over put0
    rw [took_none e1, List.length_append, sq_length, Int.toNat_natCast]
    simp
    omega
  refine ⟨?_, ?_, e1, ?_, ?_⟩
  · rw [sq_cons _ _ (by omega)]
    exact idx_hit _ _ 0 (by simp) (fun j _ h => by omega) (by simp)
  · rw [sq_cons _ _ (by omega)]; rfl
  · unfold putO
    rw [e2, has_none e1]
    rfl
  · unfold putL put0
    rw [e2, took_none e1]
    rfl
/-- Two caches of the law's own, and a row of numbers. -/
structure Two (w0 w : World) (g : Nat) (room : Int) (v : Value) (L : List H) (gn : Nat) (roomn : Int) (vn : Value) (Ln : List H) (vo : Value) (l : List Int) : Prop where
  a : LS w0 w g room v L
  b : LS w0 w gn roomn vn Ln
  ne : g ≠ gn
  sep : ∀ k, v.ownBlock = some k → vn.ownBlock ≠ some k
  row : IRow w vo l
  fresh : ∀ k, vo.ownBlock = some k → w0.heap.size ≤ k
variable {w0 w w' : World} {g gn : Nat} {room roomn : Int} {v v' vn vn' vo vo' : Value} {L L' Ln Ln' : List H} {l l' : List Int}
theorem Two.below (h : Two w0 w g room v L gn roomn vn Ln vo l) (hB : Below w.heap.size w w') : Two w0 w' g room v L gn roomn vn Ln vo l := ⟨h.a.below hB, h.b.below hB, h.ne, h.sep, h.row.below hB, h.fresh⟩
theorem held_ne_cache {w : World} {g : Nat} {room : Int} {v v2 : Value} {L l2 : List H} (h : RowOf w v2 l2) (h' : CacheAt w g room v L) : v2.ownBlock ≠ some g := fun e => by
  obtain ⟨_, c1, e1⟩ := h.lt g e
  rw [h'.obj] at e1
  injection e1 with e1
  injection e1 with _ e1
  exact absurd e1 (by decide)
theorem Two.putA (h : Two w0 w g room v L gn roomn vn Ln vo l) (hc : CacheAt w' g room v' L') (hU : Upd g v w w') (hn : New w v v') : Two w0 w' g room v' L' gn roomn vn Ln vo l := by
  refine ⟨h.a.upd hc hU hn, ⟨⟨(hU.block gn h.b.cache.lt (fun e => h.ne e.symm) (held_ne_cache h.a.cache.row h.b.cache)).trans h.b.cache.obj, Sl.move h.b.cache.row fun k hk => hU.block k (h.b.cache.row.lt k hk).1 (fun e => held_ne_cache h.b.cache.row h.a.cache (by rw [hk, e])) (fun e => h.sep k e hk)⟩, hU.below h.a.low h.a.ge h.a.vge, h.b.ge, h.b.vge⟩, h.ne, fun k hk e => ?_, h.row.upd h.a.cache hU, h.fresh⟩
  rcases hn k hk with h1 | h1
  · exact h.sep k h1 e
  · have := (h.b.cache.row.lt k e).1; omega
theorem Two.swap (h : Two w0 w g room v L gn roomn vn Ln vo l) : Two w0 w gn roomn vn Ln g room v L vo l := ⟨h.b, h.a, fun e => h.ne e.symm, fun k h1 h2 => h.sep k h2 h1, h.row, h.fresh⟩
theorem Two.putB (h : Two w0 w g room v L gn roomn vn Ln vo l) (hc : CacheAt w' gn roomn vn' Ln') (hU : Upd gn vn w w') (hn : New w vn vn') : Two w0 w' g room v L gn roomn vn' Ln' vo l := (h.swap.putA hc hU hn).swap
theorem Two.app (h : Two w0 w g room v L gn roomn vn Ln vo l) (hg : w.grownBy w' vo.ownBlock) (hr : IRow w' vo' l') (ho : vo'.ownBlock = vo.ownBlock ∨ vo'.ownBlock = some w.heap.size) : Two w0 w' g room v L gn roomn vn Ln vo' l' := by
  have hlow := below_grown h.a.low hg h.fresh h.a.low.size
  have hA : ∀ {g : Nat} {room : Int} {v : Value} {L : List H}, CacheAt w g room v L → CacheAt w' g room v L := fun hc => ⟨(hg.block _ hc.lt (fun e => irow_ne_cache h.row hc e.symm)).trans hc.obj, Sl.move hc.row fun k hk => hg.block k (hc.row.lt k hk).1 (fun e => irow_ne h.row hc.row k e.symm hk)⟩
  refine ⟨⟨hA h.a.cache, hlow, h.a.ge, h.a.vge⟩, ⟨hA h.b.cache, hlow, h.b.ge, h.b.vge⟩, h.ne, h.sep, hr, fun k hk => ?_⟩
  rcases ho with ho | ho
  · exact h.fresh k (by rw [← ho]; exact hk)
  · rw [ho] at hk
    have := h.a.low.size
    cases hk
    exact this
/-- Another row of numbers grows. -/
theorem Two.other {vo2 : Value} {l2 : List Int} (h : Two w0 w g room v L gn roomn vn Ln vo l) (h2 : IRow w vo2 l2) (hg : w.grownBy w' vo2.ownBlock) (hf : ∀ k, vo2.ownBlock = some k → w0.heap.size ≤ k ∧ vo.ownBlock ≠ some k) : Two w0 w' g room v L gn roomn vn Ln vo l := by
  have hlow := below_grown h.a.low hg (fun k hk => (hf k hk).1) h.a.low.size
  have hA : ∀ {g : Nat} {room : Int} {v : Value} {L : List H}, CacheAt w g room v L → CacheAt w' g room v L := fun hc => ⟨(hg.block _ hc.lt (fun e => irow_ne_cache h2 hc e.symm)).trans hc.obj, Sl.move hc.row fun k hk => hg.block k (hc.row.lt k hk).1 (fun e => irow_ne h2 hc.row k e.symm hk)⟩
  exact ⟨⟨hA h.a.cache, hlow, h.a.ge, h.a.vge⟩, ⟨hA h.b.cache, hlow, h.b.ge, h.b.vge⟩, h.ne, h.sep, Sl.move h.row fun k hk => hg.block k (h.row.lt k hk).1 (fun e => (hf k e.symm).2 hk), h.fresh⟩
/-- append of a row to a row. -/
theorem wpl_append_ints {ops : Array Oper} {rest : List Oper} {o : Oper} {a : Act} {Q : Exit → Act → World → Prop} {W : World} (hgd : o.guard = none) (s x : Operand)
    (ho : o.op = .call { callee := .builtin .append, args := #[s, x], argTypes := #[24, 24] })
    (v : Value) (l m : List Int) (A : Option Addr) (c : Nat) (hs : a.eval s = v) (hx : a.eval x = .slice A m.length c) (h : IRow W v l) (hm : IRow W (.slice A m.length c) m) (hl : l.length + m.length ≤ 90000)
    (K : ∀ A c' w', IRow w' (.slice A (l ++ m).length c') (l ++ m) → W.grownBy w' v.ownBlock → ((Value.slice A (l ++ m).length c').ownBlock = v.ownBlock ∨ (Value.slice A (l ++ m).length c').ownBlock = some W.heap.size) → wpList Try.prog ops Q rest (a.put o.dst (.slice A (l ++ m).length c')) w') : wpList Try.prog ops Q (o :: rest) a W := by
  have key : ∃ A2 c' w', (Builtin.append_ #[24, 24] o.type #[v, .slice A m.length c]).run Try.prog W = .ok (.slice A2 (l ++ m).length c') w' ∧ IRow w' (.slice A2 (l ++ m).length c') (l ++ m) ∧ W.grownBy w' v.ownBlock ∧ ((Value.slice A2 (l ++ m).length c').ownBlock = v.ownBlock ∨ (Value.slice A2 (l ++ m).length c').ownBlock = some W.heap.size) := by
    cases m with
    | nil =>
      obtain ⟨A2, c2, rfl, _⟩ := h.form
      obtain ⟨i0, hi, _⟩ := Option.map_eq_some_iff.1 infoInt
      refine ⟨A2, c2, W, ?_, by simpa using h, World.grownBy.refl W _, .inl (by simp)⟩
      have := run_append_none W 24 o.type 3 i0 1 Try.underlying24 hi _ _ _ h A c
      simpa using this
    | cons y m =>
      obtain ⟨q, o', c', e, _⟩ := hm.form1 (by simp)
      cases e
      exact run_append_ints W v l (y :: m) ⟨q, o', none⟩ c o.type h (fun j u hu => by
        have := Sl.cell hm j u hu
        rwa [show (⟨q, o', none⟩ : Addr).add j = ⟨q, o' + j, none⟩ from by unfold Addr.add; split <;> simp_all]) (by omega)
  obtain ⟨A2, c', w', hrun, h2, h3, h4⟩ := key
  refine wpList_plain hgd fun _ hK => ?_
  unfold Oper.wp execOp
  simp only [ho, resolve, invoke, builtin, Sem.run_bind, Sem.run_pure, Result.andThen_ok, List.map_toArray, List.map_cons, List.map_nil, hs, hx, hrun]
  exact hK _ _ (K A2 c' w' h2 h3 h4)
end Go.Proofs.Ytffaiijeagghdaa.Lr
