/- TrapCatches: what is known along the walk; the plain parts. -/
import Derived.Test.YtcpinjdkgponnaaTrapCatches1
import Derived.Test.YtcpinjdkgponnaaPTrapCatchesx1
set_option linter.unusedVariables false
set_option linter.unusedSimpArgs false
namespace Go.Proofs.Ytcpinjdkgponnaa.Trap
open Go.RowKit Go.Proofs.YtcpinjdkgponnaaW.PrintWords Go.Proofs.Ytcpinjdkgponnaa.PTrapCatches

theorem within (a hi : Int) (h0 : 0 ≤ hi) (h1 : hi ≤ 1000000) : ∃ r : Nat, porticobook_Within.f a 0 hi = some (r : Int) ∧ (r : Int) ≤ hi := by
  have e1 : wrap64 ((wrap64 (hi - 0)) + 1) = hi + 1 := by unfold wrap64; omega
  unfold porticobook_Within.f
  rw [e1, if_neg (by omega)]
  have hl := Int.tmod_lt_of_pos a (show (0 : Int) < hi + 1 by omega)
  have hg := Int.lt_tmod_of_pos a (show (0 : Int) < hi + 1 by omega)
  generalize Int.tmod a (hi + 1) = q at *
  by_cases c : q < 0
  · rw [if_pos c]
    refine ⟨(q + hi + 1).toNat, ?_, by omega⟩
    congr 1
    unfold wrap64
    omega
  · rw [if_neg c]
    refine ⟨q.toNat, ?_, by omega⟩
    congr 1
    unfold wrap64
    omega
theorem same_from (l : List Int) (hl : l.length ≤ 1000000) : ∀ (d i : Nat), i + d = l.length → ∀ k, d < k → porticobook_Same_int.l0 k l l (i : Int) = some true := by
  intro d
  induction d with
  | zero =>
    intro i hi k hk
    obtain ⟨k, rfl⟩ : ∃ m, k = m + 1 := ⟨k - 1, by omega⟩
    simp only [porticobook_Same_int.l0]
    rw [if_neg (by omega)]
  | succ d ih =>
    intro i hi k hk
    obtain ⟨k, rfl⟩ : ∃ m, k = m + 1 := ⟨k - 1, by omega⟩
    have hw : wrap64 ((i : Int) + 1) = ((i + 1 : Nat) : Int) := by unfold wrap64; omega
    simp only [porticobook_Same_int.l0]
    rw [if_pos (by omega), if_pos (by omega), if_pos (by omega), if_pos trivial, hw]
    exact ih (i + 1) (by omega) k (by omega)
theorem same_self (l : List Int) (hl : l.length ≤ 1000000) : porticobook_Same_int.f (l.length + 1) l l = some true := by
  unfold porticobook_Same_int.f
  rw [if_pos rfl]
  exact same_from l hl l.length 0 (by omega) _ (by omega)
/-- j - 1, .., 0. -/
def downN : Nat → List Int
  | 0 => []
  | j + 1 => (j : Int) :: downN j
theorem down_eq (d : Nat) : down d = downN (d + 1) := by
  induction d with
  | zero => rfl
  | succ d ih => show _ :: _ = _ :: _; rw [ih]
theorem downN_length (j : Nat) : (downN j).length = j := by
  induction j with
  | zero => rfl
  | succ j ih => simp [downN, ih]

/-- The walk's worlds behind the first Run: the log (block b), the row 'want', the variables e, n, at, x. -/
structure St (w : World) (base K6 b be bn bp bx : Nat) (E P : Int) (N : ByteArray) (W : World) (vl : Value) (xs : List Int) (vw : Value) (ys : List Int) : Prop where
  log : LogAt base b W vl xs
  rowl : ∀ k, vl.ownBlock = some k → base ≤ k ∧ k ≠ bx ∧ vw.ownBlock ≠ some k
  want : W.ownsRow K6 3 1 vw ys.length (nums .i64 ys)
  ce : W.cell? ⟨be, 0, none⟩ = some (.int .i64 E)
  cn : W.cell? ⟨bn, 0, none⟩ = some (.string N)
  cp : W.cell? ⟨bp, 0, none⟩ = some (.int .i64 P)
  x0 : W.cell? ⟨bx, 0, none⟩ = some (.int .i64 E)
  x1 : W.cell? ⟨bx, 1, none⟩ = some (.string N)
  x2 : W.cell? ⟨bx, 2, none⟩ = some (.int .i64 P)
  le : be < base ∧ bn < base ∧ bp < base ∧ base ≤ b ∧ b < bx ∧ bx < K6
  below : Below w.heap.size w W
  bw : w.heap.size ≤ bp ∧ w.heap.size ≤ be ∧ w.heap.size ≤ bn ∧ w.heap.size ≤ base
  sz : K6 ≤ W.heap.size
theorem St.kept {w : World} {base K6 b be bn bp bx : Nat} {E P : Int} {N : ByteArray} {W W' : World} {vl : Value} {xs : List Int} {vw : Value} {ys : List Int} (h : St w base K6 b be bn bp bx E P N W vl xs vw ys) (hB : Below W.heap.size W W') : St w base K6 b be bn bp bx E P N W' vl xs vw ys := by
  have hs := hB.size
  have hk := h.sz
  exact ⟨h.log.kept (B := 0) hB, h.rowl, own_move h.want (fun k hk => hB.block k (h.want.lt k hk).2), (hB.cell (lt_of_cell h.ce)).trans h.ce, (hB.cell (lt_of_cell h.cn)).trans h.cn, (hB.cell (lt_of_cell h.cp)).trans h.cp, (hB.cell (lt_of_cell h.x0)).trans h.x0, (hB.cell (lt_of_cell h.x1)).trans h.x1, (hB.cell (lt_of_cell h.x2)).trans h.x2, h.le, h.below.trans (hB.mono h.below.size), h.bw, by omega⟩
theorem St.added {w : World} {base K6 b be bn bp bx : Nat} {E P : Int} {N : ByteArray} {W W' : World} {vl vl' : Value} {xs xs' : List Int} {vw : Value} {ys : List Int} (h : St w base K6 b be bn bp bx E P N W vl xs vw ys) (hA : LogAt base b W' vl' xs') (hL : Logged b vl vl' W W') : St w base K6 b be bn bp bx E P N W' vl' xs' vw ys := by
  obtain ⟨l1, l2, l3, l4, l5, l6⟩ := h.le
  obtain ⟨m1, m2, m3, m4⟩ := h.bw
  have hs := hL.size
  have hk := h.sz
  have hr : ∀ k, k < W.heap.size → k ≠ b → vl.ownBlock ≠ some k → W'.heap[k]? = W.heap[k]? := fun k h1 h2 h3 => hL.block k h1 h2 (fun e => h3 e.symm)
  have old : ∀ k, k < base → vl.ownBlock ≠ some k := fun k hk e => by have := (h.rowl k e).1; omega
  have cb : ∀ (a : Addr) (v : Value), W.cell? a = some v → a.block ≠ b → vl.ownBlock ≠ some a.block → W'.cell? a = some v := fun a v hc h1 h2 => (World.cell?_of_block (hr _ (lt_of_cell hc) h1 h2)).trans hc
  have hx : vl.ownBlock ≠ some bx := fun e => (h.rowl bx e).2.1 rfl
  refine ⟨hA, fun k hk => ?_, own_move h.want (fun k hk => hr k (h.want.lt k hk).2 (by have := (h.want.lt k hk).1; omega) (fun e => (h.rowl k e).2.2 hk)), cb _ _ h.ce (by show be ≠ b; omega) (old _ l1), cb _ _ h.cn (by show bn ≠ b; omega) (old _ l2), cb _ _ h.cp (by show bp ≠ b; omega) (old _ l3), cb _ _ h.x0 (by show bx ≠ b; omega) hx, cb _ _ h.x1 (by show bx ≠ b; omega) hx, cb _ _ h.x2 (by show bx ≠ b; omega) hx, h.le, ⟨hL.os.trans h.below.os, hL.tape.trans h.below.tape, hL.output.trans h.below.output, by have := h.below.size; omega, fun k hk => ?_⟩, h.bw, by omega⟩
  · rcases hL.row with he | ⟨j, he, hj⟩
    · exact h.rowl k (he ▸ hk)
    · rw [he] at hk
      obtain rfl := Option.some.inj hk
      have hb := hA.rowLt j he
      have hxl := lt_of_cell h.x0
      refine ⟨hb.1, by simp at hxl; omega, fun e => ?_⟩
      have := (h.want.lt j e).2
      omega
  · have h1 := h.below.size
    rw [hr k (by omega) (by omega) (old k (by omega))]
    exact h.below.block k hk
theorem St.grown {w : World} {base K6 b be bn bp bx n : Nat} {E P : Int} {N : ByteArray} {W w1 : World} {vl : Value} {xs ys ys' : List Int} {vw v1 : Value} (h : St w base K6 b be bn bp bx E P N W vl xs vw ys) (hO : w1.ownsRow K6 3 1 v1 n (nums .i64 ys')) (hn : n = ys'.length) (hG : W.grownBy w1 vw.ownBlock)
    (hR : v1.ownBlock = vw.ownBlock ∨ ∃ k, v1.ownBlock = some k ∧ W.heap.size ≤ k) : St w base K6 b be bn bp bx E P N w1 vl xs v1 ys' := by
  subst hn
  obtain ⟨l1, l2, l3, l4, l5, l6⟩ := h.le
  obtain ⟨m1, m2, m3, m4⟩ := h.bw
  have hs := hG.size
  have hk := h.sz
  have old : ∀ k, k < K6 → w1.heap[k]? = W.heap[k]? := fun k hk => hG.block k (by omega) (fun e => by have := (h.want.lt k e.symm).1; omega)
  have cb : ∀ (a : Addr) (v : Value), W.cell? a = some v → a.block < K6 → w1.cell? a = some v := fun a v hc h1 => (World.cell?_of_block (old _ h1)).trans hc
  refine ⟨h.log.move hs (old b (by omega)) (fun k hv => hG.block k (h.log.rowLt k hv).2 (fun e => (h.rowl k hv).2.2 e.symm)), fun k hv => ⟨(h.rowl k hv).1, (h.rowl k hv).2.1, ?_⟩, hO, cb _ _ h.ce (by show be < K6; omega), cb _ _ h.cn (by show bn < K6; omega), cb _ _ h.cp (by show bp < K6; omega), cb _ _ h.x0 l6, cb _ _ h.x1 l6, cb _ _ h.x2 l6, h.le, ⟨hG.os.trans h.below.os, hG.tape.trans h.below.tape, hG.output.trans h.below.output, by have := h.below.size; omega, fun k hk => (old k (by omega)).trans (h.below.block k hk)⟩, h.bw, by omega⟩
  rcases hR with he | ⟨j, he, hj⟩
  · rw [he]; exact (h.rowl k hv).2.2
  · rw [he]
    intro e
    have h1 := Option.some.inj e
    have := (h.log.rowLt k hv).2
    omega
/-- What the last statement reads. -/
structure Cells (be bn bp bx b by1 bz : Nat) (E P : Int) (N : ByteArray) (v : Value) (W : World) : Prop where
  ce : W.cell? ⟨be, 0, none⟩ = some (.int .i64 E)
  cn : W.cell? ⟨bn, 0, none⟩ = some (.string N)
  cp : W.cell? ⟨bp, 0, none⟩ = some (.int .i64 P)
  x0 : W.cell? ⟨bx, 0, none⟩ = some (.int .i64 E)
  x1 : W.cell? ⟨bx, 1, none⟩ = some (.string N)
  x2 : W.cell? ⟨bx, 2, none⟩ = some (.int .i64 P)
  cl : W.cell? ⟨b, 0, none⟩ = some v
  y0 : W.cell? ⟨by1, 0, none⟩ = some (.int .i64 0)
  y1 : W.cell? ⟨by1, 1, none⟩ = some (.string ⟨#[]⟩)
  y2 : W.cell? ⟨by1, 2, none⟩ = some (.int .i64 0)
  z0 : W.cell? ⟨bz, 0, none⟩ = some (.int .i64 0)
  z1 : W.cell? ⟨bz, 1, none⟩ = some (.string ⟨#[]⟩)
  z2 : W.cell? ⟨bz, 2, none⟩ = some (.int .i64 0)
end Go.Proofs.Ytcpinjdkgponnaa.Trap
