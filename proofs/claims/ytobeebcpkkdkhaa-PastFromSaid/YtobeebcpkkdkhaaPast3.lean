/- Package past: what is known along a law's walk: a past, the rows that are kept beside it. -/
import Derived.Test.YtobeebcpkkdkhaaPast2
set_option linter.unusedVariables false
set_option linter.unusedSimpArgs false
namespace Go.Proofs.Ytobeebcpkkdkhaa.Pa
open Go.RowKit Go.Proofs.YtobeebcpkkdkhaaW.PrintWords Go.Proofs.YtobeebcpkkdkhaaW.PrintLast Go.Proofs.Ytobeebcpkkdkhaa.PPastRuns

/-- A past, rows beside it that no call on it writes, all of it newer than w0. -/
structure St (w0 : World) (g : Nat) (w : World) (v : Value) (l : List S28) (at_ : Int) (rows : List (Value × List S28)) : Prop where
  past : PastAt w g v l at_
  low : Below w0.heap.size w0 w
  ge : w0.heap.size ≤ g
  vge : ∀ k, v.ownBlock = some k → w0.heap.size ≤ k
  rows : ∀ p ∈ rows, RowOf w p.1 p.2 ∧ ∀ k, p.1.ownBlock = some k → v.ownBlock ≠ some k ∧ w0.heap.size ≤ k
variable {w0 w w' : World} {g : Nat} {v v' : Value} {l l' : List S28} {at_ at' : Int} {rows : List (Value × List S28)}
theorem St.below (h : St w0 g w v l at_ rows) (hB : Below w.heap.size w w') : St w0 g w' v l at_ rows :=
  ⟨h.past.below hB, h.low.trans (hB.mono h.low.size), h.ge, h.vge, fun p hp => ⟨(h.rows p hp).1.below hB, (h.rows p hp).2⟩⟩
theorem St.push (h : St w0 g w v l at_ rows) (hU : Upd g w w') (hp : PastAt w' g v' l' at') (hf : ∀ k, v'.ownBlock = some k → w.heap.size ≤ k) : St w0 g w' v' l' at' rows :=
  ⟨hp, hU.below h.low h.ge, h.ge, fun k hk => Nat.le_trans h.low.size (hf k hk), fun p hp => ⟨(h.rows p hp).1.upd h.past.obj hU, fun k hk => ⟨fun e => by have h1 := hf k e; have h2 := ((h.rows p hp).1.lt k hk).2; omega, ((h.rows p hp).2 k hk).2⟩⟩⟩
theorem St.go (h : St w0 g w v l at_ rows) (hU : Upd g w w') (hp : PastAt w' g v l' at') : St w0 g w' v l' at' rows :=
  ⟨hp, hU.below h.low h.ge, h.ge, h.vge, fun p hp => ⟨(h.rows p hp).1.upd h.past.obj hU, (h.rows p hp).2⟩⟩
theorem St.write (h : St w0 g w v l at_ rows) {r : Nat} (hr : v.ownBlock = some r) (hU : Upd r w w') (hp : PastAt w' g v l' at') : St w0 g w' v l' at' rows :=
  ⟨hp, hU.below h.low (h.vge r hr), h.ge, h.vge, fun p hp => ⟨own_move (h.rows p hp).1 (fun k hk => hU.block k ((h.rows p hp).1.lt k hk).2 (fun e => ((h.rows p hp).2 k hk).1 (by rw [e]; exact hr))), (h.rows p hp).2⟩⟩
theorem St.entries (h : St w0 g w v l at_ rows) (hB : Below w.heap.size w w') {v2 : Value} {m : List S28} (hm : RowOf w' v2 m) (hf : ∀ k, v2.ownBlock = some k → w.heap.size ≤ k) : St w0 g w' v l at_ ((v2, m) :: rows) := by
  have h2 := h.below hB
  refine ⟨h2.past, h2.low, h2.ge, h2.vge, fun p hp => ?_⟩
  rcases List.mem_cons.1 hp with rfl | hp
  · exact ⟨hm, fun k hk => ⟨fun e => by have h3 := (h.past.row.lt k e).2; have h4 := hf k hk; omega, Nat.le_trans h.low.size (hf k hk)⟩⟩
  · exact h2.rows p hp
theorem St.alloc (h : St w0 g w v l at_ rows) (o : Obj) : St w0 g (w.alloc o) v l at_ rows := h.below ((Below.refl _ _).alloc (Nat.le_refl _) o)
theorem St.drewN (h : St w0 g w v l at_ rows) (q : Nat) : St w0 g (w.drewN q) v l at_ rows := h.below (pw_below_drewN (Below.refl _ _) q)
theorem St.drew (h : St w0 g w v l at_ rows) : St w0 g w.drew v l at_ rows := h.below (below_drew1 (Below.refl _ _))
theorem St.row0 {p : Value × List S28} (h : St w0 g w v l at_ (p :: rows)) : RowOf w p.1 p.2 := (h.rows p (by simp)).1
theorem St.row1 {p q : Value × List S28} (h : St w0 g w v l at_ (p :: q :: rows)) : RowOf w q.1 q.2 := (h.rows q (by simp)).1
theorem RowOf.slice {w : World} {v : Value} {l : List S28} (h : RowOf w v l) (h0 : 0 < l.length) : ∃ r cap, v = .slice (some ⟨r, 0, none⟩) l.length cap ∧ l.length ≤ cap := by
  rcases h.2 with ⟨_, h1⟩ | ⟨r, cap, cur, e, _, _, hc, _⟩
  · omega
  · exact ⟨r, cap, e, hc⟩
end Go.Proofs.Ytobeebcpkkdkhaa.Pa
