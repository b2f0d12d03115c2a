/- PastPlays: what is known along a round: a past, the law's own row, the call that is played. -/
import Derived.Test.YtobeebcpkkdkhaaFrom
set_option linter.unusedVariables false
set_option linter.unusedSimpArgs false
namespace Go.Proofs.Ytobeebcpkkdkhaa.Pa
open Go.RowKit Go.Proofs.YtobeebcpkkdkhaaW.PrintWords Go.Proofs.YtobeebcpkkdkhaaW.PrintLast Go.Proofs.Ytobeebcpkkdkhaa.PPastRuns

theorem below_grown {B : Nat} {w0 w w' : World} {row : Option Nat} (h : Below B w0 w) (g : w.grownBy w' row) (hr : ∀ k, row = some k → B ≤ k) (hB : B ≤ w.heap.size) : Below B w0 w' :=
  ⟨g.os.trans h.os, g.tape.trans h.tape, g.output.trans h.output, Nat.le_trans h.size g.size, fun k hk => (g.block k (by omega) (fun e => by have := hr k e.symm; omega)).trans (h.block k hk)⟩
/-- The past, the law's own row, a variable in block K. -/
structure Pl (w0 : World) (K : Nat) (o : Obj) (g : Nat) (w : World) (v vo : Value) (l m : List S28) (at_ : Int) : Prop where
  st : St w0 g w v l at_ [(vo, m)]
  kp : w.heap[K]? = some o
  kg : K ≠ g
  kv : v.ownBlock ≠ some K
  ko : vo.ownBlock ≠ some K
variable {w0 w w' : World} {K g g' : Nat} {o : Obj} {v v' vo vo' : Value} {l l' m m' : List S28} {at_ at' : Int}
theorem Pl.below (h : Pl w0 K o g w v vo l m at_) (hB : Below w.heap.size w w') : Pl w0 K o g w' v vo l m at_ :=
  ⟨h.st.below hB, (hB.block K (lt_of_heap h.kp)).trans h.kp, h.kg, h.kv, h.ko⟩
theorem Pl.push (h : Pl w0 K o g w v vo l m at_) (hU : Upd g w w') (hp : PastAt w' g v' l' at') (hf : ∀ k, v'.ownBlock = some k → w.heap.size ≤ k) : Pl w0 K o g w' v' vo l' m at' :=
  ⟨h.st.push hU hp hf, (hU.block K (lt_of_heap h.kp) h.kg).trans h.kp, h.kg, fun e => by have h1 := hf K e; have h2 := lt_of_heap h.kp; omega, h.ko⟩
theorem Pl.go (h : Pl w0 K o g w v vo l m at_) (hU : Upd g w w') (hp : PastAt w' g v l' at') : Pl w0 K o g w' v vo l' m at' :=
  ⟨h.st.go hU hp, (hU.block K (lt_of_heap h.kp) h.kg).trans h.kp, h.kg, h.kv, h.ko⟩
theorem Pl.write (h : Pl w0 K o g w v vo l m at_) {r : Nat} (hr : v.ownBlock = some r) (hU : Upd r w w') (hp : PastAt w' g v l' at') : Pl w0 K o g w' v vo l' m at' :=
  ⟨h.st.write hr hU hp, (hU.block K (lt_of_heap h.kp) (fun e => h.kv (by rw [e]; exact hr))).trans h.kp, h.kg, h.kv, h.ko⟩
theorem Pl.own (h : Pl w0 K o g w v vo l m at_) (hB : Below w.heap.size w w') (hm : w'.ownsRow w.heap.size 28 2 vo' m'.length (enc m')) : Pl w0 K o g w' v vo' l m' at_ := by
  have h2 := h.below hB
  refine ⟨⟨h2.st.past, h2.st.low, h2.st.ge, h2.st.vge, fun p hp => ?_⟩, h2.kp, h2.kg, h2.kv, fun e => by have h3 := (hm.lt K e).1; have h4 := lt_of_heap h.kp; omega⟩
  obtain rfl : p = (vo', m') := by simpa using hp
  exact ⟨own_lower hm, fun k hk => ⟨fun e => by have h3 := (hm.lt k hk).1; have h4 := (h.st.past.row.lt k e).2; omega, Nat.le_trans h.st.low.size (hm.lt k hk).1⟩⟩
theorem Pl.set (h : Pl w0 K o g w v vo l m at_) {ro : Nat} (hr : vo.ownBlock = some ro) (hU : Upd ro w w') (hm : RowOf w' vo m') : Pl w0 K o g w' v vo l m' at_ := by
  have h1 := h.st.rows (vo, m) (by simp)
  have hg : g ≠ ro := fun e => row_ne h.st.past.obj h1.1 ro hr e.symm
  have hk : K ≠ ro := fun e => h.ko (by rw [e]; exact hr)
  refine ⟨⟨⟨(hU.block g (lt_of_heap h.st.past.obj) hg).trans h.st.past.obj, own_move h.st.past.row (fun k hk => hU.block k (h.st.past.row.lt k hk).2 (fun e => (h1.2 ro hr).1 (by rw [← e]; exact hk)))⟩, hU.below h.st.low (h1.2 ro hr).2, h.st.ge, h.st.vge, fun p hp => ?_⟩, (hU.block K (lt_of_heap h.kp) hk).trans h.kp, h.kg, h.kv, h.ko⟩
  obtain rfl : p = (vo, m') := by simpa using hp
  exact ⟨hm, h1.2⟩
theorem Pl.swap (h : Pl w0 K o g w v vo l m at_) (s : St w g' w' v' l' at' []) : Pl w0 K o g' w' v' vo l' m at' := by
  have h2 := h.below s.low
  have hk := lt_of_heap h.kp
  refine ⟨⟨s.past, h2.st.low, Nat.le_trans h.st.low.size s.ge, fun k hk => Nat.le_trans h.st.low.size (s.vge k hk), fun p hp => ?_⟩, h2.kp, fun e => by have := s.ge; omega, fun e => by have := s.vge K e; omega, h.ko⟩
  have h3 := h2.st.rows p hp
  have h4 := h.st.rows p hp
  exact ⟨h3.1, fun k hk => ⟨fun e => by have h5 := s.vge k e; have h6 := (h4.1.lt k hk).2; omega, (h3.2 k hk).2⟩⟩
theorem Pl.start {rows : List (Value × List S28)} (h : St w0 g w v l at_ [(vo, m)]) (cs : Array Value) (t : TypeId) : Pl w0 w.heap.size (.cells cs t (0, 0)) g (w.alloc (.cells cs t)) v vo l m at_ :=
  ⟨h.alloc _, heap_alloc_new w _, fun e => by have := h.past.lt; omega, fun e => by have := (h.past.row.lt _ e).2; omega, fun e => by have := (h.row0.lt _ e).2; omega⟩
theorem Pl.drew (h : Pl w0 K o g w v vo l m at_) : Pl w0 K o g w.drew v vo l m at_ := h.below (below_drew1 (Below.refl _ _))
theorem Pl.drewN (h : Pl w0 K o g w v vo l m at_) (q : Nat) : Pl w0 K o g (w.drewN q) v vo l m at_ := h.below (pw_below_drewN (Below.refl _ _) q)
theorem Pl.alloc (h : Pl w0 K o g w v vo l m at_) (o' : Obj) : Pl w0 K o g (w.alloc o') v vo l m at_ := h.below ((Below.refl _ _).alloc (Nat.le_refl _) o')
theorem Pl.row (h : Pl w0 K o g w v vo l m at_) : RowOf w vo m := h.st.row0
/-- The entries that a past of the law's holds. -/
def Okl (l : List S28) : Prop := ∀ e ∈ l, cleanE e = e ∧ 0 ≤ e.f1 ∧ e.f1 < 18446744073709551616
theorem cl_cl (x : Nat) : Fl.cl (Fl.cl x) = Fl.cl x := by
  have h := Fl.cl_le x
  generalize Fl.cl x = y at h
  unfold Fl.cl
  rw [if_pos (by simp only [Fl.top, Fl.inf] at *; omega), if_pos h]
theorem Okl.url (s : ByteArray) : cleanE ⟨s, 0⟩ = ⟨s, 0⟩ ∧ (0 : Int) ≤ (⟨s, 0⟩ : S28).f1 ∧ (⟨s, 0⟩ : S28).f1 < 18446744073709551616 := ⟨by unfold cleanE; simp; decide, by simp, by simp⟩
theorem Okl.one (s : ByteArray) : Okl [⟨s, 0⟩] := fun e he => by
  obtain rfl : e = ⟨s, 0⟩ := by simpa using he
  exact Okl.url s
theorem Okl.push {l : List S28} (h : Okl l) (k : Nat) (s : ByteArray) : Okl (l.take k ++ [⟨s, 0⟩]) := fun e he => by
  rcases List.mem_append.1 he with he | he
  · exact h e (List.mem_of_mem_take he)
  · exact Okl.one s e he
theorem Okl.set {l : List S28} (h : Okl l) (k : Nat) (s : ByteArray) : Okl (l.set k ⟨s, 0⟩) := fun e he => by
  rcases List.mem_or_eq_of_mem_set he with he | he
  · exact h e he
  · rw [he]; exact Okl.url s
theorem Okl.scroll {l : List S28} (h : Okl l) (k : Nat) (s : ByteArray) (x : Nat) : Okl (l.set k ⟨s, (Fl.cl x : Int)⟩) := fun e he => by
  rcases List.mem_or_eq_of_mem_set he with he | he
  · exact h e he
  · rw [he]
    have h1 := Fl.cl_le x
    refine ⟨?_, by simp, by simp only [Fl.top] at h1; show ((Fl.cl x : Nat) : Int) < _; omega⟩
    unfold cleanE
    simp [cl_cl]
theorem Okl.same {l : List S28} (h : Okl l) : l.map cleanE = l ∧ Good l :=
  ⟨by conv => rhs; rw [← List.map_id l]
      exact List.map_congr_left (fun e he => (h e he).1), fun e he => (h e he).2⟩
end Go.Proofs.Ytobeebcpkkdkhaa.Pa
