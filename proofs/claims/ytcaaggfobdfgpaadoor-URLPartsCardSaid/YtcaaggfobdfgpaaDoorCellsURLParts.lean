/- URLParts: rows of pairs and of texts as cells: read, appended to. -/
import Derived.Test.YtcaaggfobdfgpaaDoorMadeURLParts
import Derived.Test.YtcaaggfobdfgpaaDoorAppE
import Derived.Deep.RegionHeldLaw
set_option linter.unusedVariables false
set_option linter.unusedSimpArgs false
namespace Go.Proofs.YtcaaggfobdfgpaaDoor.UURLParts
open Go.RowKit Go.Proofs.YtcaaggfobdfgpaaDoor.PURLParts Go.Proofs.YtcaaggfobdfgpaaDoorW.PrintWords Go.Proofs.YtcaaggfobdfgpaaDoorW.PrintLast Go.Proofs.YtcaaggfobdfgpaaDoorW.PrintMore Go.Proofs.YtcaaggfobdfgpaaDoor.Pct Go.Proofs.YtcaaggfobdfgpaaDoor.UP Go.Proofs.YtcaaggfobdfgpaaDoor.Given Go.Proofs.YtcaaggfobdfgpaaDoor

/-- Elements told by cells of a fixed number. -/
structure Flat {α : Type} (d : Kd α) (f : α → List Value) : Prop where
  fwd : ∀ w x cs, d.K w x cs → cs = f x
  back : ∀ w x, d.K w x (f x)
  len : ∀ x, (f x).length = d.sz
  one : ∀ x, ∀ u ∈ f x, u.oneCell' = true
def cellP (x : Pr) : List Value := [.string x.f0, .string x.f1]
def cellS (x : ByteArray) : List Value := [.string x]
theorem flatP : Flat k32 cellP := ⟨fun w x cs h => k32_open h, fun w x => ⟨[.string x.f0], [.string x.f1], rfl, rfl, rfl⟩, fun _ => rfl, fun x u hu => by
  simp only [cellP, List.mem_cons, List.mem_nil_iff, or_false] at hu
  rcases hu with rfl | rfl <;> rfl⟩
theorem flatS : Flat Kd.string cellS := ⟨fun w x cs h => h, fun w x => rfl, fun _ => rfl, fun x u hu => by
  simp only [cellS, List.mem_cons, List.mem_nil_iff, or_false] at hu
  rw [hu]
  rfl⟩
section
variable {α : Type} {d : Kd α} {f : α → List Value}
theorem flat_len (hf : Flat d f) (l : List α) : (l.flatMap f).length = l.length * d.sz := by
  induction l with
  | nil => simp
  | cons x l ih => rw [List.flatMap_cons, List.length_append, hf.len, ih, List.length_cons, Nat.succ_mul]; omega
theorem flat_one (hf : Flat d f) (l : List α) : ∀ u ∈ l.flatMap f, u.oneCell' = true := by
  intro u hu
  obtain ⟨x, _, hx⟩ := List.mem_flatMap.1 hu
  exact hf.one x u hx
theorem flat_at (hf : Flat d f) : ∀ (l : List α) (j i : Nat) (x : α), l[j]? = some x → i < d.sz → (l.flatMap f)[j * d.sz + i]? = (f x)[i]?
  | [], j, i, x, h, _ => by simp at h
  | y :: l, 0, i, x, h, hi => by
    have e : y = x := by simpa using h
    subst e
    rw [List.flatMap_cons, Nat.zero_mul, Nat.zero_add, List.getElem?_append_left (by rw [hf.len]; exact hi)]
  | y :: l, j + 1, i, x, h, hi => by
    have h' : l[j]? = some x := by simpa using h
    rw [List.flatMap_cons, List.getElem?_append_right (by rw [hf.len, Nat.succ_mul]; omega), hf.len, show (j + 1) * d.sz + i - d.sz = j * d.sz + i by rw [Nat.succ_mul]; omega]
    exact flat_at hf l j i x h' hi
theorem flat_split (hf : Flat d f) : ∀ (l : List α) (j : Nat) (u : Value), (l.flatMap f)[j]? = some u → ∃ i k x, l[i]? = some x ∧ (f x)[k]? = some u ∧ j = i * d.sz + k
  | [], j, u, h => by simp at h
  | y :: l, j, u, h => by
    rw [List.flatMap_cons] at h
    by_cases hj : j < (f y).length
    · rw [List.getElem?_append_left hj] at h
      exact ⟨0, j, y, rfl, h, by omega⟩
    · rw [List.getElem?_append_right (by omega), hf.len] at h
      obtain ⟨i, k, x, h1, h2, h3⟩ := flat_split hf l (j - d.sz) u h
      rw [hf.len] at hj
      exact ⟨i + 1, k, x, by simpa using h1, h2, by rw [Nat.succ_mul]; omega⟩
/-- What is read, as cells. -/
theorem C_flat (hf : Flat d f) {W : World} {A : Option Addr} {l : List α} (h : d.C W A l.length l) (hn : 0 < l.length) : ∃ a, A = some a ∧ ∀ j u, (l.flatMap f)[j]? = some u → W.cell? (a.add j) = some u := by
  obtain ⟨ad, h1, h2⟩ := h.2.2 hn
  refine ⟨ad, h1, fun j u hu => ?_⟩
  obtain ⟨i, k, x, e1, e2, e3⟩ := flat_split hf l j u hu
  obtain ⟨c, _, hK, hc⟩ := h2 i x e1
  rw [hf.fwd W x c hK] at hc
  rw [e3]
  exact hc k u e2
/-- A row told by cells is one that is read. -/
theorem Sl_C (hf : Flat d f) {W : World} {e size : Nat} (hs : d.sz = size) {v : Value} {n : Nat} {l : List α} (h : Sl.Sl W e size v n (l.flatMap f)) (hl : l.length = n) (hn : n ≤ 1000000) : ∃ A c, v = .slice A l.length c ∧ l.length ≤ c ∧ d.C W A l.length l := by
  subst hs
  subst hl
  obtain ⟨A, c, rfl, hc⟩ := h.form
  refine ⟨A, c, rfl, hc, rfl, by omega, fun hp => ?_⟩
  obtain ⟨g, o, c', e1, _⟩ := h.form1 hp
  cases e1
  refine ⟨_, rfl, fun j p hj => ⟨f p, hf.len p, hf.back W p, fun i u hu => ?_⟩⟩
  have hi : i < d.sz := by rw [← hf.len p]; exact (List.getElem?_eq_some_iff.1 hu).1
  have h1 := flat_at hf l j i p hj hi
  have h2 := h.cell (j * d.sz + i) u (h1.trans hu)
  rw [show (⟨g, o, none⟩ : Addr).add (j * d.sz + i) = ⟨g, o + (j * d.sz + i), none⟩ from by unfold Addr.add; split <;> simp_all]
  exact h2
end
def cellsP (q : List Pr) : List Value := q.flatMap cellP
def cellsS (p : List ByteArray) : List Value := p.flatMap cellS
theorem infoPr : ∃ i, Tryd.prog.info? 32 = some i ∧ i.zero = some (.agg #[.string ⟨#[]⟩, .string ⟨#[]⟩]) ∧ i.size = 2 ∧ i.bytes = 32 := by
  obtain ⟨i, h, e⟩ := Option.map_eq_some_iff.1 info32
  simp only [Prod.mk.injEq] at e
  exact ⟨i, h, e.1, e.2.1, e.2.2⟩
theorem infoStr : ∃ i, Tryd.prog.info? 9 = some i ∧ i.zero = some (.string ⟨#[]⟩) ∧ i.size = 1 ∧ i.bytes = 16 := by
  obtain ⟨i, h, e⟩ := Option.map_eq_some_iff.1 info9
  simp only [Prod.mk.injEq] at e
  exact ⟨i, h, e.1, e.2.1, e.2.2⟩
theorem appP1 (w W : World) (b : Nat) (B : Option Addr) (d : Nat) (q : List Pr) (hW : Below w.heap.size w W) (hb : w.heap.size ≤ b) (h : Kd.C k32 W B q.length q) (hq : q.length ≤ 1000) :
    ∃ v w', (Builtin.append_ #[23, 23] 23 #[.slice (some ⟨b, 0, none⟩) 0 0, .slice B q.length d]).run Tryd.prog W = .ok v w' ∧ Sl.App w' w.heap.size 32 2 v q.length (cellsP q) ∧ Below W.heap.size W w' := by
  obtain ⟨i, h1, h2, h3, h4⟩ := infoPr
  exact Sl.app_first W w.heap.size hW.size b hb _ _ _ i _ 2 32 Tryd.underlying23 h1 h2 h3 h4 rfl B q.length d (cellsP q) (flat_len flatP q) (fun hn => C_flat flatP h hn) (by omega) (by omega)
theorem appP2 (w W : World) (v : Value) (q q2 : List Pr) (nb : Nat) (m c : Nat) (hm : q2.length = m) (hm0 : 0 < m) (hm1 : m ≤ 1000) (hW : Below w.heap.size w W) (hv : Sl.App W w.heap.size 32 2 v q.length (cellsP q)) (hb : W.heap[nb]? = some (.cells (cellsP q2).toArray 32 (0, 0))) (hq : q.length ≤ 1000) :
    ∃ v' w', (Builtin.append_ #[23, 23] 23 #[v, .slice (some ⟨nb, 0, none⟩) m c]).run Tryd.prog W = .ok v' w' ∧ Sl.Sl w' 32 2 v' (q.length + m) (cellsP q ++ cellsP q2) ∧ Below w.heap.size w w' ∧ ∀ (g : Nat) (cs : Array Value) (t : TypeId), W.heap[g]? = some (Obj.cells cs t (0, 0)) → t ≠ 32 → w'.heap[g]? = W.heap[g]? := by
  obtain ⟨i, h1, h2, h3, h4⟩ := infoPr
  obtain ⟨v', w', r1, r2, _, r4, r5⟩ := Sl.app_second W w.heap.size hW.size 23 23 _ i _ 2 32 Tryd.underlying23 h1 h2 h3 h4 rfl v q.length (cellsP q) hv ⟨nb, 0, none⟩ m c (cellsP q2) (by rw [← hm]; exact flat_len flatP q2) (fun j u hu => by
    rw [show (⟨nb, 0, none⟩ : Addr).add j = ⟨nb, j, none⟩ from by unfold Addr.add; split <;> simp_all, blk_cell hb j]
    simpa using hu) (flat_one flatP q2) hm0 (by omega) (by omega)
  exact ⟨v', w', r1, r2, hW.trans r4, r5⟩
theorem appS1 (w W : World) (b : Nat) (B : Option Addr) (d : Nat) (q : List ByteArray) (hW : Below w.heap.size w W) (hb : w.heap.size ≤ b) (h : Kd.C Kd.string W B q.length q) (hq : q.length ≤ 1000) :
    ∃ v w', (Builtin.append_ #[22, 22] 22 #[.slice (some ⟨b, 0, none⟩) 0 0, .slice B q.length d]).run Tryd.prog W = .ok v w' ∧ Sl.App w' w.heap.size 9 1 v q.length (cellsS q) ∧ Below W.heap.size W w' := by
  obtain ⟨i, h1, h2, h3, h4⟩ := infoStr
  exact Sl.app_first W w.heap.size hW.size b hb _ _ _ i _ 1 16 Tryd.underlying22 h1 h2 h3 h4 rfl B q.length d (cellsS q) (flat_len flatS q) (fun hn => C_flat flatS h hn) (by omega) (by omega)
theorem appS2 (w W : World) (v : Value) (q q2 : List ByteArray) (nb : Nat) (m c : Nat) (hm : q2.length = m) (hm0 : 0 < m) (hm1 : m ≤ 1000) (hW : Below w.heap.size w W) (hv : Sl.App W w.heap.size 9 1 v q.length (cellsS q)) (hb : W.heap[nb]? = some (.cells (cellsS q2).toArray 9 (0, 0))) (hq : q.length ≤ 1000) :
    ∃ v' w', (Builtin.append_ #[22, 22] 22 #[v, .slice (some ⟨nb, 0, none⟩) m c]).run Tryd.prog W = .ok v' w' ∧ Sl.Sl w' 9 1 v' (q.length + m) (cellsS q ++ cellsS q2) ∧ Below w.heap.size w w' ∧ ∀ (g : Nat) (cs : Array Value) (t : TypeId), W.heap[g]? = some (Obj.cells cs t (0, 0)) → t ≠ 9 → w'.heap[g]? = W.heap[g]? := by
  obtain ⟨i, h1, h2, h3, h4⟩ := infoStr
  obtain ⟨v', w', r1, r2, _, r4, r5⟩ := Sl.app_second W w.heap.size hW.size 22 22 _ i _ 1 16 Tryd.underlying22 h1 h2 h3 h4 rfl v q.length (cellsS q) hv ⟨nb, 0, none⟩ m c (cellsS q2) (by rw [← hm]; exact flat_len flatS q2) (fun j u hu => by
    rw [show (⟨nb, 0, none⟩ : Addr).add j = ⟨nb, j, none⟩ from by unfold Addr.add; split <;> simp_all, blk_cell hb j]
    simpa using hu) (flat_one flatS q2) hm0 (by omega) (by omega)
  exact ⟨v', w', r1, r2, hW.trans r4, r5⟩
end Go.Proofs.YtcaaggfobdfgpaaDoor.UURLParts
