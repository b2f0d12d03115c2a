/- TrapNests: a row of closures, and First over it. -/
import Derived.Test.YtcpinjdkgponnaaTrapNests2
import Derived.Test.YtcpinjdkgponnaaTrapRuns
set_option linter.unusedVariables false
set_option linter.unusedSimpArgs false
namespace Go.Proofs.Ytcpinjdkgponnaa.Trap
open Go.RowKit Go.Proofs.YtcpinjdkgponnaaW.PrintWords Go.Proofs.Ytcpinjdkgponnaa.PTrapCatches

theorem infoFunc : (Try.prog.info? 1).map (fun i => (i.zero, i.size, i.bytes)) = some (some .nilFunc, 1, 8) := by kernel_rfl
theorem firstT_zero (l : List Bool) : firstT l 0 = none := by unfold firstT; simp
theorem firstT_succ_old (l : List Bool) (n k : Nat) (h : firstT l n = some k) : firstT l (n + 1) = some k := by
  unfold firstT at h ⊢
  rw [List.findIdx?_eq_some_iff_getElem] at h ⊢
  obtain ⟨h1, h2, h3⟩ := h
  rw [List.length_take] at h1
  refine ⟨by rw [List.length_take]; omega, by simpa using h2, fun j hj => by simpa using h3 j hj⟩
theorem firstT_succ_new (l : List Bool) (n : Nat) (h : firstT l n = none) (hn : n < l.length) : firstT l (n + 1) = if l[n] then some n else none := by
  have ht : ∀ j (hj : j < l.length), j < n → l[j] = false := by
    intro j hj hjn
    unfold firstT at h
    rw [List.findIdx?_eq_none_iff] at h
    have := h l[j] (by rw [List.mem_iff_getElem]; exact ⟨j, by rw [List.length_take]; omega, by simp⟩)
    simpa using this
  cases hb : l[n] with
  | true => rw [if_pos rfl]; exact firstT_some l (n + 1) n hn (by omega) hb ht
  | false =>
    rw [if_neg (by decide)]
    refine firstT_none l (n + 1) (fun j hj hjn => ?_)
    rcases Nat.lt_or_ge j n with h1 | h1
    · exact ht j hj h1
    · have : j = n := by omega
      subst this
      exact hb
def wantI (o : Option Nat) : Int := match o with
  | none => -1
  | some k => (k : Int)
/-- The row of the closures that there are so far. -/
def clos (b bt bn : Nat) (bs : Nat → Nat) (n : Nat) : List Value := (List.range n).map (fun k => clo b (bs k) bt bn)
theorem clos_length (b bt bn : Nat) (bs : Nat → Nat) (n : Nat) : (clos b bt bn bs n).length = n := by simp [clos]
theorem clos_succ (b bt bn : Nat) (bs : Nat → Nat) (n : Nat) : clos b bt bn bs n ++ [clo b (bs n) bt bn] = clos b bt bn bs (n + 1) := by simp [clos, List.range_succ]
theorem clos_get (b bt bn : Nat) (bs : Nat → Nat) (n k : Nat) (h : k < n) : (clos b bt bn bs n)[k]? = some (clo b (bs k) bt bn) := by simp [clos, h]
theorem clos_ext (b bt bn : Nat) (bs bs' : Nat → Nat) (n : Nat) (h : ∀ k, k < n → bs k = bs' k) : clos b bt bn bs n = clos b bt bn bs' n := by
  unfold clos
  refine List.map_congr_left (fun k hk => ?_)
  rw [h k (List.mem_range.1 hk)]
/-- The walk's worlds while the closures are made: block b holds the log, bt throws, bn inner; fs the closures; bs their numbers' variables, bi the next one's. -/
structure Ns (b bt bn : Nat) (ad : Addr) (c : Nat) (l : List Bool) (inner : Int) (w0 w : World) (vl : Value) (i bi : Nat) (fs : Value) (bs : Nat → Nat) : Prop where
  log : LogAt (b - 1) b w vl []
  vlb : vl.ownBlock = some (b - 1)
  low : Below (b + 1) w0 w
  row : w.ownsRow (b + 1) 1 1 fs i (clos b bt bn bs i)
  nums : ∀ k, k < i → w.cell? ⟨bs k, 0, none⟩ = some (.int .i64 (k : Int)) ∧ b < bs k ∧ fs.ownBlock ≠ some (bs k)
  cur : w.heap[bi]? = some (.cells #[.int .i64 (i : Int)] 3 (0, 0))
  bib : b < bi ∧ (∀ k, k < i → bs k ≠ bi) ∧ fs.ownBlock ≠ some bi
  sz : b + 1 ≤ w.heap.size
theorem Ns.next {b bt bn : Nat} {ad : Addr} {c : Nat} {l : List Bool} {inner : Int} {w0 w w1 : World} {vl : Value} {i bi : Nat} {fs v1 : Value} {bs : Nat → Nat} {n1 : Nat} (h : Ns b bt bn ad c l inner w0 w vl i bi fs bs)
    (hO : w1.ownsRow (b + 1) 1 1 v1 n1 (clos b bt bn bs i ++ [clo b bi bt bn])) (hG : w.grownBy w1 fs.ownBlock) (hR : v1.ownBlock = fs.ownBlock ∨ ∃ k, v1.ownBlock = some k ∧ w.heap.size ≤ k) (x : Int) (hx : x = ((i + 1 : Nat) : Int)) (hn : n1 = i + 1) (hb1 : 1 ≤ b) :
    Ns b bt bn ad c l inner w0 (w1.alloc (.cells #[.int .i64 x] 3)) vl (i + 1) w1.heap.size v1 (fun k => if k = i then bi else bs k) := by
  subst hn
  have hs := hG.size
  have hbs : ∀ k, (fun k => if k = i then bi else bs k) k = if k = i then bi else bs k := fun _ => rfl
  have hfs : ∀ k, fs.ownBlock = some k → b + 1 ≤ k ∧ k < w.heap.size := fun k hk => h.row.lt k hk
  have old : ∀ k, k < b + 1 → w1.heap[k]? = w.heap[k]? := fun k hk => hG.block k (by have := h.sz; omega) (fun e => by have := (hfs k e.symm).1; omega)
  have hB : Below w1.heap.size w1 (w1.alloc (.cells #[.int .i64 x] 3)) := (Below.refl _ _).alloc (Nat.le_refl _) _
  have hne : ∀ k, k < w.heap.size → fs.ownBlock ≠ some k → v1.ownBlock ≠ some k := fun k hk hf e => by
    rcases hR with hr | ⟨j, hr, hj⟩
    · exact hf (hr.symm.trans e)
    · rw [hr] at e; have := Option.some.inj e; omega
  have hbi : bi < w.heap.size := by
    have := h.cur
    exact (Array.getElem?_eq_some_iff.1 this).1
  have hext : clos b bt bn bs i ++ [clo b bi bt bn] = clos b bt bn (fun k => if k = i then bi else bs k) (i + 1) := by
    rw [← clos_succ]
    congr 1
    · exact clos_ext _ _ _ _ _ _ (fun k hk => by simp [Nat.ne_of_lt hk])
    · simp
  rw [hext] at hO
  refine ⟨(h.log.move (by omega) (old b (by omega)) (fun k hk => ?_)).kept (B := 0) hB, h.vlb, (h.low.trans ⟨hG.os, hG.tape, hG.output, hs, old⟩).trans (hB.mono (by have := h.sz; omega)), hO.alloc _, fun k hk => ?_, ?_, ⟨by have := h.sz; omega, fun k hk => ?_, fun e => ?_⟩, by simp; have := h.sz; omega⟩
  · have : k = b - 1 := by have := h.vlb; rw [hk] at this; exact Option.some.inj this
    exact old k (by omega)
  · show _ ∧ b < (if k = i then bi else bs k) ∧ v1.ownBlock ≠ some (if k = i then bi else bs k)
    by_cases c : k = i
    · subst c
      simp only [if_true]
      refine ⟨?_, h.bib.1, hne bi hbi h.bib.2.2⟩
      have : w1.heap[bi]? = w.heap[bi]? := hG.block bi hbi (fun e => h.bib.2.2 e.symm)
      rw [hB.cell (p := ⟨bi, 0, none⟩) (by show bi < _; omega)]
      simp [World.cell?, this, h.cur]
    · rw [if_neg c]
      obtain ⟨e1, e2, e3⟩ := h.nums k (by omega)
      have hlt := lt_of_cell e1
      refine ⟨?_, e2, hne _ hlt e3⟩
      rw [hB.cell (p := ⟨bs k, 0, none⟩) (Nat.lt_of_lt_of_le hlt hs), World.cell?_of_block (a := ⟨bs k, 0, none⟩) (hG.block _ hlt (fun e => e3 e.symm))]
      exact e1
  · have := heap_alloc_new w1 (.cells #[.int .i64 x] 3)
    rw [hx] at this ⊢
    exact this
  · show (if k = i then bi else bs k) ≠ w1.heap.size
    by_cases c : k = i
    · rw [if_pos c]; omega
    · rw [if_neg c]
      have := lt_of_cell (h.nums k (by omega)).1
      have : bs k < w.heap.size := this
      omega
  · have := (hO.lt _ e).2
    omega
end Go.Proofs.Ytcpinjdkgponnaa.Trap
