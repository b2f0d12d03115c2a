/- CodeEdges: the walk. -/
import Derived.Test.YtgbhejkgnfkfgaaBytes24
set_option linter.unusedVariables false
set_option linter.unusedSimpArgs false
namespace Go.Proofs.Ytgbhejkgnfkfgaa.Cd
open Go.RowKit Go.Proofs.Ytgbhejkgnfkfgaa.Given Go.Proofs.YtgbhejkgnfkfgaaW.PrintWords Go.Proofs.YtgbhejkgnfkfgaaW.PrintLast Go.Proofs.YtgbhejkgnfkfgaaW.PrintMore Go.Proofs.Ytgbhejkgnfkfgaa.PCodeRuns

theorem infoM : (Try.prog.info? 24).map (fun i => (i.zero, i.size, i.bytes)) = some (some (.agg #[.string ⟨#[]⟩, .int .u64 0]), 2, 24) := by kernel_rfl
theorem infoL : (Try.prog.info? 45).map (fun i => (i.zero, i.size, i.bytes)) = some (some (.slice none 0 0), 1, 24) := by kernel_rfl
theorem infoF : (Try.prog.info? 4).map (fun i => (i.zero, i.size, i.bytes)) = some (some (.bool false), 1, 1) := by kernel_rfl
theorem infoI : (Try.prog.info? 3).map (fun i => (i.zero, i.size, i.bytes)) = some (some (.int .i64 0), 1, 8) := by kernel_rfl
theorem mk_any (t e : TypeId) (z : Value) (sz by_ : Nat) (ht : Try.prog.underlying t = some (.slice e)) (hz : (Try.prog.info? e).map (fun i => (i.zero, i.size, i.bytes)) = some (some z, sz, by_)) (hb : by_ ≤ 1000) (n : Int) (h0 : 0 ≤ n) (h1 : n ≤ 1000000) (W : World) :
    (Instr.makeSlice t (.int .i64 n) (.int .i64 n)).run Try.prog W = .ok (.slice (some ⟨W.heap.size, 0, none⟩) n.toNat n.toNat) (W.alloc (.cells (madeCells z.cells (n.toNat * sz)) e)) := by
  obtain ⟨i0, hi, hzz⟩ := Option.map_eq_some_iff.1 hz
  simp only [Prod.mk.injEq] at hzz
  obtain ⟨hz0, hz1, hz2⟩ := hzz
  have := run_make (P := Try.prog) W t e i0 _ ht hi hz0 .i64 .i64 n n h0 (Int.le_refl _) (by
    rw [hz2]
    have : (by_ : Int) * n ≤ 1000 * 1000000 := Int.mul_le_mul (by omega) h1 h0 (by omega)
    omega) (by omega)
  rw [hz1] at this
  exact this
theorem C_of {α : Type} (d : Kd α) {w : World} {g T : Nat} {cells : Array Value} {xs : List α} (h : w.heap[g]? = some (.cells cells T (0, 0))) (hn : xs.length ≤ 1000000) (hx : ∀ j p, xs[j]? = some p → ∃ cs : List Value, cs.length = d.sz ∧ d.K w p cs ∧ ∀ i u, cs[i]? = some u → cells[j * d.sz + i]? = some u) : Kd.C d w (some ⟨g, 0, none⟩) xs.length xs := by
  refine ⟨rfl, by omega, fun _ => ⟨⟨g, 0, none⟩, rfl, fun j p hj => ?_⟩⟩
  obtain ⟨cs, h1, h2, h3⟩ := hx j p hj
  refine ⟨cs, h1, h2, fun i u hu => ?_⟩
  have hadd : (⟨g, 0, none⟩ : Addr).add (j * d.sz + i) = ⟨g, j * d.sz + i, none⟩ := by unfold Addr.add; split <;> simp_all
  rw [hadd]
  have := h3 i u hu
  simp [World.cell?, h, this]
theorem g0 (w : World) (a b c d : Obj) : ((((w.alloc a).alloc b).alloc c).alloc d).drew.heap[w.heap.size]? = some a :=
  ((heap_alloc_old _ d (by simp; omega)).trans ((heap_alloc_old _ c (by simp; omega)).trans ((heap_alloc_old _ b (by simp)).trans (heap_alloc_new w a))))
theorem g1 (w : World) (a b c d : Obj) : ((((w.alloc a).alloc b).alloc c).alloc d).drew.heap[w.heap.size + 1]? = some b :=
  ((heap_alloc_old _ d (by simp)).trans ((heap_alloc_old _ c (by simp)).trans (by have := heap_alloc_new (w.alloc a) b; simpa using this)))
theorem g2 (w : World) (a b c d : Obj) : ((((w.alloc a).alloc b).alloc c).alloc d).drew.heap[w.heap.size + 1 + 1]? = some c :=
  ((heap_alloc_old _ d (by simp)).trans (by have := heap_alloc_new ((w.alloc a).alloc b) c; simpa using this))
theorem g3 (w : World) (a b c d : Obj) : ((((w.alloc a).alloc b).alloc c).alloc d).drew.heap[w.heap.size + 1 + 1 + 1]? = some d := by
  show ((((w.alloc a).alloc b).alloc c).alloc d).heap[w.heap.size + 1 + 1 + 1]? = some d
  have := heap_alloc_new (((w.alloc a).alloc b).alloc c) d
  simpa using this
theorem gB (w : World) (a b c d : Obj) : Below w.heap.size w ((((w.alloc a).alloc b).alloc c).alloc d).drew := below_drew (below_alloc (below_alloc (below_alloc (below_alloc (Below.refl _ _) a) b) c) d)
def Ed0 (w1 wc : World) (K KF KS KM : Nat) : Prop := wc.heap[K]? = some (.cells #[.slice (some ⟨KM, 0, none⟩) 12 12, .int .i64 11, .slice (some ⟨KF, 0, none⟩) 8 8, .slice (some ⟨KS, 0, none⟩) 16 16] 29 (0, 0)) ∧ wc.heap[KF]? = some (.cells (madeCells #[.bool false] 8) 4 (0, 0)) ∧ wc.heap[KS]? = some (.cells (madeCells #[.slice none 0 0] 16) 45 (0, 0)) ∧ wc.heap[KM]? = some (.cells (madeCells #[.string ⟨#[]⟩, .int .u64 0] 24) 24 (0, 0)) ∧ Below w1.heap.size w1 wc ∧ w1.heap.size ≤ K ∧ w1.heap.size ≤ KF ∧ w1.heap.size ≤ KS ∧ w1.heap.size ≤ KM
theorem ed_of {w1 wc : World} {K KF KS KM : Nat} (h1 : wc.heap[K]? = some (.cells #[.slice (some ⟨KM, 0, none⟩) 12 12, .int .i64 11, .slice (some ⟨KF, 0, none⟩) 8 8, .slice (some ⟨KS, 0, none⟩) 16 16] 29 (0, 0))) (h2 : wc.heap[KF]? = some (.cells (madeCells #[.bool false] 8) 4 (0, 0))) (h3 : wc.heap[KS]? = some (.cells (madeCells #[.slice none 0 0] 16) 45 (0, 0))) (h4 : wc.heap[KM]? = some (.cells (madeCells #[.string ⟨#[]⟩, .int .u64 0] 24) 24 (0, 0))) (h5 : Below w1.heap.size w1 wc) (h6 : w1.heap.size ≤ K) (h7 : w1.heap.size ≤ KF) (h8 : w1.heap.size ≤ KS) (h9 : w1.heap.size ≤ KM) : ∃ K' : Nat, Value.pointer (some ⟨K, 0, none⟩) = .pointer (some ⟨K', 0, none⟩) ∧ Hid (∃ KF KS KM, Ed0 w1 wc K' KF KS KM) := ⟨K, rfl, Lib.hid ⟨KF, KS, KM, h1, h2, h3, h4, h5, h6, h7, h8, h9⟩⟩
abbrev six : List Value := [.int .i64 1000, .int .i64 (-1000), .int .i64 0, .int .i64 1, .int .i64 (-1), .int .i64 5]
def rowsA (b i : Nat) : List Value := (List.range i).map (fun j => Value.slice (some ⟨b + j, 0, none⟩) 6 6) ++ List.replicate (16 - i) (.slice none 0 0)
theorem rowsA_len (b i : Nat) (h : i ≤ 16) : (rowsA b i).length = 16 := by simp [rowsA]; omega
theorem rowsA_set (b i : Nat) (h : i < 16) : (rowsA b i).set i (.slice (some ⟨b + i, 0, none⟩) 6 6) = rowsA b (i + 1) := by
  unfold rowsA
  rw [show 16 - i = (16 - (i + 1)) + 1 by omega, List.replicate_succ, List.range_succ, List.map_append, List.append_assoc]
  rw [List.set_append, if_neg (by simp)]
  simp
def Ed1 (w1 wc : World) (K KF KS KM b i : Nat) : Prop := wc.heap[K]? = some (.cells #[.slice (some ⟨KM, 0, none⟩) 12 12, .int .i64 11, .slice (some ⟨KF, 0, none⟩) 8 8, .slice (some ⟨KS, 0, none⟩) 16 16] 29 (0, 0)) ∧ wc.heap[KF]? = some (.cells (madeCells #[.bool false] 8) 4 (0, 0)) ∧ wc.heap[KS]? = some (.cells (rowsA b i).toArray 45 (0, 0)) ∧ wc.heap[KM]? = some (.cells (madeCells #[.string ⟨#[]⟩, .int .u64 0] 24) 24 (0, 0)) ∧ Below w1.heap.size w1 wc ∧ (w1.heap.size ≤ K ∧ w1.heap.size ≤ KF ∧ w1.heap.size ≤ KS ∧ w1.heap.size ≤ KM) ∧ (K < b ∧ KF < b ∧ KS < b ∧ KM < b ∧ w1.heap.size ≤ b) ∧ wc.heap.size = b + i ∧ ∀ j, j < i → wc.heap[b + j]? = some (.cells six.toArray 3 (0, 0))
theorem Ed1.start {w1 wc : World} {K KF KS KM : Nat} (h : Ed0 w1 wc K KF KS KM) : Ed1 w1 wc K KF KS KM wc.heap.size 0 := by
  obtain ⟨h1, h2, h3, h4, h5, h6, h7, h8, h9⟩ := h
  refine ⟨h1, h2, ?_, h4, h5, ⟨h6, h7, h8, h9⟩, ⟨blk_lt h1, blk_lt h2, blk_lt h3, blk_lt h4, h5.size⟩, rfl, fun j hj => absurd hj (by omega)⟩
  rw [h3]
  congr 2
  apply Array.ext'
  rw [toList_madeCells_one]
  rfl
theorem ne_ty {w : World} {a b : Nat} {c d : Array Value} {s t : Nat} (h1 : w.heap[a]? = some (.cells c s (0, 0))) (h2 : w.heap[b]? = some (.cells d t (0, 0))) (hst : s ≠ t) : a ≠ b := by
  rintro rfl
  rw [h1] at h2
  injection h2 with h2
  injection h2 with _ h3
  exact hst h3
theorem Ed1.next {w1 wc : World} {K KF KS KM b i : Nat} (h : Ed1 w1 wc K KF KS KM b i) (hi : i < 16) : Ed1 w1 ((wc.alloc (.cells six.toArray 3)).setCell ⟨KS, i, none⟩ (.slice (some ⟨wc.heap.size, 0, none⟩) 6 6)) K KF KS KM b (i + 1) := by
  obtain ⟨h1, h2, h3, h4, h5, h6, h7, h8, h9⟩ := h
  have n1 := ne_ty h1 h3 (by decide)
  have n2 := ne_ty h2 h3 (by decide)
  have n4 := ne_ty h4 h3 (by decide)
  have old : ∀ k o, k ≠ KS → wc.heap[k]? = some o → ((wc.alloc (.cells six.toArray 3)).setCell ⟨KS, i, none⟩ (.slice (some ⟨wc.heap.size, 0, none⟩) 6 6)).heap[k]? = some o := fun k o hk ho => by
    rw [Below.heap_setCell _ ⟨KS, i, none⟩ _ k hk, heap_alloc_old wc _ (blk_lt ho)]
    exact ho
  have hnew := heap_alloc_new wc (.cells six.toArray 3)
  refine ⟨old _ _ n1 h1, old _ _ n2 h2, ?_, old _ _ n4 h4, (below_alloc h5 _).setCell h6.2.2.1 _, h6, h7, by simp [World.setCell]; omega, fun j hj => ?_⟩
  · have h3' : (wc.alloc (.cells six.toArray 3)).heap[KS]? = some (.cells (rowsA b i).toArray 45 (0, 0)) := (heap_alloc_old wc _ (blk_lt h3)).trans h3
    rw [← rowsA_set b i hi, h8]
    simp only [World.setCell, Array.getElem?_modify, if_pos rfl, h3']
    simp
  · by_cases e : j = i
    · subst e
      rw [Below.heap_setCell _ ⟨KS, j, none⟩ _ (b + j) (show b + j ≠ KS by omega), ← h8]
      exact hnew
    · exact old _ _ (by omega) (h9 j (by omega))
def mcells (ms : List S24) : List Value := ms.flatMap fun m => [.string m.f0, .int .u64 m.f1]
theorem mcells_get : ∀ (ms : List S24) (j : Nat) (p : S24), ms[j]? = some p → (mcells ms)[j * 2]? = some (.string p.f0) ∧ (mcells ms)[j * 2 + 1]? = some (.int .u64 p.f1)
  | [], j, p, h => by simp at h
  | m :: t, 0, p, h => by simp at h; subst h; exact ⟨rfl, rfl⟩
  | m :: t, j + 1, p, h => by
    have := mcells_get t j p (by simpa using h)
    rw [show (j + 1) * 2 = j * 2 + 1 + 1 by omega]
    exact this
theorem mcells_set : ∀ (ms : List S24) (j : Nat) (p : S24), ((mcells ms).set (j * 2) (.string p.f0)).set (j * 2 + 1) (.int .u64 p.f1) = mcells (ms.set j p)
  | [], j, p => by simp [mcells]
  | m :: t, 0, p => rfl
  | m :: t, j + 1, p => by
    rw [show (j + 1) * 2 = j * 2 + 1 + 1 by omega]
    show Value.string m.f0 :: Value.int .u64 m.f1 :: (((mcells t).set (j * 2) _).set (j * 2 + 1) _) = _
    rw [mcells_set t j p]
    rfl
theorem C_marks {w : World} {g : Nat} {ms : List S24} (h : w.heap[g]? = some (.cells (mcells ms).toArray 24 (0, 0))) (hn : ms.length ≤ 1000000) : Kd.C k24 w (some ⟨g, 0, none⟩) ms.length ms :=
  C_of k24 h hn fun j p hj => by
    obtain ⟨h1, h2⟩ := mcells_get ms j p hj
    refine ⟨[.string p.f0, .int .u64 p.f1], rfl, ⟨[.string p.f0], [.int .u64 p.f1], rfl, rfl, rfl⟩, fun i u hu => ?_⟩
    show (mcells ms).toArray[j * 2 + i]? = some u
    rcases i with _ | _ | i
    · cases hu; simpa using h1
    · cases hu; simpa using h2
    · simp at hu
theorem C_bools {w : World} {g : Nat} {l : List Bool} (h : w.heap[g]? = some (.cells (l.map Value.bool).toArray 4 (0, 0))) (hn : l.length ≤ 1000000) : Kd.C Kd.bool w (some ⟨g, 0, none⟩) l.length l :=
  C_of Kd.bool h hn fun j p hj => by
    refine ⟨[.bool p], rfl, rfl, fun i u hu => ?_⟩
    rcases i with _ | i
    · cases hu
      show (l.map Value.bool).toArray[j * 1 + 0]? = _
      simp [hj]
    · simp at hu
theorem C_ints {w : World} {g : Nat} {l : List Int} (h : w.heap[g]? = some (.cells (l.map (Value.int .i64)).toArray 3 (0, 0))) (hn : l.length ≤ 1000000) : Kd.C (Kd.int .i64) w (some ⟨g, 0, none⟩) l.length l :=
  C_of (Kd.int .i64) h hn fun j p hj => by
    refine ⟨[.int .i64 p], rfl, rfl, fun i u hu => ?_⟩
    rcases i with _ | i
    · cases hu
      show (l.map (Value.int .i64)).toArray[j * 1 + 0]? = _
      simp [hj]
    · simp at hu
theorem C_rows {w : World} {g : Nat} {vs : List Value} {l : List (List Int)} (h : w.heap[g]? = some (.cells vs.toArray 45 (0, 0))) (hn : l.length ≤ 1000000) (hr : ∀ (j : Nat) (r : List Int), l[j]? = some r → ∃ (A : Option Addr) (c : Nat), vs[j]? = some (Value.slice A r.length c) ∧ r.length ≤ c ∧ Kd.C (Kd.int .i64) w A r.length r) : Kd.C (Kd.slice 3 (Kd.int .i64)) w (some ⟨g, 0, none⟩) l.length l :=
  C_of (Kd.slice 3 (Kd.int .i64)) h hn fun j p hj => by
    obtain ⟨A, c, h1, h2, h3⟩ := hr j p hj
    refine ⟨[.slice A p.length c], rfl, ⟨A, c, rfl, h2, h3⟩, fun i u hu => ?_⟩
    rcases i with _ | i
    · cases hu
      show vs.toArray[j * 1 + 0]? = _
      simpa using h1
    · simp at hu
def Zs (n : Nat) : ByteArray := strOfNums (List.replicate n 0)
theorem Zs_size (n : Nat) : (Zs n).size = n := by simp [Zs, strOfNums, ByteArray.size]
def m0 : S24 := ⟨⟨#[]⟩, 0⟩
def ms0 : List S24 := (List.replicate 12 m0).set 3 ⟨Zs 1000, 4697254411347427328⟩
def sixI : List Int := [1000, -1000, 0, 1, -1, 5]
def s0 : Ses := (ms0, 11, List.replicate 8 false, List.replicate 16 sixI)
def Ed2 (w1 wc : World) (K KF KS KM b : Nat) : Prop := wc.heap[K]? = some (.cells #[.slice (some ⟨KM, 0, none⟩) 12 12, .int .i64 11, .slice (some ⟨KF, 0, none⟩) 8 8, .slice (some ⟨KS, 0, none⟩) 16 16] 29 (0, 0)) ∧ wc.heap[KF]? = some (.cells ((List.replicate 8 false).map Value.bool).toArray 4 (0, 0)) ∧ wc.heap[KS]? = some (.cells (rowsA b 16).toArray 45 (0, 0)) ∧ wc.heap[KM]? = some (.cells (mcells ms0).toArray 24 (0, 0)) ∧ Below w1.heap.size w1 wc ∧ (w1.heap.size ≤ K ∧ w1.heap.size ≤ KF ∧ w1.heap.size ≤ KS ∧ w1.heap.size ≤ KM) ∧ (K < b ∧ KF < b ∧ KS < b ∧ KM < b ∧ w1.heap.size ≤ b) ∧ ∀ j, j < 16 → wc.heap[b + j]? = some (.cells (sixI.map (Value.int .i64)).toArray 3 (0, 0))
theorem Ed1.done {w1 wr : World} {K KF KS KM b : Nat} (h : Ed1 w1 wr K KF KS KM b 16) : Ed2 w1 ((((wr.alloc (.cells (madeCells #[Value.int .u8 0] 1000) 5)).setCell ⟨KM, 6, none⟩ (.string (Zs 1000))).setCell ⟨KM, 7, none⟩ (.int .u64 4697254411347427328)).drew) K KF KS KM b := by
  obtain ⟨h1, h2, h3, h4, h5, h6, h7, h8, h9⟩ := h
  have n1 := ne_ty h1 h4 (by decide)
  have n2 := ne_ty h2 h4 (by decide)
  have n3 := ne_ty h3 h4 (by decide)
  have old : ∀ k o, k ≠ KM → wr.heap[k]? = some o → (((wr.alloc (.cells (madeCells #[Value.int .u8 0] 1000) 5)).setCell ⟨KM, 6, none⟩ (.string (Zs 1000))).setCell ⟨KM, 7, none⟩ (.int .u64 4697254411347427328)).heap[k]? = some o := fun k o hk ho => by
    rw [Below.heap_setCell _ ⟨KM, 7, none⟩ _ k hk, Below.heap_setCell _ ⟨KM, 6, none⟩ _ k hk, heap_alloc_old wr _ (blk_lt ho)]
    exact ho
  refine ⟨old _ _ n1 h1, ?_, old _ _ n3 h3, ?_, below_drew (((below_alloc h5 _).setCell h6.2.2.2 _).setCell h6.2.2.2 _), h6, h7, fun j hj => old _ _ (by omega) (h9 j hj)⟩
  · have := old _ _ n2 h2
    have e : (madeCells #[Value.bool false] 8) = ((List.replicate 8 false).map Value.bool).toArray := by
      apply Array.ext'
      rw [toList_madeCells_one]
      simp
    rw [← e]
    exact this
  · have h4' : (wr.alloc (.cells (madeCells #[Value.int .u8 0] 1000) 5)).heap[KM]? = some (.cells (mcells (List.replicate 12 m0)).toArray 24 (0, 0)) := by
      rw [heap_alloc_old wr _ (blk_lt h4), h4]
      congr 2
      kernel_rfl
    show (((wr.alloc (.cells (madeCells #[Value.int .u8 0] 1000) 5)).setCell ⟨KM, 6, none⟩ (.string (Zs 1000))).setCell ⟨KM, 7, none⟩ (.int .u64 4697254411347427328)).heap[KM]? = _
    have := mcells_set (List.replicate 12 m0) 3 ⟨Zs 1000, 4697254411347427328⟩
    unfold ms0
    rw [← this]
    simp only [World.setCell, Array.getElem?_modify, if_pos rfl, h4']
    simp
theorem Ed2.rows {w1 wc : World} {K KF KS KM b : Nat} (h : Ed2 w1 wc K KF KS KM b) : ∀ (j : Nat) (r : List Int), (List.replicate 16 sixI)[j]? = some r → ∃ (A : Option Addr) (c : Nat), (rowsA b 16)[j]? = some (Value.slice A r.length c) ∧ r.length ≤ c ∧ Kd.C (Kd.int .i64) wc A r.length r := fun j r hr => by
  obtain ⟨h1, h2, h3, h4, h5, h6, h7, h9⟩ := h
  rw [List.getElem?_replicate] at hr
  by_cases hj : j < 16
  · rw [if_pos hj] at hr
    cases hr
    refine ⟨some ⟨b + j, 0, none⟩, 6, ?_, Nat.le_refl _, C_ints (h9 j hj) (by decide)⟩
    simp [rowsA, hj, sixI]
  · rw [if_neg hj] at hr
    cases hr
theorem Ed2.ses {w1 wc : World} {K KF KS KM b : Nat} (h : Ed2 w1 wc K KF KS KM b) : SesV wc (.agg #[.slice (some ⟨KM, 0, none⟩) 12 12, .int .i64 11, .slice (some ⟨KF, 0, none⟩) 8 8, .slice (some ⟨KS, 0, none⟩) 16 16]) s0 :=
  ⟨some ⟨KM, 0, none⟩, 12, some ⟨KF, 0, none⟩, 8, some ⟨KS, 0, none⟩, 16, rfl, ⟨by decide, by decide, by decide⟩, C_marks h.2.2.2.1 (by decide), C_bools h.2.1 (by decide), C_rows h.2.2.1 (by decide) h.rows⟩
theorem Ed2.below {w1 wc wd : World} {K KF KS KM b : Nat} (h : Ed2 w1 wc K KF KS KM b) (hB : Below wc.heap.size wc wd) : Ed2 w1 wd K KF KS KM b := by
  obtain ⟨h1, h2, h3, h4, h5, h6, h7, h9⟩ := h
  exact ⟨blk5 h1 hB, blk5 h2 hB, blk5 h3 hB, blk5 h4 hB, h5.trans (hB.mono h5.size), h6, h7, fun j hj => blk5 (h9 j hj) hB⟩
theorem ms0_mem (m : S24) (h : m ∈ ms0) : m = m0 ∨ m = ⟨Zs 1000, 4697254411347427328⟩ := by
  unfold ms0 at h
  rcases List.mem_or_eq_of_mem_set h with h | h
  · exact .inl (List.eq_of_mem_replicate h)
  · exact .inr h
theorem s0_U64 : U64 s0 := fun m hm => by
  rcases ms0_mem m hm with rfl | rfl
  · decide
  · decide
theorem s0_right : rightS s0 = true := by
  rw [rightS_iff]
  refine ⟨by decide, by decide, by decide, by decide, by decide, fun m hm => ?_, fun l hl => ?_⟩
  · rcases ms0_mem m hm with rfl | rfl
    · decide
    · unfold markOk
      rw [decide_eq_true (show (Zs 1000).size ≤ 1000 by rw [Zs_size]; omega)]
      decide
  · have := List.eq_of_mem_replicate hl
    subst this
    decide
theorem s0_sized : Sized s0 := ⟨by decide, by decide, by decide, fun l hl => by have := List.eq_of_mem_replicate hl; subst this; decide⟩
def Fin4 (w1 wc : World) (K : Nat) : Prop := ∃ (x0 x1 x2 x3 : Value) (s : Ses), wc.heap[K]? = some (.cells #[x0, x1, x2, x3] 29 (0, 0)) ∧ SesV wc (.agg #[x0, x1, x2, x3]) s ∧ U64 s ∧ rightS s = false ∧ Below w1.heap.size w1 wc
theorem notR {s : Ses} (h : ¬ (s.1.length ≤ 12 ∧ 0 ≤ s.2.1 ∧ s.2.1 < (s.1.length : Int) ∧ s.2.2.1.length ≤ 8 ∧ s.2.2.2.length ≤ 16 ∧ (∀ m ∈ s.1, markOk m = true) ∧ ∀ l ∈ s.2.2.2, rowOk l = true)) : rightS s = false := by
  cases e : rightS s with
  | false => rfl
  | true => exact absurd ((rightS_iff s).1 e) h
theorem set_at {w : World} {g : Nat} {L : List Value} {T : Nat} (h : w.heap[g]? = some (.cells L.toArray T (0, 0))) (j : Nat) (u : Value) : (w.setCell ⟨g, j, none⟩ u).heap[g]? = some (.cells (L.set j u).toArray T (0, 0)) := by
  simp only [World.setCell, Array.getElem?_modify, if_pos rfl, h]
  simp
theorem Ed2.far {w1 wc : World} {K KF KS KM b : Nat} (h : Ed2 w1 wc K KF KS KM b) : K ≠ KF ∧ K ≠ KS ∧ K ≠ KM ∧ KF ≠ KS ∧ KF ≠ KM ∧ KS ≠ KM := by
  obtain ⟨h1, h2, h3, h4, _⟩ := h
  exact ⟨ne_ty h1 h2 (by decide), ne_ty h1 h3 (by decide), ne_ty h1 h4 (by decide), ne_ty h2 h3 (by decide), ne_ty h2 h4 (by decide), ne_ty h3 h4 (by decide)⟩
theorem fin_of {w1 wc : World} {K gM gF gS : Nat} (ms : List S24) (a : Int) (fl : List Bool) (vs : List Value) (rows : List (List Int)) (nM nF nS : Nat) (hk : wc.heap[K]? = some (.cells #[.slice (some ⟨gM, 0, none⟩) nM nM, .int .i64 a, .slice (some ⟨gF, 0, none⟩) nF nF, .slice (some ⟨gS, 0, none⟩) nS nS] 29 (0, 0)))
    (eM : ms.length = nM) (eF : fl.length = nF) (eS : rows.length = nS) (b1 : nM ≤ 1000000) (b2 : nF ≤ 1000000) (b3 : nS ≤ 1000000)
    (hM : wc.heap[gM]? = some (.cells (mcells ms).toArray 24 (0, 0))) (hF : wc.heap[gF]? = some (.cells (fl.map Value.bool).toArray 4 (0, 0))) (hS : wc.heap[gS]? = some (.cells vs.toArray 45 (0, 0)))
    (hr : ∀ (j : Nat) (r : List Int), rows[j]? = some r → ∃ (A : Option Addr) (c : Nat), vs[j]? = some (Value.slice A r.length c) ∧ r.length ≤ c ∧ Kd.C (Kd.int .i64) wc A r.length r)
    (hU : ∀ m ∈ ms, 0 ≤ m.f1 ∧ m.f1 < 18446744073709551616) (hn : ¬ (0 ≤ a ∧ a < (nM : Int) ∧ nF ≤ 8 ∧ nS ≤ 16 ∧ (∀ m ∈ ms, markOk m = true) ∧ ∀ l ∈ rows, rowOk l = true)) (hB : Below w1.heap.size w1 wc) : Fin4 w1 wc K := by
  subst eM eF eS
  exact ⟨_, _, _, _, (ms, a, fl, rows), hk, ⟨some ⟨gM, 0, none⟩, ms.length, some ⟨gF, 0, none⟩, fl.length, some ⟨gS, 0, none⟩, rows.length, rfl, ⟨Nat.le_refl _, Nat.le_refl _, Nat.le_refl _⟩, C_marks hM b1, C_bools hF b2, C_rows hS b3 hr⟩, hU, notR fun h => hn h.2, hB⟩
theorem Fin4.drew {w1 wc : World} {K : Nat} (h : Fin4 w1 wc K) : Fin4 w1 wc.drew K := by
  obtain ⟨x0, x1, x2, x3, s, h1, h2, h3, h4, h5⟩ := h
  exact ⟨x0, x1, x2, x3, s, h1, h2.below (below_drew (Below.refl _ _)), h3, h4, below_drew h5⟩
theorem old_set {w : World} {g j : Nat} {u : Value} (k : Nat) (o : Obj) (hk : k ≠ g) (h : w.heap[k]? = some o) : (w.setCell ⟨g, j, none⟩ u).heap[k]? = some o := (Below.heap_setCell _ ⟨g, j, none⟩ _ k hk).trans h
theorem old_al {w : World} {o' : Obj} (k : Nat) (o : Obj) (h : w.heap[k]? = some o) : (w.alloc o').heap[k]? = some o := (heap_alloc_old w o' (blk_lt h)).trans h
theorem rows16 {wc : World} {b : Nat} (h9 : ∀ j, j < 16 → wc.heap[b + j]? = some (.cells (sixI.map (Value.int .i64)).toArray 3 (0, 0))) : ∀ (j : Nat) (r : List Int), (List.replicate 16 sixI)[j]? = some r → ∃ (A : Option Addr) (c : Nat), (rowsA b 16)[j]? = some (Value.slice A r.length c) ∧ r.length ≤ c ∧ Kd.C (Kd.int .i64) wc A r.length r := fun j r hj => by
  have hj16 : j < 16 := by have := (List.getElem?_eq_some_iff.1 hj).1; simpa using this
  have hr6 : r = sixI := List.eq_of_mem_replicate (List.mem_of_getElem? hj)
  subst hr6
  exact ⟨some ⟨b + j, 0, none⟩, 6, by simp [rowsA, hj16, sixI], Nat.le_refl _, C_ints (h9 j hj16) (by decide)⟩
theorem rowsA_at (b j : Nat) (hj : j < 16) : (rowsA b 16)[j]? = some (.slice (some ⟨b + j, 0, none⟩) 6 6) := by simp [rowsA, hj]
theorem made_l (z : Value) (n : Nat) : madeCells #[z] n = (List.replicate n z).toArray := by
  apply Array.ext'
  rw [toList_madeCells_one]
/-- The session with its place out of bounds. -/
theorem fin_at {w1 wc : World} {K KF KS KM b : Nat} (h : Ed2 w1 wc K KF KS KM b) (v : Int) (hv : v < 0 ∨ 12 ≤ v) : Fin4 w1 (wc.setCell ⟨K, 1, none⟩ (.int .i64 v)) K := by
  obtain ⟨n1, n2, n3, n4, n5, n6⟩ := h.far
  obtain ⟨h1, h2, h3, h4, h5, h6, h7, h9⟩ := h
  exact fin_of ms0 v (List.replicate 8 false) (rowsA b 16) (List.replicate 16 sixI) 12 8 16 (set_at (L := [_, _, _, _]) h1 1 _) rfl rfl rfl (by decide) (by decide) (by decide) (old_set _ _ n3.symm h4) (old_set _ _ n1.symm h2) (old_set _ _ n2.symm h3) (rows16 fun j hj => old_set _ _ (by omega) (h9 j hj)) s0_U64 (fun h => by omega) (h5.setCell h6.1 _)
/-- The flags replaced by more. -/
theorem fin_fl {w1 wc : World} {K KF KS KM b : Nat} (h : Ed2 w1 wc K KF KS KM b) (M : Nat) (hM : 9 ≤ M ∧ M ≤ 2000) : Fin4 w1 ((wc.alloc (.cells (madeCells #[.bool false] M) 4)).setCell ⟨K, 2, none⟩ (.slice (some ⟨wc.heap.size, 0, none⟩) M M)) K := by
  obtain ⟨n1, n2, n3, n4, n5, n6⟩ := h.far
  obtain ⟨h1, h2, h3, h4, h5, h6, h7, h9⟩ := h
  have hnew := heap_alloc_new wc (.cells (madeCells #[.bool false] M) 4)
  have hKlt := blk_lt h1
  rw [show madeCells #[Value.bool false] M = ((List.replicate M false).map Value.bool).toArray from by rw [made_l]; simp] at hnew ⊢
  exact fin_of ms0 11 (List.replicate M false) (rowsA b 16) (List.replicate 16 sixI) 12 M 16 (set_at (L := [_, _, _, _]) (old_al _ _ h1) 2 _) rfl (by simp) rfl (by decide) (by omega) (by decide) (old_set _ _ n3.symm (old_al _ _ h4)) (old_set _ _ (by omega) hnew) (old_set _ _ n2.symm (old_al _ _ h3)) (rows16 fun j hj => old_set _ _ (by omega) (old_al _ _ (h9 j hj))) s0_U64 (fun h => by omega) ((below_alloc h5 _).setCell h6.1 _)
/-- The states replaced by more. -/
theorem fin_st {w1 wc : World} {K KF KS KM b : Nat} (h : Ed2 w1 wc K KF KS KM b) (M : Nat) (hM : 17 ≤ M ∧ M ≤ 2000) : Fin4 w1 ((wc.alloc (.cells (madeCells #[.slice none 0 0] M) 45)).setCell ⟨K, 3, none⟩ (.slice (some ⟨wc.heap.size, 0, none⟩) M M)) K := by
  obtain ⟨n1, n2, n3, n4, n5, n6⟩ := h.far
  obtain ⟨h1, h2, h3, h4, h5, h6, h7, h9⟩ := h
  have hnew := heap_alloc_new wc (.cells (madeCells #[.slice none 0 0] M) 45)
  have hKlt := blk_lt h1
  rw [made_l] at hnew ⊢
  exact fin_of ms0 11 (List.replicate 8 false) (List.replicate M (.slice none 0 0)) (List.replicate M []) 12 8 M (set_at (L := [_, _, _, _]) (old_al _ _ h1) 3 _) rfl rfl (by simp) (by decide) (by decide) (by omega) (old_set _ _ n3.symm (old_al _ _ h4)) (old_set _ _ n1.symm (old_al _ _ h2)) (old_set _ _ (by omega) hnew) (fun j r hj => by
    have hjM : j < M := by have := (List.getElem?_eq_some_iff.1 hj).1; simpa using this
    have hr0 : r = [] := List.eq_of_mem_replicate (List.mem_of_getElem? hj)
    subst hr0
    exact ⟨none, 0, by simp [hjM], Nat.le_refl _, ⟨rfl, by simp, fun h => by simp at h⟩⟩) s0_U64 (fun h => by omega) ((below_alloc h5 _).setCell h6.1 _)
/-- One state's numbers replaced by more. -/
theorem fin_row {w1 wc : World} {K KF KS KM b : Nat} (h : Ed2 w1 wc K KF KS KM b) (M : Nat) (hM : 7 ≤ M ∧ M ≤ 2000) : Fin4 w1 ((wc.alloc (.cells (madeCells #[.int .i64 0] M) 3)).setCell ⟨KS, 2, none⟩ (.slice (some ⟨wc.heap.size, 0, none⟩) M M)) K := by
  obtain ⟨n1, n2, n3, n4, n5, n6⟩ := h.far
  obtain ⟨h1, h2, h3, h4, h5, h6, h7, h9⟩ := h
  have hnew := heap_alloc_new wc (.cells (madeCells #[.int .i64 0] M) 3)
  have hKlt := blk_lt h3
  have hblt := blk_lt (h9 15 (by omega))
  rw [show madeCells #[Value.int .i64 0] M = ((List.replicate M (0 : Int)).map (Value.int .i64)).toArray from by rw [made_l]; simp] at hnew ⊢
  refine fin_of ms0 11 (List.replicate 8 false) ((rowsA b 16).set 2 (.slice (some ⟨wc.heap.size, 0, none⟩) M M)) ((List.replicate 16 sixI).set 2 (List.replicate M 0)) 12 8 16 (old_set _ _ n2 (old_al _ _ h1)) rfl rfl rfl (by decide) (by decide) (by decide) (old_set _ _ n6.symm (old_al _ _ h4)) (old_set _ _ n4 (old_al _ _ h2)) (set_at (old_al _ _ h3) 2 _) (fun j r hj => ?_) s0_U64 (fun h => ?_) ((below_alloc h5 _).setCell h6.2.2.1 _)
  · by_cases e : j = 2
    · subst e
      rw [List.getElem?_set_self (by decide)] at hj
      cases hj
      have hl : (List.replicate M (0 : Int)).length = M := by simp
      refine ⟨some ⟨wc.heap.size, 0, none⟩, M, ?_, by omega, ?_⟩
      · rw [List.getElem?_set_self (by rw [rowsA_len b 16 (by omega)]; omega), hl]
      · exact C_ints (old_set _ _ (by omega) hnew) (by omega)
    · rw [List.getElem?_set_ne (by omega)] at hj ⊢
      exact rows16 (fun j hj => old_set _ _ (by omega) (old_al _ _ (h9 j hj))) j r hj
  · have := h.2.2.2.2.2 (List.replicate M 0) (List.mem_of_getElem? (i := 2) (by rw [List.getElem?_set_self (by decide)]))
    rw [rowOk_iff] at this
    have h2 := this.2
    rw [List.length_replicate] at h2
    omega
/-- One number beyond the bounds. -/
theorem fin_num {w1 wc : World} {K KF KS KM b : Nat} (h : Ed2 w1 wc K KF KS KM b) (v : Int) (hv : 1000 < v ∨ v < -1000) : Fin4 w1 (wc.setCell ⟨b + 1, 0, none⟩ (.int .i64 v)) K := by
  obtain ⟨n1, n2, n3, n4, n5, n6⟩ := h.far
  obtain ⟨h1, h2, h3, h4, h5, h6, h7, h9⟩ := h
  have hx : (wc.setCell ⟨b + 1, 0, none⟩ (.int .i64 v)).heap[b + 1]? = some (.cells (([v, -1000, 0, 1, -1, 5] : List Int).map (Value.int .i64)).toArray 3 (0, 0)) := set_at (L := sixI.map (Value.int .i64)) (h9 1 (by omega)) 0 _
  refine fin_of ms0 11 (List.replicate 8 false) (rowsA b 16) ((List.replicate 16 sixI).set 1 [v, -1000, 0, 1, -1, 5]) 12 8 16 (old_set _ _ (by omega) h1) rfl rfl rfl (by decide) (by decide) (by decide) (old_set _ _ (by omega) h4) (old_set _ _ (by omega) h2) (old_set _ _ (by omega) h3) (fun j r hj => ?_) s0_U64 (fun h => ?_) (h5.setCell (by show w1.heap.size ≤ b + 1; omega) _)
  · have hj16 : j < 16 := by have := (List.getElem?_eq_some_iff.1 hj).1; simpa using this
    by_cases e : j = 1
    · subst e
      rw [List.getElem?_set_self (by decide)] at hj
      cases hj
      exact ⟨some ⟨b + 1, 0, none⟩, 6, rowsA_at b 1 (by omega), Nat.le_refl _, C_ints hx (by show 6 ≤ 1000000; omega)⟩
    · rw [List.getElem?_set_ne (by omega)] at hj
      have hr6 : r = sixI := List.eq_of_mem_replicate (List.mem_of_getElem? hj)
      subst hr6
      exact ⟨some ⟨b + j, 0, none⟩, 6, rowsA_at b j hj16, Nat.le_refl _, C_ints (old_set _ _ (by omega) (h9 j hj16)) (by decide)⟩
  · have := h.2.2.2.2.2 [v, -1000, 0, 1, -1, 5] (List.mem_of_getElem? (i := 1) (by rw [List.getElem?_set_self (by decide)]))
    rw [rowOk_iff] at this
    have h2 := this.1 v (by simp)
    unfold numOk at h2
    simp at h2
    omega
theorem mcells_ms0 (p : S24) : ((mcells ms0).set 0 (.string p.f0)).set 1 (.int .u64 p.f1) = mcells (ms0.set 0 p) := mcells_set ms0 0 p
/-- The first mark's scroll not clean. -/
theorem fin_sc {w1 wc : World} {K KF KS KM b : Nat} (h : Ed2 w1 wc K KF KS KM b) (v : Int) (hv : 0 ≤ v ∧ v < 18446744073709551616) (hc : Fl.cl v.toNat ≠ v.toNat) : Fin4 w1 (wc.setCell ⟨KM, 1, none⟩ (.int .u64 v)) K := by
  obtain ⟨n1, n2, n3, n4, n5, n6⟩ := h.far
  obtain ⟨h1, h2, h3, h4, h5, h6, h7, h9⟩ := h
  have hx : (wc.setCell ⟨KM, 1, none⟩ (.int .u64 v)).heap[KM]? = some (.cells (mcells (ms0.set 0 ⟨⟨#[]⟩, v⟩)).toArray 24 (0, 0)) := set_at h4 1 _
  refine fin_of (ms0.set 0 ⟨⟨#[]⟩, v⟩) 11 (List.replicate 8 false) (rowsA b 16) (List.replicate 16 sixI) 12 8 16 (old_set _ _ n3 h1) rfl rfl rfl (by decide) (by decide) (by decide) hx (old_set _ _ n5 h2) (old_set _ _ n6 h3) (rows16 fun j hj => old_set _ _ (by omega) (h9 j hj)) (fun m hm => ?_) (fun h => ?_) (h5.setCell h6.2.2.2 _)
  · rcases List.mem_or_eq_of_mem_set hm with hm | rfl
    · exact s0_U64 m hm
    · exact hv
  · have := h.2.2.2.2.1 ⟨⟨#[]⟩, v⟩ (List.mem_of_getElem? (i := 0) (by rw [List.getElem?_set_self (by decide)]))
    unfold markOk at this
    simp at this
    exact hc this.2
/-- The first mark's url too long. -/
theorem fin_url {w1 wc : World} {K KF KS KM b : Nat} (h : Ed2 w1 wc K KF KS KM b) (o : Obj) (M : Nat) (hM : 1001 ≤ M ∧ M ≤ 3000) : Fin4 w1 ((wc.alloc o).setCell ⟨KM, 0, none⟩ (.string (Zs M))) K := by
  obtain ⟨n1, n2, n3, n4, n5, n6⟩ := h.far
  obtain ⟨h1, h2, h3, h4, h5, h6, h7, h9⟩ := h
  have hx : ((wc.alloc o).setCell ⟨KM, 0, none⟩ (.string (Zs M))).heap[KM]? = some (.cells (mcells (ms0.set 0 ⟨Zs M, 0⟩)).toArray 24 (0, 0)) := set_at (old_al _ _ h4) 0 _
  refine fin_of (ms0.set 0 ⟨Zs M, 0⟩) 11 (List.replicate 8 false) (rowsA b 16) (List.replicate 16 sixI) 12 8 16 (old_set _ _ n3 (old_al _ _ h1)) rfl rfl rfl (by decide) (by decide) (by decide) hx (old_set _ _ n5 (old_al _ _ h2)) (old_set _ _ n6 (old_al _ _ h3)) (rows16 fun j hj => old_set _ _ (by omega) (old_al _ _ (h9 j hj))) (fun m hm => ?_) (fun h => ?_) ((below_alloc h5 _).setCell h6.2.2.2 _)
  · rcases List.mem_or_eq_of_mem_set hm with hm | rfl
    · exact s0_U64 m hm
    · exact ⟨by show (0 : Int) ≤ 0; omega, by show (0 : Int) < 18446744073709551616; omega⟩
  · have := h.2.2.2.2.1 ⟨Zs M, 0⟩ (List.mem_of_getElem? (i := 0) (by rw [List.getElem?_set_self (by decide)]))
    unfold markOk at this
    simp [Zs_size] at this
    omega
attribute [local go_sem] max2_int min2_int max_two min_two
set_option maxHeartbeats 4000000 in
set_option maxRecDepth 1000000 in
theorem CodeEdges_any (what by_ : Int) (w : World) : Calls Try.prog 6 #[.int .i64 what, .int .i64 by_] w fun e w' => e = .returned (.bool true) ∧ Below w.heap.size w w' := by
  go_enter Try.func6, Try.ntmps6
  go_wp2_with fail
  obtain ⟨r, hr1, hr2, hr3⟩ := within by_ 0 999 (by omega) (by omega) (by omega)
  refine (porticobook_Within.calls _ _ _ _ _ hr1).mono ?_
  rintro e n1 ⟨rfl, q, rfl⟩
  clear hr1
  obtain ⟨ρ, rfl⟩ : ∃ ρ : Nat, r = (ρ : Int) := ⟨r.toNat, by omega⟩
  have H0 := Lib.hid (pw_below_drewN (Below.refl w.heap.size w) q)
  generalize w.drewN q = w1 at H0 ⊢
  go_upto_region 3 with fail
  have mkF : ∀ W : World, (Instr.makeSlice 26 (.int .i64 8) (.int .i64 8)).run Try.prog W = .ok (.slice (some ⟨W.heap.size, 0, none⟩) 8 8) (W.alloc (.cells (madeCells (Value.bool false).cells 8) 4)) := fun W => mk_any 26 4 _ _ _ Try.underlying26 infoF (by decide) 8 (by decide) (by decide) W
  have mkL : ∀ W : World, (Instr.makeSlice 27 (.int .i64 16) (.int .i64 16)).run Try.prog W = .ok (.slice (some ⟨W.heap.size, 0, none⟩) 16 16) (W.alloc (.cells (madeCells (Value.slice none 0 0).cells 16) 45)) := fun W => mk_any 27 45 _ _ _ Try.underlying27 infoL (by decide) 16 (by decide) (by decide) W
  have mkM : ∀ W : World, (Instr.makeSlice 25 (.int .i64 12) (.int .i64 12)).run Try.prog W = .ok (.slice (some ⟨W.heap.size, 0, none⟩) 12 12) (W.alloc (.cells (madeCells (Value.agg #[.string ⟨#[]⟩, .int .u64 0]).cells 24) 24)) := fun W => mk_any 25 24 _ _ _ Try.underlying25 infoM (by decide) 12 (by decide) (by decide) W
  go_cut [7] (fun t7 wc => ∃ K : Nat, t7 = .pointer (some ⟨K, 0, none⟩) ∧ Hid (∃ KF KS KM, Ed0 w1 wc K KF KS KM))
  case first =>
    go_region_with (fail)
    all_goals
      go_wp2_with fail
      go_meet
      apply ed_of
      all_goals (first | exact g0 _ _ _ _ _ | exact g1 _ _ _ _ _ | exact g2 _ _ _ _ _ | exact g3 _ _ _ _ _ | exact gB _ _ _ _ _ | omega)
  case rest =>
  obtain ⟨K, rfl, H1⟩ := hcut
  obtain ⟨KF, KS, KM, H1⟩ := H1.out
  obtain ⟨S0, S1, S2, S3⟩ := cells4 H1.1
  obtain ⟨b0, hb0⟩ : ∃ b, wc.heap.size = b := ⟨_, rfl⟩
  have H1 := Ed1.start H1
  rw [hb0] at H1
  have H2 := Lib.hid H1
  clear H1 hb0 mkF mkL mkM
  go_wp2_with fail
  clear S0 S1 S2 S3
  go_loopw [21] (fun t21 wr => ∃ i : Nat, t21 = .int .i64 (i : Int) ∧ i ≤ 16 ∧ Hid (Ed1 w1 wr K KF KS KM b0 i)) (fun t _ => match t with | .int _ i => (16 - i).toNat | _ => 0)
  case atStart => exact ⟨0, rfl, by omega, H2⟩
  case round =>
    obtain ⟨i, rfl, hi, HI⟩ := hrel
    clear H2
    by_cases c1 : i < 16
    · have q2 : (i : Int) < 16 := by omega
      have q3 : (0 : Int) ≤ (i : Int) := by omega
      have HN := Lib.hid (Ed1.next HI.out c1)
      have hsz : Hid (K < wr.heap.size ∧ KS < wr.heap.size) := Lib.hid ⟨blk_lt HI.out.1, blk_lt HI.out.2.2.1⟩
      obtain ⟨S0, S1, S2, S3⟩ := cells4 HI.out.1
      have y0 : wr.cell? ⟨KS, i, none⟩ = some ((rowsA b0 i)[i]'(by rw [rowsA_len b0 i hi]; exact c1)) := by simp [World.cell?, HI.out.2.2.1, rowsA_len b0 i hi, c1]
      have z0 : wr.frozen? ⟨KS, i, none⟩ = false := blk_frozen HI.out.2.2.1 i
      have y1 := (World.cell?_alloc_lt wr (.cells six.toArray 3) ⟨KS, i, none⟩ hsz.out.2).trans y0
      have z1 : (wr.alloc (.cells six.toArray 3)).frozen? ⟨KS, i, none⟩ = false := blk_frozen ((heap_alloc_old wr _ hsz.out.2).trans HI.out.2.2.1) i
      clear HI
      go_wp2_with fail
      go_roundw
      case rel => exact ⟨i + 1, by go_num, by omega, HN⟩
      case measure => simp; omega
    · obtain rfl : i = 16 := by omega
      go_wp2_with fail
      have mkB : ∀ W : World, (Instr.makeSlice 30 (.int .i64 1000) (.int .i64 1000)).run Try.prog W = .ok (.slice (some ⟨W.heap.size, 0, none⟩) 1000 1000) (W.alloc (.cells (madeCells (Value.int .u8 0).cells 1000) 5)) := fun W => mk_any 30 5 _ _ _ Try.underlying30 info8 (by decide) 1000 (by decide) (by decide) W
      obtain ⟨S0, S1, S2, S3⟩ := cells4 HI.out.1
      have A0 : ∀ k o, wr.heap[k]? = some o → (wr.alloc (.cells (madeCells #[Value.int .u8 0] 1000) 5)).heap[k]? = some o := fun k o ho => (heap_alloc_old wr _ (blk_lt ho)).trans ho
      obtain ⟨T0, T1, T2, T3⟩ := cells4 (A0 _ _ HI.out.1)
      have hKM := HI.out.2.2.2.1
      have hKM2 := A0 _ _ hKM
      have y6 : (wr.alloc (.cells (madeCells #[Value.int .u8 0] 1000) 5)).cell? ⟨KM, 6, none⟩ = some (.string ⟨#[]⟩) := (blk_cell hKM2 6).trans (by kernel_rfl)
      have y7 : (wr.alloc (.cells (madeCells #[Value.int .u8 0] 1000) 5)).cell? ⟨KM, 7, none⟩ = some (.int .u64 0) := (blk_cell hKM2 7).trans (by kernel_rfl)
      have z6 : (wr.alloc (.cells (madeCells #[Value.int .u8 0] 1000) 5)).frozen? ⟨KM, 6, none⟩ = false := blk_frozen hKM2 6
      have z7 : (wr.alloc (.cells (madeCells #[Value.int .u8 0] 1000) 5)).frozen? ⟨KM, 7, none⟩ = false := blk_frozen hKM2 7
      have hcv : (convert 30 9 (.slice (some ⟨wr.heap.size, 0, none⟩) 1000 1000)).run Try.prog (wr.alloc (.cells (madeCells #[Value.int .u8 0] 1000) 5)).drew = .ok (.string (Zs 1000)) (wr.alloc (.cells (madeCells #[Value.int .u8 0] 1000) 5)).drew := by
        have hb : Blk (wr.alloc (.cells (madeCells #[Value.int .u8 0] 1000) 5)).drew wr.heap.size (List.replicate 1000 0) := by
          have e : (madeCells #[Value.int .u8 0] 1000) = (bv (List.replicate 1000 0)).toArray := by
            apply Array.ext'
            rw [toList_madeCells_one]
            simp
          unfold Blk
          rw [← e]
          exact heap_alloc_new wr _
        have hc := C_blk hb (m := 1000) (by simp) (by simp)
        have := Kd.C_string (P := Try.prog) (src := 30) (dst := 9) (c := 1000) Try.underlying30 Try.underlying5 Try.underlying9 hc
        rw [List.take_of_length_le (by simp)] at this
        exact this
      clear hKM hKM2 A0
      go_cut [] (fun wc => Hid (wc = (((wr.alloc (.cells (madeCells #[Value.int .u8 0] 1000) 5)).setCell ⟨KM, 6, none⟩ (.string (Zs 1000))).setCell ⟨KM, 7, none⟩ (.int .u64 4697254411347427328)).drew))
      case first =>
        go_region_with (fail)
        all_goals (go_wp2_with fail; go_meet; exact Lib.hid rfl)
      case rest =>
      have H3 := Lib.hid (Ed1.done HI.out)
      rw [← hcut.out] at H3
      clear hcut HI S0 S1 S2 S3 T0 T1 T2 T3 y6 y7 z6 z7 hcv mkB
      obtain ⟨S0, S1, S2, S3⟩ := cells4 H3.out.1
      go_wp2_with fail
      refine (Enc_any s0 _ _ H3.out.ses s0_U64).mono ?_
      rintro e n1 ⟨X0, x0, rfl, hx, hX, hB1⟩
      obtain ⟨X, hXe⟩ : ∃ X, encB s0 = X := ⟨_, rfl⟩
      rw [hXe] at hx hX ⊢
      obtain ⟨S, hSe⟩ : ∃ S, s0 = S := ⟨_, rfl⟩
      have hd : decP X = (S, 0) := by rw [← hXe, ← hSe]; exact back s0 s0_right s0_U64
      have H4 := Lib.hid (And.intro (H3.out.below hB1) (And.intro hx hX))
      replace hSe := Lib.hid hSe
      clear hx hX hXe H3 S0 S1 S2 S3 hB1
      go_wp2_with fail
      refine (Dec_any X0 X.length x0 X n1 H4.out.2.2 H4.out.2.1 (S, 0) hd).mono ?_
      clear hd
      rintro e n2 ⟨E0, e0, E2, e2, E3, e3, rfl, hZ, hB2⟩
      obtain ⟨S0, S1, S2, S3⟩ := cells4 (H4.out.1.below hB2).1
      have hAA := heap_alloc_new n2 (.cells #[.slice E0 S.1.length e0, .int .i64 S.2.1, .slice E2 S.2.2.1.length e2, .slice E3 S.2.2.2.length e3] 29)
      have H5 : Hid (Ed2 w1 (n2.alloc (.cells #[.slice E0 S.1.length e0, .int .i64 S.2.1, .slice E2 S.2.2.1.length e2, .slice E3 S.2.2.2.length e3] 29)) K KF KS KM b0 ∧ (n2.alloc (.cells #[.slice E0 S.1.length e0, .int .i64 S.2.1, .slice E2 S.2.2.1.length e2, .slice E3 S.2.2.2.length e3] 29)).heap[n2.heap.size]? = _ ∧ SesV (n2.alloc (.cells #[.slice E0 S.1.length e0, .int .i64 S.2.1, .slice E2 S.2.2.1.length e2, .slice E3 S.2.2.2.length e3] 29)) _ S) := Lib.hid ⟨(H4.out.1.below hB2).below ((Below.refl _ _).alloc (Nat.le_refl _) _), hAA, hZ.below ((Below.refl _ _).alloc (Nat.le_refl _) _)⟩
      clear hAA hZ hB2 H4
      go_upto_region 11 with fail
      clear S0 S1 S2 S3
      generalize (n2.alloc (.cells #[.slice E0 S.1.length e0, .int .i64 S.2.1, .slice E2 S.2.2.1.length e2, .slice E3 S.2.2.2.length e3] 29)) = n3 at H5 ⊢
      generalize n2.heap.size = K9 at H5 ⊢
      obtain ⟨S0, S1, S2, S3⟩ := cells4 H5.out.1.1
      go_wp2_with fail
      refine (Right_any s0 _ n3 H5.out.1.ses s0_U64).mono ?_
      rintro e n4 ⟨hq, hB4⟩
      rw [s0_right] at hq
      subst hq
      have H6 := Lib.hid (show Ed2 w1 n4 K KF KS KM b0 ∧ n4.heap[K9]? = _ ∧ SesV n4 _ S from ⟨H5.out.1.below hB4, blk5 H5.out.2.1 hB4, H5.out.2.2.below hB4⟩)
      clear H5 hB4 S0 S1 S2 S3
      obtain ⟨S0, S1, S2, S3⟩ := cells4 H6.out.1.1
      obtain ⟨T0, T1, T2, T3⟩ := cells4 H6.out.2.1
      go_wp2_with fail
      refine (Sess_any S s0 _ _ n4 H6.out.2.2 H6.out.1.ses (by rw [← hSe.out]; exact s0_sized)).mono ?_
      rintro e n5 ⟨b, rfl, hb, hB5⟩
      obtain rfl := hb.2 hSe.out.symm
      have H7 := Lib.hid (H6.out.1.below hB5)
      clear H6 hb hB5 S0 S1 S2 S3 T0 T1 T2 T3
      go_wp2_with fail
      obtain ⟨c, hc1, hc2, hc3⟩ := within what 0 9 (by omega) (by omega) (by omega)
      refine (porticobook_Within.calls _ _ _ _ _ hc1).mono ?_
      rintro e n6 ⟨rfl, q, rfl⟩
      have H8 := Lib.hid (H7.out.below (pw_below_drewN (Below.refl n5.heap.size n5) q))
      clear H7 hc1
      generalize n5.drewN q = n6 at H8 ⊢
      go_upto_block 2 with fail
      go_cut [] (fun wc => Hid (Fin4 w1 wc K))
      case first =>
        obtain ⟨S0, S1, S2, S3⟩ := cells4 H8.out.1
        obtain ⟨Z0, Z1, Z2, Z3⟩ := cells_4 H8.out.1
        have hcc : c = 0 ∨ c = 1 ∨ c = 2 ∨ c = 3 ∨ c = 4 ∨ c = 5 ∨ c = 6 ∨ c = 7 ∨ c = 8 ∨ c = 9 := by omega
        clear hc2 hc3
        rcases hcc with rfl | rfl | rfl | rfl | rfl | rfl | rfl | rfl | rfl | rfl
        · go_wp2_with fail
          go_meet
          exact Lib.hid (fin_at H8.out _ (by omega))
        · go_wp2_with fail
          go_meet
          exact Lib.hid (fin_at H8.out _ (by omega))
        · skip
          obtain ⟨M, hM⟩ : ∃ M : Nat, (8 + (1 + (ρ : Int))).toNat = M := ⟨_, rfl⟩
          have hM2 : 9 ≤ M ∧ M ≤ 2000 := by omega
          have mk2 : ∀ W : World, (Instr.makeSlice 26 (.int .i64 (8 + (1 + (ρ : Int)))) (.int .i64 (8 + (1 + (ρ : Int))))).run Try.prog W = .ok (.slice (some ⟨W.heap.size, 0, none⟩) M M) (W.alloc (.cells (madeCells (Value.bool false).cells M) 4)) := fun W => by
            have := mk_any 26 4 _ _ _ Try.underlying26 infoF (by decide) (8 + (1 + (ρ : Int))) (by omega) (by omega) W
            rw [hM, Nat.mul_one] at this
            exact this
          have T2 := (World.cell?_alloc_lt n6 (.cells (madeCells #[.bool false] M) 4) ⟨K, 2, none⟩ (blk_lt H8.out.1)).trans S2
          have Y2 : (n6.alloc (.cells (madeCells #[.bool false] M) 4)).frozen? ⟨K, 2, none⟩ = false := blk_frozen (old_al _ _ H8.out.1) 2
          go_wp2_with fail
          go_meet
          exact Lib.hid (fin_fl H8.out M hM2)
        · skip
          obtain ⟨M, hM⟩ : ∃ M : Nat, (16 + (1 + (ρ : Int))).toNat = M := ⟨_, rfl⟩
          have hM2 : 17 ≤ M ∧ M ≤ 2000 := by omega
          have mk3 : ∀ W : World, (Instr.makeSlice 27 (.int .i64 (16 + (1 + (ρ : Int)))) (.int .i64 (16 + (1 + (ρ : Int))))).run Try.prog W = .ok (.slice (some ⟨W.heap.size, 0, none⟩) M M) (W.alloc (.cells (madeCells (Value.slice none 0 0).cells M) 45)) := fun W => by
            have := mk_any 27 45 _ _ _ Try.underlying27 infoL (by decide) (16 + (1 + (ρ : Int))) (by omega) (by omega) W
            rw [hM, Nat.mul_one] at this
            exact this
          have T3 := (World.cell?_alloc_lt n6 (.cells (madeCells #[.slice none 0 0] M) 45) ⟨K, 3, none⟩ (blk_lt H8.out.1)).trans S3
          have Y3 : (n6.alloc (.cells (madeCells #[.slice none 0 0] M) 45)).frozen? ⟨K, 3, none⟩ = false := blk_frozen (old_al _ _ H8.out.1) 3
          go_wp2_with fail
          go_meet
          exact Lib.hid (fin_st H8.out M hM2)
        · skip
          obtain ⟨M, hM⟩ : ∃ M : Nat, (6 + (1 + (ρ : Int))).toNat = M := ⟨_, rfl⟩
          have hM2 : 7 ≤ M ∧ M ≤ 2000 := by omega
          have mk4 : ∀ W : World, (Instr.makeSlice 45 (.int .i64 (6 + (1 + (ρ : Int)))) (.int .i64 (6 + (1 + (ρ : Int))))).run Try.prog W = .ok (.slice (some ⟨W.heap.size, 0, none⟩) M M) (W.alloc (.cells (madeCells (Value.int .i64 0).cells M) 3)) := fun W => by
            have := mk_any 45 3 _ _ _ Try.underlying45 infoI (by decide) (6 + (1 + (ρ : Int))) (by omega) (by omega) W
            rw [hM, Nat.mul_one] at this
            exact this
          have R2 : (n6.alloc (.cells (madeCells #[.int .i64 0] M) 3)).cell? ⟨KS, 2, none⟩ = some (.slice (some ⟨b0 + 2, 0, none⟩) 6 6) := (blk_cell (old_al _ _ H8.out.2.2.1) 2).trans rfl
          have Y2 : (n6.alloc (.cells (madeCells #[.int .i64 0] M) 3)).frozen? ⟨KS, 2, none⟩ = false := blk_frozen (old_al _ _ H8.out.2.2.1) 2
          have T3 := (World.cell?_alloc_lt n6 (.cells (madeCells #[.int .i64 0] M) 3) ⟨K, 3, none⟩ (blk_lt H8.out.1)).trans S3
          have hw : IntKind.i64.wrap (6 + (1 + (ρ : Int))) = 6 + (1 + (ρ : Int)) := by rw [IntKind.wrap_i64]; omega
          go_upto_region 24 with fail
          go_region_with (fail)
          all_goals (go_wp2_with fail; go_meet; exact Lib.hid (fin_row H8.out M hM2).drew)
        · have R1 : n6.cell? ⟨KS, 1, none⟩ = some (.slice (some ⟨b0 + 1, 0, none⟩) 6 6) := (blk_cell H8.out.2.2.1 1).trans rfl
          have R0 : n6.cell? ⟨b0 + 1, 0, none⟩ = some (.int .i64 1000) := (blk_cell (H8.out.2.2.2.2.2.2.2 1 (by omega)) 0).trans rfl
          have Y0 : n6.frozen? ⟨b0 + 1, 0, none⟩ = false := blk_frozen (H8.out.2.2.2.2.2.2.2 1 (by omega)) 0
          go_wp2_with fail
          go_meet
          exact Lib.hid (fin_num H8.out _ (by omega))
        · have R1 : n6.cell? ⟨KS, 1, none⟩ = some (.slice (some ⟨b0 + 1, 0, none⟩) 6 6) := (blk_cell H8.out.2.2.1 1).trans rfl
          have R0 : n6.cell? ⟨b0 + 1, 0, none⟩ = some (.int .i64 1000) := (blk_cell (H8.out.2.2.2.2.2.2.2 1 (by omega)) 0).trans rfl
          have Y0 : n6.frozen? ⟨b0 + 1, 0, none⟩ = false := blk_frozen (H8.out.2.2.2.2.2.2.2 1 (by omega)) 0
          go_wp2_with fail
          go_meet
          exact Lib.hid (fin_num H8.out _ (by omega))
        · have R1 : n6.cell? ⟨KM, 1, none⟩ = some (.int .u64 0) := (blk_cell H8.out.2.2.2.1 1).trans rfl
          have Y1 : n6.frozen? ⟨KM, 1, none⟩ = false := blk_frozen H8.out.2.2.2.1 1
          go_wp2_with fail
          go_meet
          exact Lib.hid (fin_sc H8.out _ (by omega) (by unfold Fl.cl Fl.inf Fl.top; (repeat' split) <;> omega))
        · have R1 : n6.cell? ⟨KM, 1, none⟩ = some (.int .u64 0) := (blk_cell H8.out.2.2.2.1 1).trans rfl
          have Y1 : n6.frozen? ⟨KM, 1, none⟩ = false := blk_frozen H8.out.2.2.2.1 1
          go_wp2_with fail
          go_meet
          exact Lib.hid (fin_sc H8.out _ (by omega) (by decide))
        · skip
          obtain ⟨M, hM⟩ : ∃ M : Nat, (1000 + (1 + (ρ : Int))).toNat = M := ⟨_, rfl⟩
          have hM2 : 1001 ≤ M ∧ M ≤ 3000 := by omega
          have mk9 : ∀ W : World, (Instr.makeSlice 30 (.int .i64 (1000 + (1 + (ρ : Int)))) (.int .i64 (1000 + (1 + (ρ : Int))))).run Try.prog W = .ok (.slice (some ⟨W.heap.size, 0, none⟩) M M) (W.alloc (.cells (madeCells (Value.int .u8 0).cells M) 5)) := fun W => by
            have := mk_any 30 5 _ _ _ Try.underlying30 info8 (by decide) (1000 + (1 + (ρ : Int))) (by omega) (by omega) W
            rw [hM, Nat.mul_one] at this
            exact this
          have R0 : (n6.alloc (.cells (madeCells #[.int .u8 0] M) 5)).cell? ⟨KM, 0, none⟩ = some (.string ⟨#[]⟩) := (blk_cell (old_al _ _ H8.out.2.2.2.1) 0).trans rfl
          have Y0 : (n6.alloc (.cells (madeCells #[.int .u8 0] M) 5)).frozen? ⟨KM, 0, none⟩ = false := blk_frozen (old_al _ _ H8.out.2.2.2.1) 0
          have T0 := (World.cell?_alloc_lt n6 (.cells (madeCells #[.int .u8 0] M) 5) ⟨K, 0, none⟩ (blk_lt H8.out.1)).trans S0
          have hcv : (convert 30 9 (.slice (some ⟨n6.heap.size, 0, none⟩) M M)).run Try.prog (n6.alloc (.cells (madeCells #[Value.int .u8 0] M) 5)).drew = .ok (.string (Zs M)) (n6.alloc (.cells (madeCells #[Value.int .u8 0] M) 5)).drew := by
            have hb : Blk (n6.alloc (.cells (madeCells #[Value.int .u8 0] M) 5)).drew n6.heap.size (List.replicate M 0) := by
              have e : (madeCells #[Value.int .u8 0] M) = (bv (List.replicate M 0)).toArray := by
                rw [made_l]; simp
              unfold Blk
              rw [← e]
              exact heap_alloc_new n6 _
            have hc := C_blk hb (m := M) (by simp) (by simp; omega)
            have := Kd.C_string (P := Try.prog) (src := 30) (dst := 9) (c := M) Try.underlying30 Try.underlying5 Try.underlying9 hc
            rw [List.take_of_length_le (by simp)] at this
            exact this
          have hw : IntKind.i64.wrap (1000 + (1 + (ρ : Int))) = 1000 + (1 + (ρ : Int)) := by rw [IntKind.wrap_i64]; omega
          go_upto_region 14 with fail
          go_region_with (fail)
          all_goals (go_wp2_with fail; go_meet; exact Lib.hid (fin_url H8.out _ M hM2).drew)
      case rest =>
      obtain ⟨x0, x1, x2, x3, s, h1, h2, h3, h4, h5⟩ := hcut.out
      have H9 := Lib.hid (And.intro h1 (And.intro h2 (And.intro h3 (And.intro h4 h5))))
      clear h1 h2 h3 h4 h5 H8
      obtain ⟨S0, S1, S2, S3⟩ := cells4 H9.out.1
      go_wp2_with fail
      refine (Right_any s _ _ H9.out.2.1 H9.out.2.2.1).mono ?_
      rintro e n7 ⟨hq, hB7⟩
      rw [H9.out.2.2.2.1] at hq
      subst hq
      have H10 := Lib.hid (And.intro (blk5 H9.out.1 hB7) (And.intro (H9.out.2.1.below hB7) (H9.out.2.2.2.2.trans (hB7.mono H9.out.2.2.2.2.size))))
      clear hB7 S0 S1 S2 S3
      obtain ⟨S0, S1, S2, S3⟩ := cells4 H10.out.1
      go_wp2_with fail
      refine (Enc_any s _ _ H10.out.2.1 H9.out.2.2.1).mono ?_
      rintro e n8 ⟨Y0, y0, rfl, hy, hY, hB8⟩
      rw [none_nil s (by rw [H9.out.2.2.2.1]; decide)]
      have H11 := Lib.hid (H10.out.2.2.trans (hB8.mono H10.out.2.2.size))
      clear hB8 hy hY S0 S1 S2 S3 H10
      go_wp2_with fail
      refine (CodeRuns_any _).mono ?_
      rintro e n9 ⟨rfl, hB9⟩
      have H12 := Lib.hid (H11.out.trans (hB9.mono H11.out.size))
      clear hB9 H11
      go_wp2_with fail
      go_ret
      exact ⟨rfl, H0.out.trans (H12.out.mono H0.out.size)⟩
end Go.Proofs.Ytgbhejkgnfkfgaa.Cd
