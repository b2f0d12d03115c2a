/- Rows that may begin within their block (s[k:] has been cut): what they hold; cuts; append. -/
import Derived.Test.YtcaaggfobdfgpaaDoorProg
import Derived.Maps.AppendAt
import Derived.Laws.CopyRow
import Derived.Laws.OwnMore
import Derived.Below
import Derived.WalkKit
set_option linter.unusedVariables false
set_option linter.unusedSimpArgs false
namespace Go.Proofs.YtcaaggfobdfgpaaDoor.Sl
open Go.RowKit

/-- The slice value v has n elements, which hold the cells xs; the block is no constant's; room behind them. -/
def Sl (w : World) (e : TypeId) (size : Nat) (v : Value) (n : Nat) (xs : List Value) : Prop :=
  xs.length = n * size ∧ ((v = .slice none 0 0 ∧ n = 0) ∨ ∃ g o cap cur, v = .slice (some ⟨g, o, none⟩) n cap ∧ w.heap[g]? = some (.cells cur e (0, 0)) ∧ n ≤ cap ∧ cap ≤ maxLen ∧ o + cap * size ≤ cur.size ∧ (cur.toList.drop o).take (n * size) = xs)
variable {w w' : World} {e : TypeId} {size n : Nat} {v : Value} {xs : List Value}
theorem Sl.of_own {base : Nat} (h : w.ownsRow base e size v n xs) : Sl w e size v n xs := by
  refine ⟨h.1, ?_⟩
  rcases h.2 with h1 | ⟨g, cap, cur, e1, _, h1, h2, h3, h4, h5⟩
  · exact .inl h1
  · exact .inr ⟨g, 0, cap, cur, e1, h1, h2, h3, by omega, by simpa using h5⟩
theorem Sl.nil (w : World) (e : TypeId) (size : Nat) : Sl w e size (.slice none 0 0) 0 [] := ⟨by simp, .inl ⟨rfl, rfl⟩⟩
theorem Sl.lt (h : Sl w e size v n xs) : ∀ k, v.ownBlock = some k → k < w.heap.size ∧ ∃ cur, w.heap[k]? = some (.cells cur e (0, 0)) := by
  intro k hk
  rcases h.2 with ⟨rfl, _⟩ | ⟨g, o, cap, cur, rfl, h1, _⟩
  · cases hk
  · cases hk
    exact ⟨(Array.getElem?_eq_some_iff.1 h1).1, cur, h1⟩
theorem Sl.move (h : Sl w e size v n xs) (hk : ∀ k, v.ownBlock = some k → w'.heap[k]? = w.heap[k]?) : Sl w' e size v n xs := by
  refine ⟨h.1, ?_⟩
  rcases h.2 with h1 | ⟨g, o, cap, cur, rfl, h1, h2⟩
  · exact .inl h1
  · exact .inr ⟨g, o, cap, cur, rfl, (hk g rfl).trans h1, h2⟩
theorem Sl.below {B : Nat} (h : Sl w e size v n xs) (hB : Below B w w') (hb : w.heap.size ≤ B) : Sl w' e size v n xs :=
  h.move fun k hk => hB.block k (by have := (h.lt k hk).1; omega)
theorem Sl.form (h : Sl w e size v n xs) : ∃ A c, v = .slice A n c ∧ n ≤ c := by
  rcases h.2 with ⟨rfl, rfl⟩ | ⟨g, o, cap, cur, rfl, _, h1, _⟩
  · exact ⟨_, _, rfl, Nat.le_refl _⟩
  · exact ⟨_, _, rfl, h1⟩
theorem Sl.form1 (h : Sl w e size v n xs) (hn : 0 < n) : ∃ g o c, v = .slice (some ⟨g, o, none⟩) n c ∧ n ≤ c := by
  rcases h.2 with ⟨rfl, h0⟩ | ⟨g, o, cap, cur, rfl, _, h1, _⟩
  · omega
  · exact ⟨_, _, _, rfl, h1⟩
theorem Sl.cell {g o c : Nat} (h : Sl w e size (.slice (some ⟨g, o, none⟩) n c) n xs) (j : Nat) (u : Value) (hj : xs[j]? = some u) : w.cell? ⟨g, o + j, none⟩ = some u := by
  rcases h.2 with ⟨h0, _⟩ | ⟨g', o', cap, cur, e1, h1, h2, h3, h4, h5⟩
  · cases h0
  · injection e1 with e1 _ e3
    injection e1 with e1
    injection e1 with e1 e2
    subst e1 e2
    rw [← h5, List.getElem?_take] at hj
    split at hj
    · rw [List.getElem?_drop] at hj
      simp only [World.cell?, h1]
      simpa using hj
    · cases hj
theorem Sl.frozen {g o c : Nat} (h : Sl w e size (.slice (some ⟨g, o, none⟩) n c) n xs) (j : Nat) : w.frozen? ⟨g, j, none⟩ = false := by
  rcases h.2 with ⟨h0, _⟩ | ⟨g', o', cap, cur, e1, h1, _⟩
  · cases h0
  · injection e1 with e1 _ _
    injection e1 with e1
    injection e1 with e1 e2
    subst e1
    simp [World.frozen?, h1]
theorem Sl.take {g o c : Nat} (h : Sl w e size (.slice (some ⟨g, o, none⟩) n c) n xs) (k : Nat) (hk : k ≤ n) : Sl w e size (.slice (some ⟨g, o, none⟩) k c) k (xs.take (k * size)) := by
  refine ⟨by rw [List.length_take, h.1]; exact Nat.min_eq_left (Nat.mul_le_mul_right _ hk), ?_⟩
  rcases h.2 with ⟨h0, _⟩ | ⟨g', o', cap, cur, e1, h1, h2, h3, h4, h5⟩
  · cases h0
  · injection e1 with e1 _ e3
    injection e1 with e1
    injection e1 with e1 e2
    subst e1 e2 e3
    refine .inr ⟨g, o, c, cur, rfl, h1, by omega, h3, h4, ?_⟩
    rw [← h5, List.take_take, Nat.min_eq_left (Nat.mul_le_mul_right _ hk)]
theorem Sl.drop {g o c : Nat} (h : Sl w e size (.slice (some ⟨g, o, none⟩) n c) n xs) (k : Nat) (hk : k ≤ n) : Sl w e size (.slice (some ⟨g, (if c = k then o else o + k * size), none⟩) (n - k) (c - k)) (n - k) (xs.drop (k * size)) := by
  refine ⟨by rw [List.length_drop, h.1, Nat.sub_mul], ?_⟩
  rcases h.2 with ⟨h0, _⟩ | ⟨g', o', cap, cur, e1, h1, h2, h3, h4, h5⟩
  · cases h0
  · injection e1 with e1 _ e3
    injection e1 with e1
    injection e1 with e1 e2
    subst e1 e2 e3
    by_cases hck : c = k
    · rw [if_pos hck]
      refine .inr ⟨g, o, c - k, cur, rfl, h1, by omega, by omega, Nat.le_trans (Nat.add_le_add_left (Nat.mul_le_mul_right _ (Nat.sub_le _ _)) _) h4, ?_⟩
      rw [show n - k = 0 by omega, Nat.zero_mul, List.take_zero]
      exact (List.drop_of_length_le (by rw [h.1]; exact Nat.mul_le_mul_right _ (by omega))).symm
    · rw [if_neg hck]
      refine .inr ⟨g, o + k * size, c - k, cur, rfl, h1, by omega, by omega, ?_, ?_⟩
      · rw [Nat.sub_mul]
        have := Nat.mul_le_mul_right size (show k ≤ c by omega)
        omega
      · rw [← h5, List.drop_take, List.drop_drop, Nat.sub_mul]
theorem run_append_room_at {P : Program} (w : World) (t ty e : TypeId) (i : TypeInfo) (ht : P.underlying t = some (.slice e)) (hi : P.info? e = some i)
    (g o sLen sCap : Nat) (cur : Array Value) (hg : w.heap[g]? = some (.cells cur e (0, 0)))
    (a : Addr) (m c : Nat) (news : List Value) (hl : news.length = m * i.size) (hnews : ∀ j u, news[j]? = some u → w.cell? (a.add j) = some u) (h1 : ∀ u ∈ news, u.oneCell' = true)
    (hroom : sLen + m ≤ sCap) (hfit : o + sLen * i.size + news.length ≤ cur.size) :
    (Builtin.append_ #[t, t] ty #[.slice (some ⟨g, o, none⟩) sLen sCap, .slice (some a) m c]).run P w =
      .ok (.slice (some ⟨g, o, none⟩) (sLen + m) sCap) (w.setRow g (cur.toList.take (o + sLen * i.size) ++ news ++ cur.toList.drop (o + sLen * i.size + news.length)).toArray) := by
  have hf := run_firstCells_some (P := P) w i.size m a m c news hl hnews
  have hst := run_storeCells_at P g (o + sLen * i.size) e news 0 cur w hg (by simpa using hfit) h1
  simp only [Nat.add_zero] at hst
  simp [Builtin.append_, run_underlying ht, sizeOf, typeInfo, hi, Builtin.lenOf, hroom, hf, Addr.add_lit, hst]
/-- append onto a row; the source a slice with an address. -/
theorem run_append_sl {P : Program} (w : World) (t ty e : TypeId) (i : TypeInfo) (z : Value) (size bytes : Nat) (ht : P.underlying t = some (.slice e)) (hi : P.info? e = some i) (hz : i.zero = some z)
    (hsize : i.size = size) (hby : i.bytes = bytes) (hzs : z.cells.size = size)
    (v : Value) (n : Nat) (xs : List Value) (hown : Sl w e size v n xs)
    (a : Addr) (m c : Nat) (news : List Value) (hl : news.length = m * size) (hnews : ∀ j u, news[j]? = some u → w.cell? (a.add j) = some u) (h1 : ∀ u ∈ news, u.oneCell' = true)
    (hm0 : 0 < m) (h63 : n + m ≤ maxLen) (hbytes : (n + m) * bytes ≤ 140737488355328) :
    ∃ g' o' c' w', (Builtin.append_ #[t, t] ty #[v, .slice (some a) m c]).run P w = .ok (.slice (some ⟨g', o', none⟩) (n + m) c') w' ∧ Sl w' e size (.slice (some ⟨g', o', none⟩) (n + m) c') (n + m) (xs ++ news) ∧ w.grownBy w' v.ownBlock ∧ (v.ownBlock = some g' ∨ g' = w.heap.size) := by
  subst hsize
  subst hby
  have hsmall : n + m ≤ 9223372036854775807 := by simp only [maxLen] at h63; omega
  have hlen : (xs ++ news).length = (n + m) * i.size := by rw [List.length_append, hown.1, hl, Nat.add_mul]
  have grown : ∀ (old : Nat), old < n + m → ∀ (row : Option Nat),
      Sl (w.drew.alloc (.cells (xs.toArray ++ news.toArray ++ Builtin.zeroCells z.cells (grownCap w (n + m) old e - (n + m))) e)) e i.size
        (.slice (some ⟨w.heap.size, 0, none⟩) (n + m) (grownCap w (n + m) old e)) (n + m) (xs ++ news) ∧
      w.grownBy (w.drew.alloc (.cells (xs.toArray ++ news.toArray ++ Builtin.zeroCells z.cells (grownCap w (n + m) old e - (n + m))) e)) row := by
    intro old ho row
    have hge := grownCap_ge w (n + m) old e
    have hcm : grownCap w (n + m) old e ≤ maxLen := grownCap_le_maxLen w (n + m) old e h63
    refine ⟨⟨hlen, .inr ⟨w.heap.size, 0, _, _, rfl, heap_alloc_new w.drew _, hge, hcm, ?_, ?_⟩⟩, ⟨rfl, rfl, rfl, by simp, fun k hk _ => by first | exact heap_alloc_old w.drew _ k hk | exact heap_alloc_old w.drew _ hk⟩⟩
    · simp only [Array.size_append, List.size_toArray, size_zeroCells, hzs, hown.1, hl, ← Nat.add_mul]
      rw [Nat.zero_add]
      apply Nat.le_of_eq
      congr 1
      omega
    · simp only [Array.toList_append, List.append_assoc, List.drop_zero]
      rw [← List.append_assoc, ← hlen]
      exact List.take_left
  rcases hown.2 with ⟨rfl, rfl⟩ | ⟨g, o, cap, cur, rfl, hg, hnc, hcm, hcs, htake⟩
  · have hx : xs = [] := List.eq_nil_of_length_eq_zero (by simpa using hown.1)
    subst hx
    have hr := run_append_nil (P := P) w t ty e i z ht hi hz a m c news hl hnews (by omega) (by omega) (by have hb := hbytes; simp only [Nat.zero_add] at hb; omega)
    have hgr := grown 0 (by omega) (Value.ownBlock (.slice none 0 0))
    simp only [Nat.zero_add, List.nil_append, Array.empty_append] at hgr ⊢
    exact ⟨_, _, _, _, hr, hgr.1, hgr.2, .inr rfl⟩
  · by_cases hroom : n + m ≤ cap
    · have hmul : (n + m) * i.size ≤ cap * i.size := Nat.mul_le_mul_right _ hroom
      rw [Nat.add_mul] at hmul
      have hfit : o + n * i.size + news.length ≤ cur.size := by rw [hl]; omega
      have hr := run_append_room_at (P := P) w t ty e i ht hi g o n cap cur hg a m c news hl hnews h1 hroom hfit
      refine ⟨_, _, _, _, hr, ⟨hlen, .inr ⟨g, o, cap, _, rfl, setRow_heap w g cur _ e _ hg, hroom, hcm, ?_, ?_⟩⟩, ⟨rfl, rfl, rfl, by simp, fun k _ hk => setRow_other w g k _ (fun e => hk (by simp [Value.ownBlock, e]))⟩, .inl rfl⟩
      · simp only [List.size_toArray, List.length_append, List.length_take, List.length_drop, Array.length_toList]
        omega
      · have hxl : xs.length = n * i.size := hown.1
        have hcl : cur.toList.length = cur.size := Array.length_toList
        have h2 : (cur.toList.take (o + n * i.size)).drop o = xs := by rw [List.drop_take, ← htake]; congr 1; omega
        show (List.drop o ((cur.toList.take (o + n * i.size) ++ news) ++ cur.toList.drop (o + n * i.size + news.length))).take _ = _
        rw [List.append_assoc, List.drop_append_of_le_length (by rw [List.length_take, hcl]; omega), h2, ← List.append_assoc, ← hlen]
        exact List.take_left
    · have holds : ∀ j u, xs[j]? = some u → w.cell? ((⟨g, o, none⟩ : Addr).add j) = some u := fun j u hj => by
        have := Sl.cell hown j u hj
        rwa [show (⟨g, o, none⟩ : Addr).add j = ⟨g, o + j, none⟩ from by unfold Addr.add; split <;> simp_all]
      have hr := run_append_grow (P := P) w t ty e i z ht hi hz ⟨g, o, none⟩ n cap xs hown.1 holds a m c news hl hnews (by omega) (by omega) (growslice_fits (by omega) hbytes)
      have hgr := grown cap (by omega) (Value.ownBlock (.slice (some ⟨g, o, none⟩) n cap))
      exact ⟨_, _, _, _, hr, hgr.1, hgr.2, .inr rfl⟩
/-- Nothing appended is nothing done. -/
theorem run_append_none {P : Program} (w : World) (t ty e : TypeId) (i : TypeInfo) (size : Nat) (ht : P.underlying t = some (.slice e)) (hi : P.info? e = some i) (v : Value) (n : Nat) (xs : List Value) (hown : Sl w e size v n xs) (A : Option Addr) (c : Nat) : (Builtin.append_ #[t, t] ty #[v, .slice A 0 c]).run P w = .ok v w := by
  rcases hown.2 with ⟨rfl, rfl⟩ | ⟨g, o, cap, cur, rfl, _, hnc, _⟩ <;> cases A
  all_goals simp [Builtin.append_, run_underlying ht, sizeOf, typeInfo, hi, Builtin.lenOf, Builtin.firstCells, loadCells, loadCellsFrom, storeCells, *]
end Go.Proofs.YtcaaggfobdfgpaaDoor.Sl
