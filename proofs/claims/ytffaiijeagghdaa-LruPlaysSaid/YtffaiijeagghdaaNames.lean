/- Package lru: Names (a range over slices.Backward). -/
import Derived.Test.YtffaiijeagghdaaPut
import Derived.RangeFuncNested
import Derived.RangeFuncBound
import Derived.RangeFuncCalls
import Derived.RangeFuncLeaves
import Derived.RangeFuncBox
import Derived.Shelf.Abstract
import Derived.OwnWalkIn
import Derived.TacticsInMore
import Derived.LoopNIn
import Derived.LoopIn
import Derived.Maps.AppendAt
set_option linter.unusedVariables false
set_option linter.unusedSimpArgs false
namespace Go.Proofs.Ytffaiijeagghdaa.Lr
open Go.RowKit Go.Shelf Go.Proofs.Ytffaiijeagghdaa.Sl
attribute [local go_sem] Oper.semAt_some

abbrev It := Nat × H
abbrev encs (x : It) : Array Value := #[.int .i64 (x.1 : Int), .agg #[.string x.2.1, .int .i64 x.2.2]]
def item (L : List H) (j : Nat) : It := (L.length - 1 - j, (L[L.length - 1 - j]?).getD (⟨#[]⟩, 0))
def bk (L : List H) (k : Nat) : List It := (List.range k).map (item L)
theorem bk_succ (L : List H) (k : Nat) : bk L (k + 1) = bk L k ++ [item L k] := by simp [bk, List.range_succ]
theorem bk_length (L : List H) (k : Nat) : (bk L k).length = k := by simp [bk]
theorem bk_step (L : List H) (i : Nat) (h : i < L.length) : bk L (L.length - i) = bk L (L.length - (i + 1)) ++ [(i, L[i])] := by
  rw [show L.length - i = L.length - (i + 1) + 1 by omega, bk_succ]
  congr 2
  unfold item
  rw [show L.length - 1 - (L.length - (i + 1)) = i by omega, List.getElem?_eq_getElem h]
  rfl
theorem bk_names (L : List H) : (bk L L.length).map (fun x => Value.string x.2.1) = (L.map (·.1)).reverse.map Value.string := by
  apply List.ext_getElem
  · simp [bk_length]
  · intro i h1 h2
    simp only [List.length_map, bk_length] at h1
    simp [bk, item, List.getElem_reverse, show L.length - 1 - i < L.length by omega]
theorem blk_own {X Y : World} {row : Option Nat} {b : Nat} {c : Array Value} {t : TypeId} {fr : Nat × Nat} (h : X.heap[b]? = some (.cells c t fr)) (hg : X.grownBy Y row) (hr : ∀ r, row = some r → ∃ o : Obj, X.heap[r]? = some o ∧ o.isCells = false) : Y.heap[b]? = some (.cells c t fr) :=
  (hg.block b (lt_of_heap h) (fun e => by
    obtain ⟨o, ho, hc⟩ := hr b e.symm
    rw [h] at ho
    cases ho
    simp [Obj.isCells] at hc)).trans h
/-- What a round keeps. -/
def Kp (n₀ Bs : Nat) (sv : Value) (A B : World) : Prop := Below n₀ A B ∧ (Boxed A Bs 43 sv → Boxed B Bs 43 sv)
theorem Kp.refl (n₀ Bs : Nat) (sv : Value) (A : World) : Kp n₀ Bs sv A A := ⟨Below.refl _ _, id⟩
theorem Kp.trans {n₀ Bs : Nat} {sv : Value} {A B C : World} (h : Kp n₀ Bs sv A B) (k : Kp n₀ Bs sv B C) : Kp n₀ Bs sv A C := ⟨h.1.trans k.1, k.2 ∘ h.2⟩
theorem Kp.put {n₀ Bs : Nat} {sv : Value} {w : World} (hn : n₀ ≤ w.heap.size) (W : World) (l : Nat) (o o' : Obj) (hl : w.heap.size ≤ l) (h : W.heap[l]? = some o) (h1 : o.isCells = false) (h2 : o.isWalk = false) : Kp n₀ Bs sv W (W.putObj l o') :=
  ⟨belowK_b hn W l o o' hl h h1 h2, fun hb => hb.kept (grownBy_putObj' W l o') (fun e => by
    have e : Bs = l := by injection e
    subst e
    rw [show W.heap[Bs]? = _ from hb] at h
    cases h
    simp [Obj.isCells] at h1)⟩
set_option maxRecDepth 100000 in
set_option maxHeartbeats 2000000 in
theorem bk1_in (F : Fence) (n : Nat) (hf : F.fn 22) (hro : F.round = none) (hn : 1 ≤ n) (l Bs n₀ b off cap : Nat) (L : List H) (hL : L.length ≤ 1000) (hb : b < n₀) (J Jx : List It → World → Prop)
    (hY : ∀ pre x W, J pre W → pre.length < L.length → YieldAt F (n - 1) Try.prog l (encs x) W fun e W' =>
      (e = .returned (.bool true) ∧ J (pre ++ [x]) W' ∧ Kp n₀ Bs (.slice (some ⟨b, off, none⟩) L.length cap) W W') ∨ (e = .returned (.bool false) ∧ Jx (pre ++ [x]) W'))
    (W : World) (hBs : Boxed W Bs 43 (.slice (some ⟨b, off, none⟩) L.length cap)) (hc : ∀ j (h : j < L.length), W.cell? ⟨b, off + j * 2, none⟩ = some (.string L[j].1) ∧ W.cell? ⟨b, off + j * 2 + 1, none⟩ = some (.int .i64 L[j].2)) (h0 : J [] W) :
    CallsIn F n Try.prog 22 #[.func (.yield l) #[] #[], .pointer (some ⟨Bs, 0, none⟩)] W fun e W' => (∃ v, e = .returned v) ∧
      ((∃ ys, ys = bk L L.length ∧ J ys W') ∨ (∃ pre, (∃ k, k ≤ L.length ∧ pre = bk L k) ∧ Jx pre W')) := by
  have HC := Lib.hid hc
  have HB := Lib.hid hBs
  have cB := hBs.cell
  have q0 : (L.length : Int) ≤ 1000 := by omega
  have q1 : (0 : Int) ≤ (L.length : Int) := by omega
  clear hc hBs
  refine callsIn_of_wp Try.func22 rfl hf ?_ hro
  simp only [Try.ntmps22, List.size_toArray, List.length_cons, List.length_nil, Nat.reduceAdd, Nat.reduceSub, Array.replicate_succ, Array.replicate_zero, List.push_toArray, List.append_toArray, List.nil_append, List.cons_append]
  gi_wp2
  gi_loopw [3] (fun t3 wr => ∃ r : Nat, r ≤ L.length ∧ t3 = .int .i64 ((r : Int) - 1) ∧ J (bk L (L.length - r)) wr ∧ Kp n₀ Bs (.slice (some ⟨b, off, none⟩) L.length cap) W wr) (fun t _ => (intOf t + 1).toNat)
  case atStart => exact ⟨L.length, Nat.le_refl _, rfl, by rw [Nat.sub_self]; exact h0, Kp.refl _ _ _ _⟩
  case round =>
    obtain ⟨r, hr, rfl, hJs, hK⟩ := hrel
    clear cB
    rcases r with _ | i
    · have hJ2 : J (bk L L.length) wr := hJs
      have HJ := Lib.hid hJ2
      clear hJs hJ2
      have HK := Lib.hid hK
      clear hK
      gi_wp2
      go_end0
      exact ⟨⟨_, rfl⟩, .inl ⟨_, rfl, HJ.out⟩⟩
    · have e1 : (((i + 1 : Nat) : Int) - 1) = (i : Int) := by omega
      rw [e1]
      have hi : i < L.length := by omega
      obtain ⟨c0, c1⟩ := HC.out i hi
      have c0 : wr.cell? ⟨b, off + i * 2, none⟩ = some (.string L[i].1) := (hK.1.cell (p := ⟨b, off + i * 2, none⟩) hb).trans c0
      have c1 : wr.cell? ⟨b, off + i * 2 + 1, none⟩ = some (.int .i64 L[i].2) := (hK.1.cell (p := ⟨b, off + i * 2 + 1, none⟩) hb).trans c1
      have cB := (hK.2 HB.out).cell
      have q2 : (i : Int) < (L.length : Int) := by omega
      have q3 : (0 : Int) ≤ (i : Int) := by omega
      obtain ⟨fn, tmps, assign, body, hy, hR⟩ := hY _ (i, L[i]) wr hJs (by rw [bk_length]; omega)
      dsimp only [encs] at hy
      have HK := Lib.hid hK
      clear hK hJs e1
      gi_wp2
      have HS := Lib.hid (bk_step L i hi)
      refine hR.mono ?_
      rintro e W3 (⟨rfl, hJ3, hk3⟩ | ⟨rfl, hJx3⟩)
      · have HK3 := Lib.hid (And.intro hJ3 (HK.out.trans hk3))
        clear hJ3 hk3 hR hy
        gi_wp2
        go_roundw
        case rel => exact ⟨i, by omega, rfl, by rw [HS.out]; exact HK3.out.1, HK3.out.2⟩
        case measure => simp [intOf]
      · have HX := Lib.hid hJx3
        clear hJx3 hR hy
        gi_wp2
        refine bodyPost_ret (results_none rfl _ _ _) rfl ?_
        exact ⟨⟨_, rfl⟩, .inr ⟨_, ⟨L.length - i, by omega, HS.out.symm⟩, HX.out⟩⟩
set_option maxRecDepth 100000 in
set_option maxHeartbeats 1000000 in
theorem bk1_nil_in (F : Fence) (n : Nat) (hf : F.fn 22) (hro : F.round = none) (l Bs : Nat) (J : List It → World → Prop) (W : World) (hBs : W.cell? ⟨Bs, 0, none⟩ = some (.slice none 0 0)) (h0 : J [] W) :
    CallsIn F n Try.prog 22 #[.func (.yield l) #[] #[], .pointer (some ⟨Bs, 0, none⟩)] W fun e W' => (∃ v, e = .returned v) ∧ J [] W' := by
  refine callsIn_of_wp Try.func22 rfl hf ?_ hro
  simp only [Try.ntmps22, List.size_toArray, List.length_cons, List.length_nil, Nat.reduceAdd, Nat.reduceSub, Array.replicate_succ, Array.replicate_zero, List.push_toArray, List.append_toArray, List.nil_append, List.cons_append]
  gi_wp2
  gi_loopw [3] (fun i wr => i = .int .i64 (-1) ∧ J [] wr) (fun _ _ => 0)
  case atStart => exact ⟨rfl, h0⟩
  case round =>
    obtain ⟨rfl, hJs⟩ := hrel
    gi_wp2
    go_end0
    exact ⟨⟨_, rfl⟩, hJs⟩
theorem Backward_in (F : Fence) (n : Nat) (hf : F.fn 19) (hro : F.round = none) (v : Value) (w : World) (hv : ∃ a len cap, v = .slice a len cap) :
    CallsIn F n Try.prog 19 #[v] w fun e w' => e = .returned (.func (.func 22) #[] #[.pointer (some ⟨w.heap.size, 0, none⟩)]) ∧ w' = w.alloc (.cells #[v] 43) := by
  obtain ⟨a, len, cap, rfl⟩ := hv
  refine callsIn_of_wp Try.func19 rfl hf ?_ hro
  simp only [Try.ntmps19, List.size_toArray, List.length_cons, List.length_nil, Nat.reduceAdd, Nat.reduceSub, Array.replicate_succ, Array.replicate_zero, List.push_toArray, List.append_toArray, List.nil_append, List.cons_append]
  gi_wp2
  go_ret
  exact ⟨rfl, rfl⟩
theorem bk_stops (F : Fence) (n : Nat) (hf : F.fn 22) (hro : F.round = none) (hn : 1 ≤ n) (Bs n₀ : Nat) (v : Value) (L : List H) (hL : L.length ≤ 1000) (w : World) (hBs : Bs < w.heap.size) (hn₀ : n₀ ≤ w.heap.size)
    (hc : Boxed w Bs 43 v) (hI : RowOf w v L) (hlow : ∀ k, v.ownBlock = some k → k < n₀) :
    SeqStopsK F n Try.prog 22 #[.pointer (some ⟨Bs, 0, none⟩)] encs (Kp n₀ Bs v) (fun ys => ys = bk L L.length) (fun pre => ∃ k, k ≤ L.length ∧ pre = bk L k) L.length w := fun l J Jx W hW _ _ hY h0 => by
  have hc' : Boxed W Bs 43 v := (hW.block Bs hBs).trans hc
  have hI' : RowOf W v L := hI.below hW
  rcases hI.2 with ⟨rfl, h0'⟩ | ⟨g, o, cap, cur, rfl, _⟩
  · have : L = [] := List.eq_nil_of_length_eq_zero h0'
    subst this
    exact (bk1_nil_in F n hf hro l Bs J W hc'.cell h0).mono fun e W' ⟨he, hj⟩ => ⟨he, .inl ⟨_, rfl, hj⟩⟩
  · exact bk1_in F n hf hro hn l Bs n₀ g o cap L hL (hlow g rfl) J Jx hY W hc' (fun j hj => row_cell hI' rfl j hj) h0
set_option maxRecDepth 100000 in
set_option maxHeartbeats 2000000 in
theorem Names_in (F : Fence) (n : Nat) (h12 : F.fn 12) (h19 : F.fn 19) (h22 : F.fn 22) (hro : F.round = none) (hn : 3 ≤ n) (g : Nat) (room : Int) (v : Value) (L : List H) (w : World) (h : CacheAt w g room v L) (hL : L.length ≤ 1000) :
    CallsIn F n Try.prog 12 #[.pointer (some ⟨g, 0, none⟩)] w fun e W' => ∃ v2, e = .returned v2 ∧ W'.ownsRow w.heap.size 9 1 v2 L.length ((L.map (·.1)).reverse.map Value.string) ∧ Below w.heap.size w W' := by
  have h1 : 1 ≤ n := by omega
  obtain ⟨i0, hi, hzz⟩ := Option.map_eq_some_iff.1 infoStr
  simp only [Prod.mk.injEq] at hzz
  obtain ⟨hz0, hz1, hz2⟩ := hzz
  have hB0 : Below w.heap.size w (w.alloc (.cells #[.slice none 0 0] 30)) := (Below.refl _ w).alloc (Nat.le_refl _) _
  have HC := Lib.hid h
  have c1 := (h.below hB0).c1
  have hvs : ∃ a len cap, v = .slice a len cap := by
    obtain ⟨A, c, e, _⟩ := h.row.form
    exact ⟨A, _, c, e⟩
  have HB0 := Lib.hid hB0
  clear h hB0
  refine callsIn_of_wp_marks Try.func12 rfl h12 ?_ hro
  simp only [Try.ntmps12, List.size_toArray, List.length_cons, List.length_nil, Nat.reduceAdd, Nat.reduceSub, Array.replicate_succ, Array.replicate_zero, List.push_toArray, List.append_toArray, List.nil_append, List.cons_append]
  gi_wp2_with (gi_at_call 19; refine (Backward_in F (n - 1) h19 hro v _ hvs).mono ?_; rintro e w' ⟨rfl, rfl⟩)
  have hsz : ((w.alloc (.cells #[.slice none 0 0] 30)).alloc (.cells #[v] 43)).heap.size = w.heap.size + 2 := by simp
  have bO := (Boxed.new w 30 (.slice none 0 0)).alloc (.cells #[v] 43)
  have bN := Boxed.new (w.alloc (.cells #[.slice none 0 0] 30)) 43 v
  rw [World.size_alloc] at bN
  have hB1 : Below w.heap.size w ((w.alloc (.cells #[.slice none 0 0] 30)).alloc (.cells #[v] 43)) := HB0.out.alloc (by simp) _
  obtain ⟨W0, hW0⟩ : ∃ W0, (w.alloc (.cells #[.slice none 0 0] 30)).alloc (.cells #[v] 43) = W0 := ⟨_, rfl⟩
  rw [hW0] at hsz bO bN hB1 ⊢
  clear hW0 c1
  refine wpIn_rangeFunc_ownH hro h1 (gf := 22) (lb := #[.pointer (some ⟨w.heap.size + 1, 0, none⟩)]) rfl h22 (enters_of Try.func22 (by kernel_rfl) rfl)
    (bk_stops F (n - 1) h22 hro (by omega) (w.heap.size + 1) w.heap.size v L hL W0 (by omega) (by omega) bN (HC.out.row.below hB1) (fun k hk => (HC.out.row.lt k hk).1)) Kp.trans (Kp.put (by omega)) (Below.refl _ _) (fun _ => rfl)
    (fun (pre : List It) W => ((∃ v2, Boxed W w.heap.size 30 v2 ∧ W.ownsRow w.heap.size 9 1 v2 pre.length (pre.map (fun x => Value.string x.2.1)) ∧ True) ∧ Boxed W (w.heap.size + 1) 43 v) ∧ Below w.heap.size w W)
    (fun _ _ _ => False)
    (OwnFrom.and (OwnFrom.and (Own.from (holdsRow_own w.heap.size w.heap.size 30 9 1 (fun (pre : List It) => pre.length) (fun (pre : List It) => pre.map (fun x => Value.string x.2.1)) (fun _ _ => True)) _) (Own.from (boxed_own _ _ _) _)) (ownFrom_below (Nat.le_refl _) (by omega)))
    (fun _ _ _ _ _ hs _ _ => hs)
    ⟨⟨⟨_, bO, World.ownsRow_nil _ _ _ _, trivial⟩, bN⟩, hB1⟩
    (fun x a' W => ∃ Bx, w.heap.size + 1 < Bx ∧ W.heap[Bx]? = some (.cells #[.string x.2.1, .int .i64 x.2.2] 47 (0, 0)) ∧ a' = { tmps := #[.pointer (some ⟨g, 0, none⟩), undef, .slice none 0 0, .pointer (some ⟨w.heap.size, 0, none⟩), undef, .pointer (some ⟨Bx, 0, none⟩), .pointer (some ⟨g, 0, none⟩), .pointer (some ⟨g, 0, none⟩), .pointer (some ⟨g, 1, none⟩), v, .func (.func 22) #[] #[.pointer (some ⟨w.heap.size + 1, 0, none⟩)], .int .i64 (x.1 : Int), .agg #[.string x.2.1, .int .i64 x.2.2], undef, undef, undef, undef, undef, undef], defers := [] })
    (fun x a' _ X Y row hs hg hr => by obtain ⟨Bx, h1, h2, h3⟩ := hs; exact ⟨Bx, h1, blk_own h2 hg (fun r e => (hr r e).2), h3⟩)
    ?assign ?body ?done ?stop
  case assign =>
    rintro l pre x W K ⟨⟨⟨v2, hv, hrow, _⟩, hbN⟩, hB⟩ hK
    gi_wp2
    exact hK _ _ ((KeepsOthers.alloc _ _).from _) ⟨(Below.refl _ W).alloc hB.size _, fun hb => hb.alloc _⟩ ⟨⟨⟨v2, hv.alloc _, hrow.alloc _, trivial⟩, hbN.alloc _⟩, hB.alloc hB.size _⟩ ⟨W.heap.size, hbN.lt, World.alloc_heap_new W _, rfl⟩
  case body =>
    rintro l pre x a' W hl ⟨r, hr⟩ ⟨⟨⟨v2, hv, hrow, _⟩, hbN⟩, hB⟩ ⟨Bx, hBx, bX, rfl⟩ hlt
    have hc := hv.cell
    have x0 : W.cell? ⟨Bx, 0, none⟩ = some (.string x.2.1) := by simp [World.cell?, bX]
    gi_wp2_with (gi_at_builtin; refine wpListIn_append_own _ rfl _ _ 30 rfl w.heap.size 9 i0 (.string ⟨#[]⟩) 1 16 Try.underlying30 hi hz0 hz1 hz2 rfl (by decide) _ _ _ rfl (hrow.alloc _) ⟨W.heap.size, 0, none⟩ 1 1 [.string x.2.1] rfl rfl (cell_one_new _ _ _) (by simp [Value.oneCell']) (by unfold maxLen; omega) (by omega) (by have := hB.size; simp; omega) ?_; intro v' w1 hown' hgrow _; obtain ⟨g', cap', rfl⟩ := ownsRow_succ hown'; obtain ⟨hv1, hv2, hr2, hk2, hb2⟩ := hv.appended (by decide) hrow hB.size (Nat.le_refl _) hown' hgrow; have hc1 := hv1.cell; have hf1 := hv1.frozen)
    have hN2 := ((hbN.alloc (.cells #[.string x.2.1] 9)).kept hgrow (hbN.not_row (by decide) hrow)).other (B' := w.heap.size) (by omega) (.slice (some ⟨g', 0, none⟩) (pre.length + 1) cap')
    exact ⟨hk2.from _, ⟨hb2, fun _ => hN2⟩, ⟨⟨⟨_, hv2, by simpa using hr2, trivial⟩, hN2⟩, hB.trans hb2⟩⟩
  case done =>
    rintro D ys W hD rfl ⟨⟨⟨v2, hv, hrow, _⟩, _⟩, hB⟩ hK
    have hc := hv.cell
    gi_wp2
    refine ⟨by simp, .inl ⟨_, _, rfl, run_takeDeferred hK, ?_⟩⟩
    rw [bk_names, bk_length] at hrow
    exact ⟨_, results_tmp rfl _ _ _, v2, rfl, ownsRow_putObj hrow _ hK rfl, hB.trans (belowK_b (w := w) (Nat.le_refl _) W D _ _ (by omega) hK rfl rfl)⟩
  case stop =>
    rintro D c pre W _ _ h _
    exact h.elim
theorem Names_any (g : Nat) (room : Int) (v : Value) (L : List H) (w : World) (h : CacheAt w g room v L) (hL : L.length ≤ 1000) :
    Calls Try.prog 12 #[.pointer (some ⟨g, 0, none⟩)] w fun e W' => ∃ A c, e = .returned (.slice A L.length c) ∧ SRow W' (.slice A L.length c) (L.map (·.1)).reverse ∧ Below w.heap.size w W' ∧ ∀ k, (Value.slice A L.length c).ownBlock = some k → w.heap.size ≤ k := by
  refine (callsIn_wide (n := 3)).1 ((Names_in Fence.wide 3 trivial trivial trivial rfl (Nat.le_refl _) g room v L w h hL).mono ?_)
  rintro e W' ⟨v2, rfl, h2, hB⟩
  have hlt := h2.lt
  obtain ⟨A, c, e2, hc⟩ := (Sl.of_own h2).form
  subst e2
  refine ⟨A, c, rfl, ?_, hB, fun k hk => (hlt k hk).1⟩
  have := Sl.of_own h2
  unfold SRow
  rw [List.length_reverse, List.length_map]
  exact this
end Go.Proofs.Ytffaiijeagghdaa.Lr
