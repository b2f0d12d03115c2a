/- Package life: Right, Alive. -/
import Derived.Test.YtnpmmmgaghhndaaLifeReadLifeBegins
import Derived.Test.YtnpmmmgaghhndaaShelf
import Derived.Maps.RangeWalk
import Derived.Lib.SortBridge
import Derived.Sort.OwnSortedInts
set_option linter.unusedVariables false
set_option linter.unusedSimpArgs false
namespace Go.Proofs.Ytnpmmmgaghhndaa.Lf
open Go.RowKit Go.Maps Go.WideMaps Go.Proofs.YtnpmmmgaghhndaaW.PrintWords Go.Proofs.YtnpmmmgaghhndaaW.PrintLast Go.Proofs.Ytnpmmmgaghhndaa.Sl Go.Proofs.Ytnpmmmgaghhndaa.Mv Go.Proofs.Ytnpmmmgaghhndaa.Given Go.Proofs.Ytnpmmmgaghhndaa.PLifeBegins

/-- Who is shown behind the log, rising. -/
def Shown (m : Int → Option Int) (K : List Int) : Prop := K.Pairwise (· < ·) ∧ ∀ n, n ∈ K ↔ m n = some 1
theorem Shown.uniq {m : Int → Option Int} {K L : List Int} (h : Shown m K) (g : Shown m L) : K = L := by
  have nd : ∀ {K : List Int}, K.Pairwise (· < ·) → K.Nodup := fun h => h.imp (fun h e => by omega)
  have hp : K.Perm L := (List.perm_ext_iff_of_nodup (nd h.1) (nd g.1)).2 fun n => (h.2 n).trans (g.2 n).symm
  exact hp.eq_of_pairwise (le := (· < ·)) (fun a b _ _ h1 h2 => by omega) h.1 g.1
open Classical in
noncomputable def aliveL (l : List S23) : List Int := if h : ∃ K, Shown (readP l).1 K then Classical.choose h else []
theorem alive_eq {l : List S23} {K : List Int} (h : Shown (readP l).1 K) : aliveL l = K := by
  have hx : ∃ K, Shown (readP l).1 K := ⟨K, h⟩
  unfold aliveL
  rw [dif_pos hx]
  exact (Classical.choose_spec hx).uniq h
theorem keyOf_int_inv {key : Value} {kl : Lit} (h : keyOf Try.prog 3 key = some kl) : ∃ x : Int, key = .int .i64 x := by
  have hk := Try.underlying3
  cases key <;> simp [keyOf, hk, mapKey] at h
  obtain ⟨h, _⟩ := h
  exact ⟨_, by rw [h.1]⟩
theorem keyOf_int_kl {x : Int} {kl : Lit} (h : keyOf Try.prog 3 (.int .i64 x) = some kl) : kl = ki x := by
  have hk := Try.underlying3
  simp [keyOf, hk, mapKey] at h
  exact h.2.symm
/-- The step of a range over states. -/
theorem wpl_next_states {ops : Array Oper} {rest : List Oper} {o : Oper} {a : Act} {Q : Exit → Act → World → Prop} {W : World} (hg : o.guard = none) (it : Operand) (hop : o.op = Op.next it false) (bn r mm : Nat) (D : DataW Value) (left : Lit → Bool) (cnt : Nat) (f : Lit → Option Value) (m : Int → Option Int)
    (hit : a.eval it = .pointer (some ⟨r, 0, none⟩)) (h : W.ranges Try.prog 3 RV bn r mm D left cnt) (hD : ∀ kl, Maps.has D kl = (f kl).isSome ∧ ∀ z, D.atKey kl (.held z) = .held ((f kl).getD z)) (hm : RM f m)
    (hDone : cnt = 0 → (∀ kl, left kl = false) → wpList Try.prog ops Q rest (a.put o.dst (.tuple #[.bool false])) W)
    (hMore : ∀ (n s : Int) (w' : World) (cnt' : Nat), Hid (m n = some s ∧ left (ki n) = true ∧ w'.ranges Try.prog 3 RV bn r mm D (fun z => left z && !z.sameKey (ki n)) cnt' ∧ cnt' < cnt ∧ W.grownBy w' (some r) ∧ w'.heap.size = W.heap.size) → (Instr.entry (.pointer (some ⟨r, 0, none⟩))).run Try.prog w' = .ok (.tuple #[.int .i64 n, .int .i64 s]) w' → wpList Try.prog ops Q rest (a.put o.dst (.tuple #[.bool true, .int .i64 n, .int .i64 s])) w') : wpList Try.prog ops Q (o :: rest) a W := by
  refine wpList_next_ranges W hg it hop 3 intKeyed RV (Value.int .i64) (fun v : Value => v) (fun key kl hkey => keyOf_int_inv hkey) (fun v y _ => ⟨v, rfl⟩) bn r mm D left cnt hit h hDone ?_
  intro x v kl y w1 cnt1 hkey hlk hv hat hrg hlt hgr hsz hen
  obtain rfl := keyOf_int_kl hkey
  have hy : y = (.held v, []) := by unfold RV at hv; exact (Option.some.inj hv).symm
  have hfv : f (ki x) = some v := by
    have h2 := (hD (ki x)).2
    have key : ∀ z : Value, (f (ki x)).getD z = v := fun z => by
      have h3 := h2 z
      rw [hat, hy] at h3
      injection h3 with h3
      exact h3.symm
    cases e : f (ki x) with
    | some u => rw [e] at key; exact congrArg some (key (.bool true))
    | none =>
      rw [e] at key
      have k1 := key (.bool true)
      have k2 := key (.bool false)
      simp at k1 k2
      rw [← k1] at k2
      cases k2
  have h1 := hm.1 x
  rw [hfv] at h1
  cases e : m x with
  | none => rw [e] at h1; cases h1
  | some s =>
    rw [e] at h1
    injection h1 with h1
    subst h1
    exact hMore x s w1 cnt1 (Lib.hid ⟨e, hlk, hrg, hlt, hgr, hsz⟩) hen
/-- What has been gathered. -/
def Gath (m : Int → Option Int) (left : Lit → Bool) (L : List Int) : Prop := L.Nodup ∧ ∀ n, n ∈ L ↔ m n = some 1 ∧ left (ki n) = false
theorem ki_inj {a b : Int} : ki a = ki b ↔ a = b := ⟨fun h => by injection h, fun h => by rw [h]⟩
theorem struck (left : Lit → Bool) (s : Int) : (left (ki s) && !(ki s).sameKey (ki s)) = false ∧ ∀ t, t ≠ s → (left (ki t) && !(ki t).sameKey (ki s)) = left (ki t) := by
  refine ⟨by simp [Lit.sameKey], fun t ht => ?_⟩
  rw [sameKey_ne (fun e => ht (ki_inj.1 e))]
  simp
theorem Gath.yes {m : Int → Option Int} {left : Lit → Bool} {L : List Int} (h : Gath m left L) {x : Int} (hx : left (ki x) = true) (h1 : m x = some 1) : Gath m (fun z => left z && !z.sameKey (ki x)) (L ++ [x]) := by
  have hn : x ∉ L := fun hm => by rw [((h.2 x).1 hm).2] at hx; cases hx
  refine ⟨List.nodup_append.2 ⟨h.1, by simp, fun a ha b hb => by rw [List.mem_singleton.1 hb]; rintro rfl; exact hn ha⟩, fun n => ?_⟩
  rw [List.mem_append, List.mem_singleton, h.2 n]
  by_cases e : n = x
  · subst e
    exact ⟨fun _ => ⟨h1, (struck left n).1⟩, fun _ => .inr rfl⟩
  · show _ ↔ m n = some 1 ∧ (left (ki n) && !(ki n).sameKey (ki x)) = false
    rw [(struck left x).2 n e]
    exact ⟨fun h => h.resolve_right e, fun h => .inl h⟩
theorem Gath.no {m : Int → Option Int} {left : Lit → Bool} {L : List Int} (h : Gath m left L) {x : Int} (h1 : ¬ m x = some 1) : Gath m (fun z => left z && !z.sameKey (ki x)) L := by
  refine ⟨h.1, fun n => ?_⟩
  rw [h.2 n]
  by_cases e : n = x
  · subst e
    exact ⟨fun a => absurd a.1 h1, fun a => absurd a.1 h1⟩
  · show _ ↔ m n = some 1 ∧ (left (ki n) && !(ki n).sameKey (ki x)) = false
    rw [(struck left x).2 n e]
theorem Gath.sorted {m : Int → Option Int} {L : List Int} {left : Lit → Bool} (h : Gath m left L) (hl : ∀ kl, left kl = false) : Shown m (L.mergeSort fun x y => decide (x ≤ y)) := by
  have hp := List.mergeSort_perm L (fun x y => decide (x ≤ y))
  have hs := List.pairwise_mergeSort (le := fun x y : Int => decide (x ≤ y)) (by intro a b c; simp; omega) (by intro a b; simp; omega) L
  have hn : (L.mergeSort fun x y => decide (x ≤ y)).Nodup := hp.nodup_iff.2 h.1
  refine ⟨?_, fun n => ?_⟩
  · have := hs.and hn
    exact this.imp (fun h => by have h1 := h.1; have h2 := h.2; simp at h1; omega)
  · rw [hp.mem_iff, h.2 n]
    exact ⟨fun h => h.1, fun h => ⟨h, hl _⟩⟩
theorem below_only {w w' : World} {B b : Nat} {w0 : World} (h : Below B w0 w) (hg : w.grownBy w' (some b)) (hb : B ≤ b) (hB : B ≤ w.heap.size) : Below B w0 w' := h.grown hg hB (fun k hk => by cases hk; exact hb)
theorem below_grown {B : Nat} {w0 w w' : World} {row : Option Nat} (h : Below B w0 w) (g : w.grownBy w' row) (hr : ∀ k, row = some k → B ≤ k) (hB : B ≤ w.heap.size) : Below B w0 w' :=
  ⟨g.os.trans h.os, g.tape.trans h.tape, g.output.trans h.output, Nat.le_trans h.size g.size, fun k hk => (g.block k (Nat.lt_of_lt_of_le hk hB) (fun e => by have := hr k e.symm; omega)).trans (h.block k hk)⟩
set_option maxHeartbeats 1000000 in
theorem Right_any (A : Option Addr) (c : Nat) (l : List S23) (w : World) (h : Kd.C k23 w A l.length l) (hc : l.length ≤ c) (hw : ∀ e ∈ l, (Lit.int .i64 e.f1).wf = true) (hl : l.length ≤ 1000) : Calls Try.prog 8 #[.slice A l.length c] w fun e w' => e = .returned (.bool (readP l).2) ∧ Below w.heap.size w w' := by
  have H := Lib.hid (read_any A c l w h hc hw (by omega))
  clear h hc hw hl
  go_enter Try.func8, Try.ntmps8
  go_wp2_with fail
  refine H.out.mono ?_
  rintro e w1 ⟨b, n, mm, f, rfl, HR⟩
  go_wp2_with fail
  go_ret
  exact ⟨rfl, HR.out.2.2.1⟩
abbrev RI (w : World) (B : Nat) (v : Value) (L : List Int) : Prop := Kd.R (Kd.int .i64) 3 w B (fun _ => True) v L
theorem RI.kept {w w' : World} {B : Nat} {v : Value} {L : List Int} {row : Option Nat} (h : RI w B v L) (hg : w.grownBy w' row) (hne : v.ownBlock = none ∨ v.ownBlock ≠ row) : RI w' B v L :=
  Kd.R_of_own (enc := Value.int .i64) (h1 := fun _ => rfl) ((Kd.own_of_R (enc := Value.int .i64) (h1 := fun _ => rfl) h).kept hg hne) (fun _ _ => trivial)
theorem one_C (w : World) (x : Int) : Kd.C (Kd.int .i64) (w.alloc (.cells #[.int .i64 x] 3)) (some ⟨w.heap.size, 0, none⟩) 1 [x] := by
  refine ⟨rfl, by decide, fun _ => ⟨⟨w.heap.size, 0, none⟩, rfl, fun j p hj => ⟨[.int .i64 p], rfl, rfl, fun i u hu => ?_⟩⟩⟩
  rcases j with _ | j
  · cases hj
    rcases i with _ | i
    · cases hu
      show (w.alloc _).cell? ((⟨w.heap.size, 0, none⟩ : Addr).add (0 * 1 + 0)) = _
      have hadd : (⟨w.heap.size, 0, none⟩ : Addr).add (0 * 1 + 0) = ⟨w.heap.size, 0, none⟩ := by unfold Addr.add; split <;> simp_all
      rw [hadd]
      exact (blk_cell (heap_alloc_new w (.cells #[.int .i64 x] 3)) 0).trans rfl
    · simp at hu
  · simp at hj
theorem infoInt2 : (Try.prog.info? 3).map (fun i => (i.zero, i.size, i.bytes)) = some (some (.int .i64 0), 1, 8) := by kernel_rfl
set_option maxHeartbeats 4000000 in
theorem Alive_any (A : Option Addr) (c : Nat) (l : List S23) (w : World) (h : Kd.C k23 w A l.length l) (hc : l.length ≤ c) (hw : ∀ e ∈ l, (Lit.int .i64 e.f1).wf = true) (hl : l.length ≤ 1000) : Calls Try.prog 10 #[.slice A l.length c] w fun e w' => ∃ v : Value, e = .returned v ∧ Kd.R (Kd.int .i64) 3 w' w.heap.size (fun _ => True) v (aliveL l) ∧ Below w.heap.size w w' := by
  have H := Lib.hid (And.intro (read_any A c l w h hc hw (by omega)) hl)
  clear h hc hw hl
  go_enter Try.func10, Try.ntmps10
  go_wp2_with fail
  refine H.out.1.mono ?_
  rintro e w1 ⟨b, n, mm, f, rfl, HR⟩
  obtain ⟨D, hown, hsz, hD⟩ := HR.out.1.out
  have hmn := HR.out.1.le
  have HO := Lib.hid (And.intro hown (And.intro hsz (And.intro hD hmn)))
  clear hown hsz hD hmn
  go_wp2_with (first | (at_range; refine wpList_range_own _ rfl _ 35 rfl 3 36 intKeyed Try.underlying35 RV b n D rfl HO.out.1 ?_; intro w0 hrg0 hg0 hs0) | fail)
  go_frame
  obtain ⟨r, hr⟩ : ∃ r, w1.heap.size = r := ⟨_, rfl⟩
  have hB0 : Below w.heap.size w w0 := below_only HR.out.2.2.1 (hg0.but w1.heap.size) HR.out.2.2.1.size HR.out.2.2.1.size
  rw [hr] at hrg0 ⊢
  obtain ⟨m, hm⟩ : ∃ m, (readP l).1 = m := ⟨_, rfl⟩
  have HM := Lib.hid (show RM f m ∧ n ≤ 1000 ∧ (readP l).1 = m ∧ mm ≤ n from ⟨by rw [← hm]; exact HR.out.2.1, by have := HR.out.2.2.2.2; have := H.out.2; omega, hm, HO.out.2.2.2⟩)
  have H0 : Hid (w0.ranges Try.prog 3 RV b r n D (Maps.has D) (Maps.size D) ∧ Below w.heap.size w w0 ∧ w.heap.size ≤ r ∧ r < w0.heap.size) := Lib.hid ⟨hrg0, hB0, by have := HR.out.2.2.1.size; omega, by obtain ⟨_, _, _, _, _, _, _, _, _, hx, _⟩ := hrg0; exact (Array.getElem?_eq_some_iff.1 hx).1⟩
  clear hrg0 hg0 hs0 hB0 hr hm
  go_loopw [3] (fun t3 wr => ∃ (left : Lit → Bool) (cnt k c' : Nat) (A' : Option Addr) (L : List Int), t3 = .slice A' k c' ∧ Hid (k = L.length ∧ Gath m left L ∧ L.length + cnt ≤ mm ∧ wr.ranges Try.prog 3 RV b r n D left cnt ∧ Below w.heap.size w wr ∧ RI wr w.heap.size (.slice A' k c') L ∧ (∀ q, (Value.slice A' k c').ownBlock = some q → w.heap.size ≤ q ∧ r < q ∧ b ≠ q) ∧ r < wr.heap.size ∧ w.heap.size ≤ r)) (fun _ wr => wr.rangeLeft b r)
  case atStart =>
    exact ⟨Maps.has D, Maps.size D, 0, 0, none, [], rfl, Lib.hid ⟨rfl, ⟨List.nodup_nil, fun x => ⟨fun h => (by cases h), fun h => by
      exfalso
      have h1 := (HO.out.2.2.1 (ki x)).1
      rw [h.2, HM.out.1.1 x, h.1] at h1
      cases h1⟩⟩, by rw [HO.out.2.1]; simp, H0.out.1, H0.out.2.1, Kd.R_nil _ _ _ _ _, fun q hq => (by cases hq), H0.out.2.2.2, H0.out.2.2.1⟩⟩
  case round =>
    obtain ⟨left, cnt, k, c', A', L, rfl, HI⟩ := hrel
    clear H0
    go_wp2_with (first | (at_next; refine wpl_next_states rfl _ rfl b r n D left cnt f m rfl HI.out.2.2.2.1 HO.out.2.2.1 HM.out.1 ?_ ?_) | fail)
    · intro hc0 hl0
      obtain ⟨a1, a2, a3, a4, a5, a6, a7, a8, a9⟩ := HI.out
      have hS := a2.sorted hl0
      have hAl : aliveL l = (L.mergeSort fun x y => decide (x ≤ y)) := alive_eq (by rw [HM.out.2.2.1]; exact hS)
      have H9 := Lib.hid (And.intro hAl (And.intro a5 a6))
      subst a1
      by_cases hL : L.length = 0
      · have e0 : L = [] := List.eq_nil_of_length_eq_zero hL
        subst e0
        clear HI a2 a3 a4 a5 a6 a7 a8 a9 hS hAl hc0 hl0
        go_wp2_with fail
        refine (Try.slices_Sort_int_none A' c' wr).mono ?_
        rintro e w9 ⟨rfl, rfl⟩
        go_wp2_with fail
        go_ret
        exact ⟨.slice A' 0 c', rfl, by rw [H9.out.1, List.mergeSort_nil]; exact H9.out.2.2, H9.out.2.1⟩
      · have hown := Kd.own_of_R (enc := Value.int .i64) (h1 := fun _ => rfl) a6
        obtain ⟨g, cap, cur, hv, hgb, hcur, hcap, hmax, hcs, htk⟩ : ∃ g cap cur, Value.slice A' L.length c' = .slice (some ⟨g, 0, none⟩) L.length cap ∧ w.heap.size ≤ g ∧ wr.heap[g]? = some (.cells cur 3 (0, 0)) ∧ L.length ≤ cap ∧ cap ≤ maxLen ∧ cur.size = cap * 1 ∧ cur.toList.take (L.length * 1) = encs (Value.int .i64) L := hown.2.resolve_left fun h => hL h.2
        injection hv with hv1 _ hv3
        subst hv1 hv3
        have hH := holds_of_blockI (ss := L) hcur (by rw [Nat.mul_one] at htk; exact htk)
        have hml : (L.mergeSort fun x y => decide (x ≤ y)).length = L.length := (List.mergeSort_perm L _).length_eq
        have hL9 : L.length ≤ 1000 := by have := HM.out.2.1; have := HM.out.2.2.2; omega
        have HZ := Lib.hid (And.intro hgb (And.intro hcur (And.intro hcap (And.intro hmax (And.intro hcs (And.intro hml (And.intro hH hL9)))))))
        have hgl : g < wr.heap.size := (Array.getElem?_eq_some_iff.1 hcur).1
        replace hgl := Lib.hid hgl
        clear HI a2 a3 a4 a5 a6 a7 a8 a9 hS hAl hc0 hl0 hown hgb hcur hcap hmax hcs htk hH hml hL9
        go_wp2_with fail
        refine (Try.slices_Sort_int g 0 c' L wr HZ.out.2.2.2.2.2.2.1 hgl.out (by have := HZ.out.2.2.2.2.2.2.2; omega)).mono ?_
        rintro e w9 ⟨rfl, q, os, rfl⟩
        have h10 := ownsRow_sortedI (base := w.heap.size) (n := q) (os := os) (ss := L) HZ.out.2.2.2.2.2.1 HZ.out.1 HZ.out.2.1 HZ.out.2.2.1 HZ.out.2.2.2.1 HZ.out.2.2.2.2.1
        have H10 := Lib.hid (And.intro h10 (below_only H9.out.2.1 (grownBy_sortedI (w := wr) (g := g) (n := q) (os := os) (L.mergeSort fun x y => decide (x ≤ y)).toArray) HZ.out.1 H9.out.2.1.size))
        clear h10
        generalize Go.Sort.grow _ _ = w10 at H10 ⊢
        go_wp2_with fail
        go_ret
        refine ⟨.slice (some ⟨g, 0, none⟩) L.length c', rfl, ?_, H10.out.2⟩
        rw [H9.out.1]
        refine Kd.R_of_own (enc := Value.int .i64) (h1 := fun _ => rfl) ?_ (fun _ _ => trivial)
        rw [HZ.out.2.2.2.2.2.1]
        exact H10.out.1
    · intro x s w2 cnt2 HE hen
      have hmeas : w2.rangeLeft b r < wr.rangeLeft b r := by rw [HE.out.2.2.1.left_eq, HI.out.2.2.2.1.left_eq]; exact HE.out.2.2.2.1
      have HMS := Lib.hid hmeas
      have HMS2 : Hid (cnt2 < wr.rangeLeft b r) := Lib.hid (by rw [HI.out.2.2.2.1.left_eq]; exact HE.out.2.2.2.1)
      obtain ⟨a1, a2, a3, a4, a5, a6, a7, a8, a9⟩ := HI.out
      have ha6 : RI w2 w.heap.size (.slice A' k c') L := a6.kept HE.out.2.2.2.2.1 (.inr fun e => by have := (a7 r e).2.1; omega)
      have H2 : Hid (w2.ranges Try.prog 3 RV b r n D (fun z => left z && !z.sameKey (ki x)) cnt2 ∧ Below w.heap.size w w2 ∧ RI w2 w.heap.size (.slice A' k c') L ∧ r < w2.heap.size ∧ cnt2 < cnt) := Lib.hid ⟨HE.out.2.2.1, below_only a5 HE.out.2.2.2.2.1 a9 a5.size, ha6, by have := HE.out.2.2.2.2.2; omega, HE.out.2.2.2.1⟩
      clear ha6 hmeas a1 a2 a3 a4 a5 a6 a7 a8 a9
      by_cases s1 : s = 1
      · have s1b : (s == 1) = true := by rw [s1]; rfl
        have HG := Lib.hid (HI.out.2.1.yes HE.out.2.1 (by rw [HE.out.1, s1]))
        replace s1 := Lib.hid s1
        have HI2 : Hid (Below w.heap.size w (w2.alloc (.cells #[.int .i64 x] 3)) ∧ (w2.alloc (.cells #[.int .i64 x] 3)).ranges Try.prog 3 RV b r n D (fun z => left z && !z.sameKey (ki x)) cnt2 ∧ RI (w2.alloc (.cells #[.int .i64 x] 3)) w.heap.size (.slice A' k c') L) := Lib.hid ⟨H2.out.2.1.alloc H2.out.2.1.size _, H2.out.1.alloc _, Kd.R_below H2.out.2.2.1 ((Below.refl _ _).alloc (Nat.le_refl _) _)⟩
        have HA := Lib.hid (heap_alloc_new w2 (.cells #[.int .i64 x] 3))
        obtain ⟨k', rfl⟩ : ∃ k', k' = k := ⟨k, rfl⟩
        have hk := HI.out.1
        subst hk
        go_wp2_with (at_builtin; refine Kd.R_append_row (Value.int .i64) 0 (w0 := w) (h1 := fun _ => rfl) w.heap.size rfl (.tmp 22) (.tmp 24) 27 3 (.int .i64 0) 8 rfl Try.underlying27 infoInt2 rfl (by decide) (.slice A' L.length c') L [x] (some ⟨w2.heap.size, 0, none⟩) 1 1 (fun _ => True) rfl rfl (fun _ _ => trivial) HI2.out.2.2 (one_C w2 x) HI2.out.1 HI2.out.1.size (by have := HI.out.2.2.1; have := HM.out.2.1; have := HM.out.2.2.2; omega) ?_)
        rintro v7 w7 hr7 hb7 hg7 ho7
        obtain ⟨A7, c7, rfl⟩ := Kd.R_slice hr7
        have H7 : Hid (L.length + 1 = (L ++ [x]).length ∧ Gath m (fun z => left z && !z.sameKey (ki x)) (L ++ [x]) ∧ (L ++ [x]).length + cnt2 ≤ mm ∧ w7.ranges Try.prog 3 RV b r n D (fun z => left z && !z.sameKey (ki x)) cnt2 ∧ Below w.heap.size w w7 ∧ RI w7 w.heap.size (.slice A7 (L.length + 1) c7) (L ++ [x]) ∧ (∀ q, (Value.slice A7 (L.length + 1) c7).ownBlock = some q → w.heap.size ≤ q ∧ r < q ∧ b ≠ q) ∧ r < w7.heap.size ∧ w.heap.size ≤ r) := Lib.hid (by
          obtain ⟨a1, a2, a3, a4, a5, a6, a7, a8, a9⟩ := HI.out
          have hbl : b < w2.heap.size := by obtain ⟨_, _, _, _, _, hx, _⟩ := H2.out.1; exact (Array.getElem?_eq_some_iff.1 hx).1
          refine ⟨by simp, HG.out, by have := H2.out.2.2.2.2; simp; omega, HI2.out.2.1.kept hg7 (fun e => ?_) (fun e => ?_), hb7, by have h8 := hr7; rw [List.length_append] at h8; exact h8, fun q hq => ?_, by have := hg7.size; have := H2.out.2.2.2.1; simp at this ⊢; have h9 : (w2.alloc (.cells #[.int .i64 x] 3)).heap.size = w2.heap.size + 1 := (by simp); omega, a9⟩
          · exact (a7 b e.symm).2.2 rfl
          · have := (a7 r e.symm).2.1; omega
          · have hq' : (Value.slice A7 (L ++ [x]).length c7).ownBlock = some q := by simpa using hq
            rcases ho7 with ho | ⟨q7, ho, hge⟩
            · exact a7 q (by rw [← ho]; exact hq')
            · rw [ho] at hq'
              have hq := Option.some.inj hq'
              have h9 : (w2.alloc (.cells #[.int .i64 x] 3)).heap.size = w2.heap.size + 1 := (by simp)
              have := H2.out.2.1.size
              have := H2.out.2.2.2.1
              exact ⟨by omega, by omega, by omega⟩)
        clear hr7 hb7 hg7 ho7 HI HI2 HA HG HE H2
        go_wp2_with fail
        go_roundw
        case rel => exact ⟨_, cnt2, L.length + 1, c7, A7, L ++ [x], by simp, H7⟩
        case measure => rw [H7.out.2.2.2.1.left_eq]; exact HMS2.out
      · have s1b : (s == 1) = false := by simpa using s1
        have HG := Lib.hid (HI.out.2.1.no (x := x) (by rw [HE.out.1]; intro e; exact s1 (Option.some.inj e)))
        replace s1 := Lib.hid s1
        go_wp2_with fail
        go_roundw
        case rel => exact ⟨_, cnt2, k, c', A', L, rfl, Lib.hid ⟨HI.out.1, HG.out, by have := HI.out.2.2.1; have := H2.out.2.2.2.2; omega, H2.out.1, H2.out.2.1, H2.out.2.2.1, HI.out.2.2.2.2.2.2.1, H2.out.2.2.2.1, HI.out.2.2.2.2.2.2.2.2⟩⟩
        case measure => exact HMS.out
end Go.Proofs.Ytnpmmmgaghhndaa.Lf
namespace Go.Proofs.Ytnpmmmgaghhndaa.Given
open Go.RowKit Go.Proofs.YtnpmmmgaghhndaaW.PrintWords Go.Proofs.Ytnpmmmgaghhndaa.PLifeBegins Go.Proofs.Ytnpmmmgaghhndaa.Lf
def life_Right.f (l : List S23) : Option Bool := if l.length ≤ 1000 ∧ ∀ e ∈ l, (Lit.int .i64 e.f1).wf = true then some (readP l).2 else none
theorem life_Right.calls (A0 : Option Addr) (c0 : Nat) (l0 : List S23) (r : Bool) (w : World) (hr0 : Kd.C k23 w A0 l0.length l0) (hc0 : l0.length ≤ c0) (h : life_Right.f l0 = some r) :
    Calls Try.prog 8 #[.slice A0 l0.length c0] w fun e w' => e = .returned (.bool r) ∧ Below w.heap.size w w' := by
  unfold life_Right.f at h
  by_cases c : l0.length ≤ 1000 ∧ ∀ e ∈ l0, (Lit.int .i64 e.f1).wf = true
  · rw [if_pos c] at h
    obtain rfl := Option.some.inj h
    exact Right_any A0 c0 l0 w hr0 hc0 c.2 c.1
  · rw [if_neg c] at h
    cases h
noncomputable def life_Alive.f (l : List S23) : Option (List Int) := if l.length ≤ 1000 ∧ ∀ e ∈ l, (Lit.int .i64 e.f1).wf = true then some (aliveL l) else none
theorem life_Alive.calls (A0 : Option Addr) (c0 : Nat) (l0 : List S23) (r : List Int) (w : World) (hr0 : Kd.C k23 w A0 l0.length l0) (hc0 : l0.length ≤ c0) (h : life_Alive.f l0 = some r) :
    Calls Try.prog 10 #[.slice A0 l0.length c0] w fun e w' => ∃ v0_ : Value, e = .returned (v0_) ∧ Kd.R (Kd.int .i64) 3 w' w.heap.size (fun _ => True) v0_ r ∧ Below w.heap.size w w' := by
  unfold life_Alive.f at h
  by_cases c : l0.length ≤ 1000 ∧ ∀ e ∈ l0, (Lit.int .i64 e.f1).wf = true
  · rw [if_pos c] at h
    obtain rfl := Option.some.inj h
    exact Alive_any A0 c0 l0 w hr0 hc0 c.2 c.1
  · rw [if_neg c] at h
    cases h
end Go.Proofs.Ytnpmmmgaghhndaa.Given
