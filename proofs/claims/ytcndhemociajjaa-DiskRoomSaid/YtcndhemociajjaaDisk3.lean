/- Package disk: the disk's state; done, put (printed by wip/law23/gen_Disk3.py out of Disk3.body). -/
import Derived.Test.YtcndhemociajjaaDisk2
set_option linter.unusedVariables false
set_option linter.unusedSimpArgs false
namespace Go.Proofs.Ytcndhemociajjaa.Dk
open Go.RowKit Go.Maps Go.WideMaps Go.Proofs.YtcndhemociajjaaW.PrintWords Go.Proofs.YtcndhemociajjaaW.PrintLast Go.Proofs.Ytcndhemociajjaa.Sl Go.Proofs.Ytcndhemociajjaa.Mv Go.Proofs.Ytcndhemociajjaa.PDiskRoom

def nilF : Fl := ⟨.slice none 0 0, []⟩
structure Tk where
  nm : ByteArray
  tn : ByteArray
  f : Fl
  wr : Bool
def Tk.cs (t : Tk) : List Value := [.string t.nm, .string t.tn, t.f.v, .bool t.wr]
def tkEnc : List Tk → List Value
  | [] => []
  | t :: r => t.cs ++ tkEnc r
theorem tkEnc_length (l : List Tk) : (tkEnc l).length = l.length * 4 := by
  induction l with
  | nil => rfl
  | cons t r ih => simp only [tkEnc, List.length_append, ih, Tk.cs, List.length_cons, List.length_nil]; omega
theorem tkEnc_append (l m : List Tk) : tkEnc (l ++ m) = tkEnc l ++ tkEnc m := by
  induction l with
  | nil => rfl
  | cons e l ih => simp [tkEnc, ih]
theorem tkEnc_get (l : List Tk) (i : Nat) (h : i < l.length) : ∀ j u, l[i].cs[j]? = some u → (tkEnc l)[i * 4 + j]? = some u := by
  induction l generalizing i with
  | nil => cases h
  | cons t r ih =>
    intro j u hj
    cases i with
    | zero =>
      have hj5 : j < t.cs.length := (List.getElem?_eq_some_iff.1 hj).1
      simp only [tkEnc, Nat.zero_mul, Nat.zero_add]
      rw [List.getElem?_append_left hj5]
      exact hj
    | succ i =>
      have h5 : t.cs.length = 4 := rfl
      simp only [tkEnc]
      rw [List.getElem?_append_right (by omega), h5, show (i + 1) * 4 + j - 4 = i * 4 + j by omega]
      exact ih i (by simpa using h) j u hj
abbrev TkRow (w : World) (v : Value) (l : List Tk) : Prop := Sl w 48 4 v l.length (tkEnc l)
theorem TkRow.cells {w : World} {g o n c : Nat} {l : List Tk} (h : TkRow w (.slice (some ⟨g, o, none⟩) n c) l) (hn : n = l.length) (i : Nat) (hi : i < l.length) : w.cell? ⟨g, o + i * 4, none⟩ = some (.string l[i].nm) ∧ w.cell? ⟨g, o + i * 4 + 1, none⟩ = some (.string l[i].tn) ∧ w.cell? ⟨g, o + i * 4 + 2, none⟩ = some l[i].f.v ∧ w.cell? ⟨g, o + i * 4 + 3, none⟩ = some (.bool l[i].wr) := by
  subst hn
  have key := fun j u hj => Sl.cell h (i * 4 + j) u (tkEnc_get l i hi j u hj)
  exact ⟨key 0 _ rfl, key 1 _ rfl, key 2 _ rfl, key 3 _ rfl⟩
/-- What a task makes of files. -/
def doneL (fs : FS) (t : Tk) : FS := if t.wr = true then pt fs t.nm t.f else if t.tn = ⟨#[]⟩ then dl fs t.nm else pt (dl fs t.nm) t.tn ((lk fs t.nm).getD nilF)
theorem MapV.mono {k : TypeId} {w : World} {b n n' m : Nat} {f : Lit → Option Value} (h : MapV k w b n m f) (hn : n ≤ n') : MapV k w b n' m f := by
  obtain ⟨D, ⟨es, c, h1, h2, h3, h4⟩, h5⟩ := h.out
  exact ⟨D, ⟨es, c, h1, h2, Nat.le_trans h3 hn, h4⟩, h5⟩
theorem FM.mono {w : World} {b n n' : Nat} {fs : FS} (h : FM w b n fs) (hn : n ≤ n') : FM w b n' fs := ⟨h.nodup, MapV.mono h.map hn, h.rows⟩
theorem lk_row {w : World} {b n : Nat} {fs : FS} (h : FM w b n fs) (s : ByteArray) : BRow w ((lk fs s).getD nilF).v ((lk fs s).getD nilF).l := by
  cases e : lk fs s with
  | none => exact Sl.nil _ _ _
  | some x => exact (h.rows _ (lk_mem e)).1
theorem lk_val (fs : FS) (s : ByteArray) : ((lk fs s).map (·.v)).getD (.slice none 0 0) = ((lk fs s).getD nilF).v := by
  cases lk fs s <;> rfl
theorem grown_grown {w w1 w2 : World} {b : Nat} (h : w.grownBy w1 (some b)) (h2 : w1.grownBy w2 (some b)) : w.grownBy w2 (some b) := ⟨h2.os.trans h.os, h2.tape.trans h.tape, h2.output.trans h.output, Nat.le_trans h.size h2.size, fun k hk hne => (h2.block k (Nat.lt_of_lt_of_le hk h.size) hne).trans (h.block k hk hne)⟩
theorem below_grown {B : Nat} {w0 w w' : World} {row : Option Nat} (h : Below B w0 w) (g : w.grownBy w' row) (hr : ∀ k, row = some k → B ≤ k) (hB : B ≤ w.heap.size) : Below B w0 w' :=
  ⟨g.os.trans h.os, g.tape.trans h.tape, g.output.trans h.output, Nat.le_trans h.size g.size, fun k hk => (g.block k (Nat.lt_of_lt_of_le hk hB) (fun e => by have := hr k e.symm; omega)).trans (h.block k hk)⟩
theorem size_str {s : ByteArray} : s.size ≤ 16 → s.size ≤ maxLen := fun h => by unfold maxLen; omega
theorem str_beq (x y : ByteArray) : (x.toList == y.toList) = decide (x = y) := by
  rw [Bool.eq_iff_iff, decide_eq_true_iff, beq_iff_eq, ByteArray.toList_eq, ByteArray.toList_eq]
  constructor
  · intro h
    obtain ⟨⟨x⟩⟩ := x
    obtain ⟨⟨y⟩⟩ := y
    have h : x = y := h
    rw [h]
  · intro h
    rw [h]
theorem ne_empty (x : ByteArray) : x.toList.isEmpty = decide (x = ⟨#[]⟩) := by
  rw [← str_beq x ⟨#[]⟩, show (⟨#[]⟩ : ByteArray).toList = [] from by rw [ByteArray.toList_eq]]
  cases x.toList <;> rfl
set_option maxHeartbeats 4000000 in
set_option maxRecDepth 100000 in
theorem done_any (b n : Nat) (fs : FS) (t : Tk) (w : World) (h : FM w b n fs) (hn : n < 90000) (hnm : t.nm.size ≤ 16) (hto : t.tn.size ≤ 16) (hb : BRow w t.f.v t.f.l) : Calls Try.prog 22 #[.map (some b), .agg #[.string t.nm, .string t.tn, t.f.v, .bool t.wr]] w fun e w' => e = .returned (.tuple #[]) ∧ FM w' b (n + 1) (doneL fs t) ∧ w.grownBy w' (some b) := by
  have HF := Lib.hid (And.intro h (And.intro hb (And.intro hn (And.intro hnm hto))))
  clear h hb hn hnm hto
  obtain ⟨A, c, hv, _⟩ := HF.out.2.1.form
  rw [hv]
  have HV := Lib.hid hv
  clear hv
  obtain ⟨q, hq⟩ : ∃ q, t.f.l.length = q := ⟨_, rfl⟩
  rw [hq] at HV ⊢
  clear hq
  go_enter Try.func22, Try.ntmps22
  go_upto_region 2 with fail
  have hk : (w.alloc (.cells #[.string t.nm, .string t.tn, .slice A q c, .bool t.wr] 48)).heap[w.heap.size]? = some (.cells #[.string t.nm, .string t.tn, .slice A q c, .bool t.wr] 48 (0, 0)) := heap_alloc_new _ _
  have hb : BRow (w.alloc (.cells #[.string t.nm, .string t.tn, .slice A q c, .bool t.wr] 48)) t.f.v t.f.l := HF.out.2.1.below ((Below.refl _ _).alloc (Nat.le_refl _) _)
  have hf : FM (w.alloc (.cells #[.string t.nm, .string t.tn, .slice A q c, .bool t.wr] 48)) b n fs := HF.out.1.below ((Below.refl _ _).alloc (Nat.le_refl _) _)
  have hg : w.grownBy (w.alloc (.cells #[.string t.nm, .string t.tn, .slice A q c, .bool t.wr] 48)) (some b) := World.grownBy_alloc w _ _
  generalize w.alloc (.cells #[.string t.nm, .string t.tn, .slice A q c, .bool t.wr] 48) = w1 at hk hb hf hg ⊢
  generalize w.heap.size = K at hk ⊢
  have y0 : w1.cell? ⟨K, 0, none⟩ = some (.string t.nm) := by simp [World.cell?, hk]
  have y1 : w1.cell? ⟨K, 1, none⟩ = some (.string t.tn) := by simp [World.cell?, hk]
  have y2 : w1.cell? ⟨K, 2, none⟩ = some (.slice A q c) := by simp [World.cell?, hk]
  have y3 : w1.cell? ⟨K, 3, none⟩ = some (.bool t.wr) := by simp [World.cell?, hk]
  have H1 := Lib.hid (And.intro hb (And.intro hf (And.intro hg hk)))
  clear hb hf hg hk
  cases hwr : t.wr with
  | true =>
    have hd : doneL fs t = pt fs t.nm t.f := by unfold doneL; rw [if_pos hwr]
    obtain ⟨w2, hr2, hf2, hg2⟩ := H1.out.2.1.put (by have := HF.out.2.2.1; omega) t.nm HF.out.2.2.2.1 t.f H1.out.1
    rw [HV.out] at hr2
    have H2 := Lib.hid (And.intro hf2 (And.intro (grown_grown H1.out.2.2.1 hg2) hd))
    rw [hwr] at y3
    clear hf2 hg2 hd hwr
    go_wp2_with fail
    refine ⟨rfl, .tuple #[], by simp [results, Try.results22, go_sem], rfl, ?_, H2.out.2.1⟩
    rw [H2.out.2.2]
    exact H2.out.1
  | false =>
    have hs : (!t.tn.toList.isEmpty) = !decide (t.tn = ⟨#[]⟩) := by rw [ne_empty]
    by_cases hto : t.tn = ⟨#[]⟩
    · have hd : doneL fs t = dl fs t.nm := by unfold doneL; rw [if_neg (by rw [hwr]; decide), if_pos hto]
      rw [decide_eq_true hto, Bool.not_true] at hs
      obtain ⟨w2, hr2, hf2, hg2⟩ := H1.out.2.1.del t.nm HF.out.2.2.2.1 0
      have H2 := Lib.hid (And.intro (hf2.mono (Nat.le_succ n)) (And.intro (grown_grown H1.out.2.2.1 hg2) hd))
      rw [hwr] at y3
      clear hf2 hg2 hd hwr hto
      go_wp2_with fail
      refine ⟨rfl, .tuple #[], by simp [results, Try.results22, go_sem], rfl, ?_, H2.out.2.1⟩
      rw [H2.out.2.2]
      exact H2.out.1
    · have hd : doneL fs t = pt (dl fs t.nm) t.tn ((lk fs t.nm).getD nilF) := by unfold doneL; rw [if_neg (by rw [hwr]; decide), if_neg hto]
      rw [decide_eq_false hto, Bool.not_false] at hs
      have hlk := H1.out.2.1.get t.nm HF.out.2.2.2.1
      rw [lk_val] at hlk
      have hbl := lk_row H1.out.2.1 t.nm
      obtain ⟨w2, hr2, hf2, hg2⟩ := H1.out.2.1.del t.nm HF.out.2.2.2.1 0
      have hbl2 := hbl.turned hg2 (hbl.ne_map H1.out.2.1.map)
      obtain ⟨w3, hr3, hf3, hg3⟩ := hf2.put (by have := HF.out.2.2.1; omega) t.tn HF.out.2.2.2.2 ((lk fs t.nm).getD nilF) hbl2
      have hk2 : w2.heap[K]? = w1.heap[K]? := hg2.block K (Array.getElem?_eq_some_iff.1 H1.out.2.2.2).1 (fun e => by
        obtain ⟨es, c0, hc⟩ := H1.out.2.1.map.obj
        have e := Option.some.inj e
        rw [← e, H1.out.2.2.2] at hc
        cases hc)
      have hk3 := hk2.trans H1.out.2.2.2
      have z1 : w2.cell? ⟨K, 1, none⟩ = some (.string t.tn) := by simp [World.cell?, hk3]
      have H2 := Lib.hid (And.intro hf3 (And.intro (grown_grown (grown_grown H1.out.2.2.1 hg2) hg3) hd))
      rw [hwr] at y3
      clear hf2 hg2 hd hwr hto hbl hbl2 hf3 hg3 hk2 hk3
      go_wp2_with fail
      refine ⟨rfl, .tuple #[], by simp [results, Try.results22, go_sem], rfl, ?_, H2.out.2.1⟩
      rw [H2.out.2.2]
      exact H2.out.1
theorem infoTask : (Try.prog.info? 48).map (fun i => (i.zero, i.size, i.bytes)) = some (some (.agg #[(.string ⟨#[]⟩), (.string ⟨#[]⟩), .slice none 0 0, .bool false]), 4, 64) := by kernel_rfl
theorem tkEnc_one (l : List Tk) (h : ∀ t ∈ l, ∃ A n c, t.f.v = .slice A n c) : ∀ u ∈ tkEnc l, u.oneCell' = true := by
  induction l with
  | nil => intro u h; simp [tkEnc] at h
  | cons e l ih =>
    intro u hu
    simp only [tkEnc, Tk.cs, List.cons_append, List.nil_append, List.mem_cons] at hu
    rcases hu with rfl | rfl | rfl | rfl | hu
    · rfl
    · rfl
    · obtain ⟨A, n, c, e1⟩ := h e (by simp)
      rw [e1]
      rfl
    · rfl
    · exact ih (fun t ht => h t (by simp [ht])) u hu
theorem TkRow.form {w : World} {v : Value} {l : List Tk} (h : TkRow w v l) : ∃ A c, v = .slice A l.length c ∧ l.length ≤ c := Sl.form h
theorem TkRow.below {w w' : World} {v : Value} {l : List Tk} (h : TkRow w v l) (hB : Below w.heap.size w w') : TkRow w' v l := Sl.below h hB (Nat.le_refl _)
theorem run_append_task (w : World) (v : Value) (l : List Tk) (t : Tk) (a : Addr) (c : Nat) (ty : TypeId) (h : TkRow w v l) (hm : ∀ j u, (tkEnc [t])[j]? = some u → w.cell? (a.add j) = some u) (ht : ∃ A n c, t.f.v = .slice A n c) (hl : l.length ≤ 90000) :
    ∃ A c' w', (Builtin.append_ #[41, 41] ty #[v, .slice (some a) 1 c]).run Try.prog w = .ok (.slice A (l.length + 1) c') w' ∧ TkRow w' (.slice A (l.length + 1) c') (l ++ [t]) ∧ w.grownBy w' v.ownBlock ∧ ((Value.slice A (l.length + 1) c').ownBlock = v.ownBlock ∨ (Value.slice A (l.length + 1) c').ownBlock = some w.heap.size) := by
  obtain ⟨i0, hi, hzz⟩ := Option.map_eq_some_iff.1 infoTask
  simp only [Prod.mk.injEq] at hzz
  obtain ⟨hz0, hz1, hz2⟩ := hzz
  obtain ⟨g', o', c', w', h1, h2, h3, h4⟩ := run_append_sl (P := Try.prog) w 41 ty 48 i0 _ 4 64 Try.underlying41 hi hz0 hz1 hz2 rfl v l.length (tkEnc l) h a 1 c (tkEnc [t]) (tkEnc_length [t]) hm (tkEnc_one [t] (by simpa using ht)) (by omega) (by unfold maxLen; omega) (by omega)
  refine ⟨some ⟨g', o', none⟩, c', w', h1, by unfold TkRow; rw [List.length_append, tkEnc_append]; exact h2, h3, ?_⟩
  rcases h4 with h4 | h4
  · exact .inl h4.symm
  · exact .inr (by rw [h4]; rfl)
/-- The disk's state: nothing armed. -/
structure DA (w0 w : World) (d bf bn n1 n2 : Nat) (firm now : FS) (wait : List Tk) (vw : Value) : Prop where
  low : Below w0.heap.size w0 w
  obj : w.heap[d]? = some (.cells #[.map (some bf), .map (some bn), vw, .bool false, .bool false, .int .i64 0] 43 (0, 0))
  firmM : FM w bf n1 firm
  nowM : FM w bn n2 now
  wrow : TkRow w vw wait
  wb : ∀ t ∈ wait, BRow w t.f.v t.f.l ∧ t.nm.size ≤ 16 ∧ t.tn.size ≤ 16
  ge : w0.heap.size ≤ d ∧ w0.heap.size ≤ bf ∧ w0.heap.size ≤ bn ∧ bf ≠ bn
  gw : ∀ k, vw.ownBlock = some k → w0.heap.size ≤ k
section
variable {w0 w w' : World} {d bf bn n1 n2 : Nat} {firm now now' : FS} {wait : List Tk} {vw vw' : Value}
theorem DA.lt (h : DA w0 w d bf bn n1 n2 firm now wait vw) : d < w.heap.size := (Array.getElem?_eq_some_iff.1 h.obj).1
theorem DA.below (h : DA w0 w d bf bn n1 n2 firm now wait vw) (hB : Below w.heap.size w w') : DA w0 w' d bf bn n1 n2 firm now wait vw :=
  ⟨h.low.trans (hB.mono h.low.size), (hB.block d h.lt).trans h.obj, h.firmM.below hB, h.nowM.below hB, h.wrow.below hB, fun t ht => ⟨(h.wb t ht).1.below hB, (h.wb t ht).2⟩, h.ge, h.gw⟩
theorem DA.c (h : DA w0 w d bf bn n1 n2 firm now wait vw) : w.cell? ⟨d, 0, none⟩ = some (.map (some bf)) ∧ w.cell? ⟨d, 1, none⟩ = some (.map (some bn)) ∧ w.cell? ⟨d, 2, none⟩ = some vw ∧ w.cell? ⟨d, 3, none⟩ = some (.bool false) ∧ w.cell? ⟨d, 4, none⟩ = some (.bool false) ∧ w.cell? ⟨d, 5, none⟩ = some (.int .i64 0) := by
  have h1 := h.obj
  refine ⟨?_, ?_, ?_, ?_, ?_, ?_⟩ <;> simp [World.cell?, h1]
theorem DA.z (h : DA w0 w d bf bn n1 n2 firm now wait vw) (j : Nat) : w.frozen? ⟨d, j, none⟩ = false := by
  have h1 := h.obj
  simp [World.frozen?, h1]
theorem obj_ne_map {k : TypeId} {b n m : Nat} {f : Lit → Option Value} (h : DA w0 w d bf bn n1 n2 firm now wait vw) (hm : MapV k w b n m f) : d ≠ b := fun e => by
  obtain ⟨es, c, hc⟩ := hm.obj
  rw [← e, h.obj] at hc
  cases hc
theorem DA.obj_ne_bytes (h : DA w0 w d bf bn n1 n2 firm now wait vw) {v : Value} {l : List Int} (hb : BRow w v l) : v.ownBlock ≠ some d := fun e => by
  obtain ⟨_, cur, hc⟩ := hb.lt d e
  rw [h.obj] at hc
  injection hc with hc
  injection hc with _ hc
  exact absurd hc (by decide)
theorem DA.obj_ne_wait (h : DA w0 w d bf bn n1 n2 firm now wait vw) : vw.ownBlock ≠ some d := fun e => by
  obtain ⟨_, cur, hc⟩ := h.wrow.lt d e
  rw [h.obj] at hc
  injection hc with hc
  injection hc with _ hc
  exact absurd hc (by decide)
theorem wait_ne_bytes {v v' : Value} {l : List Tk} {l' : List Int} (h : TkRow w v l) (hb : BRow w v' l') (k : Nat) (hk : v'.ownBlock = some k) : v.ownBlock ≠ some k := fun e => by
  obtain ⟨_, c1, h1⟩ := h.lt k e
  obtain ⟨_, c2, h2⟩ := hb.lt k hk
  rw [h1] at h2
  injection h2 with h2
  injection h2 with _ h2
  exact absurd h2 (by decide)
theorem wait_ne_map {v : Value} {l : List Tk} (h : TkRow w v l) {k : TypeId} {b n m : Nat} {f : Lit → Option Value} (hm : MapV k w b n m f) : v.ownBlock ≠ some b := fun e => by
  obtain ⟨_, cur, hc⟩ := h.lt b e
  exact hm.ne hc rfl
/-- The map 'now' has turned. -/
theorem DA.turn (h : DA w0 w d bf bn n1 n2 firm now wait vw) {n2' : Nat} (hf : FM w' bn n2' now') (hg : w.grownBy w' (some bn)) : DA w0 w' d bf bn n1 n2' firm now' wait vw := by
  refine ⟨below_only h.low hg h.ge.2.2.1 h.low.size, (hg.block d h.lt (fun e => obj_ne_map h h.nowM.map (Option.some.inj e))).trans h.obj, h.firmM.move ?_ ?_, hf, Sl.move h.wrow fun k hk => ?_, fun t ht => ⟨(h.wb t ht).1.turned hg ((h.wb t ht).1.ne_map h.nowM.map), (h.wb t ht).2⟩, h.ge, h.gw⟩
  · exact hg.block bf h.firmM.map.lt (fun e => h.ge.2.2.2 (Option.some.inj e))
  · intro p hp k hk
    exact hg.block k ((h.firmM.rows p hp).1.lt k hk).1 (fun e => (h.firmM.rows p hp).1.ne_map h.nowM.map (by rw [hk]; exact e))
  · exact hg.block k (h.wrow.lt k hk).1 (fun e => wait_ne_map h.wrow h.nowM.map (by rw [hk]; exact e))
/-- .. the map 'firm'. -/
theorem DA.turnF (h : DA w0 w d bf bn n1 n2 firm now wait vw) {n1' : Nat} (hf : FM w' bf n1' now') (hg : w.grownBy w' (some bf)) : DA w0 w' d bf bn n1' n2 now' now wait vw := by
  refine ⟨below_only h.low hg h.ge.2.1 h.low.size, (hg.block d h.lt (fun e => obj_ne_map h h.firmM.map (Option.some.inj e))).trans h.obj, hf, h.nowM.move ?_ ?_, Sl.move h.wrow fun k hk => ?_, fun t ht => ⟨(h.wb t ht).1.turned hg ((h.wb t ht).1.ne_map h.firmM.map), (h.wb t ht).2⟩, h.ge, h.gw⟩
  · exact hg.block bn h.nowM.map.lt (fun e => h.ge.2.2.2 (Option.some.inj e).symm)
  · intro p hp k hk
    exact hg.block k ((h.nowM.rows p hp).1.lt k hk).1 (fun e => (h.nowM.rows p hp).1.ne_map h.firmM.map (by rw [hk]; exact e))
  · exact hg.block k (h.wrow.lt k hk).1 (fun e => wait_ne_map h.wrow h.firmM.map (by rw [hk]; exact e))
/-- A task more waits. -/
theorem DA.push (h : DA w0 w d bf bn n1 n2 firm now wait vw) {t : Tk} (ht : BRow w t.f.v t.f.l ∧ t.nm.size ≤ 16 ∧ t.tn.size ≤ 16) (hr : TkRow w' vw' (wait ++ [t])) (hg : w.grownBy w' vw.ownBlock) (ho : vw'.ownBlock = vw.ownBlock ∨ vw'.ownBlock = some w.heap.size) : DA w0 (w'.setCell ⟨d, 2, none⟩ vw') d bf bn n1 n2 firm now (wait ++ [t]) vw' := by
  have hd : w'.heap[d]? = w.heap[d]? := hg.block d h.lt (fun e => h.obj_ne_wait e.symm)
  have hB : ∀ {v : Value} {l : List Int}, BRow w v l → BRow w' v l := fun hv => Sl.move hv fun k hk => hg.block k (hv.lt k hk).1 (fun e => wait_ne_bytes h.wrow hv k hk e.symm)
  have ho' := hd.trans h.obj
  have hs : ∀ {k : Nat}, k ≠ d → (w'.setCell ⟨d, 2, none⟩ vw').heap[k]? = w'.heap[k]? := fun hk => Below.heap_setCell _ _ _ _ hk
  have hrd : vw'.ownBlock ≠ some d := fun e => by
    rcases ho with ho | ho
    · exact h.obj_ne_wait (by rw [← ho]; exact e)
    · rw [ho] at e
      have := Option.some.inj e
      have := h.lt
      omega
  have hB2 : ∀ {v : Value} {l : List Int}, BRow w v l → BRow (w'.setCell ⟨d, 2, none⟩ vw') v l := fun hv => Sl.move (hB hv) fun k hk => hs (fun e => h.obj_ne_bytes hv (by rw [hk, e]))
  have hM : ∀ {b n : Nat} {fs : FS}, FM w b n fs → FM (w'.setCell ⟨d, 2, none⟩ vw') b n fs := fun {b n fs} hf => ⟨hf.nodup, hf.map.move ((hs (fun e => obj_ne_map h hf.map e.symm)).trans (hg.block b hf.map.lt (fun e => wait_ne_map h.wrow hf.map e.symm))), fun p hp => ⟨hB2 (hf.rows p hp).1, (hf.rows p hp).2⟩⟩
  refine ⟨(below_grown h.low hg h.gw h.low.size).setCell h.ge.1 _, by simp [World.setCell, Array.getElem?_modify, ho'], hM h.firmM, hM h.nowM, Sl.move hr fun k hk => hs (fun e => hrd (by rw [hk, e])), fun u hu => ?_, h.ge, fun k hk => ?_⟩
  · rcases List.mem_append.1 hu with hu | hu
    · exact ⟨hB2 (h.wb u hu).1, (h.wb u hu).2⟩
    · obtain rfl := List.mem_singleton.1 hu
      exact ⟨hB2 ht.1, ht.2⟩
  · rcases ho with ho | ho
    · exact h.gw k (by rw [← ho]; exact hk)
    · rw [ho] at hk
      cases hk
      exact h.low.size
end
end Go.Proofs.Ytcndhemociajjaa.Dk
