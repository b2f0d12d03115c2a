/- Package past: entries in rows, a past behind a pointer; Clone, New, Can, At, Entries, Now. -/
import Derived.Test.YtobeebcpkkdkhaaPPastRunsx2
import Derived.WalkKit
import Derived.WalkLawsBesides
import Derived.BigQuiet
import Derived.Deep.QuietTactic
import Derived.Lib.Hide
set_option linter.unusedVariables false
set_option linter.unusedSimpArgs false
namespace Go.Proofs.Ytobeebcpkkdkhaa.Pa
open Go.RowKit Go.Proofs.YtobeebcpkkdkhaaW.PrintWords Go.Proofs.YtobeebcpkkdkhaaW.PrintLast Go.Proofs.Ytobeebcpkkdkhaa.PPastRuns

/-- An entry's cells; a row's. -/
def cellsOf (e : S28) : List Value := [.string e.f0, .int .u64 e.f1]
def enc : List S28 → List Value
  | [] => []
  | e :: l => .string e.f0 :: .int .u64 e.f1 :: enc l
theorem enc_length (l : List S28) : (enc l).length = l.length * 2 := by
  induction l with
  | nil => rfl
  | cons e l ih => simp only [enc, List.length_cons, ih]; omega
theorem enc_append (l m : List S28) : enc (l ++ m) = enc l ++ enc m := by
  induction l with
  | nil => rfl
  | cons e l ih => simp [enc, ih]
theorem enc_take (l : List S28) (k : Nat) : enc (l.take k) = (enc l).take (k * 2) := by
  induction l generalizing k with
  | nil => simp [enc]
  | cons e l ih =>
    cases k with
    | zero => simp [enc]
    | succ k =>
      rw [List.take_succ_cons, show (k + 1) * 2 = k * 2 + 2 by omega]
      simp only [enc, List.take_succ_cons, ih]
theorem enc_get (l : List S28) (i : Nat) (h : i < l.length) : (enc l)[i * 2]? = some (.string l[i].f0) ∧ (enc l)[i * 2 + 1]? = some (.int .u64 l[i].f1) := by
  induction l generalizing i with
  | nil => simp at h
  | cons e l ih =>
    cases i with
    | zero => simp [enc]
    | succ i =>
      have := ih i (by simpa using h)
      rw [show (i + 1) * 2 = i * 2 + 1 + 1 by omega]
      simpa [enc] using this
theorem enc_one (l : List S28) : ∀ u ∈ enc l, u.oneCell' = true := by
  induction l with
  | nil => intro u h; simp [enc] at h
  | cons e l ih =>
    intro u h
    simp only [enc, List.mem_cons] at h
    rcases h with rfl | rfl | h
    · rfl
    · rfl
    · exact ih u h
theorem enc_reps (w : World) (l : List S28) : Reps (fun x cs => Kd.K k28 w x cs) 2 l (enc l) := by
  induction l with
  | nil => exact Reps.none _ _
  | cons e l ih => exact Reps.c2 (k28_mk w e) ih
/-- v is the row l. -/
abbrev RowOf (w : World) (v : Value) (l : List S28) : Prop := w.ownsRow 0 28 2 v l.length (enc l)
theorem RowOf.reads {w : World} {v : Value} {l : List S28} (h : RowOf w v l) : ∃ A c, v = .slice A l.length c ∧ l.length ≤ c ∧ Kd.C k28 w A l.length l := by
  have h2 := h.2
  obtain ⟨A, c, e, hC⟩ := own_reads_row h (enc_reps w l) rfl
  refine ⟨A, c, e, ?_, hC⟩
  rcases h2 with ⟨e2, h0⟩ | ⟨g, cap, cur, e2, _, _, hc, _⟩
  · omega
  · rw [e] at e2
    injection e2 with _ _ e3
    omega
/-- A past behind a pointer. -/
structure PastAt (w : World) (g : Nat) (v : Value) (l : List S28) (at_ : Int) : Prop where
  obj : w.heap[g]? = some (.cells #[v, .int .i64 at_] 55 (0, 0))
  row : RowOf w v l
/-- But for block g what was there is as it was. -/
structure Upd (g : Nat) (w w' : World) : Prop where
  os : w'.os = w.os
  tape : w'.tape = w.tape
  output : w'.output = w.output
  size : w.heap.size ≤ w'.heap.size
  block : ∀ k, k < w.heap.size → k ≠ g → w'.heap[k]? = w.heap[k]?
theorem Upd.refl (g : Nat) (w : World) : Upd g w w := ⟨rfl, rfl, rfl, Nat.le_refl _, fun _ _ _ => rfl⟩
theorem Upd.of_below {g : Nat} {w w' : World} (h : Below w.heap.size w w') : Upd g w w' := ⟨h.os, h.tape, h.output, h.size, fun k hk _ => h.block k hk⟩
theorem Upd.trans {g : Nat} {a w w' : World} (h : Upd g a w) (k : Upd g w w') : Upd g a w' :=
  ⟨k.os.trans h.os, k.tape.trans h.tape, k.output.trans h.output, Nat.le_trans h.size k.size, fun i hi hg => (k.block i (by have := h.size; omega) hg).trans (h.block i hi hg)⟩
theorem lt_of_cell {w : World} {p : Addr} {v : Value} (h : w.cell? p = some v) : p.block < w.heap.size := by
  rcases Nat.lt_or_ge p.block w.heap.size with h1 | h1
  · exact h1
  · have : w.heap[p.block]? = none := Array.getElem?_eq_none h1
    simp [World.cell?, this] at h
theorem lt_of_heap {w : World} {g : Nat} {o : Obj} (h : w.heap[g]? = some o) : g < w.heap.size := (Array.getElem?_eq_some_iff.1 h).1
/-- A row is none of a past's blocks. -/
theorem row_ne {w : World} {g : Nat} {cs : Array Value} {v : Value} {l : List S28} (ho : w.heap[g]? = some (.cells cs 55 (0, 0))) (h : RowOf w v l) : ∀ k, v.ownBlock = some k → k ≠ g := by
  rintro k hk rfl
  obtain ⟨c, hc⟩ := own_typed h k hk
  rw [ho] at hc
  injection hc with hc
  injection hc with _ hc
  exact absurd hc (by decide)
theorem RowOf.upd {g : Nat} {w w' : World} {cs : Array Value} {v : Value} {l : List S28} (h : RowOf w v l) (ho : w.heap[g]? = some (.cells cs 55 (0, 0))) (hU : Upd g w w') : RowOf w' v l :=
  own_move h (fun k hk => hU.block k (h.lt k hk).2 (row_ne ho h k hk))
theorem RowOf.below {w w' : World} {v : Value} {l : List S28} (h : RowOf w v l) (hB : Below w.heap.size w w') : RowOf w' v l :=
  own_move h (fun k hk => hB.block k (h.lt k hk).2)
theorem PastAt.below {w w' : World} {g : Nat} {v : Value} {l : List S28} {at_ : Int} (h : PastAt w g v l at_) (hB : Below w.heap.size w w') : PastAt w' g v l at_ :=
  ⟨(hB.block g (lt_of_heap h.obj)).trans h.obj, h.row.below hB⟩
theorem PastAt.c0 {w : World} {g : Nat} {v : Value} {l : List S28} {at_ : Int} (h : PastAt w g v l at_) : w.cell? ⟨g, 0, none⟩ = some v := by simp [World.cell?, h.obj]
theorem PastAt.c1 {w : World} {g : Nat} {v : Value} {l : List S28} {at_ : Int} (h : PastAt w g v l at_) : w.cell? ⟨g, 1, none⟩ = some (.int .i64 at_) := by simp [World.cell?, h.obj]
theorem PastAt.f0 {w : World} {g : Nat} {v : Value} {l : List S28} {at_ : Int} (h : PastAt w g v l at_) : w.frozen? ⟨g, 0, none⟩ = false := by simp [World.frozen?, h.obj]
theorem PastAt.f1 {w : World} {g : Nat} {v : Value} {l : List S28} {at_ : Int} (h : PastAt w g v l at_) : w.frozen? ⟨g, 1, none⟩ = false := by simp [World.frozen?, h.obj]

theorem infoEntry : (Try.prog.info? 28).map (fun i => (i.zero, i.size, i.bytes)) = some (some (.agg #[(.string ⟨#[]⟩), (.int .u64 0)]), 2, 24) := by kernel_rfl
/-- An append to a row of the call's own of what is read elsewhere. -/
theorem run_append_entries (w : World) (base : Nat) (v : Value) (l m : List S28) (ad : Addr) (c : Nat) (ty : TypeId) (h : w.ownsRow base 28 2 v l.length (enc l)) (hm : ∀ j u, (enc m)[j]? = some u → w.cell? (ad.add j) = some u) (hl : l.length + m.length ≤ 100000) (hb : base ≤ w.heap.size) :
    ∃ v' w', (Builtin.append_ #[32, 32] ty #[v, .slice (some ad) m.length c]).run Try.prog w = .ok v' w' ∧ w'.ownsRow base 28 2 v' (l ++ m).length (enc (l ++ m)) ∧ w.grownBy w' v.ownBlock := by
  obtain ⟨i0, hi, hzz⟩ := Option.map_eq_some_iff.1 infoEntry
  simp only [Prod.mk.injEq] at hzz
  obtain ⟨hz0, hz1, hz2⟩ := hzz
  obtain ⟨v', w', h1, h2, h3, _⟩ := run_append_own (P := Try.prog) w base 32 ty 28 i0 _ 2 24 Try.underlying32 hi hz0 hz1 hz2 rfl (by decide) v l.length (enc l) h ad m.length c (enc m) (enc_length m) hm (enc_one m) (by unfold maxLen; omega) (by omega) hb
  exact ⟨v', w', h1, by rw [List.length_append, enc_append]; exact h2, h3⟩
theorem wpl_append {ops : Array Oper} {rest : List Oper} {o : Oper} {a : Act} {Q : Exit → Act → World → Prop} {W : World} (hgd : o.guard = none) (s x : Operand)
    (ho : o.op = .call { callee := .builtin .append, args := #[s, x], argTypes := #[32, 32] })
    (base : Nat) (v : Value) (l m : List S28) (ad : Addr) (c : Nat) (hs : a.eval s = v) (hx : a.eval x = .slice (some ad) m.length c) (h : W.ownsRow base 28 2 v l.length (enc l)) (hm : ∀ j u, (enc m)[j]? = some u → W.cell? (ad.add j) = some u) (hl : l.length + m.length ≤ 100000) (hb : base ≤ W.heap.size)
    (K : ∀ v' w', w'.ownsRow base 28 2 v' (l ++ m).length (enc (l ++ m)) → W.grownBy w' v.ownBlock → wpList Try.prog ops Q rest (a.put o.dst v') w') : wpList Try.prog ops Q (o :: rest) a W := by
  obtain ⟨i0, hi, hzz⟩ := Option.map_eq_some_iff.1 infoEntry
  simp only [Prod.mk.injEq] at hzz
  obtain ⟨hz0, hz1, hz2⟩ := hzz
  refine wpList_append_own W hgd s x 32 ho base 28 i0 _ 2 24 Try.underlying32 hi hz0 hz1 hz2 rfl (by decide) v l.length (enc l) hs h ad m.length c (enc m) hx (enc_length m) hm (enc_one m) (by unfold maxLen; omega) (by omega) hb ?_
  intro v' w' h2 h3 _
  exact K v' w' (by rw [List.length_append, enc_append]; exact h2) h3
theorem Clone_any (v : Value) (l : List S28) (w : World) (h : RowOf w v l) (hl : l.length ≤ 1000) :
    Calls Try.prog 24 #[v] w fun en w' => ∃ v2, en = .returned v2 ∧ w'.ownsRow w.heap.size 28 2 v2 l.length (enc l) ∧ Below w.heap.size w w' := by
  rcases h.2 with ⟨rfl, h0⟩ | ⟨r, cap, cur, hv, _, hr, hc, hm, hs, ht⟩
  · have : l = [] := List.length_eq_zero_iff.1 h0
    subst this
    have hn : ∀ w : World, (binOp .eql 32 (.slice none 0 0) (.slice none 0 0)).run Try.prog w = .ok (.bool true) w := fun w => by kernel_rfl
    go_enter Try.func24, Try.ntmps24
    go_wp2_with fail
    go_ret
    exact ⟨_, rfl, World.ownsRow_nil _ _ _ _, Below.refl _ _⟩
  · subst hv
    have hn : ∀ w : World, (binOp .eql 32 (.slice (some ⟨r, 0, none⟩) l.length cap) (.slice none 0 0)).run Try.prog w = .ok (.bool false) w := fun w => rfl
    have hm2 : ∀ j u, (enc l)[j]? = some u → (w.alloc (.cells #[] 28)).cell? ((⟨r, 0, none⟩ : Addr).add j) = some u := fun j u hu => by
      have h1 := h.cells (g := r) rfl j u hu
      rw [((Below.refl w.heap.size w).alloc (Nat.le_refl _) _).cell (lt_of_cell h1)]
      exact h1
    have hown := World.ownsRow_made (base := w.heap.size) (e := 28) (size := 2) w #[] 0 (Nat.le_refl _) (by decide) (by rfl)
    have HM := Lib.hid hm2
    have HO := Lib.hid hown
    clear hm2 hown hr ht hs h
    go_enter Try.func24, Try.ntmps24
    go_wp2_with (at_builtin; refine wpl_append rfl (.tmp 5) (.tmp 6) rfl w.heap.size (.slice (some ⟨w.heap.size, 0, none⟩) 0 0) [] l ⟨r, 0, none⟩ cap rfl rfl HO.out HM.out (by simp; omega) (by simp) ?_)
    intro v2 w2 h2 h3
    go_wp2_with fail
    go_ret
    refine ⟨_, rfl, by simpa using h2, ?_⟩
    exact ⟨h3.os, h3.tape, h3.output, by have := h3.size; simp at this; omega, fun k hk => by
      rw [h3.block k (by simp; omega) (by simp [Value.ownBlock]; omega)]
      exact heap_alloc_old w _ hk⟩
theorem own_lower {w : World} {base n size : Nat} {e : TypeId} {v : Value} {xs : List Value} (h : w.ownsRow base e size v n xs) : w.ownsRow 0 e size v n xs := by
  refine ⟨h.1, ?_⟩
  rcases h.2 with h2 | ⟨g, cap, cur, e1, _, r⟩
  · exact .inl h2
  · exact .inr ⟨g, cap, cur, e1, Nat.zero_le _, r⟩
theorem New_any2 (url : ByteArray) (w : World) : Calls Try.prog 8 #[.string url] w fun en w' => ∃ g v, en = .returned (.pointer (some ⟨g, 0, none⟩)) ∧ PastAt w' g v [⟨url, 0⟩] 0 ∧ w.heap.size ≤ g ∧ Below w.heap.size w w' ∧ ∀ k, v.ownBlock = some k → w.heap.size ≤ k := by
  go_enter Try.func8, Try.ntmps8
  go_wp2_with fail
  go_ret
  refine ⟨w.heap.size + 1, .slice (some ⟨w.heap.size, 0, none⟩) 1 1, rfl, ⟨?_, ?_⟩, by omega, ((Below.refl _ _).alloc (Nat.le_refl _) _).alloc (by simp) _, fun k hk => by have : w.heap.size = k := Option.some.inj hk; omega⟩
  · have := heap_alloc_new (w.alloc (.cells #[.string url, .int .u64 0] 28)) (.cells #[.slice (some ⟨w.heap.size, 0, none⟩) 1 1, .int .i64 0] 55)
    simpa using this
  · have h := World.ownsRow_lit (base := 0) (e := 28) (size := 2) w #[.string url, .int .u64 0] 1 (Nat.zero_le _) (by decide) (by rfl)
    exact h.alloc _
theorem New_any (url : ByteArray) (w : World) : Calls Try.prog 8 #[.string url] w fun en w' => ∃ g v, en = .returned (.pointer (some ⟨g, 0, none⟩)) ∧ PastAt w' g v [⟨url, 0⟩] 0 ∧ w.heap.size ≤ g ∧ Below w.heap.size w w' :=
  (New_any2 url w).mono fun _ _ ⟨g, v, e, h1, h2, h3, _⟩ => ⟨g, v, e, h1, h2, h3⟩
theorem At_any (g : Nat) (v : Value) (l : List S28) (at_ : Int) (w : World) (h : PastAt w g v l at_) : Calls Try.prog 13 #[.pointer (some ⟨g, 0, none⟩)] w fun en w' => en = .returned (.int .i64 at_) ∧ w' = w := by
  have c1 := h.c1
  go_enter Try.func13, Try.ntmps13
  go_wp2_with fail
  go_ret
  exact ⟨rfl, rfl⟩
theorem Entries_any2 (g : Nat) (v : Value) (l : List S28) (at_ : Int) (w : World) (h : PastAt w g v l at_) (hl : l.length ≤ 1000) : Calls Try.prog 12 #[.pointer (some ⟨g, 0, none⟩)] w fun en w' => ∃ v2, en = .returned v2 ∧ RowOf w' v2 l ∧ Below w.heap.size w w' ∧ ∀ k, v2.ownBlock = some k → w.heap.size ≤ k := by
  have c0 := h.c0
  have H := Lib.hid h
  clear h
  go_enter Try.func12, Try.ntmps12
  go_wp2_with fail
  refine (Clone_any v l w H.out.row hl).mono ?_
  rintro e w2 ⟨v2, rfl, h2, hB⟩
  go_wp2_with fail
  go_ret
  exact ⟨_, rfl, own_lower h2, hB, fun k hk => (h2.lt k hk).1⟩
theorem Entries_any (g : Nat) (v : Value) (l : List S28) (at_ : Int) (w : World) (h : PastAt w g v l at_) (hl : l.length ≤ 1000) : Calls Try.prog 12 #[.pointer (some ⟨g, 0, none⟩)] w fun en w' => ∃ v2, en = .returned v2 ∧ RowOf w' v2 l ∧ Below w.heap.size w w' :=
  (Entries_any2 g v l at_ w h hl).mono fun _ _ ⟨v2, e, h1, h2, _⟩ => ⟨v2, e, h1, h2⟩
theorem Can_any (g : Nat) (v : Value) (l : List S28) (at_ n : Int) (w : World) (h : PastAt w g v l at_) (h0 : 0 ≤ at_) (h1 : at_ ≤ 100000) (hl : l.length ≤ 1000) : Calls Try.prog 16 #[.pointer (some ⟨g, 0, none⟩), .int .i64 n] w fun en w' => en = .returned (.bool (decide (-at_ ≤ n ∧ n < (l.length : Int) - at_))) ∧ ∃ q, w' = w.drewN q := by
  have c1 := h.c1
  obtain ⟨A, c, rfl, hc, _⟩ := h.row.reads
  have c0 := h.c0
  have hw1 : wrap64 (-at_) = -at_ := by unfold wrap64; omega
  have hw2 : wrap64 ((l.length : Int) - at_) = (l.length : Int) - at_ := by unfold wrap64; omega
  clear h
  go_enter Try.func16, Try.ntmps16
  by_cases q1 : -at_ ≤ n
  · have b1 : decide (-at_ ≤ n) = true := decide_eq_true q1
    by_cases q2 : n < (l.length : Int) - at_
    · have b2 : decide (n < (l.length : Int) - at_) = true := decide_eq_true q2
      rw [decide_eq_true (And.intro q1 q2)]
      go_wp2
      repeat (go_quiet (fail); try go_wp2)
      go_ret
      exact ⟨rfl, _, rfl⟩
    · have b2 : decide (n < (l.length : Int) - at_) = false := decide_eq_false q2
      rw [decide_eq_false (fun h => q2 h.2)]
      go_wp2
      repeat (go_quiet (fail); try go_wp2)
      go_ret
      exact ⟨rfl, _, rfl⟩
  · have b1 : decide (-at_ ≤ n) = false := decide_eq_false q1
    rw [decide_eq_false (fun h => q1 h.1)]
    go_wp2
    repeat (go_quiet (fail); try go_wp2)
    go_ret
    exact ⟨rfl, _, rfl⟩
theorem Now_any (g : Nat) (v : Value) (l : List S28) (i : Nat) (w : World) (h : PastAt w g v l (i : Int)) (hi : i < l.length) : Calls Try.prog 23 #[.pointer (some ⟨g, 0, none⟩)] w fun en w' => en = .returned (.agg #[.string l[i].f0, .int .u64 l[i].f1]) ∧ Below w.heap.size w w' := by
  have c1 := h.c1
  have c0 := h.c0
  have hlt := lt_of_cell c0
  rcases h.row.2 with ⟨rfl, h0⟩ | ⟨r, cap, cur, rfl, _, hr, hc, hm, hs, ht⟩
  · omega
  · have e1 := h.row.cells (g := r) rfl (i * 2) _ (enc_get l i hi).1
    have e2 := h.row.cells (g := r) rfl (i * 2 + 1) _ (enc_get l i hi).2
    rw [add_plain] at e1 e2
    have lr := lt_of_cell e1
    have q0 : (0 : Int) ≤ (i : Int) := by omega
    have q1 : (i : Int) < (l.length : Int) := by omega
    have hB : ∀ o, Below w.heap.size w (w.alloc o) := fun o => (Below.refl _ _).alloc (Nat.le_refl _) o
    have d0 : ∀ o, (w.alloc o).cell? ⟨g, 0, none⟩ = some (.slice (some ⟨r, 0, none⟩) l.length cap) := fun o => ((hB o).cell hlt).trans c0
    have d1 : ∀ o, (w.alloc o).cell? ⟨g, 1, none⟩ = some (.int .i64 (i : Int)) := fun o => ((hB o).cell (p := ⟨g, 1, none⟩) hlt).trans c1
    have d2 : ∀ o, (w.alloc o).cell? ⟨r, i * 2, none⟩ = some (.string l[i].f0) := fun o => ((hB o).cell lr).trans e1
    have d3 : ∀ o, (w.alloc o).cell? ⟨r, i * 2 + 1, none⟩ = some (.int .u64 l[i].f1) := fun o => ((hB o).cell (p := ⟨r, i * 2 + 1, none⟩) lr).trans e2
    clear c0 c1 e1 e2 hr ht hs h hB
    go_enter Try.func23, Try.ntmps23
    go_wp2_with fail
    go_region
    go_wp2
    simp [bodyPost, results, Try.results23, go_sem]
    exact below_drew1 ((Below.refl _ _).alloc (Nat.le_refl _) _)
theorem PastAt.move1 {w : World} {g : Nat} {v : Value} {l : List S28} {at_ : Int} (h : PastAt w g v l at_) (x : Int) : PastAt (w.setCell ⟨g, 1, none⟩ (.int .i64 x)) g v l x ∧ Upd g w (w.setCell ⟨g, 1, none⟩ (.int .i64 x)) := by
  have hU : Upd g w (w.setCell ⟨g, 1, none⟩ (.int .i64 x)) := ⟨rfl, rfl, rfl, by simp [World.setCell], fun k hk hg => Below.heap_setCell _ _ _ _ hg⟩
  refine ⟨⟨?_, h.row.upd h.obj hU⟩, hU⟩
  simp [World.setCell, Array.getElem?_modify, h.obj]
/-- An entry, as a value. -/
abbrev ent (e : S28) : Value := .agg #[.string e.f0, .int .u64 e.f1]
theorem two_stores {W : World} {g K : Nat} {v x y : Value} {l : List S28} {at_ : Int} (h : PastAt W g v l at_) (hg : g ≠ K) (hv : ∀ k, v.ownBlock = some k → k ≠ K) : PastAt ((W.setCell ⟨K, 0, none⟩ x).setCell ⟨K, 1, none⟩ y) g v l at_ := by
  have hk : ∀ k, k ≠ K → ((W.setCell ⟨K, 0, none⟩ x).setCell ⟨K, 1, none⟩ y).heap[k]? = W.heap[k]? := fun k hk => by
    rw [Below.heap_setCell _ _ _ _ hk, Below.heap_setCell _ _ _ _ hk]
  exact ⟨(hk g hg).trans h.obj, own_move h.row (fun k hk2 => hk k (hv k hk2))⟩
theorem two_below (K : Nat) (W : World) (x y : Value) : Below K W ((W.setCell ⟨K, 0, none⟩ x).setCell ⟨K, 1, none⟩ y) :=
  ((Below.refl K W).setCell (p := ⟨K, 0, none⟩) (Nat.le_refl _) x).setCell (p := ⟨K, 1, none⟩) (Nat.le_refl _) y
theorem Upd.low {g : Nat} {w W W' : World} (h : Upd g w W) (hB : Below w.heap.size W W') : Upd g w W' :=
  ⟨hB.os.trans h.os, hB.tape.trans h.tape, hB.output.trans h.output, Nat.le_trans h.size hB.size, fun k hk h1 => (hB.block k hk).trans (h.block k hk h1)⟩
theorem Go_no (g : Nat) (v : Value) (l : List S28) (at_ n : Int) (w : World) (h : PastAt w g v l at_) (h0 : 0 ≤ at_) (h1 : at_ ≤ 100000) (hl : l.length ≤ 1000) (hn : ¬ (-at_ ≤ n ∧ n < (l.length : Int) - at_)) : Calls Try.prog 10 #[.pointer (some ⟨g, 0, none⟩), .int .i64 n] w fun en w' => en = .returned (.tuple #[ent ⟨⟨#[]⟩, 0⟩, .int .i64 5]) ∧ Below w.heap.size w w' := by
  have hB : ∀ o, Below w.heap.size w (w.alloc o) := fun o => (Below.refl _ _).alloc (Nat.le_refl _) o
  have H := Lib.hid (h.below (hB (.cells #[.string ⟨#[]⟩, .int .u64 0] 28)))
  have HB := Lib.hid (hB (.cells #[.string ⟨#[]⟩, .int .u64 0] 28))
  clear h hB
  go_enter Try.func10, Try.ntmps10
  go_wp2_with fail
  have hC := Can_any g v l at_ n _ H.out h0 h1 hl
  rw [decide_eq_false hn] at hC
  refine hC.mono ?_
  rintro e w2 ⟨rfl, q, rfl⟩
  go_wp2_with fail
  simp [bodyPost, results, Try.results10, go_sem]
  exact ((pw_below_drewN HB.out q).setCell (p := ⟨w.heap.size, 0, none⟩) (Nat.le_refl _) _).setCell (p := ⟨w.heap.size, 1, none⟩) (Nat.le_refl _) _
theorem Go_yes (g : Nat) (v : Value) (l : List S28) (i j : Nat) (n : Int) (w : World) (h : PastAt w g v l (i : Int)) (h1 : i ≤ 1000) (hl : l.length ≤ 1000) (hj : (j : Int) = (i : Int) + n) (hjl : j < l.length) : Calls Try.prog 10 #[.pointer (some ⟨g, 0, none⟩), .int .i64 n] w fun en w' => en = .returned (.tuple #[ent l[j], .int .i64 0]) ∧ PastAt w' g v l (j : Int) ∧ Upd g w w' := by
  have hB : ∀ o, Below w.heap.size w (w.alloc o) := fun o => (Below.refl _ _).alloc (Nat.le_refl _) o
  have H := Lib.hid (h.below (hB (.cells #[.string ⟨#[]⟩, .int .u64 0] 28)))
  have HB := Lib.hid (hB (.cells #[.string ⟨#[]⟩, .int .u64 0] 28))
  have hlt := lt_of_heap h.obj
  have HV := Lib.hid (fun k (hk : v.ownBlock = some k) => (h.row.lt k hk).2)
  have hnew := heap_alloc_new w (.cells #[.string ⟨#[]⟩, .int .u64 0] 28)
  clear h hB
  go_enter Try.func10, Try.ntmps10
  go_wp2_with fail
  have hC := Can_any g v l (i : Int) n _ H.out (by omega) (by omega) hl
  rw [decide_eq_true (show -(i : Int) ≤ n ∧ n < (l.length : Int) - (i : Int) by omega)] at hC
  refine hC.mono ?_
  rintro e w2 ⟨rfl, q, rfl⟩
  have H2 : PastAt ((w.alloc (.cells #[.string ⟨#[]⟩, .int .u64 0] 28)).drewN q) g v l (i : Int) := H.out.below (pw_below_drewN (Below.refl _ _) q)
  have U2 : Upd g w ((w.alloc (.cells #[.string ⟨#[]⟩, .int .u64 0] 28)).drewN q) := Upd.of_below (pw_below_drewN HB.out q)
  have K2 : ((w.alloc (.cells #[.string ⟨#[]⟩, .int .u64 0] 28)).drewN q).heap[w.heap.size]? = some (.cells #[.string ⟨#[]⟩, .int .u64 0] 28 (0, 0)) := hnew
  generalize (w.alloc (.cells #[.string ⟨#[]⟩, .int .u64 0] 28)).drewN q = w2 at H2 U2 K2 ⊢
  have c1 := H2.c1
  have f1 := H2.f1
  have hw : wrap64 ((i : Int) + n) = (i : Int) + n := by unfold wrap64; omega
  obtain ⟨H3, U3⟩ := H2.move1 ((i : Int) + n)
  rw [← hj] at H3
  have H3 : PastAt (w2.setCell ⟨g, 1, none⟩ (.int .i64 ((i : Int) + n))) g v l (j : Int) := by rw [← hj]; exact H3
  have HH3 := Lib.hid H3
  have HU3 := Lib.hid (U2.trans U3)
  have HK3 := Lib.hid ((U3.block w.heap.size (lt_of_heap K2) (by omega)).trans K2)
  clear H HB hC H2 U2 K2 H3 U3 hnew
  go_wp2_with fail
  refine (Now_any g v l j _ HH3.out hjl).mono ?_
  rintro e w3 ⟨rfl, hB3⟩
  have H4 := HH3.out.below hB3
  have U4 := HU3.out.trans (Upd.of_below hB3)
  have K4 := (hB3.block _ (lt_of_heap HK3.out)).trans HK3.out
  clear HH3 HU3 HK3 c1 f1 hB3
  have k0 : w3.cell? ⟨w.heap.size, 0, none⟩ = some (.string ⟨#[]⟩) := by simp [World.cell?, K4]
  have k1 : w3.cell? ⟨w.heap.size, 1, none⟩ = some (.int .u64 0) := by simp [World.cell?, K4]
  have z0 : w3.frozen? ⟨w.heap.size, 0, none⟩ = false := by simp [World.frozen?, K4]
  have z1 : w3.frozen? ⟨w.heap.size, 1, none⟩ = false := by simp [World.frozen?, K4]
  have HH4 := Lib.hid H4
  have HU4 := Lib.hid U4
  clear H4 U4 K4
  go_wp2_with fail
  simp [bodyPost, results, Try.results10, go_sem, k0, k1]
  exact ⟨two_stores HH4.out (by omega) (fun k hk => by have := HV.out k hk; omega), HU4.out.low (two_below _ _ _ _)⟩
end Go.Proofs.Ytobeebcpkkdkhaa.Pa
