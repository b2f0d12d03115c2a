/- LifeTells: the ranges over the map of rows; the calls in plain words. -/
import Derived.Test.YtnpmmmgaghhndaaTellsRow
import Derived.Maps.RangeWalk
import Derived.Test.YtnpmmmgaghhndaaPLifeBeginsxword
set_option linter.unusedSimpArgs false
set_option linter.unusedVariables false
namespace Go.Proofs.Ytnpmmmgaghhndaa.Lf
open Go.RowKit Go.Maps Go.WideMaps Go.Proofs.Ytnpmmmgaghhndaa.PLifeBegins Go.Proofs.YtnpmmmgaghhndaaW.PrintWords Go.Proofs.YtnpmmmgaghhndaaW.PrintLast Go.Proofs.Ytnpmmmgaghhndaa.Given Go.Proofs.Ytnpmmmgaghhndaa.Mv Go.Proofs.Ytnpmmmgaghhndaa.Sl

theorem C_of_irow {w : World} {A : Option Addr} {n c : Nat} {l : List Int} (h : IRow w (.slice A n c) l) (hn : n = l.length) : Kd.C (Kd.int .i64) w A n l := by
  subst hn
  have hm : l.length ≤ 9223372036854775807 := by
    rcases h.2 with ⟨_, h1⟩ | ⟨g, o, cap, cur, _, _, h2, h3, _⟩
    · omega
    · simp only [maxLen] at h3; omega
  refine ⟨rfl, hm, fun h0 => ?_⟩
  obtain ⟨g, o, c', e, _⟩ := h.form1 h0
  cases e
  refine ⟨_, rfl, fun j p hj => ⟨[.int .i64 p], rfl, rfl, fun i u hu => ?_⟩⟩
  have hi : i = 0 := by
    rcases i with _ | i
    · rfl
    · simp at hu
  subst hi
  cases hu
  have := Sl.cell h j (.int .i64 p) (by rw [List.getElem?_map, hj]; rfl)
  show w.cell? ((⟨g, o, none⟩ : Addr).add (j * 1 + 0)) = _
  rwa [show (⟨g, o, none⟩ : Addr).add (j * 1 + 0) = ⟨g, o + j, none⟩ from by unfold Addr.add; simp]
theorem grown_of_below {w w' : World} (h : Below w.heap.size w w') : w.grownBy w' none := ⟨h.os, h.tape, h.output, h.size, fun k hk _ => h.block k hk⟩
theorem ranges_below {w w' : World} {b r n : Nat} {D : DataW Value} {left : Lit → Bool} {cnt : Nat} (h : w.ranges Try.prog 3 RV b r n D left cnt) (hB : Below w.heap.size w w') : w'.ranges Try.prog 3 RV b r n D left cnt := h.kept (grown_of_below hB) (by simp) (by simp)
/-- The step of a range over rows. -/
theorem wpl_next_rows {ops : Array Oper} {rest : List Oper} {o : Oper} {a : Act} {Q : Exit → Act → World → Prop} {W : World} (hg : o.guard = none) (it : Operand) (hop : o.op = Op.next it false) (bn r mm : Nat) (D : DataW Value) (left : Lit → Bool) (cnt : Nat) (f : Lit → Option Value)
    (hit : a.eval it = .pointer (some ⟨r, 0, none⟩)) (h : W.ranges Try.prog 3 RV bn r mm D left cnt) (hD : ∀ kl, Maps.has D kl = (f kl).isSome ∧ ∀ z, D.atKey kl (.held z) = .held ((f kl).getD z))
    (hDone : cnt = 0 → (∀ kl, left kl = false) → wpList Try.prog ops Q rest (a.put o.dst (.tuple #[.bool false])) W)
    (hMore : ∀ (n : Int) (s : Value) (w' : World) (cnt' : Nat), Hid (f (ki n) = some s ∧ left (ki n) = true ∧ w'.ranges Try.prog 3 RV bn r mm D (fun z => left z && !z.sameKey (ki n)) cnt' ∧ cnt' < cnt ∧ W.grownBy w' (some r) ∧ w'.heap.size = W.heap.size) → (Instr.entry (.pointer (some ⟨r, 0, none⟩))).run Try.prog w' = .ok (.tuple #[.int .i64 n, s]) w' → wpList Try.prog ops Q rest (a.put o.dst (.tuple #[.bool true, .int .i64 n, s])) w') : wpList Try.prog ops Q (o :: rest) a W := by
  refine wpList_next_ranges W hg it hop 3 intKeyed RV (Value.int .i64) (fun v : Value => v) (fun key kl hkey => keyOf_int_inv hkey) (fun v y _ => ⟨v, rfl⟩) bn r mm D left cnt hit h hDone ?_
  intro x v kl y w1 cnt1 hkey hlk hv hat hrg hlt hgr hsz hen
  obtain rfl := keyOf_int_kl hkey
  have hy : y = (.held v, []) := by unfold RV at hv; exact (Option.some.inj hv).symm
  have hfv : f (ki x) = some v := by
    have h2 := (hD (ki x)).2
    have key : ∀ z : Value, (f (ki x)).getD z = v := fun z => by
      have h3 := h2 z
      rw [hat, hy] at h3
      injection h3 with h3
      exact h3.symm
    cases e : f (ki x) with
    | some u => rw [e] at key; exact congrArg some (key (.bool true))
    | none =>
      rw [e] at key
      have k1 := key (.bool true)
      have k2 := key (.bool false)
      simp at k1 k2
      rw [← k1] at k2
      cases k2
  exact hMore x v w1 cnt1 (Lib.hid ⟨hfv, hlk, hrg, hlt, hgr, hsz⟩) hen
/- The calls. -/
theorem word_any (A : Option Addr) (c : Nat) (r : List Int) (w : World) (h : IRow w (.slice A r.length c) r) (hl : r.length ≤ 1000) : Calls Try.prog 13 #[.slice A r.length c] w fun e w' => e = .returned (.bool (ch r 0).isSome) ∧ Below w.heap.size w w' := by
  obtain ⟨A', c', e0, hc⟩ := Sl.form h
  injection e0 with e1 e2 e3
  subst e1 e3
  refine (porticolaw19_word.calls (r.length + 10) A c r _ w (C_of_irow h rfl) hc (word_eq r hl)).mono ?_
  rintro e w' ⟨rfl, q, rfl⟩
  exact ⟨rfl, pw_below_drewN (Below.refl _ _) q⟩
theorem Same_any (A B : Option Addr) (c d : Nat) (r : List Int) (w : World) (h1 : r.length ≤ c) (h2 : Kd.C (Kd.int .i64) w A r.length r) (h3 : IRow w (.slice B r.length d) r) (hl : r.length ≤ 1000) : Calls Try.prog 9 #[.slice A r.length c, .slice B r.length d] w fun e w' => e = .returned (.bool true) ∧ Below w.heap.size w w' := by
  obtain ⟨A', c', e0, hc⟩ := Sl.form h3
  injection e0 with e1 e2 e3
  subst e1 e3
  refine (porticobook_Same_int.calls (r.length + 1) A c r B d r true w h2 h1 (C_of_irow h3 rfl) hc (same_self r (by omega))).mono ?_
  rintro e w' ⟨rfl, q, rfl⟩
  exact ⟨rfl, pw_below_drewN (Below.refl _ _) q⟩
theorem Of_any2 (A : Option Addr) (n c : Nat) (l : List Ev) (x : Int) (w : World) (h : ESl w (.slice A n c) l) (hl : l.length ≤ 1000) : Calls Try.prog 11 #[.slice A n c, .int .i64 x] w fun e w' => ∃ (A' : Option Addr) (c' : Nat), e = .returned (.slice A' (rowk l x).length c') ∧ Hid ((rowk l x).length ≤ c' ∧ Kd.C (Kd.int .i64) w' A' (rowk l x).length (rowk l x)) ∧ Below w.heap.size w w' := by
  obtain ⟨rfl, hc, hC⟩ := ESl.C h (by omega)
  refine (life_Of.calls (l.length + 1) A c l x _ w hC hc (of_eq l x hl)).mono ?_
  rintro e w' ⟨v, rfl, hR, hB⟩
  obtain ⟨A', c', rfl⟩ := Kd.R_slice hR
  have := Kd.R_reads' hR
  exact ⟨A', c', rfl, Lib.hid ⟨this.2.1, this.2.2⟩, hB⟩
theorem Right_any2 (A : Option Addr) (n c : Nat) (l : List Ev) (w : World) (h : ESl w (.slice A n c) l) (hw : ∀ e ∈ l, (Lit.int .i64 e.f1).wf = true) (hl : l.length ≤ 1000) : Calls Try.prog 8 #[.slice A n c] w fun e w' => e = .returned (.bool (readP l).2) ∧ Below w.heap.size w w' := by
  obtain ⟨rfl, hc, hC⟩ := ESl.C h (by omega)
  exact Right_any A c l w hC hc hw hl
theorem Alive_any2 (A : Option Addr) (n c : Nat) (l : List Ev) (w : World) (h : ESl w (.slice A n c) l) (hw : ∀ e ∈ l, (Lit.int .i64 e.f1).wf = true) (hl : l.length ≤ 1000) : Calls Try.prog 10 #[.slice A n c] w fun e w' => ∃ (A' : Option Addr) (c' : Nat), e = .returned (.slice A' (aliveL l).length c') ∧ Hid ((aliveL l).length ≤ c' ∧ Kd.C (Kd.int .i64) w' A' (aliveL l).length (aliveL l)) ∧ Below w.heap.size w w' := by
  obtain ⟨rfl, hc, hC⟩ := ESl.C h (by omega)
  refine (Alive_any A c l w hC hc hw hl).mono ?_
  rintro e w' ⟨v, rfl, hR, hB⟩
  obtain ⟨A', c', rfl⟩ := Kd.R_slice hR
  have := Kd.R_reads' hR
  exact ⟨A', c', rfl, Lib.hid ⟨this.2.1, this.2.2⟩, hB⟩
/- In plain words. -/
theorem right_iff (l : List Ev) : (readP l).2 = true ↔ (∀ e ∈ l, 1 ≤ e.f1) ∧ rising l 0 = true ∧ ∀ n, (ch (rowk l n) 0).isSome = true := read_iff l (fun _ => none) 0
/-- The words that were looked at. -/
def Wd (l : List Ev) (left : Lit → Bool) (R R' : Bool) : Prop := R' = true ↔ R = true ∧ ∀ x, rowk l x ≠ [] → left (ki x) = false → (ch (rowk l x) 0).isSome = true
theorem Wd.step {l : List Ev} {left : Lit → Bool} {R R' : Bool} (h : Wd l left R R') (x : Int) (hx : left (ki x) = true) (hr : rowk l x ≠ []) : Wd l (fun z => left z && !z.sameKey (ki x)) R (R' && (ch (rowk l x) 0).isSome) := by
  unfold Wd at *
  rw [Bool.and_eq_true, h]
  constructor
  · rintro ⟨⟨h1, h2⟩, h3⟩
    refine ⟨h1, fun y hy hl => ?_⟩
    by_cases e : y = x
    · subst e; exact h3
    · have hs : (left (ki y) && !(ki y).sameKey (ki x)) = false := hl
      rw [(struck left x).2 y e] at hs
      exact h2 y hy hs
  · rintro ⟨h1, h2⟩
    refine ⟨⟨h1, fun y hy hl => ?_⟩, h2 x hr (struck left x).1⟩
    refine h2 y hy ?_
    by_cases e : y = x
    · subst e; exact (struck left y).1
    · show (left (ki y) && !(ki y).sameKey (ki x)) = false
      rw [(struck left x).2 y e]; exact hl
theorem Wd.done {l : List Ev} {left : Lit → Bool} {R R' : Bool} (h : Wd l left R R') (hl : ∀ kl, left kl = false) (hR : R = true ↔ (∀ e ∈ l, 1 ≤ e.f1) ∧ rising l 0 = true) : R' = (readP l).2 := by
  rw [Bool.eq_iff_iff, right_iff l]
  unfold Wd at h
  rw [h, hR, and_assoc]
  refine and_congr Iff.rfl (and_congr Iff.rfl ⟨fun h n => ?_, fun h x _ _ => h x⟩)
  by_cases e : rowk l n = []
  · rw [e]; rfl
  · exact h n e (hl _)
/-- Who is shown: the last kind tells. -/
theorem shown_last {l : List Ev} (h : (readP l).2 = true) {x : Int} {r : List Int} {k : Int} (hr : rowk l x = r ++ [k]) : (readP l).1 x = some 1 ↔ k = 1 ∨ k = 2 := by
  have h1 : ch (rowk l x) 0 = some (getS (readP l).1 x) := read_end l (fun _ => none) 0 h x
  rw [hr] at h1
  rw [← ch_last r k 0 _ h1]
  unfold getS
  cases (readP l).1 x with
  | none => simp
  | some q => simp
theorem shown_has {l : List Ev} (h : (readP l).2 = true) {x : Int} (h1 : (readP l).1 x = some 1) : rowk l x ≠ [] := fun e => by
  have h2 : ch (rowk l x) 0 = some (getS (readP l).1 x) := read_end l (fun _ => none) 0 h x
  rw [e] at h2
  unfold getS at h2
  rw [h1] at h2
  cases h2
theorem alive_len {l : List Ev} {left : Lit → Bool} {L : List Int} (h : Gath (readP l).1 left L) (hl : ∀ kl, left kl = false) : (aliveL l).length = L.length ∧ Shown (readP l).1 (aliveL l) := by
  have hs := h.sorted hl
  rw [alive_eq hs]
  exact ⟨(List.mergeSort_perm L _).length_eq, hs⟩
end Go.Proofs.Ytnpmmmgaghhndaa.Lf
