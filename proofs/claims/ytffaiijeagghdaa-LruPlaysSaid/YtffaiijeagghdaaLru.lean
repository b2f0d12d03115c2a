/- Package lru: what a cache holds; at, Has, Len, New. -/
import Derived.Test.YtffaiijeagghdaaSl
import Derived.Test.YtffaiijeagghdaaWWords
import Derived.Test.YtffaiijeagghdaaWLast
import Derived.Lib.MinMax
import Derived.Lib.Hide
import Derived.WalkLawsBesides
import Derived.BigQuiet
import Derived.Deep.QuietTactic
import Derived.Deep.LoopGhost
set_option linter.unusedVariables false
set_option linter.unusedSimpArgs false
namespace Go.Proofs.Ytffaiijeagghdaa.Lr
open Go.RowKit Go.Proofs.YtffaiijeagghdaaW.PrintWords Go.Proofs.YtffaiijeagghdaaW.PrintLast Go.Proofs.Ytffaiijeagghdaa.Sl

abbrev H := ByteArray × Int
def enc : List H → List Value
  | [] => []
  | e :: l => .string e.1 :: .int .i64 e.2 :: enc l
theorem enc_length (l : List H) : (enc l).length = l.length * 2 := by
  induction l with
  | nil => rfl
  | cons e l ih => simp only [enc, List.length_cons, ih]; omega
theorem enc_append (l m : List H) : enc (l ++ m) = enc l ++ enc m := by
  induction l with
  | nil => rfl
  | cons e l ih => simp [enc, ih]
theorem enc_take (l : List H) (k : Nat) : enc (l.take k) = (enc l).take (k * 2) := by
  induction l generalizing k with
  | nil => simp [enc]
  | cons e l ih =>
    cases k with
    | zero => simp [enc]
    | succ k =>
      rw [List.take_succ_cons, show (k + 1) * 2 = k * 2 + 2 by omega]
      simp only [enc, List.take_succ_cons, ih]
theorem enc_drop (l : List H) (k : Nat) : enc (l.drop k) = (enc l).drop (k * 2) := by
  induction l generalizing k with
  | nil => simp [enc]
  | cons e l ih =>
    cases k with
    | zero => simp [enc]
    | succ k =>
      rw [List.drop_succ_cons, show (k + 1) * 2 = k * 2 + 2 by omega]
      simp only [enc, List.drop_succ_cons, ih]
theorem enc_get (l : List H) (i : Nat) (h : i < l.length) : (enc l)[i * 2]? = some (.string l[i].1) ∧ (enc l)[i * 2 + 1]? = some (.int .i64 l[i].2) := by
  induction l generalizing i with
  | nil => simp at h
  | cons e l ih =>
    cases i with
    | zero => simp [enc]
    | succ i =>
      have := ih i (by simpa using h)
      rw [show (i + 1) * 2 = i * 2 + 1 + 1 by omega]
      simpa [enc] using this
theorem enc_one (l : List H) : ∀ u ∈ enc l, u.oneCell' = true := by
  induction l with
  | nil => intro u h; simp [enc] at h
  | cons e l ih =>
    intro u h
    simp only [enc, List.mem_cons] at h
    rcases h with rfl | rfl | h
    · rfl
    · rfl
    · exact ih u h
/-- v is the row l. -/
abbrev RowOf (w : World) (v : Value) (l : List H) : Prop := Sl w 47 2 v l.length (enc l)
/-- A cache behind a pointer. -/
structure CacheAt (w : World) (g : Nat) (room : Int) (v : Value) (l : List H) : Prop where
  obj : w.heap[g]? = some (.cells #[.int .i64 room, v] 45 (0, 0))
  row : RowOf w v l
theorem lt_of_cell {w : World} {p : Addr} {v : Value} (h : w.cell? p = some v) : p.block < w.heap.size := by
  rcases Nat.lt_or_ge p.block w.heap.size with h1 | h1
  · exact h1
  · have : w.heap[p.block]? = none := Array.getElem?_eq_none h1
    simp [World.cell?, this] at h
theorem lt_of_heap {w : World} {g : Nat} {o : Obj} (h : w.heap[g]? = some o) : g < w.heap.size := (Array.getElem?_eq_some_iff.1 h).1
variable {w w' : World} {g : Nat} {room : Int} {v : Value} {l : List H}
theorem RowOf.below (h : RowOf w v l) (hB : Below w.heap.size w w') : RowOf w' v l := Sl.below h hB (Nat.le_refl _)
theorem CacheAt.below (h : CacheAt w g room v l) (hB : Below w.heap.size w w') : CacheAt w' g room v l :=
  ⟨(hB.block g (lt_of_heap h.obj)).trans h.obj, h.row.below hB⟩
theorem CacheAt.c0 (h : CacheAt w g room v l) : w.cell? ⟨g, 0, none⟩ = some (.int .i64 room) := by simp [World.cell?, h.obj]
theorem CacheAt.c1 (h : CacheAt w g room v l) : w.cell? ⟨g, 1, none⟩ = some v := by simp [World.cell?, h.obj]
theorem CacheAt.f0 (h : CacheAt w g room v l) : w.frozen? ⟨g, 0, none⟩ = false := by simp [World.frozen?, h.obj]
theorem CacheAt.f1 (h : CacheAt w g room v l) : w.frozen? ⟨g, 1, none⟩ = false := by simp [World.frozen?, h.obj]
theorem CacheAt.lt (h : CacheAt w g room v l) : g < w.heap.size := lt_of_heap h.obj
theorem CacheAt.ne (h : CacheAt w g room v l) : v.ownBlock ≠ some g := fun e => by
  obtain ⟨_, cur, hc⟩ := h.row.lt g e
  rw [h.obj] at hc
  injection hc with hc
  injection hc with _ hc
  exact absurd hc (by decide)
theorem row_cell {g o c n : Nat} (h : RowOf w (.slice (some ⟨g, o, none⟩) n c) l) (hn : n = l.length) (j : Nat) (hj : j < l.length) : w.cell? ⟨g, o + j * 2, none⟩ = some (.string l[j].1) ∧ w.cell? ⟨g, o + j * 2 + 1, none⟩ = some (.int .i64 l[j].2) := by
  subst hn
  exact ⟨Sl.cell h (j * 2) _ (enc_get l j hj).1, Sl.cell h (j * 2 + 1) _ (enc_get l j hj).2⟩
/-- Where a name stands. -/
def idx (l : List H) (s : ByteArray) : Int := match l.findIdx? (fun h => h.1 == s) with
  | some i => i
  | none => -1
/-- The closure of 'at': has the entry this name? -/
theorem at1_any (K : Nat) (s a : ByteArray) (n : Int) (w : World) (hK : w.cell? ⟨K, 0, none⟩ = some (.string s)) (b : Bool) (hb : (a == s) = b) : Calls Try.prog 21 #[.agg #[.string a, .int .i64 n], .pointer (some ⟨K, 0, none⟩)] w fun en w' => en = .returned (.bool b) ∧ Below w.heap.size w w' := by
  have hb2 : (w.alloc (.cells #[.string a, .int .i64 n] 47)).cell? ⟨K, 0, none⟩ = some (.string s) := by
    rw [((Below.refl w.heap.size w).alloc (Nat.le_refl _) _).cell (lt_of_cell hK)]; exact hK
  clear hK
  rw [beq_toListBytes] at hb
  go_enter Try.func21, Try.ntmps21
  go_wp2_with fail
  go_ret
  exact ⟨by simp [hb], (Below.refl _ _).alloc (Nat.le_refl _) _⟩
theorem idx_from (l : List H) (s : ByteArray) : ∀ k, k ≤ l.length → (∀ j (h : j < l.length), j < k → (l[j].1 == s) = false) → (k < l.length → idx l s = match (l.drop k).findIdx? (fun h => h.1 == s) with | some i => ((k + i : Nat) : Int) | none => -1) := fun k hk hno hlt => by
  have : l = l.take k ++ l.drop k := (List.take_append_drop k l).symm
  unfold idx
  conv => lhs; rw [this]
  rw [List.findIdx?_append]
  have hn : (l.take k).findIdx? (fun h => h.1 == s) = none := by
    rw [List.findIdx?_eq_none_iff]
    intro x hx
    obtain ⟨j, hj, e⟩ := List.mem_iff_getElem.1 hx
    rw [List.getElem_take] at e
    rw [← e]
    exact hno j (by rw [List.length_take] at hj; omega) (by rw [List.length_take] at hj; omega)
  rw [hn]
  simp only [Option.none_or, Option.map_map, List.length_take, Nat.min_eq_left hk]
  cases (l.drop k).findIdx? (fun h => h.1 == s) with
  | none => rfl
  | some i => simp; omega
theorem idx_hit (l : List H) (s : ByteArray) (k : Nat) (hk : k < l.length) (hno : ∀ j (h : j < l.length), j < k → (l[j].1 == s) = false) (h : (l[k].1 == s) = true) : idx l s = (k : Int) := by
  rw [idx_from l s k (by omega) hno hk, List.drop_eq_getElem_cons hk, List.findIdx?_cons, h]
  rfl
theorem idx_miss (l : List H) (s : ByteArray) (hno : ∀ j (h : j < l.length), (l[j].1 == s) = false) : idx l s = -1 := by
  unfold idx
  have hn : l.findIdx? (fun h => h.1 == s) = none := by
    rw [List.findIdx?_eq_none_iff]
    intro x hx
    obtain ⟨j, hj, e⟩ := List.mem_iff_getElem.1 hx
    rw [← e]
    exact hno j hj
  rw [hn]
set_option maxHeartbeats 1000000 in
theorem IndexFunc_any (K : Nat) (s : ByteArray) (v : Value) (l : List H) (w : World) (h : RowOf w v l) (hK : w.cell? ⟨K, 0, none⟩ = some (.string s)) (hl : l.length ≤ 1000000) : Calls Try.prog 20 #[v, .func (.func 21) #[] #[.pointer (some ⟨K, 0, none⟩)]] w fun en w' => en = .returned (.int .i64 (idx l s)) ∧ Below w.heap.size w w' := by
  obtain ⟨A, c, rfl, hc⟩ := h.form
  have HR := Lib.hid h
  have HK := Lib.hid hK
  have hlm : (l.length : Int) ≤ 1000000 := by omega
  clear h hK
  go_enter Try.func20, Try.ntmps20
  go_wp2_with fail
  go_loopw [8] (fun t8 wr => ∃ i : Nat, t8 = .int .i64 (i : Int) ∧ i ≤ l.length ∧ (∀ j (h : j < l.length), j < i → (l[j].1 == s) = false) ∧ Below w.heap.size w wr) (fun t _ => match t with | .int _ i => (l.length - i).toNat | _ => 0)
  case atStart => exact ⟨0, rfl, by omega, fun j _ hj => by omega, Below.refl _ _⟩
  case round =>
    obtain ⟨i, rfl, hi, hno, hB⟩ := hrel
    have HNO := Lib.hid hno
    have HB := Lib.hid hB
    clear hno hB
    by_cases c1 : i < l.length
    · have q1 : (i : Int) < (l.length : Int) := by omega
      have q2 : (0 : Int) ≤ (i : Int) := by omega
      obtain ⟨g, o, c', e1, _⟩ := HR.out.form1 (by omega)
      cases e1
      have hrow : RowOf wr (.slice (some ⟨g, o, none⟩) l.length c) l := HR.out.below HB.out
      have y := row_cell hrow rfl i c1
      have y0 := y.1
      have y1 := y.2
      have hK : wr.cell? ⟨K, 0, none⟩ = some (.string s) := (HB.out.cell (lt_of_cell HK.out)).trans HK.out
      have HK2 := Lib.hid hK
      clear y hK hrow
      go_wp2_with fail
      obtain ⟨b, hb⟩ : ∃ b, (l[i].1 == s) = b := ⟨_, rfl⟩
      refine (at1_any K s l[i].1 l[i].2 wr HK2.out b hb).mono ?_
      rintro e w2 ⟨rfl, hB2⟩
      have HB2 := Lib.hid (HB.out.trans (hB2.mono HB.out.size))
      have HBB := Lib.hid hb
      clear hB2 y0 y1 HK2 hb
      cases b
      · go_wp2_with fail
        go_roundw
        case rel =>
          refine ⟨i + 1, by go_num, by omega, fun j hj hji => ?_, HB2.out⟩
          by_cases e : j = i
          · subst e; exact HBB.out
          · exact HNO.out j hj (by omega)
        case measure => simp; omega
      · go_wp2_with fail
        go_ret
        exact ⟨by rw [idx_hit l s i c1 HNO.out HBB.out]; rfl, HB2.out⟩
    · have q1 : ¬ (i : Int) < (l.length : Int) := by omega
      go_wp2_with fail
      go_ret
      exact ⟨by rw [idx_miss l s (fun j hj => HNO.out j hj (by omega))]; rfl, HB.out⟩
theorem at_any (g : Nat) (room : Int) (v : Value) (l : List H) (s : ByteArray) (w : World) (h : CacheAt w g room v l) (hl : l.length ≤ 1000000) : Calls Try.prog 17 #[.pointer (some ⟨g, 0, none⟩), .string s] w fun en w' => en = .returned (.int .i64 (idx l s)) ∧ Below w.heap.size w w' := by
  have hB : Below w.heap.size w (w.alloc (.cells #[.string s] 9)) := (Below.refl _ _).alloc (Nat.le_refl _) _
  have h2 := h.below hB
  have HC := Lib.hid h2.row
  have HB := Lib.hid hB
  have HK : Hid ((w.alloc (.cells #[.string s] 9)).cell? ⟨w.heap.size, 0, none⟩ = some (.string s)) := Lib.hid (by simp [go_sem])
  have c1 := h2.c1
  clear h h2 hB
  go_enter Try.func17, Try.ntmps17
  go_wp2_with fail
  refine (IndexFunc_any w.heap.size s v l _ HC.out HK.out hl).mono ?_
  rintro e w2 ⟨rfl, hB2⟩
  have HB2 := Lib.hid (HB.out.trans (hB2.mono HB.out.size))
  clear hB2
  go_wp2_with fail
  go_ret
  exact ⟨rfl, HB2.out⟩
theorem idx_cases (l : List H) (s : ByteArray) : idx l s = -1 ∨ ∃ i, ∃ h : i < l.length, idx l s = (i : Int) ∧ (l[i].1 == s) = true := by
  unfold idx
  cases e : l.findIdx? (fun h => h.1 == s) with
  | none => exact .inl rfl
  | some i =>
    rw [List.findIdx?_eq_some_iff_getElem] at e
    obtain ⟨h, h1, _⟩ := e
    exact .inr ⟨i, h, rfl, h1⟩
/-- What stands under a name. -/
def has (l : List H) (s : ByteArray) : Option Int := (l.find? (fun h => h.1 == s)).map (·.2)
theorem has_none {l : List H} {s : ByteArray} (h : idx l s = -1) : has l s = none := by
  unfold idx at h
  unfold has
  cases e : l.findIdx? (fun h => h.1 == s) with
  | none =>
    rw [List.findIdx?_eq_none_iff] at e
    rw [List.find?_eq_none.2 (fun x hx => by simp [e x hx])]
    rfl
  | some i => rw [e] at h; simp at h
theorem has_some {l : List H} {s : ByteArray} {i : Nat} (hi : i < l.length) (h : idx l s = (i : Int)) : has l s = some l[i].2 := by
  unfold idx at h
  unfold has
  cases e : l.findIdx? (fun h => h.1 == s) with
  | none => rw [e] at h; simp at h
  | some j =>
    rw [e] at h
    have : j = i := by simp at h; omega
    subst this
    rw [List.findIdx?_eq_some_iff_getElem] at e
    obtain ⟨h1, h2, h3⟩ := e
    have : l.find? (fun h => h.1 == s) = some l[j] := by
      rw [List.find?_eq_some_iff_append]
      refine ⟨h2, l.take j, l.drop (j + 1), by rw [List.getElem_cons_drop, List.take_append_drop], fun a ha => ?_⟩
      obtain ⟨q, hq, eq⟩ := List.mem_iff_getElem.1 ha
      rw [List.getElem_take] at eq
      have := h3 q (by rw [List.length_take] at hq; omega)
      rw [eq] at this
      simpa using this
    rw [this]
    rfl
def hasV (o : Option Int) : Value := match o with
  | none => .tuple #[.int .i64 0, .bool false]
  | some n => .tuple #[.int .i64 n, .bool true]
theorem Has_any (g : Nat) (room : Int) (v : Value) (l : List H) (s : ByteArray) (w : World) (h : CacheAt w g room v l) (hl : l.length ≤ 1000000) : Calls Try.prog 14 #[.pointer (some ⟨g, 0, none⟩), .string s] w fun en w' => en = .returned (hasV (has l s)) ∧ Below w.heap.size w w' := by
  have HC := Lib.hid h
  clear h
  go_enter Try.func14, Try.ntmps14
  go_wp2_with fail
  refine (at_any g room v l s w HC.out hl).mono ?_
  rintro e w2 ⟨rfl, hB2⟩
  have HB2 := Lib.hid hB2
  have HC2 := Lib.hid (HC.out.below hB2)
  have c1 := HC2.out.c1
  clear hB2
  rcases idx_cases l s with hn | ⟨i, hi, hn, _⟩
  · have HN := Lib.hid (has_none hn)
    rw [hn]
    clear hn
    go_wp2_with fail
    go_ret2
    exact ⟨by rw [HN.out]; rfl, HB2.out⟩
  · have HN := Lib.hid (has_some hi hn)
    obtain ⟨q, o, c', e1, _⟩ := HC2.out.row.form1 (by omega)
    subst e1
    have y1 := (row_cell HC2.out.row rfl i hi).2
    have q1 : (i : Int) < (l.length : Int) := by omega
    have q2 : (0 : Int) ≤ (i : Int) := by omega
    have q3 : decide ((i : Int) < 0) = false := decide_eq_false (by omega)
    rw [hn]
    clear hn
    go_wp2_with fail
    go_ret2
    exact ⟨by rw [HN.out]; rfl, HB2.out⟩
theorem Len_any (g : Nat) (room : Int) (v : Value) (l : List H) (w : World) (h : CacheAt w g room v l) : Calls Try.prog 15 #[.pointer (some ⟨g, 0, none⟩)] w fun en w' => en = .returned (.int .i64 (l.length : Int)) ∧ w' = w := by
  obtain ⟨A, c, rfl, _⟩ := h.row.form
  have c1 := h.c1
  clear h
  go_enter Try.func15, Try.ntmps15
  go_wp2_with fail
  go_ret
  exact ⟨rfl, rfl⟩
theorem New_any (room : Int) (w : World) : Calls Try.prog 7 #[.int .i64 room] w fun en w' => ∃ g, en = .returned (.pointer (some ⟨g, 0, none⟩)) ∧ CacheAt w' g (max room 0) (.slice none 0 0) [] ∧ w.heap.size ≤ g ∧ Below w.heap.size w w' := by
  go_enter Try.func7, Try.ntmps7
  go_wp2_with fail
  go_ret
  exact ⟨w.heap.size, rfl, ⟨heap_alloc_new w _, Sl.nil _ _ _⟩, Nat.le_refl _, (Below.refl _ _).alloc (Nat.le_refl _) _⟩
theorem infoHeld : (Try.prog.info? 47).map (fun i => (i.zero, i.size, i.bytes)) = some (some (.agg #[(.string ⟨#[]⟩), (.int .i64 0)]), 2, 24) := by kernel_rfl
/-- append onto a row of entries. -/
theorem run_append_held (w : World) (v : Value) (l m : List H) (a : Addr) (c : Nat) (ty : TypeId) (h : RowOf w v l) (hm : ∀ j u, (enc m)[j]? = some u → w.cell? (a.add j) = some u) (hl : l.length + m.length ≤ 100000) :
    ∃ v' w', (Builtin.append_ #[43, 43] ty #[v, .slice (some a) m.length c]).run Try.prog w = .ok v' w' ∧ RowOf w' v' (l ++ m) ∧ w.grownBy w' v.ownBlock ∧ (v'.ownBlock = v.ownBlock ∨ v'.ownBlock = some w.heap.size) ∧ ((m = [] ∧ v' = v) ∨ ∃ g' o' c', v' = .slice (some ⟨g', o', none⟩) (l ++ m).length c') := by
  obtain ⟨i0, hi, hzz⟩ := Option.map_eq_some_iff.1 infoHeld
  simp only [Prod.mk.injEq] at hzz
  obtain ⟨hz0, hz1, hz2⟩ := hzz
  by_cases h0 : m.length = 0
  · have : m = [] := List.eq_nil_of_length_eq_zero h0
    subst this
    exact ⟨v, w, run_append_none w 43 ty 47 i0 2 Try.underlying43 hi v _ _ h (some a) c, by simpa using h, World.grownBy.refl w _, .inl rfl, .inl ⟨rfl, rfl⟩⟩
  · obtain ⟨g', o', c', w', h1, h2, h3, h4⟩ := run_append_sl (P := Try.prog) w 43 ty 47 i0 _ 2 24 Try.underlying43 hi hz0 hz1 hz2 rfl v l.length (enc l) h a m.length c (enc m) (enc_length m) hm (enc_one m) (by omega) (by unfold maxLen; omega) (by omega)
    refine ⟨_, w', h1, by unfold RowOf; rw [List.length_append, enc_append]; exact h2, h3, ?_, .inr ⟨g', o', c', by rw [List.length_append]⟩⟩
    rcases h4 with h4 | h4
    · exact .inl h4.symm
    · exact .inr (by rw [h4]; rfl)
theorem below_grown {B : Nat} {w0 w w' : World} {row : Option Nat} (h : Below B w0 w) (g : w.grownBy w' row) (hr : ∀ k, row = some k → B ≤ k) (hB : B ≤ w.heap.size) : Below B w0 w' :=
  ⟨g.os.trans h.os, g.tape.trans h.tape, g.output.trans h.output, Nat.le_trans h.size g.size, fun k hk => (g.block k (by omega) (fun e => by have := hr k e.symm; omega)).trans (h.block k hk)⟩
theorem wpl_append {ops : Array Oper} {rest : List Oper} {o : Oper} {a : Act} {Q : Exit → Act → World → Prop} {W : World} (hgd : o.guard = none) (s x : Operand)
    (ho : o.op = .call { callee := .builtin .append, args := #[s, x], argTypes := #[43, 43] })
    (v : Value) (l m : List H) (ad : Addr) (n c : Nat) (hn : n = m.length) (hs : a.eval s = v) (hx : a.eval x = .slice (some ad) n c) (h : RowOf W v l) (hm : ∀ j u, (enc m)[j]? = some u → W.cell? (ad.add j) = some u) (hl : l.length + m.length ≤ 100000)
    (K : ∀ v' w', RowOf w' v' (l ++ m) → W.grownBy w' v.ownBlock → (v'.ownBlock = v.ownBlock ∨ v'.ownBlock = some W.heap.size) → wpList Try.prog ops Q rest (a.put o.dst v') w') : wpList Try.prog ops Q (o :: rest) a W := by
  subst hn
  obtain ⟨v', w', hrun, h2, h3, h4, _⟩ := run_append_held W v l m ad c o.type h hm hl
  refine wpList_plain hgd fun _ hK => ?_
  unfold Oper.wp execOp
  simp only [ho, resolve, invoke, builtin, Sem.run_bind, Sem.run_pure, Result.andThen_ok, List.map_toArray, List.map_cons, List.map_nil, hs, hx, hrun]
  exact hK _ _ (K v' w' h2 h3 h4)
theorem made_row (w : World) : RowOf (w.alloc (.cells #[] 47)) (.slice (some ⟨w.heap.size, 0, none⟩) 0 0) [] :=
  Sl.of_own (World.ownsRow_made (base := w.heap.size) (e := 47) (size := 2) w #[] 0 (Nat.le_refl _) (by decide) (by rfl))
theorem Clone_any (v : Value) (l : List H) (w : World) (h : RowOf w v l) (hl : l.length ≤ 1000) :
    Calls Try.prog 18 #[v] w fun en w' => ∃ v2, en = .returned v2 ∧ RowOf w' v2 l ∧ Below w.heap.size w w' ∧ ∀ k, v2.ownBlock = some k → w.heap.size ≤ k := by
  rcases h.2 with ⟨rfl, h0⟩ | ⟨r, o, cap, cur, hv, _⟩
  · have : l = [] := List.length_eq_zero_iff.1 h0
    subst this
    have hn : ∀ w : World, (binOp .eql 43 (.slice none 0 0) (.slice none 0 0)).run Try.prog w = .ok (.bool true) w := fun w => by kernel_rfl
    go_enter Try.func18, Try.ntmps18
    go_wp2_with fail
    go_ret
    exact ⟨_, rfl, Sl.nil _ _ _, Below.refl _ _, fun k hk => by cases hk⟩
  · subst hv
    have hn : ∀ w : World, (binOp .eql 43 (.slice (some ⟨r, o, none⟩) l.length cap) (.slice none 0 0)).run Try.prog w = .ok (.bool false) w := fun w => rfl
    have hm2 : ∀ j u, (enc l)[j]? = some u → (w.alloc (.cells #[] 47)).cell? ((⟨r, o, none⟩ : Addr).add j) = some u := fun j u hu => by
      have h1 := Sl.cell (h.below ((Below.refl w.heap.size w).alloc (Nat.le_refl _) (.cells #[] 47))) j u hu
      rwa [show (⟨r, o, none⟩ : Addr).add j = ⟨r, o + j, none⟩ from by unfold Addr.add; split <;> simp_all]
    have HM := Lib.hid hm2
    have HO := Lib.hid (made_row w)
    clear hm2 h
    go_enter Try.func18, Try.ntmps18
    go_wp2_with (at_builtin; refine wpl_append rfl (.tmp 5) (.tmp 6) rfl (.slice (some ⟨w.heap.size, 0, none⟩) 0 0) [] l ⟨r, o, none⟩ _ cap rfl rfl rfl HO.out HM.out (by simp; omega) ?_)
    rintro v' w' h2 h3 h4
    have H2 := Lib.hid h2
    have H3 := Lib.hid h3
    have H4 := Lib.hid h4
    clear h2 h3 h4
    go_wp2_with fail
    go_ret
    refine ⟨v', rfl, H2.out, below_grown ((Below.refl _ _).alloc (Nat.le_refl _) _) H3.out (fun k hk => by cases hk; exact Nat.le_refl _) (by simp), fun k hk => ?_⟩
    rcases H4.out with h4 | h4
    · rw [h4] at hk; cases hk; exact Nat.le_refl _
    · rw [h4] at hk; simp at hk; omega
end Go.Proofs.Ytffaiijeagghdaa.Lr
