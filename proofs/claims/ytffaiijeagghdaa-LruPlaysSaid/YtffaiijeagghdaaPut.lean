/- Package lru: Put. -/
import Derived.Test.YtffaiijeagghdaaTake
import Derived.Test.YtffaiijeagghdaaPLruPlaysx1
import Derived.Deep.DeepCutAuto
import Derived.Deep.CutBlock
set_option linter.unusedVariables false
set_option linter.unusedSimpArgs false
namespace Go.Proofs.Ytffaiijeagghdaa.Lr
open Go.RowKit Go.Proofs.YtffaiijeagghdaaW.PrintWords Go.Proofs.YtffaiijeagghdaaW.PrintLast Go.Proofs.Ytffaiijeagghdaa.Sl

/-- Rows of numbers, of texts. -/
abbrev IRow (w : World) (v : Value) (l : List Int) : Prop := Sl w 3 1 v l.length (l.map (.int .i64 ·))
abbrev SRow (w : World) (v : Value) (l : List ByteArray) : Prop := Sl w 9 1 v l.length (l.map .string)
theorem infoInt : (Try.prog.info? 3).map (fun i => (i.zero, i.size, i.bytes)) = some (some (.int .i64 0), 1, 8) := by kernel_rfl
theorem infoStr : (Try.prog.info? 9).map (fun i => (i.zero, i.size, i.bytes)) = some (some (.string ⟨#[]⟩), 1, 16) := by kernel_rfl
theorem C_of_irow {w : World} {A : Option Addr} {n c : Nat} {l : List Int} (h : IRow w (.slice A n c) l) (hn : n = l.length) : Kd.C (Kd.int .i64) w A n l := by
  subst hn
  have hm : l.length ≤ 9223372036854775807 := by
    rcases h.2 with ⟨_, h1⟩ | ⟨g, o, cap, cur, _, _, h2, h3, _⟩
    · omega
    · simp only [maxLen] at h3; omega
  refine ⟨rfl, hm, fun h0 => ?_⟩
  obtain ⟨g, o, c', e, _⟩ := h.form1 h0
  cases e
  refine ⟨_, rfl, fun j p hj => ⟨[.int .i64 p], rfl, rfl, fun i u hu => ?_⟩⟩
  have hi : i = 0 := by
    rcases i with _ | i
    · rfl
    · simp at hu
  subst hi
  cases hu
  have := Sl.cell h j (.int .i64 p) (by rw [List.getElem?_map, hj]; rfl)
  show w.cell? ((⟨g, o, none⟩ : Addr).add (j * 1 + 0)) = _
  rwa [show (⟨g, o, none⟩ : Addr).add (j * 1 + 0) = ⟨g, o + j, none⟩ from by unfold Addr.add; simp]
theorem C_of_srow {w : World} {A : Option Addr} {n c : Nat} {l : List ByteArray} (h : SRow w (.slice A n c) l) (hn : n = l.length) : Kd.C Kd.string w A n l := by
  subst hn
  have hm : l.length ≤ 9223372036854775807 := by
    rcases h.2 with ⟨_, h1⟩ | ⟨g, o, cap, cur, _, _, h2, h3, _⟩
    · omega
    · simp only [maxLen] at h3; omega
  refine ⟨rfl, hm, fun h0 => ?_⟩
  obtain ⟨g, o, c', e, _⟩ := h.form1 h0
  cases e
  refine ⟨_, rfl, fun j p hj => ⟨[.string p], rfl, rfl, fun i u hu => ?_⟩⟩
  have hi : i = 0 := by
    rcases i with _ | i
    · rfl
    · simp at hu
  subst hi
  cases hu
  have := Sl.cell h j (.string p) (by rw [List.getElem?_map, hj]; rfl)
  show w.cell? ((⟨g, o, none⟩ : Addr).add (j * 1 + 0)) = _
  rwa [show (⟨g, o, none⟩ : Addr).add (j * 1 + 0) = ⟨g, o + j, none⟩ from by unfold Addr.add; simp]
theorem run_append_ints (w : World) (v : Value) (l m : List Int) (a : Addr) (c : Nat) (ty : TypeId) (h : IRow w v l) (hm : ∀ j u, (m.map (Value.int .i64 ·))[j]? = some u → w.cell? (a.add j) = some u) (hl : l.length + m.length ≤ 100000) :
    ∃ A c' w', (Builtin.append_ #[24, 24] ty #[v, .slice (some a) m.length c]).run Try.prog w = .ok (.slice A (l ++ m).length c') w' ∧ IRow w' (.slice A (l ++ m).length c') (l ++ m) ∧ w.grownBy w' v.ownBlock ∧ ((Value.slice A (l ++ m).length c').ownBlock = v.ownBlock ∨ (Value.slice A (l ++ m).length c').ownBlock = some w.heap.size) := by
  obtain ⟨i0, hi, hzz⟩ := Option.map_eq_some_iff.1 infoInt
  simp only [Prod.mk.injEq] at hzz
  obtain ⟨hz0, hz1, hz2⟩ := hzz
  by_cases h0 : m.length = 0
  · have : m = [] := List.eq_nil_of_length_eq_zero h0
    subst this
    obtain ⟨A, c', rfl, _⟩ := h.form
    refine ⟨A, c', w, ?_, by simpa using h, World.grownBy.refl w _, .inl (by simp)⟩
    have := run_append_none w 24 ty 3 i0 1 Try.underlying24 hi _ _ _ h (some a) c
    simpa using this
  · obtain ⟨g', o', c', w', h1, h2, h3, h4⟩ := run_append_sl (P := Try.prog) w 24 ty 3 i0 _ 1 8 Try.underlying24 hi hz0 hz1 hz2 rfl v l.length (l.map (.int .i64 ·)) h a m.length c (m.map (.int .i64 ·)) (by simp) hm (by simp [Value.oneCell']) (by omega) (by unfold maxLen; omega) (by omega)
    refine ⟨some ⟨g', o', none⟩, c', w', by rw [List.length_append]; exact h1, by unfold IRow; rw [List.length_append, List.map_append]; exact h2, h3, ?_⟩
    rcases h4 with h4 | h4
    · exact .inl h4.symm
    · exact .inr (by rw [h4]; rfl)
theorem wpl_append_int {ops : Array Oper} {rest : List Oper} {o : Oper} {a : Act} {Q : Exit → Act → World → Prop} {W : World} (hgd : o.guard = none) (s x : Operand)
    (ho : o.op = .call { callee := .builtin .append, args := #[s, x], argTypes := #[24, 24] })
    (v : Value) (l : List Int) (m : Int) (b c : Nat) (hs : a.eval s = v) (hx : a.eval x = .slice (some ⟨b, 0, none⟩) 1 c) (h : IRow W v l) (hm : W.heap[b]? = some (.cells #[.int .i64 m] 3 (0, 0))) (hl : l.length ≤ 90000)
    (K : ∀ A c' w', IRow w' (.slice A (l ++ [m]).length c') (l ++ [m]) → W.grownBy w' v.ownBlock → ((Value.slice A (l ++ [m]).length c').ownBlock = v.ownBlock ∨ (Value.slice A (l ++ [m]).length c').ownBlock = some W.heap.size) → wpList Try.prog ops Q rest (a.put o.dst (.slice A (l ++ [m]).length c')) w') : wpList Try.prog ops Q (o :: rest) a W := by
  obtain ⟨A, c', w', hrun, h2, h3, h4⟩ := run_append_ints W v l [m] ⟨b, 0, none⟩ c o.type h (fun j u hu => by
    rcases j with _ | j
    · cases hu
      simp [World.cell?, Addr.add, hm]
    · simp at hu) (by simp; omega)
  refine wpList_plain hgd fun _ hK => ?_
  unfold Oper.wp execOp
  have hrun' : (Builtin.append_ #[24, 24] o.type #[v, .slice (some ⟨b, 0, none⟩) 1 c]).run Try.prog W = .ok (.slice A (l ++ [m]).length c') w' := hrun
  simp only [ho, resolve, invoke, builtin, Sem.run_bind, Sem.run_pure, Result.andThen_ok, List.map_toArray, List.map_cons, List.map_nil, hs, hx, hrun']
  exact hK _ _ (K A c' w' h2 h3 h4)
theorem IRow.below {w w' : World} {v : Value} {l : List Int} (h : IRow w v l) (hB : Below w.heap.size w w') : IRow w' v l := Sl.below h hB (Nat.le_refl _)
theorem SRow.below {w w' : World} {v : Value} {l : List ByteArray} (h : SRow w v l) (hB : Below w.heap.size w w') : SRow w' v l := Sl.below h hB (Nat.le_refl _)
theorem irow_ne {w : World} {v v' : Value} {l : List Int} {l' : List H} (h : IRow w v l) (h' : RowOf w v' l') (k : Nat) (hk : v.ownBlock = some k) : v'.ownBlock ≠ some k := fun e => by
  obtain ⟨_, c1, e1⟩ := h.lt k hk
  obtain ⟨_, c2, e2⟩ := h'.lt k e
  rw [e1] at e2
  injection e2 with e2
  injection e2 with _ e2
  exact absurd e2 (by decide)
theorem irow_ne_cache {w : World} {v v' : Value} {l : List Int} {l' : List H} {g : Nat} {room : Int} (h : IRow w v l) (h' : CacheAt w g room v' l') : v.ownBlock ≠ some g := fun e => by
  obtain ⟨_, c1, e1⟩ := h.lt g e
  rw [h'.obj] at e1
  injection e1 with e1
  injection e1 with _ e1
  exact absurd e1 (by decide)
/-- What Put makes of the entries, and what goes. -/
def took (l : List H) (s : ByteArray) : List H := match l.findIdx? (fun h => h.1 == s) with
  | some i => l.take i ++ l.drop (i + 1)
  | none => l
def put0 (l : List H) (s : ByteArray) (n : Int) : List H := took l s ++ [(s, n)]
def over (room : Int) (l : List H) (s : ByteArray) (n : Int) : Nat := (put0 l s n).length - room.toNat
def putL (room : Int) (l : List H) (s : ByteArray) (n : Int) : List H := (put0 l s n).drop (over room l s n)
def putO (room : Int) (l : List H) (s : ByteArray) (n : Int) : List Int := (has l s).toList ++ ((put0 l s n).take (over room l s n)).map (·.2)
theorem took_none {l : List H} {s : ByteArray} (h : idx l s = -1) : took l s = l := by
  unfold idx at h
  unfold took
  cases e : l.findIdx? (fun h => h.1 == s) with
  | none => rfl
  | some i => rw [e] at h; simp at h
theorem took_some {l : List H} {s : ByteArray} {i : Nat} (h : idx l s = (i : Int)) : took l s = l.take i ++ l.drop (i + 1) := by
  unfold idx at h
  unfold took
  cases e : l.findIdx? (fun h => h.1 == s) with
  | none => rw [e] at h; simp at h
  | some j =>
    rw [e] at h
    have : j = i := by simp at h; omega
    rw [this]
def PutPost (g : Nat) (room : Int) (v : Value) (out : List Int) (l' : List H) (w : World) (en : Ending) (w' : World) : Prop := ∃ A c v', en = .returned (.slice A out.length c) ∧ IRow w' (.slice A out.length c) out ∧ CacheAt w' g room v' l' ∧ Upd g v w w' ∧ New w v v' ∧ ∀ k, (Value.slice A out.length c).ownBlock = some k → w.heap.size ≤ k
/-- From the append on. -/
structure PutSt (w0 : World) (g : Nat) (room : Int) (v0 : Value) (w : World) (vo : Value) (out : List Int) (v : Value) (l : List H) : Prop where
  cache : CacheAt w g room v l
  upd : Upd g v0 w0 w
  new : New w0 v0 v
  row : IRow w vo out
  fresh : ∀ k, vo.ownBlock = some k → w0.heap.size ≤ k
theorem PutSt.below {w0 w w' : World} {g : Nat} {room : Int} {v0 vo v : Value} {out : List Int} {l : List H} (h : PutSt w0 g room v0 w vo out v l) (hB : Below w.heap.size w w') : PutSt w0 g room v0 w' vo out v l :=
  ⟨h.cache.below hB, h.upd.trans h.new (Upd.of_below hB), h.new, h.row.below hB, h.fresh⟩
theorem Upd.grown_row {w0 w w' : World} {g : Nat} {v0 vo : Value} (h : Upd g v0 w0 w) (hg : w.grownBy w' vo.ownBlock) (hf : ∀ k, vo.ownBlock = some k → w0.heap.size ≤ k) : Upd g v0 w0 w' :=
  ⟨hg.os.trans h.os, hg.tape.trans h.tape, hg.output.trans h.output, Nat.le_trans h.size hg.size, fun k hk hkg hkv => (hg.block k (by have := h.size; omega) (fun e => by have := hf k e.symm; omega)).trans (h.block k hk hkg hkv)⟩
/-- One number more goes. -/
theorem PutSt.out {w0 w w' : World} {g : Nat} {room : Int} {v0 vo v vo' : Value} {out out' : List Int} {l : List H} (h : PutSt w0 g room v0 w vo out v l) (hg : w.grownBy w' vo.ownBlock) (hr : IRow w' vo' out') (ho : vo'.ownBlock = vo.ownBlock ∨ vo'.ownBlock = some w.heap.size) : PutSt w0 g room v0 w' vo' out' v l := by
  have hgb : w'.heap[g]? = w.heap[g]? := hg.block g h.cache.lt (fun e => irow_ne_cache h.row h.cache e.symm)
  refine ⟨⟨hgb.trans h.cache.obj, Sl.move h.cache.row fun k hk => hg.block k (h.cache.row.lt k hk).1 (fun e => irow_ne h.row h.cache.row k e.symm hk)⟩, h.upd.grown_row hg h.fresh, h.new, hr, fun k hk => ?_⟩
  rcases ho with ho | ho
  · exact h.fresh k (by rw [← ho]; exact hk)
  · rw [ho] at hk
    have := h.upd.size
    cases hk
    exact this
/-- An append onto the entries, stored. -/
theorem PutSt.app {w0 w w' : World} {g : Nat} {room : Int} {v0 vo v v' : Value} {out : List Int} {l l' : List H} (h : PutSt w0 g room v0 w vo out v l) (hg : w.grownBy w' v.ownBlock) (hr : RowOf w' v' l') (ho : v'.ownBlock = v.ownBlock ∨ v'.ownBlock = some w.heap.size) : PutSt w0 g room v0 (w'.setCell ⟨g, 1, none⟩ v') vo out v' l' := by
  have hgb : w'.heap[g]? = w.heap[g]? := hg.block g h.cache.lt (fun e => h.cache.ne e.symm)
  have hn : New w v v' := fun k hk => by
    rcases ho with ho | ho
    · exact .inl (by rw [← ho]; exact hk)
    · rw [ho] at hk
      cases hk
      exact .inr (Nat.le_refl _)
  have hu : Upd g v w w' := ⟨hg.os, hg.tape, hg.output, hg.size, fun k hk _ hv => hg.block k hk (fun e => hv e.symm)⟩
  refine ⟨set_cache (hgb.trans h.cache.obj) hr, (h.upd.trans h.new hu).set _, h.new.trans h.upd.size hn, Sl.move h.row fun k hk => ?_, h.fresh⟩
  rw [show (w'.setCell ⟨g, 1, none⟩ v').heap[k]? = w'.heap[k]? from Below.heap_setCell _ _ _ _ (fun e => irow_ne_cache h.row h.cache (by rw [hk, e]))]
  exact hg.block k (h.row.lt k hk).1 (fun e => irow_ne h.row h.cache.row k hk e.symm)
/-- A cut, stored. -/
theorem PutSt.cut {w0 w : World} {g : Nat} {room : Int} {v0 vo v v' : Value} {out : List Int} {l l' : List H} (h : PutSt w0 g room v0 w vo out v l) (hr : RowOf w v' l') (ho : v'.ownBlock = v.ownBlock) : PutSt w0 g room v0 (w.setCell ⟨g, 1, none⟩ v') vo out v' l' :=
  h.app (World.grownBy.refl w _) hr (.inl ho)
theorem held_cells {w : World} {q : Nat} {s : ByteArray} {x : Int} {fr : Nat × Nat} (h : w.heap[q]? = some (.cells #[.string s, .int .i64 x] 47 fr)) : ∀ j u, (enc [(s, x)])[j]? = some u → w.cell? ((⟨q, 0, none⟩ : Addr).add j) = some u := by
  intro j u hu
  rcases j with _ | _ | j
  · cases hu
    simp [World.cell?, Addr.add, h]
  · cases hu
    simp [World.cell?, Addr.add, h]
  · simp [enc] at hu
theorem Take_any (g : Nat) (room : Int) (v : Value) (l : List H) (s : ByteArray) (w : World) (h : CacheAt w g room v l) (hl : l.length ≤ 1000) : Calls Try.prog 9 #[.pointer (some ⟨g, 0, none⟩), .string s] w fun en w' => ∃ n b v', en = .returned (.tuple #[.int .i64 n, .bool b]) ∧ has l s = (if b = true then some n else none) ∧ CacheAt w' g room v' (took l s) ∧ Upd g v w w' ∧ New w v v' := by
  rcases idx_cases l s with hn | ⟨i, hi, hn, _⟩
  · refine (Take_no g room v l s w h hl (has_none hn)).mono ?_
    rintro e w' ⟨rfl, hB⟩
    exact ⟨0, false, v, rfl, has_none hn, by rw [took_none hn]; exact h.below hB, Upd.of_below hB, New.refl w v⟩
  · refine (Take_yes g room v l s i hi w h hl hn).mono ?_
    rintro e w' ⟨rfl, v', h1, h2, h3⟩
    exact ⟨l[i].2, true, v', rfl, has_some hi hn, by rw [took_some hn]; exact h1, h2, h3⟩
set_option maxHeartbeats 2000000 in
set_option maxRecDepth 100000 in
theorem Put_any (g : Nat) (room : Nat) (v : Value) (l : List H) (s : ByteArray) (n : Int) (w : World) (h : CacheAt w g (room : Int) v l) (hl : l.length ≤ 900) (hr : room ≤ 900) : Calls Try.prog 8 #[.pointer (some ⟨g, 0, none⟩), .string s, .int .i64 n] w (PutPost g (room : Int) v (putO (room : Int) l s n) (putL (room : Int) l s n) w) := by
  have hl2 : (took l s).length ≤ 900 := by
    rcases idx_cases l s with hn | ⟨i, hi, hn, _⟩
    · rw [took_none hn]; omega
    · rw [took_some hn]; simp; omega
  have HC := Lib.hid h
  obtain ⟨L1, hL1⟩ : ∃ L1, took l s = L1 := ⟨_, rfl⟩
  obtain ⟨O, hO⟩ : ∃ O, (has l s).toList = O := ⟨_, rfl⟩
  have hOl : O.length ≤ 1 := by rw [← hO]; cases has l s <;> simp
  rw [hL1] at hl2
  obtain ⟨L2, hL2⟩ : ∃ L2, L1 ++ [(s, n)] = L2 := ⟨_, rfl⟩
  obtain ⟨K, hK⟩ : ∃ K, L2.length - room = K := ⟨_, rfl⟩
  have hl3 : L2.length ≤ 901 := by rw [← hL2]; simp; omega
  have e1 : putO (room : Int) l s n = O ++ (L2.take K).map (·.2) := by unfold putO over put0; rw [hL1, hL2, Int.toNat_natCast, hK, hO]
  have e2 : putL (room : Int) l s n = L2.drop K := by unfold putL over put0; rw [hL1, hL2, Int.toNat_natCast, hK]
  rw [e1, e2]
  have HL1 := Lib.hid hL1
  have HO := Lib.hid (And.intro hO hOl)
  have HL2 := Lib.hid (And.intro hL2 (And.intro hl3 hK))
  have HL3 := Lib.hid hl2
  have hr' : (room : Int) ≤ 900 := by omega
  have HLL := Lib.hid hl
  clear h hL1 hO hOl hL2 hl3 hK e1 e2 hl2 hl hr
  go_enter Try.func8, Try.ntmps8
  go_wp2_with fail
  refine (Take_any g (room : Int) v l s w HC.out (by have := HLL.out; omega)).mono ?_
  rintro e w1 ⟨old, b, v1, rfl, hh, h1, hU1, hN1⟩
  rw [HL1.out] at h1
  have H1 := Lib.hid (And.intro h1 (And.intro hU1 (And.intro hN1 hh)))
  clear h1 hU1 hN1 hh
  go_upto_if 16 with fail
  go_cut [7] (fun t7 wc => ∃ A c, t7 = .slice A O.length c ∧ Hid (PutSt w g (room : Int) v wc (.slice A O.length c) O v1 L1))
  case first =>
    cases b with
    | false =>
      have hO : O = [] := by rw [← HO.out.1, H1.out.2.2.2]; rfl
      subst hO
      go_wp2_with fail
      go_meet
      case rel => exact ⟨none, 0, rfl, Lib.hid ⟨H1.out.1, H1.out.2.1, H1.out.2.2.1, Sl.nil _ _ _, fun k hk => by cases hk⟩⟩
    | true =>
      have hO : O = [old] := by rw [← HO.out.1, H1.out.2.2.2]; rfl
      subst hO
      have H2 : Hid (PutSt w g (room : Int) v (w1.alloc (.cells #[.int .i64 old] 3)) (.slice none 0 0) [] v1 L1) := Lib.hid ((PutSt.mk H1.out.1 H1.out.2.1 H1.out.2.2.1 (Sl.nil _ _ _) (fun k hk => by cases hk) : PutSt w g (room : Int) v w1 (.slice none 0 0) [] v1 L1).below ((Below.refl _ _).alloc (Nat.le_refl _) _))
      have HA := Lib.hid (heap_alloc_new w1 (.cells #[.int .i64 old] 3))
      go_wp2_with (at_builtin; refine wpl_append_int rfl (.tmp 17) (.tmp 19) rfl (.slice none 0 0) [] old w1.heap.size 1 rfl rfl H2.out.row HA.out (by simp) ?_)
      rintro A c w2 hr2 hg2 ho2
      have H3 := Lib.hid (H2.out.out hg2 hr2 (by simpa using ho2))
      clear hr2 hg2 ho2
      go_wp2_with fail
      go_meet
      case rel => exact ⟨A, c, rfl, H3⟩
  case rest =>
    obtain ⟨A, c, rfl, H2⟩ := hcut
    clear H1
    have HB2 : Hid (PutSt w g (room : Int) v (wc.alloc (.cells #[.string s, .int .i64 n] 47)) (.slice A O.length c) O v1 L1) := Lib.hid (H2.out.below ((Below.refl _ _).alloc (Nat.le_refl _) _))
    have HCs : Hid (∀ j u, (enc [(s, n)])[j]? = some u → (wc.alloc (.cells #[.string s, .int .i64 n] 47)).cell? ((⟨wc.heap.size, 0, none⟩ : Addr).add j) = some u) := Lib.hid (held_cells (heap_alloc_new wc (.cells #[.string s, .int .i64 n] 47)))
    have c1 := H2.out.cache.c1
    go_wp2_with (at_builtin; refine wpl_append rfl (.tmp 25) (.tmp 29) rfl v1 L1 [(s, n)] ⟨wc.heap.size, 0, none⟩ 1 1 rfl rfl rfl HB2.out.cache.row HCs.out (by have := HL3.out; simp; omega) ?_)
    rintro v2 w3 h3 hg3 ho3
    obtain ⟨A2, c2, e2, _⟩ := h3.form
    have H3 := Lib.hid (HB2.out.app hg3 h3 (by simpa using ho3))
    rw [HL2.out.1] at h3 e2 H3
    subst e2
    have hob : w3.heap[g]? = (wc.alloc (.cells #[.string s, .int .i64 n] 47)).heap[g]? := hg3.block g HB2.out.cache.lt (fun e => HB2.out.cache.ne e.symm)
    have k4 : w3.cell? ⟨g, 1, none⟩ = some v1 := by simp [World.cell?, hob.trans HB2.out.cache.obj]
    have z4 : w3.frozen? ⟨g, 1, none⟩ = false := by simp [World.frozen?, hob.trans HB2.out.cache.obj]
    clear h3 hg3 ho3 HB2 HCs c1 hob H2
    obtain ⟨nL, hnL⟩ : ∃ nL, L2.length = nL := ⟨_, rfl⟩
    rw [hnL] at H3 ⊢
    have HnL := Lib.hid hnL
    clear hnL
    go_wp2_with fail
    clear k4 z4
    generalize w3.setCell ⟨g, 1, none⟩ (.slice A2 nL c2) = w4 at H3 ⊢
    go_loopw [7] (fun t7 wr => ∃ (k nO nM : Nat) (A : Option Addr) (c : Nat) (A2 : Option Addr) (c2 : Nat), t7 = .slice A nO c ∧ k ≤ K ∧ nO = O.length + k ∧ nM + k = nL ∧ Hid (PutSt w g (room : Int) v wr (.slice A nO c) (O ++ (L2.take k).map (·.2)) (.slice A2 nM c2) (L2.drop k))) (fun t _ => match t with | .slice _ n _ => 2000 - n | _ => 0)
    case atStart => exact ⟨0, O.length, nL, A, c, A2, c2, rfl, by omega, rfl, rfl, by simpa using H3⟩
    case round =>
      obtain ⟨k, nO, nM, A, c, A2, c2, rfl, hk, hnO, hnM, HI⟩ := hrel
      clear H3
      have hlens := And.intro HnL.out HL2.out.2
      have c1 := HI.out.cache.c1
      have c0 := HI.out.cache.c0
      by_cases d1 : k < K
      · have q1 : (room : Int) < (nM : Int) := by omega
        go_wp2_with fail
        go_quiet (fail)
        have HI2 := Lib.hid (HI.out.below (pw_below_drewN (Below.refl _ _) nq))
        generalize wr.drewN nq = w5 at HI2 ⊢
        clear c1 c0 HI
        have hml : (L2.drop k).length = nM := by rw [List.length_drop]; omega
        have hn0 : 0 < nM := by omega
        obtain ⟨x, M, hxM⟩ : ∃ x M, L2.drop k = x :: M := by
          cases e : L2.drop k with
          | nil => rw [e] at hml; simp at hml; omega
          | cons x M => exact ⟨x, M, rfl⟩
        have hrow : RowOf w5 (.slice A2 nM c2) (x :: M) := by rw [← hxM]; exact HI2.out.cache.row
        have hml2 : nM = (x :: M).length := by rw [← hxM]; exact hml.symm
        obtain ⟨q, o, c3, e3, hc3⟩ := (by rw [hml2] at hrow; exact hrow : RowOf w5 (.slice A2 (x :: M).length c2) (x :: M)).form1 (by simp)
        rw [← hml2] at hc3
        injection e3 with e3 _ e4
        subst e3 e4
        have y1 := (row_cell hrow hml2 0 (by simp)).2
        simp only [Nat.zero_mul, Nat.add_zero] at y1
        have y1 : w5.cell? ⟨q, o + 1, none⟩ = some (.int .i64 x.2) := y1
        have c1 := HI2.out.cache.c1
        have HA := Lib.hid (heap_alloc_new w5 (.cells #[.int .i64 x.2] 3))
        have HI3 := Lib.hid (HI2.out.below ((Below.refl _ _).alloc (Nat.le_refl _) (.cells #[.int .i64 x.2] 3)))
        have hOl : (O ++ (L2.take k).map (·.2)).length = nO := by rw [List.length_append, List.length_map, List.length_take]; omega
        obtain ⟨O3, hO3⟩ : ∃ O3, O ++ (L2.take k).map (·.2) = O3 := ⟨_, rfl⟩
        have hO4 : O ++ (L2.take (k + 1)).map (·.2) = O3 ++ [x.2] := by
          rw [← hO3, List.append_assoc]
          congr 1
          have hkl : k < L2.length := by omega
          rw [List.take_succ_eq_append_getElem hkl, List.map_append]
          congr 1
          rw [List.drop_eq_getElem_cons hkl] at hxM
          injection hxM with hxM _
          rw [hxM]
          rfl
        have hd4 : L2.drop (k + 1) = M := by
          rw [← List.drop_drop, hxM]
          rfl
        rw [hO3] at hOl
        rw [hO3, hxM] at HI3
        have HM := Lib.hid (And.intro hO4 (And.intro hd4 (And.intro hml2 (And.intro hOl (And.intro hc3 (And.intro hnO hnM))))))
        have HLN := Lib.hid hlens
        clear hO4 hd4 hml hrow hml2 hOl hO3 hxM HI2 hc3 hlens hnO hnM
        have q5 : (0 : Int) < (nM : Int) := by omega
        have HIr : Hid (IRow (w5.alloc (.cells #[.int .i64 x.2] 3)) (.slice A nO c) O3) := Lib.hid HI3.out.row
        go_wp2_with (at_builtin; refine wpl_append_int rfl (.tmp 43) (.tmp 51) rfl (.slice A nO c) O3 x.2 w5.heap.size 1 rfl rfl HIr.out HA.out (by have := HM.out; have := HLN.out; have := HO.out.2; omega) ?_)
        rintro A5 c5 w6 hr6 hg6 ho6
        have H6 := Lib.hid (HI3.out.out hg6 hr6 (by simpa using ho6))
        rw [HM.out.2.2.2.1] at H6 ⊢
        clear hr6 hg6 ho6 HI3 HA HIr y1 c1
        have c1 := H6.out.cache.c1
        have f1 := H6.out.cache.f1
        have q6 : (1 : Int) ≤ (nM : Int) := by omega
        have hdrop : RowOf w6 (.slice (some ⟨q, (if c2 = 1 then o else o + 2), none⟩) (nM - 1) (c2 - 1)) M := by
          have := row_drop (k := 1) (l := x :: M) (by have := H6.out.cache.row; rwa [HM.out.2.2.1] at this) (by simp)
          rw [← HM.out.2.2.1] at this
          exact this
        by_cases d3 : c2 = 1
        · rw [if_pos d3] at hdrop
          subst d3
          have H7 := Lib.hid (H6.out.cut hdrop rfl)
          clear hdrop
          go_wp2_with fail
          go_roundw
          case rel => exact ⟨k + 1, nO + 1, nM - 1, A5, c5, _, _, rfl, by have := HLN.out; omega, by have := HM.out.2.2.2.2.2.1; omega, by have := HM.out.2.2.2.2.2.2; omega, by rw [HM.out.1, HM.out.2.1]; exact H7⟩
          case measure => have := HM.out.2.2.2.2; have := HO.out.2; have := HLN.out; simp; omega
        · rw [if_neg d3] at hdrop
          have H7 := Lib.hid (H6.out.cut hdrop rfl)
          clear hdrop
          go_wp2_with fail
          go_roundw
          case rel => exact ⟨k + 1, nO + 1, nM - 1, A5, c5, _, _, rfl, by have := HLN.out; omega, by have := HM.out.2.2.2.2.2.1; omega, by have := HM.out.2.2.2.2.2.2; omega, by rw [HM.out.1, HM.out.2.1]; exact H7⟩
          case measure => have := HM.out.2.2.2.2; have := HO.out.2; have := HLN.out; simp; omega
      · have q1 : ¬ (room : Int) < (nM : Int) := by omega
        have hkK : k = K := by omega
        subst hkK
        go_wp2_with fail
        go_quiet (fail)
        have HI2 := Lib.hid (HI.out.below (pw_below_drewN (Below.refl _ _) nq))
        go_wp2_with fail
        go_ret
        have hle : (O ++ (L2.take k).map (·.2)).length = nO := by rw [List.length_append, List.length_map, List.length_take]; omega
        exact ⟨A, c, _, by rw [hle, hnO]; rfl, by rw [hle]; exact HI2.out.row, HI2.out.cache, HI2.out.upd, HI2.out.new, by rw [hle]; exact HI2.out.fresh⟩
end Go.Proofs.Ytffaiijeagghdaa.Lr
