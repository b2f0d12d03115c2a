/- LruPlays: what is known along a round. -/
import Derived.Test.YtffaiijeagghdaaMapF
import Derived.Test.YtffaiijeagghdaaRoomPure
set_option linter.unusedVariables false
set_option linter.unusedSimpArgs false
namespace Go.Proofs.Ytffaiijeagghdaa.Lr
open Go.RowKit Go.Proofs.YtffaiijeagghdaaW.PrintWords Go.Proofs.YtffaiijeagghdaaW.PrintLast Go.Proofs.Ytffaiijeagghdaa.Sl

def nm (L : List H) : List ByteArray := (L.map (·.1)).reverse
theorem nm_length (L : List H) : (nm L).length = L.length := by simp [nm]
theorem has_some_iff {L : List H} (hd : Dist L) {s : ByteArray} {x : Int} : has L s = some x ↔ (s, x) ∈ L := by
  constructor
  · intro h
    unfold has at h
    obtain ⟨y, hy, e⟩ := Option.map_eq_some_iff.1 h
    have h1 := List.mem_of_find?_eq_some hy
    have h2 := List.find?_some hy
    have : y.1 = s := beqT.1 h2
    rw [← this, ← e]
    exact h1
  · intro hL
    unfold has
    obtain ⟨a, b, e⟩ := List.append_of_mem hL
    have : L.find? (fun h => h.1 == s) = some (s, x) := by
      rw [List.find?_eq_some_iff_append]
      refine ⟨by simp, a, b, e, fun z hz => ?_⟩
      rw [e] at hd
      have := (List.pairwise_append.1 hd).2.2 z hz (s, x) List.mem_cons_self
      simpa using this
    rw [this]
    rfl
theorem has_ext {L L' : List H} (hd : Dist L) (hd' : Dist L') {s s' : ByteArray} (h : ∀ x, (s, x) ∈ L ↔ (s', x) ∈ L') : has L s = has L' s' := by
  cases e : has L s with
  | none =>
    cases e' : has L' s' with
    | none => rfl
    | some x =>
      have := (has_some_iff hd).2 ((h x).2 ((has_some_iff hd').1 e'))
      rw [e] at this
      cases this
  | some x => exact ((has_some_iff hd').2 ((h x).1 ((has_some_iff hd).1 e))).symm
theorem took_dist {L : List H} (hd : Dist L) (s : ByteArray) : Dist (took L s) := by
  rw [took_filter hd]
  exact List.Pairwise.filter _ hd
theorem took_mem {L : List H} (hd : Dist L) (s : ByteArray) (y : H) : y ∈ took L s ↔ y ∈ L ∧ y.1 ≠ s := by
  rw [took_filter hd, List.mem_filter]
  simp
theorem put0_dist {L : List H} (hd : Dist L) (s : ByteArray) (n : Int) : Dist (put0 L s n) := by
  unfold put0 Dist
  rw [List.pairwise_append]
  refine ⟨took_dist hd s, by simp, fun a ha b hb => ?_⟩
  obtain rfl : b = (s, n) := by simpa using hb
  exact ((took_mem hd s a).1 ha).2
theorem has_took {L : List H} (hd : Dist L) (s : ByteArray) : has (took L s) s = none ∧ ∀ t, t ≠ s → has (took L s) t = has L t := by
  constructor
  · cases e : has (took L s) s with
    | none => rfl
    | some x =>
      have := (took_mem hd s _).1 ((has_some_iff (took_dist hd s)).1 e)
      exact absurd rfl this.2
  · intro t ht
    refine has_ext (took_dist hd s) hd fun x => ?_
    rw [took_mem hd]
    exact ⟨fun h => h.1, fun h => ⟨h, ht⟩⟩
theorem has_put0 {L : List H} (hd : Dist L) (s : ByteArray) (n : Int) : has (put0 L s n) s = some n ∧ ∀ t, t ≠ s → has (put0 L s n) t = has L t := by
  refine ⟨(has_some_iff (put0_dist hd s n)).2 (by simp [put0]), fun t ht => ?_⟩
  refine has_ext (put0_dist hd s n) hd fun x => ?_
  unfold put0
  rw [List.mem_append, took_mem hd]
  constructor
  · rintro (h | h)
    · exact h.1
    · have : t = s := by simp at h; exact h.1
      exact absurd this ht
  · intro h
    exact .inl ⟨h, ht⟩
theorem has_tail {x : H} {M : List H} (hd : Dist (x :: M)) : has M x.1 = none ∧ has (x :: M) x.1 = some x.2 ∧ ∀ t, t ≠ x.1 → has M t = has (x :: M) t := by
  have h2 := List.pairwise_cons.1 hd
  refine ⟨?_, (has_some_iff hd).2 (by simp), fun t ht => has_ext h2.2 hd fun z => ?_⟩
  · cases e : has M x.1 with
    | none => rfl
    | some z =>
      have hm := (has_some_iff h2.2).1 e
      exact ((h2.1 (x.1, z) hm) rfl).elim
  · rw [List.mem_cons]
    constructor
    · exact fun h => .inr h
    · rintro (h | h)
      · exact absurd (congrArg Prod.fst h) ht
      · exact h
theorem nm_took {L : List H} (hd : Dist L) (s : ByteArray) : nm (took L s) = (nm L).filter (fun x => x != s) := by
  unfold nm
  rw [took_filter hd, List.filter_reverse, List.filter_map]
  rfl
theorem nm_put0 {L : List H} (s : ByteArray) (n : Int) : nm (put0 L s n) = s :: nm (took L s) := by
  unfold nm put0
  simp
/-- The cache, the law's own map and names. -/
structure PS (w0 w : World) (g R : Nat) (v : Value) (L M : List H) (b n : Nat) (vo : Value) : Prop where
  ls : LS w0 w g (R : Int) v L
  mp : MapF w b n (has M)
  mb : w0.heap.size ≤ b
  row : SRow w vo (nm M)
  fresh : ∀ k, vo.ownBlock = some k → w0.heap.size ≤ k
variable {w0 w w' : World} {g R : Nat} {v v' : Value} {L L' M M' : List H} {b n n' : Nat} {vo vo' : Value}
theorem PS.below (h : PS w0 w g R v L M b n vo) (hB : Below w.heap.size w w') : PS w0 w' g R v L M b n vo := ⟨h.ls.below hB, h.mp.move (hB.block b h.mp.lt), h.mb, h.row.below hB, h.fresh⟩
theorem PS.alloc (h : PS w0 w g R v L M b n vo) (o : Obj) : PS w0 (w.alloc o) g R v L M b n vo := h.below ((Below.refl _ _).alloc (Nat.le_refl _) o)
theorem PS.drewN (h : PS w0 w g R v L M b n vo) (q : Nat) : PS w0 (w.drewN q) g R v L M b n vo := h.below (pw_below_drewN (Below.refl _ _) q)
theorem LS.grow {room : Int} {X : Option Nat} (h : LS w0 w g room v L) (hg : w.grownBy w' X) (hX : ∀ k, X = some k → w0.heap.size ≤ k ∧ k ≠ g ∧ v.ownBlock ≠ some k) : LS w0 w' g room v L := by
  refine ⟨⟨(hg.block g h.cache.lt (fun e => (hX g e.symm).2.1 rfl)).trans h.cache.obj, Sl.move h.cache.row fun k hk => hg.block k (h.cache.row.lt k hk).1 (fun e => (hX k e.symm).2.2 hk)⟩, below_grown h.low hg (fun k hk => (hX k hk).1) h.low.size, h.ge, h.vge⟩
theorem PS.other {X : Option Nat} (h : PS w0 w g R v L M b n vo) (hg : w.grownBy w' X) (hX : ∀ k, X = some k → w0.heap.size ≤ k ∧ k ≠ g ∧ v.ownBlock ≠ some k ∧ vo.ownBlock ≠ some k ∧ k ≠ b) : PS w0 w' g R v L M b n vo :=
  ⟨h.ls.grow hg (fun k hk => ⟨(hX k hk).1, (hX k hk).2.1, (hX k hk).2.2.1⟩), h.mp.move (hg.block b h.mp.lt (fun e => (hX b e.symm).2.2.2.2 rfl)), h.mb, Sl.move h.row fun k hk => hg.block k (h.row.lt k hk).1 (fun e => (hX k e.symm).2.2.2.1 hk), h.fresh⟩
/-- A row of texts beside it is none of its blocks but, perhaps, the names'. -/
theorem PS.str {vl : Value} {ll : List ByteArray} (h : PS w0 w g R v L M b n vo) (hl : SRow w vl ll) (k : Nat) (hk : vl.ownBlock = some k) : k ≠ g ∧ v.ownBlock ≠ some k ∧ k ≠ b := by
  obtain ⟨_, cur, hc⟩ := hl.lt k hk
  exact ⟨fun e => srow_ne_cache hl h.ls.cache (by rw [hk, e]), srow_ne hl h.ls.cache.row k hk, fun e => h.mp.ne hc e.symm⟩
theorem PS.int {vl : Value} {ll : List Int} (h : PS w0 w g R v L M b n vo) (hl : IRow w vl ll) (k : Nat) (hk : vl.ownBlock = some k) : k ≠ g ∧ v.ownBlock ≠ some k ∧ vo.ownBlock ≠ some k ∧ k ≠ b := by
  obtain ⟨_, cur, hc⟩ := hl.lt k hk
  refine ⟨fun e => irow_ne_cache hl h.ls.cache (by rw [hk, e]), irow_ne hl h.ls.cache.row k hk, fun e => ?_, fun e => h.mp.ne hc e.symm⟩
  obtain ⟨_, cur2, hc2⟩ := h.row.lt k e
  rw [hc] at hc2
  injection hc2 with hc2
  injection hc2 with _ hc2
  exact absurd hc2 (by decide)
/-- The map is written. -/
theorem LS.map {room : Int} {n : Nat} {f : ByteArray → Option Int} (h : LS w0 w g room v L) (hm : MapF w b n f) (hmb : w0.heap.size ≤ b) (hg : w.grownBy w' (some b)) : LS w0 w' g room v L :=
  h.grow hg fun k hk => by
    cases hk
    refine ⟨hmb, hm.ne h.cache.obj, fun e => ?_⟩
    obtain ⟨_, cur, hc⟩ := h.cache.row.lt _ e
    exact hm.ne hc rfl
theorem SRow.map {n : Nat} {f : ByteArray → Option Int} {ll : List ByteArray} (h : SRow w vo ll) (hm : MapF w b n f) (hg : w.grownBy w' (some b)) : SRow w' vo ll :=
  Sl.move h fun k hk => hg.block k (h.lt k hk).1 (fun e => by
    obtain ⟨_, cur, hc⟩ := h.lt k hk
    cases e
    exact hm.ne hc rfl)
theorem IRow.map {n : Nat} {f : ByteArray → Option Int} {ll : List Int} (h : IRow w vo ll) (hm : MapF w b n f) (hg : w.grownBy w' (some b)) : IRow w' vo ll :=
  Sl.move h fun k hk => hg.block k (h.lt k hk).1 (fun e => by
    obtain ⟨_, cur, hc⟩ := h.lt k hk
    cases e
    exact hm.ne hc rfl)
theorem MapF.upd {room : Int} {f : ByteArray → Option Int} (h : MapF w b n f) (hc : CacheAt w g room v L) (hU : Upd g v w w') : MapF w' b n f :=
  h.move (hU.block b h.lt (h.ne hc.obj) (fun e => by
    obtain ⟨_, cur, hc2⟩ := hc.row.lt b e
    exact h.ne hc2 rfl))
theorem PS.upd (h : PS w0 w g R v L M b n vo) (hc : CacheAt w' g (R : Int) v' L') (hU : Upd g v w w') (hn : New w v v') : PS w0 w' g R v' L' M b n vo :=
  ⟨h.ls.upd hc hU hn, h.mp.upd h.ls.cache hU, h.mb, h.row.upd h.ls.cache hU, h.fresh⟩
theorem PS.map (h : PS w0 w g R v L M b n vo) (hm : MapF w' b n' (has M')) (hg : w.grownBy w' (some b)) (hr : SRow w vo' (nm M')) (hf : ∀ k, vo'.ownBlock = some k → w0.heap.size ≤ k) : PS w0 w' g R v L M' b n' vo' :=
  ⟨h.ls.map h.mp h.mb hg, hm, h.mb, hr.map h.mp hg, hf⟩
/-- append of a row of texts to a row. -/
theorem wpl_append_strs {ops : Array Oper} {rest : List Oper} {o : Oper} {a : Act} {Q : Exit → Act → World → Prop} {W : World} (hgd : o.guard = none) (s x : Operand)
    (ho : o.op = .call { callee := .builtin .append, args := #[s, x], argTypes := #[30, 30] })
    (v : Value) (l m : List ByteArray) (A : Option Addr) (nm c : Nat) (hnm : nm = m.length) (hs : a.eval s = v) (hx : a.eval x = .slice A nm c) (h : SRow W v l) (hm : SRow W (.slice A nm c) m) (hl : l.length + m.length ≤ 90000)
    (K : ∀ A c' w', SRow w' (.slice A (l ++ m).length c') (l ++ m) → W.grownBy w' v.ownBlock → ((Value.slice A (l ++ m).length c').ownBlock = v.ownBlock ∨ (Value.slice A (l ++ m).length c').ownBlock = some W.heap.size) → wpList Try.prog ops Q rest (a.put o.dst (.slice A (l ++ m).length c')) w') : wpList Try.prog ops Q (o :: rest) a W := by
  subst hnm
  have key : ∃ A2 c' w', (Builtin.append_ #[30, 30] o.type #[v, .slice A m.length c]).run Try.prog W = .ok (.slice A2 (l ++ m).length c') w' ∧ SRow w' (.slice A2 (l ++ m).length c') (l ++ m) ∧ W.grownBy w' v.ownBlock ∧ ((Value.slice A2 (l ++ m).length c').ownBlock = v.ownBlock ∨ (Value.slice A2 (l ++ m).length c').ownBlock = some W.heap.size) := by
    cases m with
    | nil =>
      obtain ⟨A2, c2, rfl, _⟩ := h.form
      obtain ⟨i0, hi, _⟩ := Option.map_eq_some_iff.1 infoStr
      refine ⟨A2, c2, W, ?_, by simpa using h, World.grownBy.refl W _, .inl (by simp)⟩
      have := run_append_none W 30 o.type 9 i0 1 Try.underlying30 hi _ _ _ h A c
      simpa using this
    | cons y m =>
      obtain ⟨q, o', c', e, _⟩ := hm.form1 (by simp)
      cases e
      exact run_append_strs W v l (y :: m) ⟨q, o', none⟩ c o.type h (fun j u hu => by
        have := Sl.cell hm j u hu
        rwa [show (⟨q, o', none⟩ : Addr).add j = ⟨q, o' + j, none⟩ from by unfold Addr.add; split <;> simp_all]) (by omega)
  obtain ⟨A2, c', w', hrun, h2, h3, h4⟩ := key
  refine wpList_plain hgd fun _ hK => ?_
  unfold Oper.wp execOp
  simp only [ho, resolve, invoke, builtin, Sem.run_bind, Sem.run_pure, Result.andThen_ok, List.map_toArray, List.map_cons, List.map_nil, hs, hx, hrun]
  exact hK _ _ (K A2 c' w' h2 h3 h4)
/-- What the entries of a law's cache are. -/
def Fine (L : List H) : Prop := Dist L ∧ ∀ e ∈ L, e.1.size ≤ maxLen
theorem Fine.took {L : List H} (h : Fine L) (s : ByteArray) : Fine (took L s) := ⟨took_dist h.1 s, fun e he => h.2 e ((took_mem h.1 s e).1 he).1⟩
theorem Fine.put0 {L : List H} (h : Fine L) (s : ByteArray) (n : Int) (hs : s.size ≤ maxLen) : Fine (put0 L s n) := ⟨put0_dist h.1 s n, fun e he => by
  unfold Lr.put0 at he
  rcases List.mem_append.1 he with he | he
  · exact h.2 e ((took_mem h.1 s e).1 he).1
  · obtain rfl : e = (s, n) := by simpa using he
    exact hs⟩
theorem Fine.drop {L : List H} (h : Fine L) (k : Nat) : Fine (L.drop k) := ⟨List.Pairwise.sublist (List.drop_sublist _ _) h.1, fun e he => h.2 e (List.mem_of_mem_drop he)⟩
theorem IRow.kept {vi vl : Value} {li : List Int} {ll : List ByteArray} (h : IRow w vi li) (hl : SRow w vl ll) (hg : w.grownBy w' vl.ownBlock) : IRow w' vi li :=
  Sl.move h fun k hk => hg.block k (h.lt k hk).1 (fun e => by
    obtain ⟨_, c1, e1⟩ := h.lt k hk
    obtain ⟨_, c2, e2⟩ := hl.lt k e.symm
    rw [e1] at e2
    injection e2 with e2
    injection e2 with _ e2
    exact absurd e2 (by decide))
theorem SRow.kept_int {vi vl : Value} {li : List Int} {ll : List ByteArray} (h : SRow w vl ll) (hi : IRow w vi li) (hg : w.grownBy w' vi.ownBlock) : SRow w' vl ll :=
  Sl.move h fun k hk => hg.block k (h.lt k hk).1 (fun e => by
    obtain ⟨_, c1, e1⟩ := h.lt k hk
    obtain ⟨_, c2, e2⟩ := hi.lt k e.symm
    rw [e1] at e2
    injection e2 with e2
    injection e2 with _ e2
    exact absurd e2 (by decide))
abbrev AskB (w : World) (K : Nat) (a c d : Int) : Prop := w.heap[K]? = some (.cells #[.int .i64 a, .int .i64 c, .int .i64 d] 40 (0, 0))
theorem AskB.str {K : Nat} {a c d : Int} {vl : Value} {ll : List ByteArray} (h : AskB w K a c d) (hl : SRow w vl ll) (hg : w.grownBy w' vl.ownBlock) : AskB w' K a c d :=
  (hg.block K (lt_of_heap h) (fun e => by
    obtain ⟨_, c2, e2⟩ := hl.lt K e.symm
    rw [show w.heap[K]? = _ from h] at e2
    injection e2 with e2
    injection e2 with _ e2
    exact absurd e2 (by decide))).trans h
theorem AskB.int {K : Nat} {a c d : Int} {vl : Value} {ll : List Int} (h : AskB w K a c d) (hl : IRow w vl ll) (hg : w.grownBy w' vl.ownBlock) : AskB w' K a c d :=
  (hg.block K (lt_of_heap h) (fun e => by
    obtain ⟨_, c2, e2⟩ := hl.lt K e.symm
    rw [show w.heap[K]? = _ from h] at e2
    injection e2 with e2
    injection e2 with _ e2
    exact absurd e2 (by decide))).trans h
theorem AskB.map {K n : Nat} {a c d : Int} {f : ByteArray → Option Int} (h : AskB w K a c d) (hm : MapF w b n f) (hg : w.grownBy w' (some b)) : AskB w' K a c d :=
  (hg.block K (lt_of_heap h) (fun e => hm.ne h (Option.some.inj e).symm)).trans h
theorem SRow.form2 {A : Option Addr} {n c : Nat} {l : List ByteArray} (h : SRow w (.slice A n c) l) (hn : n = l.length) (h0 : 0 < n) : ∃ g o, A = some ⟨g, o, none⟩ ∧ n ≤ c := by
  subst hn
  obtain ⟨g, o, c', e, hc⟩ := h.form1 h0
  injection e with e _ e2
  subst e2
  exact ⟨g, o, e, hc⟩
theorem nm_cons (y : H) (M : List H) : nm (y :: M) = nm M ++ [y.1] := by simp [nm]
theorem lb_size (x : Nat) : (lb x).size ≤ maxLen := by show 1 ≤ maxLen; unfold maxLen; omega
end Go.Proofs.Ytffaiijeagghdaa.Lr
