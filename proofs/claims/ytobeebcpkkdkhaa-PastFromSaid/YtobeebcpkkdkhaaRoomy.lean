/- Package porticobook over entries: Roomy, Intact. -/
import Derived.Test.YtobeebcpkkdkhaaFrom
import Derived.Laws.CopyRow
import Derived.Laws.CopyOwn
import Derived.Laws.MakeOwn
import Derived.Deep.LoopGhost
set_option linter.unusedVariables false
set_option linter.unusedSimpArgs false
namespace Go.Proofs.Ytobeebcpkkdkhaa.Pa
open Go.RowKit Go.Proofs.YtobeebcpkkdkhaaW.PrintWords Go.Proofs.YtobeebcpkkdkhaaW.PrintLast Go.Proofs.Ytobeebcpkkdkhaa.PPastRuns

theorem run_copy_row2 {P : Program} (w : World) (dT sT ty elem : TypeId) (size g o dLen dCap : Nat) (a : Addr) (sLen sCap : Nat) (cur : Array Value) (t : TypeId) (cs : List Value)
    (hu : P.underlying dT = some (.slice elem)) (hs : (P.info? elem).map (·.size) = some size)
    (hg : w.heap[g]? = some (.cells cur t (0, 0))) (hn : cs.length = Nat.min sLen dLen * size)
    (hsrc : ∀ j v, cs[j]? = some v → w.cell? (a.add j) = some v) (hfit : o + cs.length ≤ cur.size) (h1 : ∀ v ∈ cs, v.oneCell' = true) :
    (Builtin.copy_ #[dT, sT] ty #[.slice (some ⟨g, o, none⟩) dLen dCap, .slice (some a) sLen sCap]).run P w =
      .ok (goInt (Nat.min sLen dLen)) (w.setRow g (cur.toList.take o ++ cs ++ cur.toList.drop (o + cs.length)).toArray) := by
  have hl := run_loadCells_list (P := P) w a cs hsrc
  have hst := run_storeCells_at P g o t cs 0 cur w hg (by simpa using hfit) h1
  cases hq : P.info? elem with
  | none => simp [hq] at hs
  | some i =>
    have hi : i.size = size := by simpa [hq] using hs
    simp [Builtin.copy_, run_underlying hu, Builtin.lenOf, Builtin.firstCells, sizeOf, typeInfo, hq, hi, ← hn, hl, hst]
/-- One entry more in a row's room. -/
theorem own_next {w : World} {g i cap : Nat} {m : List S28} (h : RowOf w (.slice (some ⟨g, 0, none⟩) i cap) m) (hi : i = m.length) (hc : i < cap) (e : S28) :
    RowOf ((w.setCell ⟨g, i * 2, none⟩ (.string e.f0)).setCell ⟨g, i * 2 + 1, none⟩ (.int .u64 e.f1)) (.slice (some ⟨g, 0, none⟩) (i + 1) cap) (m ++ [e]) := by
  subst hi
  refine ⟨by rw [enc_length], ?_⟩
  rcases h.2 with ⟨e1, _⟩ | ⟨g', cap', cur, e1, h0, h1, h2, h3, h4, h5⟩
  · cases e1
  · injection e1 with e1 e2 e3
    injection e1 with e1
    injection e1 with e1
    subst e1 e3
    refine .inr ⟨g, cap, (cur.setIfInBounds (m.length * 2) (.string e.f0)).setIfInBounds (m.length * 2 + 1) (.int .u64 e.f1), by rw [List.length_append]; rfl, h0, ?_, by rw [List.length_append]; simp; omega, h3, by simpa using h4, ?_⟩
    · simp [World.setCell, Array.getElem?_modify, h1]
    · rw [Array.toList_setIfInBounds, Array.toList_setIfInBounds, enc_append, List.length_append]
      have hlen : cur.toList.length = cap * 2 := by simpa using h4
      simp only [List.length_cons, List.length_nil, Nat.zero_add]
      rw [show (m.length + 1) * 2 = m.length * 2 + 1 + 1 by omega, List.take_succ_eq_append_getElem (by simp; omega), List.take_succ_eq_append_getElem (by simp; omega)]
      rw [List.take_set_of_le (by omega), List.take_set_of_le (by omega), h5]
      simp [enc]
theorem own_room {w : World} {g i cap : Nat} {m : List S28} (h : RowOf w (.slice (some ⟨g, 0, none⟩) i cap) m) (j : Nat) (hj : j < cap * 2) : ∃ u, w.cell? ⟨g, j, none⟩ = some u := by
  rcases h.2 with ⟨e1, _⟩ | ⟨g', cap', cur, e1, h0, h1, h2, h3, h4, h5⟩
  · cases e1
  · injection e1 with e1 e2 e3
    injection e1 with e1
    injection e1 with e1
    subst e1 e3
    exact ⟨cur[j]'(by omega), by simp [World.cell?, h1, show j < cur.size by omega]⟩
theorem own_fro {w : World} {g i cap : Nat} {m : List S28} (h : RowOf w (.slice (some ⟨g, 0, none⟩) i cap) m) (j : Nat) : w.frozen? ⟨g, j, none⟩ = false := by
  rcases h.2 with ⟨e1, _⟩ | ⟨g', cap', cur, e1, h0, h1, h2, h3, h4, h5⟩
  · cases e1
  · injection e1 with e1 e2 e3
    injection e1 with e1
    injection e1 with e1
    subst e1 e3
    simp [World.frozen?, h1]
theorem enc_rep (n : Nat) (e : S28) : (enc (List.replicate n e)).length = n * 2 := by rw [enc_length, List.length_replicate]
theorem made_zero (n : Nat) : (madeCells #[.string ⟨#[]⟩, .int .u64 0] (n * 2)).toList.take 0 = [] := rfl
/-- What a copy leaves: the row's beginning, and room. -/
theorem own_copied {w : World} {g n : Nat} {l : List S28} {cur : Array Value} (hg : w.heap[g]? = some (.cells cur 28 (0, 0))) (hc : cur.size = (n + 80) * 2) (hn : n = l.length) (hl : n ≤ 1000) : RowOf (w.setRow g ((cur.toList.take 0 ++ enc l ++ cur.toList.drop (0 + (enc l).length)).toArray)) (.slice (some ⟨g, 0, none⟩) n (n + 80)) l := by
  subst hn
  refine ⟨by rw [enc_length], .inr ⟨g, l.length + 80, _, rfl, Nat.zero_le _, setRow_heap w g cur _ _ _ hg, by omega, by unfold maxLen; omega, ?_, ?_⟩⟩
  · simp [enc_length]; omega
  · simp only [enc_length, List.take_zero, List.nil_append]
    rw [List.take_append_of_le_length (by rw [enc_length]; exact Nat.le_refl _), List.take_of_length_le (by rw [enc_length]; exact Nat.le_refl _)]
theorem block_add (a : Addr) (n : Nat) : (a.add n).block = a.block := by unfold Addr.add; split <;> rfl
def RoomyPost (l : List S28) (x : ByteArray) (w : World) (en : Ending) (w' : World) : Prop := ∃ r, en = .returned (.slice (some ⟨r, 0, none⟩) (l.length + 80) (l.length + 80)) ∧ RowOf w' (.slice (some ⟨r, 0, none⟩) (l.length + 80) (l.length + 80)) (l ++ List.replicate 80 ⟨x, 0⟩) ∧ Below w.heap.size w w' ∧ w.heap.size ≤ r
set_option maxHeartbeats 1000000 in
theorem Roomy_any (r0 c0 : Nat) (l : List S28) (w : World) (h : RowOf w (.slice (some ⟨r0, 0, none⟩) l.length c0) l) (hl : l.length ≤ 1000) (x : ByteArray) : Calls Try.prog 17 #[.slice (some ⟨r0, 0, none⟩) l.length c0, .agg #[.string x, .int .u64 0]] w (RoomyPost l x w) := by
  obtain ⟨i0, hi, hzz⟩ := Option.map_eq_some_iff.1 infoEntry
  simp only [Prod.mk.injEq] at hzz
  obtain ⟨hz0, hz1, hz2⟩ := hzz
  have hmk : ∀ W : World, (Instr.makeSlice 32 (.int .i64 ((l.length : Int) + 80)) (.int .i64 ((l.length : Int) + 80))).run Try.prog W = .ok (.slice (some ⟨W.heap.size, 0, none⟩) (l.length + 80) (l.length + 80)) (W.alloc (.cells (madeCells (Value.agg #[.string ⟨#[]⟩, .int .u64 0]).cells ((l.length + 80) * 2)) 28)) := fun W => by
    have := run_make (P := Try.prog) W 32 28 i0 _ Try.underlying32 hi hz0 .i64 .i64 ((l.length : Int) + 80) ((l.length : Int) + 80) (by omega) (by omega) (by rw [hz2]; omega) (by omega)
    rw [hz1] at this
    exact this
  have HS : Hid ((Try.prog.info? 28).map (·.size) = some 2) := Lib.hid (by rw [hi]; simp [hz1])
  have HR := Lib.hid h
  have q0 : (0 : Int) ≤ (l.length : Int) := by omega
  have q1 : (l.length : Int) ≤ 1000 := by omega
  clear h hi hz0 hz1 hz2
  go_enter Try.func17, Try.ntmps17
  go_upto_region 2 with (fail)
  have HW : Hid (RowOf ((w.alloc (.cells #[.string x, .int .u64 0] 28)).alloc (.cells (madeCells #[.string ⟨#[]⟩, .int .u64 0] ((l.length + 80) * 2)) 28)) (.slice (some ⟨r0, 0, none⟩) l.length c0) l ∧ ((w.alloc (.cells #[.string x, .int .u64 0] 28)).alloc (.cells (madeCells #[.string ⟨#[]⟩, .int .u64 0] ((l.length + 80) * 2)) 28)).heap[w.heap.size + 1]? = some (.cells (madeCells #[.string ⟨#[]⟩, .int .u64 0] ((l.length + 80) * 2)) 28 (0, 0)) ∧ Below w.heap.size w ((w.alloc (.cells #[.string x, .int .u64 0] 28)).alloc (.cells (madeCells #[.string ⟨#[]⟩, .int .u64 0] ((l.length + 80) * 2)) 28))) := Lib.hid (by
    have hB : Below w.heap.size w ((w.alloc (.cells #[.string x, .int .u64 0] 28)).alloc (.cells (madeCells #[.string ⟨#[]⟩, .int .u64 0] ((l.length + 80) * 2)) 28)) := ((Below.refl _ _).alloc (Nat.le_refl _) _).alloc (by simp) _
    refine ⟨HR.out.below hB, ?_, hB⟩
    have := heap_alloc_new (w.alloc (.cells #[.string x, .int .u64 0] 28)) (.cells (madeCells #[.string ⟨#[]⟩, .int .u64 0] ((l.length + 80) * 2)) 28)
    simpa using this)
  have HX : Hid (((w.alloc (.cells #[.string x, .int .u64 0] 28)).alloc (.cells (madeCells #[.string ⟨#[]⟩, .int .u64 0] ((l.length + 80) * 2)) 28)).heap[w.heap.size]? = some (.cells #[.string x, .int .u64 0] 28 (0, 0))) := Lib.hid (by
    rw [((Below.refl _ _).alloc (Nat.le_refl _) _ : Below (w.alloc (.cells #[.string x, .int .u64 0] 28)).heap.size (w.alloc (.cells #[.string x, .int .u64 0] 28)) _).block w.heap.size (by simp)]
    exact heap_alloc_new w _)
  obtain ⟨G, hG⟩ : ∃ G, w.heap.size + 1 = G := ⟨_, rfl⟩
  obtain ⟨K, hK⟩ : ∃ K, w.heap.size = K := ⟨_, rfl⟩
  rw [hG] at HW ⊢
  rw [hK] at HX ⊢
  have HGK := Lib.hid (And.intro hG hK)
  generalize ((w.alloc (.cells #[.string x, .int .u64 0] 28)).alloc (.cells (madeCells #[.string ⟨#[]⟩, .int .u64 0] ((l.length + 80) * 2)) 28)) = w2 at HW HX ⊢
  clear hG hK HR hmk
  have hcp : (Builtin.copy_ #[32, 32] 3 #[.slice (some ⟨G, 0, none⟩) (l.length + 80) (l.length + 80), .slice (some ⟨r0, 0, none⟩) l.length c0]).run Try.prog w2 = .ok (goInt (Nat.min l.length (l.length + 80))) (w2.setRow G ((madeCells #[.string ⟨#[]⟩, .int .u64 0] ((l.length + 80) * 2)).toList.take 0 ++ enc l ++ (madeCells #[.string ⟨#[]⟩, .int .u64 0] ((l.length + 80) * 2)).toList.drop (0 + (enc l).length)).toArray) :=
    run_copy_row2 w2 32 32 3 28 2 G 0 (l.length + 80) (l.length + 80) ⟨r0, 0, none⟩ l.length c0 _ 28 (enc l) Try.underlying32 HS.out HW.out.2.1 (by rw [enc_length, show Nat.min l.length (l.length + 80) = l.length from Nat.min_eq_left (by omega)]) (fun j u hu => HW.out.1.cells (g := r0) rfl j u hu) (by rw [enc_length, size_madeCells]; omega) (enc_one l)
  have HW3 : Hid (RowOf (w2.setRow G ((madeCells #[.string ⟨#[]⟩, .int .u64 0] ((l.length + 80) * 2)).toList.take 0 ++ enc l ++ (madeCells #[.string ⟨#[]⟩, .int .u64 0] ((l.length + 80) * 2)).toList.drop (0 + (enc l).length)).toArray) (.slice (some ⟨G, 0, none⟩) l.length (l.length + 80)) l ∧ Below w.heap.size w (w2.setRow G ((madeCells #[.string ⟨#[]⟩, .int .u64 0] ((l.length + 80) * 2)).toList.take 0 ++ enc l ++ (madeCells #[.string ⟨#[]⟩, .int .u64 0] ((l.length + 80) * 2)).toList.drop (0 + (enc l).length)).toArray) ∧ (w2.setRow G ((madeCells #[.string ⟨#[]⟩, .int .u64 0] ((l.length + 80) * 2)).toList.take 0 ++ enc l ++ (madeCells #[.string ⟨#[]⟩, .int .u64 0] ((l.length + 80) * 2)).toList.drop (0 + (enc l).length)).toArray).heap[K]? = some (.cells #[.string x, .int .u64 0] 28 (0, 0))) := Lib.hid (by
    refine ⟨own_copied HW.out.2.1 (size_madeCells _ _) rfl hl, below_setRow HW.out.2.2 (by have := HGK.out; omega) _, ?_⟩
    rw [show ∀ c, (w2.setRow G c).heap[K]? = w2.heap[K]? from fun c => (below_setRow (Below.refl G w2) (Nat.le_refl _) c).block K (by have := HGK.out; omega)]
    exact HX.out)
  generalize (w2.setRow G ((madeCells #[.string ⟨#[]⟩, .int .u64 0] ((l.length + 80) * 2)).toList.take 0 ++ enc l ++ (madeCells #[.string ⟨#[]⟩, .int .u64 0] ((l.length + 80) * 2)).toList.drop (0 + (enc l).length)).toArray) = w3 at hcp HW3
  clear HW HX HS
  go_wp2_with fail
  clear hcp
  go_loopw [6] (fun t6 wr => ∃ i : Nat, t6 = .int .i64 (i : Int) ∧ l.length ≤ i ∧ i ≤ l.length + 80 ∧ Hid (RowOf wr (.slice (some ⟨G, 0, none⟩) i (l.length + 80)) (l ++ List.replicate (i - l.length) ⟨x, 0⟩) ∧ Below w.heap.size w wr ∧ wr.heap[K]? = some (.cells #[.string x, .int .u64 0] 28 (0, 0)))) (fun t _ => match t with | .int _ i => (l.length + 80 - i).toNat | _ => 0)
  case atStart => exact ⟨l.length, rfl, by omega, by omega, Lib.hid (by have := HW3.out; simpa using this)⟩
  case round =>
    obtain ⟨i, rfl, hi0, hi1, HI⟩ := hrel
    clear HW3
    by_cases c1 : i < l.length + 80
    · have q2 : (i : Int) < (l.length : Int) + 80 := by omega
      have q3 : (0 : Int) ≤ (i : Int) := by omega
      have k0 : wr.cell? ⟨K, 0, none⟩ = some (.string x) := by simp [World.cell?, HI.out.2.2]
      have k1 : wr.cell? ⟨K, 1, none⟩ = some (.int .u64 0) := by simp [World.cell?, HI.out.2.2]
      obtain ⟨u0, r0⟩ := own_room HI.out.1 (i * 2) (by omega)
      obtain ⟨u1, r1⟩ := own_room HI.out.1 (i * 2 + 1) (by omega)
      have z0 := own_fro HI.out.1 (i * 2)
      have z1 := own_fro HI.out.1 (i * 2 + 1)
      have hln : i = (l ++ List.replicate (i - l.length) (⟨x, 0⟩ : S28)).length := by rw [List.length_append, List.length_replicate]; omega
      have HN : Hid (RowOf ((wr.setCell ⟨G, i * 2, none⟩ (.string x)).setCell ⟨G, i * 2 + 1, none⟩ (.int .u64 0)) (.slice (some ⟨G, 0, none⟩) (i + 1) (l.length + 80)) (l ++ List.replicate (i + 1 - l.length) ⟨x, 0⟩) ∧ Below w.heap.size w ((wr.setCell ⟨G, i * 2, none⟩ (.string x)).setCell ⟨G, i * 2 + 1, none⟩ (.int .u64 0)) ∧ ((wr.setCell ⟨G, i * 2, none⟩ (.string x)).setCell ⟨G, i * 2 + 1, none⟩ (.int .u64 0)).heap[K]? = some (.cells #[.string x, .int .u64 0] 28 (0, 0))) := Lib.hid (by
        have hU := (set_upd wr G (i * 2) (.string x)).trans (set_upd _ G (i * 2 + 1) (.int .u64 0))
        refine ⟨?_, hU.below HI.out.2.1 (by have := HGK.out; omega), (hU.block K (lt_of_heap HI.out.2.2) (by have := HGK.out; omega)).trans HI.out.2.2⟩
        have := own_next HI.out.1 hln c1 ⟨x, 0⟩
        rwa [List.append_assoc, ← List.replicate_succ', show i - l.length + 1 = i + 1 - l.length by omega] at this)
      clear HI hln
      go_wp2_with fail
      go_roundw
      case rel => exact ⟨i + 1, by go_num, by omega, by omega, HN⟩
      case measure => simp; omega
    · have q2 : ¬ (i : Int) < (l.length : Int) + 80 := by omega
      obtain rfl : i = l.length + 80 := by omega
      go_wp2_with fail
      go_ret
      have h1 := HI.out.1
      rw [show l.length + 80 - l.length = 80 by omega] at h1
      exact ⟨G, rfl, h1, HI.out.2.1, by have := HGK.out; omega⟩
theorem row_cellr {w : World} {r n cap : Nat} {L : List S28} (h : RowOf w (.slice (some ⟨r, 0, none⟩) n cap) L) (j : Nat) (hj : j < L.length) : w.cell? ⟨r, j * 2, none⟩ = some (.string L[j].f0) ∧ w.cell? ⟨r, j * 2 + 1, none⟩ = some (.int .u64 L[j].f1) := by
  have e1 := h.cells (g := r) rfl (j * 2) _ (enc_get L j hj).1
  have e2 := h.cells (g := r) rfl (j * 2 + 1) _ (enc_get L j hj).2
  rw [add_plain] at e1 e2
  exact ⟨e1, e2⟩
set_option maxHeartbeats 1000000 in
theorem Intact_any (r : Nat) (v2 : Value) (m : List S28) (w : World) (x : ByteArray) (h1 : RowOf w (.slice (some ⟨r, 0, none⟩) (m.length + 80) (m.length + 80)) (m ++ List.replicate 80 ⟨x, 0⟩)) (h2 : RowOf w v2 m) (hl : m.length ≤ 1000) : Calls Try.prog 19 #[.slice (some ⟨r, 0, none⟩) (m.length + 80) (m.length + 80), v2, .agg #[.string x, .int .u64 0]] w fun en w' => en = .returned (.bool true) ∧ Below w.heap.size w w' := by
  obtain ⟨A, c, rfl, hc, _⟩ := h2.reads
  have q0 : (0 : Int) ≤ (m.length : Int) := by omega
  have q1 : (m.length : Int) ≤ 1000 := by omega
  have q2 : m.length ≤ m.length + 80 := by omega
  have H := Lib.hid (And.intro h1 h2)
  clear h1 h2
  go_enter Try.func19, Try.ntmps19
  go_wp2_with fail
  have hB0 : Below w.heap.size w (w.alloc (.cells #[.string x, .int .u64 0] 28)) := (Below.refl _ _).alloc (Nat.le_refl _) _
  have hX := heap_alloc_new w (.cells #[.string x, .int .u64 0] 28)
  have H1 : Hid (RowOf (w.alloc (.cells #[.string x, .int .u64 0] 28)) (.slice (some ⟨r, 0, none⟩) m.length (m.length + 80)) m ∧ RowOf (w.alloc (.cells #[.string x, .int .u64 0] 28)) (.slice A m.length c) m ∧ RowOf (w.alloc (.cells #[.string x, .int .u64 0] 28)) (.slice (some ⟨r, 0, none⟩) (m.length + 80) (m.length + 80)) (m ++ List.replicate 80 ⟨x, 0⟩) ∧ (w.alloc (.cells #[.string x, .int .u64 0] 28)).heap[w.heap.size]? = some (.cells #[.string x, .int .u64 0] 28 (0, 0))) := Lib.hid (by
    have h3 := H.out.1.below hB0
    refine ⟨?_, H.out.2.below hB0, h3, hX⟩
    have := h3.take (by rw [List.length_append, List.length_replicate]) m.length (by rw [List.length_append]; omega)
    rwa [List.take_append_of_le_length (Nat.le_refl _), List.take_length] at this)
  have HB := Lib.hid hB0
  generalize w.alloc (.cells #[.string x, .int .u64 0] 28) = w1 at H1 HB ⊢
  obtain ⟨K, hK⟩ : ∃ K, w.heap.size = K := ⟨_, rfl⟩
  rw [hK] at H1 ⊢
  clear hB0 hX H hK
  refine (Same_rows m _ (same_self m (by omega)) _ _ w1 H1.out.1 H1.out.2.1).mono ?_
  rintro e w2 ⟨rfl, q, rfl⟩
  have H2 : Hid (RowOf (w1.drewN q) (.slice (some ⟨r, 0, none⟩) (m.length + 80) (m.length + 80)) (m ++ List.replicate 80 ⟨x, 0⟩) ∧ (w1.drewN q).heap[K]? = some (.cells #[.string x, .int .u64 0] 28 (0, 0)) ∧ Below w.heap.size w (w1.drewN q)) := Lib.hid ⟨H1.out.2.2.1.below (pw_below_drewN (Below.refl _ _) q), H1.out.2.2.2, pw_below_drewN HB.out q⟩
  clear H1 HB
  generalize w1.drewN q = w3 at H2 ⊢
  go_wp2_with fail
  go_loopw [7] (fun t7 wr => ∃ i : Nat, t7 = .int .i64 (i : Int) ∧ m.length ≤ i ∧ i ≤ m.length + 80 ∧ Hid (RowOf wr (.slice (some ⟨r, 0, none⟩) (m.length + 80) (m.length + 80)) (m ++ List.replicate 80 ⟨x, 0⟩) ∧ wr.heap[K]? = some (.cells #[.string x, .int .u64 0] 28 (0, 0)) ∧ Below w.heap.size w wr)) (fun t _ => match t with | .int _ i => (m.length + 80 - i).toNat | _ => 0)
  case atStart => exact ⟨m.length, rfl, by omega, by omega, H2⟩
  case round =>
    obtain ⟨i, rfl, hi0, hi1, HI⟩ := hrel
    clear H2
    by_cases c1 : i < m.length + 80
    · have q3 : (i : Int) < (m.length : Int) + 80 := by omega
      have q4 : (0 : Int) ≤ (i : Int) := by omega
      have k0 : wr.cell? ⟨K, 0, none⟩ = some (.string x) := by simp [World.cell?, HI.out.2.1]
      have k1 : wr.cell? ⟨K, 1, none⟩ = some (.int .u64 0) := by simp [World.cell?, HI.out.2.1]
      have hm : i < (m ++ List.replicate 80 (⟨x, 0⟩ : S28)).length := by rw [List.length_append, List.length_replicate]; omega
      have hg : (m ++ List.replicate 80 (⟨x, 0⟩ : S28))[i] = ⟨x, 0⟩ := by rw [List.getElem_append_right hi0, List.getElem_replicate]
      have y := row_cellr HI.out.1 i hm
      rw [hg] at y
      have y0 := y.1
      have y1 := y.2
      clear y hg hm
      go_wp2_with fail
      go_quiet (fail)
      go_wp2_with fail
      go_roundw
      case rel => exact ⟨i + 1, by go_num, by omega, by omega, Lib.hid ⟨HI.out.1.below (pw_below_drewN (Below.refl _ _) _), HI.out.2.1, pw_below_drewN HI.out.2.2 _⟩⟩
      case measure => simp; omega
    · have q3 : ¬ (i : Int) < (m.length : Int) + 80 := by omega
      go_wp2_with fail
      go_ret
      exact ⟨rfl, HI.out.2.2⟩
end Go.Proofs.Ytobeebcpkkdkhaa.Pa
