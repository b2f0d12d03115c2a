/- URLParts: the walk. -/
import Derived.Test.YtcaaggfobdfgpaaDoorCellsURLParts
import Derived.Lib.ConvBytes
import Derived.IntWalk
set_option linter.unusedVariables false
set_option linter.unusedSimpArgs false
namespace Go.Proofs.YtcaaggfobdfgpaaDoor.UURLParts
open Go.RowKit Go.Proofs.YtcaaggfobdfgpaaDoor.PURLParts Go.Proofs.YtcaaggfobdfgpaaDoorW.PrintWords Go.Proofs.YtcaaggfobdfgpaaDoorW.PrintLast Go.Proofs.YtcaaggfobdfgpaaDoorW.PrintMore Go.Proofs.YtcaaggfobdfgpaaDoor.Pct Go.Proofs.YtcaaggfobdfgpaaDoor.UP Go.Proofs.YtcaaggfobdfgpaaDoor.Given Go.Proofs.YtcaaggfobdfgpaaDoor

theorem Int_w (n : Int) (h : -1000000 ≤ n) (h' : n ≤ 1000000) : IntKind.i64.wrap n = n := IntWalk.i64_in _ (by omega)
theorem set_two {w : World} {b t : Nat} {x y : Value} (h : w.heap[b]? = some (.cells #[x, y] t (0, 0))) (u v : Value) : ((w.setCell ⟨b, 0, none⟩ u).setCell ⟨b, 1, none⟩ v).heap[b]? = some (.cells #[u, v] t (0, 0)) := by
  simp [World.setCell, Array.getElem?_modify, h]
/-- Both URLs, each in a box. -/
def Two (w w' : World) (p : List ByteArray) (q : List Pr) (A : Option Addr) (c : Nat) (B : Option Addr) (d : Nat) (p' : List ByteArray) (q' : List Pr) (A' : Option Addr) (c' : Nat) (B' : Option Addr) (d' : Nat) (g g2 : Nat) : Prop :=
  MadeU w w' p q A c B d ∧ MadeU w w' p' q' A' c' B' d' ∧ w'.heap[g]? = some (.cells #[.slice A p.length c, .slice B q.length d] 25 (0, 0)) ∧ w'.heap[g2]? = some (.cells #[.slice A' p'.length c', .slice B' q'.length d'] 25 (0, 0))
theorem Two.below {w w' w'' : World} {p : List ByteArray} {q : List Pr} {A : Option Addr} {c : Nat} {B : Option Addr} {d : Nat} {p' : List ByteArray} {q' : List Pr} {A' : Option Addr} {c' : Nat} {B' : Option Addr} {d' : Nat} {g g2 : Nat} (h : Two w w' p q A c B d p' q' A' c' B' d' g g2) (hB : Below w'.heap.size w' w'') : Two w w'' p q A c B d p' q' A' c' B' d' g g2 :=
  ⟨h.1.below hB, h.2.1.below hB, (hB.block g (Array.getElem?_eq_some_iff.1 h.2.2.1).1).trans h.2.2.1, (hB.block g2 (Array.getElem?_eq_some_iff.1 h.2.2.2).1).trans h.2.2.2⟩
def newS : List ByteArray := [⟨#[97, 47, 98]⟩]
def Texts (p : List ByteArray) (q : List Pr) (Ta Tb Tc Td : ByteArray) : Prop := Ta = textOf p [] ∧ Tb = textOf [] q ∧ Tc = textOf p q ∧ Td = textOf (p ++ newS) []
theorem C_none {α : Type} (d : Kd α) (w : World) : Kd.C d w none 0 [] := ⟨rfl, by omega, fun h => absurd h (by omega)⟩
theorem right_part {p : List ByteArray} {q : List Pr} {n m : Nat} {p' : List ByteArray} {q' : List Pr} (h : Made p q n) (h' : Made p' q' m) : rightB p [] = true ∧ rightB [] q' = true ∧ rightB p q' = true ∧ rightB (p ++ newS) [] = true := by
  have hp := right_bd h.right
  have hq := right_bd h'.right
  have hl := h.1
  have mk : ∀ (p : List ByteArray) (q : List Pr), p.length ≤ 8 → q.length ≤ 8 → (∀ x ∈ p, 1 ≤ x.size ∧ x.size ≤ 64) → (∀ x ∈ q, 1 ≤ x.f0.size ∧ x.f0.size ≤ 64 ∧ x.f1.size ≤ 64) → rightB p q = true := by
    intro p q a b c d
    unfold rightB textB
    simp only [Bool.and_eq_true, decide_eq_true_eq, List.all_eq_true]
    exact ⟨⟨⟨a, b⟩, c⟩, fun x hx => ⟨⟨(d x hx).1, (d x hx).2.1⟩, by omega, (d x hx).2.2⟩⟩
  refine ⟨mk p [] hp.1 (by simp) hp.2.2.1 (by simp), mk [] q' (by simp) hq.2.1 (by simp) hq.2.2.2, mk p q' hp.1 hq.2.1 hp.2.2.1 hq.2.2.2, mk _ [] (by simp [newS]; omega) (by simp) (fun x hx => ?_) (by simp)⟩
  rcases List.mem_append.1 hx with hx | hx
  · exact hp.2.2.1 x hx
  · rw [List.mem_singleton.1 hx]
    decide
theorem ba_size (l : List UInt8) : (ba l).size = l.length := rfl
theorem ba_app (l m : List UInt8) : ba l ++ ba m = ba (l ++ m) := by
  apply ByteArray.ext
  simp [ba]
/-- What the texts have to do with each other. -/
theorem texts_facts {p : List ByteArray} {q : List Pr} {n m : Nat} {p' : List ByteArray} {q' : List Pr} {Ta Tb Tc Td : ByteArray} (h : Made p q n) (h' : Made p' q' m) (ht : Texts p q' Ta Tb Tc Td) :
    1 ≤ Tb.size ∧ ¬ 9223372036854775807 < Ta.size + (Tb.extract 1 Tb.size).size ∧ Tc = Ta ++ Tb.extract 1 Tb.size ∧ (0 < p.length → Td = Ta ++ ⟨#[47, 97, 37, 50, 70, 98]⟩ ∧ Ta.size ≤ 4700) := by
  obtain ⟨ra, rb, rc, rd⟩ := right_part h h'
  obtain ⟨rfl, rfl, rfl, rfl⟩ := ht
  have la := text_size p []
  have lb := text_size [] q'
  have ea : textOf p [] = ba (headL p) := by rw [textOf_right ra]; unfold printL; rw [show queryL ([] : List Pr) = [] from rfl, List.append_nil]
  have eb : textOf [] q' = ba (47 :: queryL q') := by rw [textOf_right rb]; rfl
  have ec : textOf p q' = ba (headL p ++ queryL q') := by rw [textOf_right rc]; rfl
  have ex : (textOf [] q').extract 1 (textOf [] q').size = ba (queryL q') := by
    apply ByteArray.ext
    apply Array.ext'
    rw [Lib.extract_to_end, eb]
    rfl
  refine ⟨by rw [eb]; exact Nat.le_add_left _ _, ?_, ?_, fun hp => ⟨?_, la⟩⟩
  · have : ((textOf [] q').extract 1 (textOf [] q').size).size ≤ (textOf [] q').size := by rw [ByteArray.size_extract]; omega
    omega
  · rw [ex, ea, ec, ba_app]
  · have hd : textOf (p ++ newS) [] = ba (headL (p ++ newS)) := by rw [textOf_right rd]; unfold printL; rw [show queryL ([] : List Pr) = [] from rfl, List.append_nil]
    have h1 : headL (p ++ newS) = headL p ++ [47, 97, 37, 50, 70, 98] := by
      unfold headL
      rw [if_neg (by simp [newS]), if_neg (by omega)]
      show pathL (p ++ [⟨#[97, 47, 98]⟩]) = _
      rw [pathL_snoc]
      congr 1
    rw [hd, ea, h1, ← ba_app]
    rfl
/-- i places are "a", the rest is "". -/
def aRow (i n : Nat) : Array Value := (List.replicate i (Value.string ⟨#[97]⟩) ++ List.replicate (n - i) (Value.string ⟨#[]⟩)).toArray
theorem aRow_size (i n : Nat) (h : i ≤ n) : (aRow i n).size = n := by simp [aRow]; omega
theorem make_aRow (n : Nat) (hn : n ≤ 1000) (z : Int) (hz : z = (n : Int)) (W : World) : (Instr.makeSlice 22 (.int .i64 z) (.int .i64 z)).run Tryd.prog W = .ok (.slice (some ⟨W.heap.size, 0, none⟩) n n) (W.alloc (.cells (aRow 0 n) 9)) := by
  subst hz
  obtain ⟨i0, hi, hz0, hz1, hz2⟩ := infoStr
  have := run_make (P := Tryd.prog) W 22 9 i0 _ Tryd.underlying22 hi hz0 .i64 .i64 (n : Int) (n : Int) (by omega) (by omega) (by rw [hz2]; omega) (by omega)
  rw [hz1, Nat.mul_one, Int.toNat_natCast] at this
  have e : madeCells (Value.string ⟨#[]⟩).cells n = aRow 0 n := by
    apply Array.toList_inj.1
    show (madeCells #[Value.string ⟨#[]⟩] n).toList = _
    rw [toList_madeCells_one]
    simp [aRow]
  rw [e] at this
  exact this
theorem aRow_set (i n : Nat) (h : i < n) : (aRow i n).setIfInBounds i (.string ⟨#[97]⟩) = aRow (i + 1) n := by
  apply Array.ext'
  obtain ⟨k, rfl⟩ : ∃ k, n = i + 1 + k := ⟨n - i - 1, by omega⟩
  simp only [aRow, Array.toList_setIfInBounds]
  rw [show i + 1 + k - i = k + 1 by omega, show i + 1 + k - (i + 1) = k by omega, List.set_append_right _ _ (by simp)]
  rw [List.replicate_succ' (n := i)]
  simp [List.replicate_succ]
theorem aRow_at (i n j : Nat) (h : i ≤ n) (hj : j < n) : (aRow i n)[j]? = some (if j < i then Value.string ⟨#[97]⟩ else Value.string ⟨#[]⟩) := by
  simp only [aRow, List.getElem?_toArray]
  by_cases hi : j < i
  · rw [List.getElem?_append_left (by simpa using hi), if_pos hi, List.getElem?_replicate_of_lt hi]
  · rw [List.getElem?_append_right (by simp; omega), if_neg hi, List.length_replicate, List.getElem?_replicate_of_lt (by omega)]
theorem set_row {w : World} {b t : Nat} {cs : Array Value} (h : w.heap[b]? = some (.cells cs t (0, 0))) (j : Nat) (u : Value) : (w.setCell ⟨b, j, none⟩ u).heap[b]? = some (.cells (cs.setIfInBounds j u) t (0, 0)) := by
  simp [World.setCell, Array.getElem?_modify, h]
/-- A row of "a"s is read. -/
theorem a_read {w : World} {b n m : Nat} (h : w.heap[b]? = some (.cells (aRow n n) 9 (0, 0))) (hm : m ≤ n) (hn : n ≤ 1000) : Kd.C Kd.string w (some ⟨b, 0, none⟩) m (List.replicate m ⟨#[97]⟩) := by
  refine ⟨by simp, by omega, fun _ => ⟨_, rfl, fun j p hj => ?_⟩⟩
  obtain ⟨hj2, hp⟩ := List.getElem?_eq_some_iff.1 hj
  simp only [List.length_replicate] at hj2
  have e : p = ⟨#[97]⟩ := by rw [← hp]; simp
  refine ⟨[.string ⟨#[97]⟩], rfl, by rw [e]; rfl, fun i u hu => ?_⟩
  have hi : i = 0 := by
    rcases i with _ | i
    · rfl
    · simp at hu
  subst hi
  cases hu
  rw [show (⟨b, 0, none⟩ : Addr).add (j * Kd.string.sz + 0) = ⟨b, j, none⟩ from by
    have : Kd.string.sz = 1 := rfl
    rw [this]
    unfold Addr.add
    split <;> simp_all, blk_cell h j, aRow_at n n j (Nat.le_refl _) (by omega), if_pos (by omega)]
theorem right_as (n : Nat) : rightB (List.replicate n ⟨#[97]⟩) [] = decide (n ≤ 8) := by
  unfold rightB textB
  have h : (List.replicate n (⟨#[97]⟩ : ByteArray)).all (fun x => decide (1 ≤ x.size) && decide (x.size ≤ 64)) = true := by
    rw [List.all_eq_true]
    intro x hx
    rw [List.eq_of_mem_replicate hx]
    decide
  simp only [List.length_replicate, List.length_nil, List.all_nil, Bool.and_true]
  rw [h]
  simp
theorem infoByte : (Tryd.prog.info? 5).map (fun i => (i.zero, i.size, i.bytes)) = some (some (.int .u8 0), 1, 1) := by kernel_rfl
theorem make65 (W : World) : (Instr.makeSlice 44 (.int .i64 65) (.int .i64 65)).run Tryd.prog W = .ok (.slice (some ⟨W.heap.size, 0, none⟩) 65 65) (W.alloc (.cells (madeCells #[Value.int .u8 0] 65) 5)) := by
  obtain ⟨i0, hi, hzz⟩ := Option.map_eq_some_iff.1 infoByte
  simp only [Prod.mk.injEq] at hzz
  obtain ⟨hz0, hz1, hz2⟩ := hzz
  have := run_make (P := Tryd.prog) W 44 5 i0 _ Tryd.underlying44 hi hz0 .i64 .i64 65 65 (by omega) (by omega) (by rw [hz2]; omega) (by omega)
  rw [hz1] at this
  exact this
def Z65 : ByteArray := strOfNums (List.replicate 65 0)
theorem Z65_size : Z65.size = 65 := rfl
theorem conv65 (W : World) : (convert 44 9 (.slice (some ⟨W.heap.size, 0, none⟩) 65 65)).run Tryd.prog (W.alloc (.cells (madeCells #[Value.int .u8 0] 65) 5)) = .ok (.string Z65) (W.alloc (.cells (madeCells #[Value.int .u8 0] 65) 5)) := by
  have hc : Kd.C (Kd.int .u8) (W.alloc (.cells (madeCells #[Value.int .u8 0] 65) 5)) (some ⟨W.heap.size, 0, none⟩) 65 (List.replicate 65 0) := by
    refine ⟨by simp, by omega, fun _ => ⟨_, rfl, fun j p hj => ?_⟩⟩
    obtain ⟨hj2, hp⟩ := List.getElem?_eq_some_iff.1 hj
    simp only [List.length_replicate] at hj2
    have e : p = 0 := List.eq_of_mem_replicate (List.mem_of_getElem? hj)
    refine ⟨[.int .u8 0], rfl, by rw [e]; rfl, fun i u hu => ?_⟩
    have hi : i = 0 := by
      rcases i with _ | i
      · rfl
      · simp at hu
    subst hi
    cases hu
    have h2 : (madeCells #[Value.int .u8 0] 65)[j]? = some (.int .u8 0) := by
      have h3 : (madeCells #[Value.int .u8 0] 65).toList[j]? = some (.int .u8 0) := by
        rw [toList_madeCells_one, List.getElem?_replicate_of_lt (by omega)]
      simpa using h3
    rw [show (⟨W.heap.size, 0, none⟩ : Addr).add (j * (Kd.int .u8).sz + 0) = ⟨W.heap.size, j, none⟩ from by
      have : (Kd.int .u8).sz = 1 := rfl
      rw [this]
      unfold Addr.add
      split <;> simp_all, blk_cell (heap_alloc_new _ _) j]
    exact h2
  exact Kd.C_string (P := Tryd.prog) (src := 44) (dst := 9) (c := 65) Tryd.underlying44 Tryd.underlying5 Tryd.underlying9 hc
/-- the long path's row, its box. -/
def Long (w w' : World) (KM bl i n : Nat) : Prop := w'.heap[KM]? = some (.cells (aRow i n) 9 (0, 0)) ∧ w'.heap[bl]? = some (.cells #[.slice (some ⟨KM, 0, none⟩) n n, .slice none 0 0] 25 (0, 0)) ∧ Below w.heap.size w w' ∧ w.heap.size ≤ KM
theorem Long.below {w w' w'' : World} {KM bl i n : Nat} (h : Long w w' KM bl i n) (hB : Below w'.heap.size w' w'') : Long w w'' KM bl i n :=
  ⟨(hB.block _ (Array.getElem?_eq_some_iff.1 h.1).1).trans h.1, (hB.block _ (Array.getElem?_eq_some_iff.1 h.2.1).1).trans h.2.1, h.2.2.1.trans (hB.mono h.2.2.1.size), h.2.2.2⟩
/-- all boxes of the end. -/
def Ends (w w' : World) (KM bl kw bw bf n : Nat) : Prop := Long w w' KM bl n n ∧ w'.heap[kw]? = some (.cells #[.string Z65] 9 (0, 0)) ∧ w'.heap[bw]? = some (.cells #[.slice (some ⟨kw, 0, none⟩) 1 1, .slice none 0 0] 25 (0, 0)) ∧ w'.heap[bf]? = some (.cells #[.slice (some ⟨KM, 0, none⟩) 8 n, .slice none 0 0] 25 (0, 0))
theorem Ends.below {w w' w'' : World} {KM bl kw bw bf n : Nat} (h : Ends w w' KM bl kw bw bf n) (hB : Below w'.heap.size w' w'') : Ends w w'' KM bl kw bw bf n :=
  ⟨h.1.below hB, (hB.block _ (Array.getElem?_eq_some_iff.1 h.2.1).1).trans h.2.1, (hB.block _ (Array.getElem?_eq_some_iff.1 h.2.2.1).1).trans h.2.2.1, (hB.block _ (Array.getElem?_eq_some_iff.1 h.2.2.2).1).trans h.2.2.2⟩
theorem right_call (p : List ByteArray) (A : Option Addr) (c : Nat) (W : World) (h : Kd.C Kd.string W A p.length p) (hc : p.length ≤ c) :
    Calls Tryd.prog 14 #[.agg #[.slice A p.length c, .slice none 0 0]] W fun e w' => e = .returned (.bool (rightB p [])) ∧ Below W.heap.size W w' :=
  url_Right.calls 40 A c p none 0 [] (rightB p []) W h hc (C_none _ _) (Nat.le_refl _) (right_eq p [] 40 (by omega))
theorem one_read {w : World} {b : Nat} (h : w.heap[b]? = some (.cells #[.string Z65] 9 (0, 0))) : Kd.C Kd.string w (some ⟨b, 0, none⟩) 1 [Z65] := by
  refine ⟨rfl, by omega, fun _ => ⟨_, rfl, fun j p hj => ?_⟩⟩
  rcases j with _ | j
  · cases hj
    refine ⟨[.string Z65], rfl, rfl, fun i u hu => ?_⟩
    rcases i with _ | i
    · cases hu
      exact (blk_cell h 0).trans rfl
    · simp at hu
  · simp at hj
theorem right_z : rightB [Z65] [] = false := by
  unfold rightB
  have : textB Z65 1 = false := by
    unfold textB
    rw [Z65_size]
    decide
  simp [this]
def LawTrue (w : World) (e : Ending) (w' : World) : Prop := e = .returned (.bool true) ∧ Below w.heap.size w w'
set_option maxHeartbeats 16000000 in
set_option maxRecDepth 100000 in
theorem URLParts_any (A0 : Option Addr) (c0 : Nat) (a : List Int) (A1 : Option Addr) (c1 : Nat) (b : List Int) (A2 : Option Addr) (c2 : Nat) (c : List Int) (A3 : Option Addr) (c3 : Nat) (a' : List Int) (A4 : Option Addr) (c4 : Nat) (b' : List Int) (A5 : Option Addr) (c5 : Nat) (c' : List Int) (more : Int) (w : World)
    (h0 : Kd.C (Kd.int .i64) w A0 a.length a) (hc0 : a.length ≤ c0) (h1 : Kd.C (Kd.int .i64) w A1 b.length b) (hc1 : b.length ≤ c1) (h2 : Kd.C (Kd.int .i64) w A2 c.length c) (hc2 : c.length ≤ c2)
    (h3 : Kd.C (Kd.int .i64) w A3 a'.length a') (hc3 : a'.length ≤ c3) (h4 : Kd.C (Kd.int .i64) w A4 b'.length b') (hc4 : b'.length ≤ c4) (h5 : Kd.C (Kd.int .i64) w A5 c'.length c') (hc5 : c'.length ≤ c5)
    (la : a.length ≤ 1000000000000000000) (lb : b.length ≤ 1000000000000000000) (la' : a'.length ≤ 1000000000000000000) (lb' : b'.length ≤ 1000000000000000000) :
    Calls Tryd.prog 6 #[.agg #[.slice A0 a.length c0, .slice A1 b.length c1, .slice A2 c.length c2], .agg #[.slice A3 a'.length c3, .slice A4 b'.length c4, .slice A5 c'.length c5], .int .i64 more] w (LawTrue w) := by
  obtain ⟨px, qx, ex, hmx, hlx⟩ := url_made a b c la lb 100 (by omega)
  obtain ⟨py, qy, ey, hmy, hly⟩ := url_made a' b' c' la' lb' 100 (by omega)
  have HU1 : Hid (∀ W, Below w.heap.size w W → Calls Tryd.prog 16 #[.agg #[.slice A0 a.length c0, .slice A1 b.length c1, .slice A2 c.length c2]] W fun e w' => ∃ A c B d, e = .returned (.agg #[.slice A px.length c, .slice B qx.length d]) ∧ MadeU W w' px qx A c B d) := Lib.hid fun W hB => made_fix A0 c0 a A1 c1 b A2 c2 c W (Kd.C_below h0 hB) hc0 (Kd.C_below h1 hB) hc1 (Kd.C_below h2 hB) hc2 px qx ex
  have HU21 : Hid (∀ W, Below w.heap.size w W → Calls Tryd.prog 16 #[.agg #[.slice A3 a'.length c3, .slice A4 b'.length c4, .slice A5 c'.length c5]] W fun e w' => ∃ A c B d, e = .returned (.agg #[.slice A py.length c, .slice B qy.length d]) ∧ MadeU W w' py qy A c B d) := Lib.hid fun W hB => made_fix A3 c3 a' A4 c4 b' A5 c5 c' W (Kd.C_below h3 hB) hc3 (Kd.C_below h4 hB) hc4 (Kd.C_below h5 hB) hc5 py qy ey
  have HMx := Lib.hid hmx
  have HMy := Lib.hid hmy
  clear h0 h1 h2 h3 h4 h5 ex ey hmx hmy hlx hly
  go_enter Tryd.func6, Tryd.ntmps6
  go_upto_region 1 with fail
  obtain ⟨w0, hw0⟩ : ∃ x, (w.alloc (.cells #[.slice A0 a.length c0, .slice A1 b.length c1, .slice A2 c.length c2] 41)).alloc (.cells #[.slice A3 a'.length c3, .slice A4 b'.length c4, .slice A5 c'.length c5] 41) = x := ⟨_, rfl⟩
  obtain ⟨k2, hk2⟩ : ∃ k, w.heap.size + 1 = k := ⟨_, rfl⟩
  obtain ⟨k1, hk1⟩ : ∃ k, w.heap.size = k := ⟨_, rfl⟩
  have H0 : Hid (Below w.heap.size w w0 ∧ w0.heap[k1]? = some (.cells #[.slice A0 a.length c0, .slice A1 b.length c1, .slice A2 c.length c2] 41 (0, 0)) ∧ w0.heap[k2]? = some (.cells #[.slice A3 a'.length c3, .slice A4 b'.length c4, .slice A5 c'.length c5] 41 (0, 0))) := Lib.hid (by
    rw [← hw0, ← hk1, ← hk2]
    refine ⟨((Below.refl _ _).alloc (Nat.le_refl _) _).alloc (by simp) _, blk_alloc (heap_alloc_new _ _) _, ?_⟩
    have := heap_alloc_new (w.alloc (.cells #[.slice A0 a.length c0, .slice A1 b.length c1, .slice A2 c.length c2] 41)) (.cells #[.slice A3 a'.length c3, .slice A4 b'.length c4, .slice A5 c'.length c5] 41)
    rw [show (w.alloc (.cells #[.slice A0 a.length c0, .slice A1 b.length c1, .slice A2 c.length c2] 41)).heap.size = w.heap.size + 1 by simp] at this
    exact this)
  rw [hw0, hk2, hk1]
  have HK1 := Lib.hid hk1
  clear hw0 hk1 hk2
  have HU : Hid (∀ W, Below w0.heap.size w0 W → Calls Tryd.prog 16 #[.agg #[.slice A0 a.length c0, .slice A1 b.length c1, .slice A2 c.length c2]] W fun e w' => ∃ A c B d, e = .returned (.agg #[.slice A px.length c, .slice B qx.length d]) ∧ MadeU W w' px qx A c B d) := Lib.hid fun W hB => HU1.out W (H0.out.1.trans (hB.mono H0.out.1.size))
  have HU2 : Hid (∀ W, Below w0.heap.size w0 W → Calls Tryd.prog 16 #[.agg #[.slice A3 a'.length c3, .slice A4 b'.length c4, .slice A5 c'.length c5]] W fun e w' => ∃ A c B d, e = .returned (.agg #[.slice A py.length c, .slice B qy.length d]) ∧ MadeU W w' py qy A c B d) := Lib.hid fun W hB => HU21.out W (H0.out.1.trans (hB.mono H0.out.1.size))
  have HX : Hid (∀ W, Below w0.heap.size w0 W → W.cell? ⟨k1, 0, none⟩ = some (.slice A0 a.length c0) ∧ W.cell? ⟨k1, 1, none⟩ = some (.slice A1 b.length c1) ∧ W.cell? ⟨k1, 2, none⟩ = some (.slice A2 c.length c2) ∧ W.cell? ⟨k2, 0, none⟩ = some (.slice A3 a'.length c3) ∧ W.cell? ⟨k2, 1, none⟩ = some (.slice A4 b'.length c4) ∧ W.cell? ⟨k2, 2, none⟩ = some (.slice A5 c'.length c5)) := Lib.hid fun W hB =>
    have h1 := (hB.block k1 (Array.getElem?_eq_some_iff.1 H0.out.2.1).1).trans H0.out.2.1
    have h2 := (hB.block k2 (Array.getElem?_eq_some_iff.1 H0.out.2.2).1).trans H0.out.2.2
    ⟨(blk_cell h1 0).trans rfl, (blk_cell h1 1).trans rfl, (blk_cell h1 2).trans rfl, (blk_cell h2 0).trans rfl, (blk_cell h2 1).trans rfl, (blk_cell h2 2).trans rfl⟩
  have S0 : Below w0.heap.size w0 w0.drew := (Below.refl _ _).drew
  refine start_ (n := 8) (S := fun w' => Below w0.heap.size w0 w' ∧ w'.cell? ⟨k1, 0, none⟩ = some (.slice A0 a.length c0) ∧ w'.cell? ⟨k1, 1, none⟩ = some (.slice A1 b.length c1) ∧ w'.cell? ⟨k1, 2, none⟩ = some (.slice A2 c.length c2) ∧ w'.cell? ⟨k2, 0, none⟩ = some (.slice A3 a'.length c3) ∧ w'.cell? ⟨k2, 1, none⟩ = some (.slice A4 b'.length c4) ∧ w'.cell? ⟨k2, 2, none⟩ = some (.slice A5 c'.length c5)) (ds := [7]) #[false, false, false, false, false, false, false, false] (by kernel_rfl) rfl rfl ⟨S0, (HX.out _ S0).1, (HX.out _ S0).2.1, (HX.out _ S0).2.2.1, (HX.out _ S0).2.2.2.1, (HX.out _ S0).2.2.2.2.1, (HX.out _ S0).2.2.2.2.2⟩ (fun hHeld => ?_)
  clear S0
  generalize w0.drew = W1 at hHeld ⊢
  refine take_ (i := 0) (N := some 17) (v := ?_) (a' := ?_) #[true, false, false, false, false, false, false, false] rfl rfl (by kernel_rfl) (fun _ _ _ h => h) (Or.inl ⟨by rfl, ?_⟩) hHeld ?_ ?_
  rotate_left
  · rintro w' ⟨s0, s1, s2, s3, s4, s5, s6⟩
    go_simp
    with_reducible rfl
  rotate_left
  · simp only [Act.put, List.setIfInBounds_toArray, List.set_cons_zero, List.set_cons_succ, i64_w, i32_w]
    rfl
  refine take_ (i := 2) (N := some 19) (v := ?_) (a' := ?_) #[true, false, true, false, false, false, false, false] rfl rfl (by kernel_rfl) (fun _ _ _ h => h) (Or.inl ⟨by rfl, ?_⟩) hHeld ?_ ?_
  rotate_left
  · rintro w' ⟨s0, s1, s2, s3, s4, s5, s6⟩
    go_simp
    with_reducible rfl
  rotate_left
  · simp only [Act.put, List.setIfInBounds_toArray, List.set_cons_zero, List.set_cons_succ, i64_w, i32_w]
    rfl
  refine join_ (σ := Option Addr × Nat × Option Addr × Nat × Option Addr × Nat × Option Addr × Nat × Nat × Nat) 2 #[true, true, true, true, true, true, false, false] (fun s => [(18, .agg #[.slice s.1 px.length s.2.1, .slice s.2.2.1 qx.length s.2.2.2.1]), (20, .agg #[.slice s.2.2.2.2.1 py.length s.2.2.2.2.2.1, .slice s.2.2.2.2.2.2.1 qy.length s.2.2.2.2.2.2.2.1]), (7, .pointer (some ⟨s.2.2.2.2.2.2.2.2.1, 0, none⟩)), (8, .pointer (some ⟨s.2.2.2.2.2.2.2.2.2, 0, none⟩))]) (fun s w' => MadeU w0 w' px qx s.1 s.2.1 s.2.2.1 s.2.2.2.1 ∧ MadeU w0 w' py qy s.2.2.2.2.1 s.2.2.2.2.2.1 s.2.2.2.2.2.2.1 s.2.2.2.2.2.2.2.1 ∧ w'.heap[s.2.2.2.2.2.2.2.2.1]? = some (.cells #[.slice none 0 0, .slice none 0 0] 25 (0, 0)) ∧ w0.heap.size ≤ s.2.2.2.2.2.2.2.2.1 ∧ w'.heap[s.2.2.2.2.2.2.2.2.2]? = some (.cells #[.slice none 0 0, .slice none 0 0] 25 (0, 0)) ∧ w0.heap.size ≤ s.2.2.2.2.2.2.2.2.2 ∧ s.2.2.2.2.2.2.2.2.1 ≠ s.2.2.2.2.2.2.2.2.2 ∧ (Below w0.heap.size w0 w' ∧ w'.cell? ⟨k1, 0, none⟩ = some (.slice A0 a.length c0) ∧ w'.cell? ⟨k1, 1, none⟩ = some (.slice A1 b.length c1) ∧ w'.cell? ⟨k1, 2, none⟩ = some (.slice A2 c.length c2) ∧ w'.cell? ⟨k2, 0, none⟩ = some (.slice A3 a'.length c3) ∧ w'.cell? ⟨k2, 1, none⟩ = some (.slice A4 b'.length c4) ∧ w'.cell? ⟨k2, 2, none⟩ = some (.slice A5 c'.length c5))) ?_ ?_
  rotate_left
  · intro hJ1_3_4_5
    refine join_ (σ := Option Addr × Nat × Option Addr × Nat × Option Addr × Nat × Option Addr × Nat × Nat) 3 #[true, true, true, true, true, false, false, false] (fun s => [(18, .agg #[.slice s.1 px.length s.2.1, .slice s.2.2.1 qx.length s.2.2.2.1]), (20, .agg #[.slice s.2.2.2.2.1 py.length s.2.2.2.2.2.1, .slice s.2.2.2.2.2.2.1 qy.length s.2.2.2.2.2.2.2.1]), (7, .pointer (some ⟨s.2.2.2.2.2.2.2.2, 0, none⟩))]) (fun s w' => MadeU w0 w' px qx s.1 s.2.1 s.2.2.1 s.2.2.2.1 ∧ MadeU w0 w' py qy s.2.2.2.2.1 s.2.2.2.2.2.1 s.2.2.2.2.2.2.1 s.2.2.2.2.2.2.2.1 ∧ w'.heap[s.2.2.2.2.2.2.2.2]? = some (.cells #[.slice none 0 0, .slice none 0 0] 25 (0, 0)) ∧ w0.heap.size ≤ s.2.2.2.2.2.2.2.2 ∧ (Below w0.heap.size w0 w' ∧ w'.cell? ⟨k1, 0, none⟩ = some (.slice A0 a.length c0) ∧ w'.cell? ⟨k1, 1, none⟩ = some (.slice A1 b.length c1) ∧ w'.cell? ⟨k1, 2, none⟩ = some (.slice A2 c.length c2) ∧ w'.cell? ⟨k2, 0, none⟩ = some (.slice A3 a'.length c3) ∧ w'.cell? ⟨k2, 1, none⟩ = some (.slice A4 b'.length c4) ∧ w'.cell? ⟨k2, 2, none⟩ = some (.slice A5 c'.length c5))) ?_ ?_
    rotate_left
    · intro hJ1_3_4
      refine join_ (σ := Option Addr × Nat × Option Addr × Nat × Option Addr × Nat × Option Addr × Nat × Nat) 3 #[true, true, true, true, false, true, false, false] (fun s => [(18, .agg #[.slice s.1 px.length s.2.1, .slice s.2.2.1 qx.length s.2.2.2.1]), (20, .agg #[.slice s.2.2.2.2.1 py.length s.2.2.2.2.2.1, .slice s.2.2.2.2.2.2.1 qy.length s.2.2.2.2.2.2.2.1]), (8, .pointer (some ⟨s.2.2.2.2.2.2.2.2, 0, none⟩))]) (fun s w' => MadeU w0 w' px qx s.1 s.2.1 s.2.2.1 s.2.2.2.1 ∧ MadeU w0 w' py qy s.2.2.2.2.1 s.2.2.2.2.2.1 s.2.2.2.2.2.2.1 s.2.2.2.2.2.2.2.1 ∧ w'.heap[s.2.2.2.2.2.2.2.2]? = some (.cells #[.slice none 0 0, .slice none 0 0] 25 (0, 0)) ∧ w0.heap.size ≤ s.2.2.2.2.2.2.2.2 ∧ (Below w0.heap.size w0 w' ∧ w'.cell? ⟨k1, 0, none⟩ = some (.slice A0 a.length c0) ∧ w'.cell? ⟨k1, 1, none⟩ = some (.slice A1 b.length c1) ∧ w'.cell? ⟨k1, 2, none⟩ = some (.slice A2 c.length c2) ∧ w'.cell? ⟨k2, 0, none⟩ = some (.slice A3 a'.length c3) ∧ w'.cell? ⟨k2, 1, none⟩ = some (.slice A4 b'.length c4) ∧ w'.cell? ⟨k2, 2, none⟩ = some (.slice A5 c'.length c5))) ?_ ?_
      rotate_left
      · intro hJ1_3_5
        refine join_ (σ := Option Addr × Nat × Option Addr × Nat × Nat × Nat) 3 #[true, true, true, false, true, true, false, false] (fun s => [(18, .agg #[.slice s.1 px.length s.2.1, .slice s.2.2.1 qx.length s.2.2.2.1]), (7, .pointer (some ⟨s.2.2.2.2.1, 0, none⟩)), (8, .pointer (some ⟨s.2.2.2.2.2, 0, none⟩))]) (fun s w' => MadeU w0 w' px qx s.1 s.2.1 s.2.2.1 s.2.2.2.1 ∧ w'.heap[s.2.2.2.2.1]? = some (.cells #[.slice none 0 0, .slice none 0 0] 25 (0, 0)) ∧ w0.heap.size ≤ s.2.2.2.2.1 ∧ w'.heap[s.2.2.2.2.2]? = some (.cells #[.slice none 0 0, .slice none 0 0] 25 (0, 0)) ∧ w0.heap.size ≤ s.2.2.2.2.2 ∧ s.2.2.2.2.1 ≠ s.2.2.2.2.2 ∧ (Below w0.heap.size w0 w' ∧ w'.cell? ⟨k1, 0, none⟩ = some (.slice A0 a.length c0) ∧ w'.cell? ⟨k1, 1, none⟩ = some (.slice A1 b.length c1) ∧ w'.cell? ⟨k1, 2, none⟩ = some (.slice A2 c.length c2) ∧ w'.cell? ⟨k2, 0, none⟩ = some (.slice A3 a'.length c3) ∧ w'.cell? ⟨k2, 1, none⟩ = some (.slice A4 b'.length c4) ∧ w'.cell? ⟨k2, 2, none⟩ = some (.slice A5 c'.length c5))) ?_ ?_
        rotate_left
        · intro hJ1_4_5
          refine join_ (σ := Option Addr × Nat × Option Addr × Nat × Option Addr × Nat × Option Addr × Nat) 4 #[true, true, true, true, false, false, false, false] (fun s => [(18, .agg #[.slice s.1 px.length s.2.1, .slice s.2.2.1 qx.length s.2.2.2.1]), (20, .agg #[.slice s.2.2.2.2.1 py.length s.2.2.2.2.2.1, .slice s.2.2.2.2.2.2.1 qy.length s.2.2.2.2.2.2.2])]) (fun s w' => MadeU w0 w' px qx s.1 s.2.1 s.2.2.1 s.2.2.2.1 ∧ MadeU w0 w' py qy s.2.2.2.2.1 s.2.2.2.2.2.1 s.2.2.2.2.2.2.1 s.2.2.2.2.2.2.2 ∧ (Below w0.heap.size w0 w' ∧ w'.cell? ⟨k1, 0, none⟩ = some (.slice A0 a.length c0) ∧ w'.cell? ⟨k1, 1, none⟩ = some (.slice A1 b.length c1) ∧ w'.cell? ⟨k1, 2, none⟩ = some (.slice A2 c.length c2) ∧ w'.cell? ⟨k2, 0, none⟩ = some (.slice A3 a'.length c3) ∧ w'.cell? ⟨k2, 1, none⟩ = some (.slice A4 b'.length c4) ∧ w'.cell? ⟨k2, 2, none⟩ = some (.slice A5 c'.length c5))) ?_ ?_
          rotate_left
          · intro hJ1_3
            refine join_ (σ := Option Addr × Nat × Option Addr × Nat × Nat) 4 #[true, true, true, false, true, false, false, false] (fun s => [(18, .agg #[.slice s.1 px.length s.2.1, .slice s.2.2.1 qx.length s.2.2.2.1]), (7, .pointer (some ⟨s.2.2.2.2, 0, none⟩))]) (fun s w' => MadeU w0 w' px qx s.1 s.2.1 s.2.2.1 s.2.2.2.1 ∧ w'.heap[s.2.2.2.2]? = some (.cells #[.slice none 0 0, .slice none 0 0] 25 (0, 0)) ∧ w0.heap.size ≤ s.2.2.2.2 ∧ (Below w0.heap.size w0 w' ∧ w'.cell? ⟨k1, 0, none⟩ = some (.slice A0 a.length c0) ∧ w'.cell? ⟨k1, 1, none⟩ = some (.slice A1 b.length c1) ∧ w'.cell? ⟨k1, 2, none⟩ = some (.slice A2 c.length c2) ∧ w'.cell? ⟨k2, 0, none⟩ = some (.slice A3 a'.length c3) ∧ w'.cell? ⟨k2, 1, none⟩ = some (.slice A4 b'.length c4) ∧ w'.cell? ⟨k2, 2, none⟩ = some (.slice A5 c'.length c5))) ?_ ?_
            rotate_left
            · intro hJ1_4
              refine join_ (σ := Option Addr × Nat × Option Addr × Nat × Nat) 4 #[true, true, true, false, false, true, false, false] (fun s => [(18, .agg #[.slice s.1 px.length s.2.1, .slice s.2.2.1 qx.length s.2.2.2.1]), (8, .pointer (some ⟨s.2.2.2.2, 0, none⟩))]) (fun s w' => MadeU w0 w' px qx s.1 s.2.1 s.2.2.1 s.2.2.2.1 ∧ w'.heap[s.2.2.2.2]? = some (.cells #[.slice none 0 0, .slice none 0 0] 25 (0, 0)) ∧ w0.heap.size ≤ s.2.2.2.2 ∧ (Below w0.heap.size w0 w' ∧ w'.cell? ⟨k1, 0, none⟩ = some (.slice A0 a.length c0) ∧ w'.cell? ⟨k1, 1, none⟩ = some (.slice A1 b.length c1) ∧ w'.cell? ⟨k1, 2, none⟩ = some (.slice A2 c.length c2) ∧ w'.cell? ⟨k2, 0, none⟩ = some (.slice A3 a'.length c3) ∧ w'.cell? ⟨k2, 1, none⟩ = some (.slice A4 b'.length c4) ∧ w'.cell? ⟨k2, 2, none⟩ = some (.slice A5 c'.length c5))) ?_ ?_
              rotate_left
              · intro hJ1_5
                refine join_ (σ := Nat × Nat) 4 #[true, false, true, false, true, true, false, false] (fun s => [(7, .pointer (some ⟨s.1, 0, none⟩)), (8, .pointer (some ⟨s.2, 0, none⟩))]) (fun s w' => w'.heap[s.1]? = some (.cells #[.slice none 0 0, .slice none 0 0] 25 (0, 0)) ∧ w0.heap.size ≤ s.1 ∧ w'.heap[s.2]? = some (.cells #[.slice none 0 0, .slice none 0 0] 25 (0, 0)) ∧ w0.heap.size ≤ s.2 ∧ s.1 ≠ s.2 ∧ (Below w0.heap.size w0 w' ∧ w'.cell? ⟨k1, 0, none⟩ = some (.slice A0 a.length c0) ∧ w'.cell? ⟨k1, 1, none⟩ = some (.slice A1 b.length c1) ∧ w'.cell? ⟨k1, 2, none⟩ = some (.slice A2 c.length c2) ∧ w'.cell? ⟨k2, 0, none⟩ = some (.slice A3 a'.length c3) ∧ w'.cell? ⟨k2, 1, none⟩ = some (.slice A4 b'.length c4) ∧ w'.cell? ⟨k2, 2, none⟩ = some (.slice A5 c'.length c5))) ?_ ?_
                rotate_left
                · intro hJ4_5
                  refine join_ (σ := Option Addr × Nat × Option Addr × Nat) 5 #[true, true, true, false, false, false, false, false] (fun s => [(18, .agg #[.slice s.1 px.length s.2.1, .slice s.2.2.1 qx.length s.2.2.2])]) (fun s w' => MadeU w0 w' px qx s.1 s.2.1 s.2.2.1 s.2.2.2 ∧ (Below w0.heap.size w0 w' ∧ w'.cell? ⟨k1, 0, none⟩ = some (.slice A0 a.length c0) ∧ w'.cell? ⟨k1, 1, none⟩ = some (.slice A1 b.length c1) ∧ w'.cell? ⟨k1, 2, none⟩ = some (.slice A2 c.length c2) ∧ w'.cell? ⟨k2, 0, none⟩ = some (.slice A3 a'.length c3) ∧ w'.cell? ⟨k2, 1, none⟩ = some (.slice A4 b'.length c4) ∧ w'.cell? ⟨k2, 2, none⟩ = some (.slice A5 c'.length c5))) ?_ ?_
                  rotate_left
                  · intro hJ1
                    refine join_ (σ := Nat) 5 #[true, false, true, false, true, false, false, false] (fun s => [(7, .pointer (some ⟨s, 0, none⟩))]) (fun s w' => w'.heap[s]? = some (.cells #[.slice none 0 0, .slice none 0 0] 25 (0, 0)) ∧ w0.heap.size ≤ s ∧ (Below w0.heap.size w0 w' ∧ w'.cell? ⟨k1, 0, none⟩ = some (.slice A0 a.length c0) ∧ w'.cell? ⟨k1, 1, none⟩ = some (.slice A1 b.length c1) ∧ w'.cell? ⟨k1, 2, none⟩ = some (.slice A2 c.length c2) ∧ w'.cell? ⟨k2, 0, none⟩ = some (.slice A3 a'.length c3) ∧ w'.cell? ⟨k2, 1, none⟩ = some (.slice A4 b'.length c4) ∧ w'.cell? ⟨k2, 2, none⟩ = some (.slice A5 c'.length c5))) ?_ ?_
                    rotate_left
                    · intro hJ4
                      refine join_ (σ := Nat) 5 #[true, false, true, false, false, true, false, false] (fun s => [(8, .pointer (some ⟨s, 0, none⟩))]) (fun s w' => w'.heap[s]? = some (.cells #[.slice none 0 0, .slice none 0 0] 25 (0, 0)) ∧ w0.heap.size ≤ s ∧ (Below w0.heap.size w0 w' ∧ w'.cell? ⟨k1, 0, none⟩ = some (.slice A0 a.length c0) ∧ w'.cell? ⟨k1, 1, none⟩ = some (.slice A1 b.length c1) ∧ w'.cell? ⟨k1, 2, none⟩ = some (.slice A2 c.length c2) ∧ w'.cell? ⟨k2, 0, none⟩ = some (.slice A3 a'.length c3) ∧ w'.cell? ⟨k2, 1, none⟩ = some (.slice A4 b'.length c4) ∧ w'.cell? ⟨k2, 2, none⟩ = some (.slice A5 c'.length c5))) ?_ ?_
                      rotate_left
                      · intro hJ5
                        refine three_ (i := 1) (j := 4) (k := 5) (Ni := some 18) (Nj := some 7) (Nk := some 8) #[true, true, true, false, false, false, false, false] #[true, false, true, false, true, false, false, false] #[true, false, true, false, false, true, false, false] rfl rfl rfl rfl rfl rfl (by kernel_rfl) (by decide) (by decide) (by decide) (fun K hK => ?_) (fun K hK => ?_) (fun K hK => ?_)
                        · skip
                          have hHeld0 := hHeld.1
                          have hz := hHeld.1.size
                          refine goes_ Tryd.func16 (by kernel_rfl) rfl #[.agg #[.slice A0 a.length c0, .slice A1 b.length c1, .slice A2 c.length c2]] (by rfl) rfl rfl (by simp only [List.map_toArray, List.map_cons, List.map_nil]; rfl) ?_
                          with_reducible refine (HU.out _ hHeld.1).mono ?_
                          rintro e w9 ⟨Ax, cx, Bx, dx, rfl, hm⟩
                          refine ⟨_, rfl, ?_⟩
                          refine hK.out _ _ ⟨(hHeld.1.trans (hm.2.2.mono hHeld.1.size)), (HX.out _ (hHeld.1.trans (hm.2.2.mono hHeld.1.size))).1, (HX.out _ (hHeld.1.trans (hm.2.2.mono hHeld.1.size))).2.1, (HX.out _ (hHeld.1.trans (hm.2.2.mono hHeld.1.size))).2.2.1, (HX.out _ (hHeld.1.trans (hm.2.2.mono hHeld.1.size))).2.2.2.1, (HX.out _ (hHeld.1.trans (hm.2.2.mono hHeld.1.size))).2.2.2.2.1, (HX.out _ (hHeld.1.trans (hm.2.2.mono hHeld.1.size))).2.2.2.2.2⟩ (fun hHeld => ?_)
                          clear hK K
                          refine norm_ (a' := ?_) ?_ ?_
                          rotate_left
                          · show Act.put _ (some 18) _ = _
                            simp only [Act.put, List.setIfInBounds_toArray, List.set_cons_zero, List.set_cons_succ, i64_w, i32_w]
                            rfl
                          exact norm_ (by first | (simp only [putAll, Act.put, List.setIfInBounds_toArray, List.set_cons_zero, List.set_cons_succ]; done) | (simp only [putAll, Act.put, List.setIfInBounds_toArray, List.set_cons_zero, List.set_cons_succ]; rfl)) (hJ1 ((Ax, cx, Bx, dx)) _ ⟨(MadeU.from hHeld0 hm), hHeld⟩)
                        · skip
                          have hz := hHeld.1.size
                          refine value_ (w1 := ?_) (v := ?_) (by rfl) rfl ?_ ?_
                          rotate_left 2
                          · go_simp
                            constructor
                            · rfl
                            · rfl
                          refine hK.out _ _ ⟨(hHeld.1.alloc hHeld.1.size _), (HX.out _ (hHeld.1.alloc hHeld.1.size _)).1, (HX.out _ (hHeld.1.alloc hHeld.1.size _)).2.1, (HX.out _ (hHeld.1.alloc hHeld.1.size _)).2.2.1, (HX.out _ (hHeld.1.alloc hHeld.1.size _)).2.2.2.1, (HX.out _ (hHeld.1.alloc hHeld.1.size _)).2.2.2.2.1, (HX.out _ (hHeld.1.alloc hHeld.1.size _)).2.2.2.2.2⟩ (fun hHeld => ?_)
                          clear hK K
                          refine norm_ (a' := ?_) ?_ ?_
                          rotate_left
                          · show Act.put _ (some 7) _ = _
                            simp only [Act.put, List.setIfInBounds_toArray, List.set_cons_zero, List.set_cons_succ, i64_w, i32_w]
                            rfl
                          exact norm_ (by first | (simp only [putAll, Act.put, List.setIfInBounds_toArray, List.set_cons_zero, List.set_cons_succ]; done) | (simp only [putAll, Act.put, List.setIfInBounds_toArray, List.set_cons_zero, List.set_cons_succ]; rfl)) (hJ4 (W1.heap.size) _ ⟨(heap_alloc_new _ _), hz, hHeld⟩)
                        · skip
                          have hz := hHeld.1.size
                          refine value_ (w1 := ?_) (v := ?_) (by rfl) rfl ?_ ?_
                          rotate_left 2
                          · go_simp
                            constructor
                            · rfl
                            · rfl
                          refine hK.out _ _ ⟨(hHeld.1.alloc hHeld.1.size _), (HX.out _ (hHeld.1.alloc hHeld.1.size _)).1, (HX.out _ (hHeld.1.alloc hHeld.1.size _)).2.1, (HX.out _ (hHeld.1.alloc hHeld.1.size _)).2.2.1, (HX.out _ (hHeld.1.alloc hHeld.1.size _)).2.2.2.1, (HX.out _ (hHeld.1.alloc hHeld.1.size _)).2.2.2.2.1, (HX.out _ (hHeld.1.alloc hHeld.1.size _)).2.2.2.2.2⟩ (fun hHeld => ?_)
                          clear hK K
                          refine norm_ (a' := ?_) ?_ ?_
                          rotate_left
                          · show Act.put _ (some 8) _ = _
                            simp only [Act.put, List.setIfInBounds_toArray, List.set_cons_zero, List.set_cons_succ, i64_w, i32_w]
                            rfl
                          exact norm_ (by first | (simp only [putAll, Act.put, List.setIfInBounds_toArray, List.set_cons_zero, List.set_cons_succ]; done) | (simp only [putAll, Act.put, List.setIfInBounds_toArray, List.set_cons_zero, List.set_cons_succ]; rfl)) (hJ5 (W1.heap.size) _ ⟨(heap_alloc_new _ _), hz, hHeld⟩)
                      · skip
                        rintro b8 wn ⟨f8, g8, hHeld⟩
                        refine norm_ (a' := ?_) ?_ ?_
                        rotate_left
                        · simp only [putAll, Act.put, List.setIfInBounds_toArray, List.set_cons_zero, List.set_cons_succ]
                          rfl
                        refine two_ (i := 1) (j := 4) (Ni := some 18) (Nj := some 7) #[true, true, true, false, false, true, false, false] #[true, false, true, false, true, true, false, false] rfl rfl rfl rfl (by kernel_rfl) (by decide) (by decide) (fun K hK => ?_) (fun K hK => ?_)
                        · skip
                          have hHeld0 := hHeld.1
                          have hz := hHeld.1.size
                          refine goes_ Tryd.func16 (by kernel_rfl) rfl #[.agg #[.slice A0 a.length c0, .slice A1 b.length c1, .slice A2 c.length c2]] (by rfl) rfl rfl (by simp only [List.map_toArray, List.map_cons, List.map_nil]; rfl) ?_
                          with_reducible refine (HU.out _ hHeld.1).mono ?_
                          rintro e w9 ⟨Ax, cx, Bx, dx, rfl, hm⟩
                          refine ⟨_, rfl, ?_⟩
                          refine hK.out _ _ ⟨(hHeld.1.trans (hm.2.2.mono hHeld.1.size)), (HX.out _ (hHeld.1.trans (hm.2.2.mono hHeld.1.size))).1, (HX.out _ (hHeld.1.trans (hm.2.2.mono hHeld.1.size))).2.1, (HX.out _ (hHeld.1.trans (hm.2.2.mono hHeld.1.size))).2.2.1, (HX.out _ (hHeld.1.trans (hm.2.2.mono hHeld.1.size))).2.2.2.1, (HX.out _ (hHeld.1.trans (hm.2.2.mono hHeld.1.size))).2.2.2.2.1, (HX.out _ (hHeld.1.trans (hm.2.2.mono hHeld.1.size))).2.2.2.2.2⟩ (fun hHeld => ?_)
                          clear hK K
                          refine norm_ (a' := ?_) ?_ ?_
                          rotate_left
                          · show Act.put _ (some 18) _ = _
                            simp only [Act.put, List.setIfInBounds_toArray, List.set_cons_zero, List.set_cons_succ, i64_w, i32_w]
                            rfl
                          exact norm_ (by first | (simp only [putAll, Act.put, List.setIfInBounds_toArray, List.set_cons_zero, List.set_cons_succ]; done) | (simp only [putAll, Act.put, List.setIfInBounds_toArray, List.set_cons_zero, List.set_cons_succ]; rfl)) (hJ1_5 ((Ax, cx, Bx, dx, b8)) _ ⟨(MadeU.from hHeld0 hm), ((hm.2.2.block _ (Array.getElem?_eq_some_iff.1 f8).1).trans f8), g8, hHeld⟩)
                        · skip
                          have hz := hHeld.1.size
                          refine value_ (w1 := ?_) (v := ?_) (by rfl) rfl ?_ ?_
                          rotate_left 2
                          · go_simp
                            constructor
                            · rfl
                            · rfl
                          refine hK.out _ _ ⟨(hHeld.1.alloc hHeld.1.size _), (HX.out _ (hHeld.1.alloc hHeld.1.size _)).1, (HX.out _ (hHeld.1.alloc hHeld.1.size _)).2.1, (HX.out _ (hHeld.1.alloc hHeld.1.size _)).2.2.1, (HX.out _ (hHeld.1.alloc hHeld.1.size _)).2.2.2.1, (HX.out _ (hHeld.1.alloc hHeld.1.size _)).2.2.2.2.1, (HX.out _ (hHeld.1.alloc hHeld.1.size _)).2.2.2.2.2⟩ (fun hHeld => ?_)
                          clear hK K
                          refine norm_ (a' := ?_) ?_ ?_
                          rotate_left
                          · show Act.put _ (some 7) _ = _
                            simp only [Act.put, List.setIfInBounds_toArray, List.set_cons_zero, List.set_cons_succ, i64_w, i32_w]
                            rfl
                          exact norm_ (by first | (simp only [putAll, Act.put, List.setIfInBounds_toArray, List.set_cons_zero, List.set_cons_succ]; done) | (simp only [putAll, Act.put, List.setIfInBounds_toArray, List.set_cons_zero, List.set_cons_succ]; rfl)) (hJ4_5 ((wn.heap.size, b8)) _ ⟨(heap_alloc_new _ _), hz, (blk_alloc f8 _), g8, (Nat.ne_of_gt (Array.getElem?_eq_some_iff.1 f8).1), hHeld⟩)
                    · skip
                      rintro b7 wn ⟨f7, g7, hHeld⟩
                      refine norm_ (a' := ?_) ?_ ?_
                      rotate_left
                      · simp only [putAll, Act.put, List.setIfInBounds_toArray, List.set_cons_zero, List.set_cons_succ]
                        rfl
                      refine two_ (i := 1) (j := 5) (Ni := some 18) (Nj := some 8) #[true, true, true, false, true, false, false, false] #[true, false, true, false, true, true, false, false] rfl rfl rfl rfl (by kernel_rfl) (by decide) (by decide) (fun K hK => ?_) (fun K hK => ?_)
                      · skip
                        have hHeld0 := hHeld.1
                        have hz := hHeld.1.size
                        refine goes_ Tryd.func16 (by kernel_rfl) rfl #[.agg #[.slice A0 a.length c0, .slice A1 b.length c1, .slice A2 c.length c2]] (by rfl) rfl rfl (by simp only [List.map_toArray, List.map_cons, List.map_nil]; rfl) ?_
                        with_reducible refine (HU.out _ hHeld.1).mono ?_
                        rintro e w9 ⟨Ax, cx, Bx, dx, rfl, hm⟩
                        refine ⟨_, rfl, ?_⟩
                        refine hK.out _ _ ⟨(hHeld.1.trans (hm.2.2.mono hHeld.1.size)), (HX.out _ (hHeld.1.trans (hm.2.2.mono hHeld.1.size))).1, (HX.out _ (hHeld.1.trans (hm.2.2.mono hHeld.1.size))).2.1, (HX.out _ (hHeld.1.trans (hm.2.2.mono hHeld.1.size))).2.2.1, (HX.out _ (hHeld.1.trans (hm.2.2.mono hHeld.1.size))).2.2.2.1, (HX.out _ (hHeld.1.trans (hm.2.2.mono hHeld.1.size))).2.2.2.2.1, (HX.out _ (hHeld.1.trans (hm.2.2.mono hHeld.1.size))).2.2.2.2.2⟩ (fun hHeld => ?_)
                        clear hK K
                        refine norm_ (a' := ?_) ?_ ?_
                        rotate_left
                        · show Act.put _ (some 18) _ = _
                          simp only [Act.put, List.setIfInBounds_toArray, List.set_cons_zero, List.set_cons_succ, i64_w, i32_w]
                          rfl
                        exact norm_ (by first | (simp only [putAll, Act.put, List.setIfInBounds_toArray, List.set_cons_zero, List.set_cons_succ]; done) | (simp only [putAll, Act.put, List.setIfInBounds_toArray, List.set_cons_zero, List.set_cons_succ]; rfl)) (hJ1_4 ((Ax, cx, Bx, dx, b7)) _ ⟨(MadeU.from hHeld0 hm), ((hm.2.2.block _ (Array.getElem?_eq_some_iff.1 f7).1).trans f7), g7, hHeld⟩)
                      · skip
                        have hz := hHeld.1.size
                        refine value_ (w1 := ?_) (v := ?_) (by rfl) rfl ?_ ?_
                        rotate_left 2
                        · go_simp
                          constructor
                          · rfl
                          · rfl
                        refine hK.out _ _ ⟨(hHeld.1.alloc hHeld.1.size _), (HX.out _ (hHeld.1.alloc hHeld.1.size _)).1, (HX.out _ (hHeld.1.alloc hHeld.1.size _)).2.1, (HX.out _ (hHeld.1.alloc hHeld.1.size _)).2.2.1, (HX.out _ (hHeld.1.alloc hHeld.1.size _)).2.2.2.1, (HX.out _ (hHeld.1.alloc hHeld.1.size _)).2.2.2.2.1, (HX.out _ (hHeld.1.alloc hHeld.1.size _)).2.2.2.2.2⟩ (fun hHeld => ?_)
                        clear hK K
                        refine norm_ (a' := ?_) ?_ ?_
                        rotate_left
                        · show Act.put _ (some 8) _ = _
                          simp only [Act.put, List.setIfInBounds_toArray, List.set_cons_zero, List.set_cons_succ, i64_w, i32_w]
                          rfl
                        exact norm_ (by first | (simp only [putAll, Act.put, List.setIfInBounds_toArray, List.set_cons_zero, List.set_cons_succ]; done) | (simp only [putAll, Act.put, List.setIfInBounds_toArray, List.set_cons_zero, List.set_cons_succ]; rfl)) (hJ4_5 ((b7, wn.heap.size)) _ ⟨(blk_alloc f7 _), g7, (heap_alloc_new _ _), hz, (Nat.ne_of_lt (Array.getElem?_eq_some_iff.1 f7).1), hHeld⟩)
                  · skip
                    rintro ⟨Ax, cx, Bx, dx⟩ wn ⟨fx, hHeld⟩
                    refine norm_ (a' := ?_) ?_ ?_
                    rotate_left
                    · simp only [putAll, Act.put, List.setIfInBounds_toArray, List.set_cons_zero, List.set_cons_succ]
                      rfl
                    refine three_ (i := 3) (j := 4) (k := 5) (Ni := some 20) (Nj := some 7) (Nk := some 8) #[true, true, true, true, false, false, false, false] #[true, true, true, false, true, false, false, false] #[true, true, true, false, false, true, false, false] rfl rfl rfl rfl rfl rfl (by kernel_rfl) (by decide) (by decide) (by decide) (fun K hK => ?_) (fun K hK => ?_) (fun K hK => ?_)
                    · skip
                      have hHeld0 := hHeld.1
                      have hz := hHeld.1.size
                      refine goes_ Tryd.func16 (by kernel_rfl) rfl #[.agg #[.slice A3 a'.length c3, .slice A4 b'.length c4, .slice A5 c'.length c5]] (by rfl) rfl rfl (by simp only [List.map_toArray, List.map_cons, List.map_nil]; rfl) ?_
                      with_reducible refine (HU2.out _ hHeld.1).mono ?_
                      rintro e w9 ⟨Ay, cy, By, dy, rfl, hm⟩
                      refine ⟨_, rfl, ?_⟩
                      refine hK.out _ _ ⟨(hHeld.1.trans (hm.2.2.mono hHeld.1.size)), (HX.out _ (hHeld.1.trans (hm.2.2.mono hHeld.1.size))).1, (HX.out _ (hHeld.1.trans (hm.2.2.mono hHeld.1.size))).2.1, (HX.out _ (hHeld.1.trans (hm.2.2.mono hHeld.1.size))).2.2.1, (HX.out _ (hHeld.1.trans (hm.2.2.mono hHeld.1.size))).2.2.2.1, (HX.out _ (hHeld.1.trans (hm.2.2.mono hHeld.1.size))).2.2.2.2.1, (HX.out _ (hHeld.1.trans (hm.2.2.mono hHeld.1.size))).2.2.2.2.2⟩ (fun hHeld => ?_)
                      clear hK K
                      refine norm_ (a' := ?_) ?_ ?_
                      rotate_left
                      · show Act.put _ (some 20) _ = _
                        simp only [Act.put, List.setIfInBounds_toArray, List.set_cons_zero, List.set_cons_succ, i64_w, i32_w]
                        rfl
                      exact norm_ (by first | (simp only [putAll, Act.put, List.setIfInBounds_toArray, List.set_cons_zero, List.set_cons_succ]; done) | (simp only [putAll, Act.put, List.setIfInBounds_toArray, List.set_cons_zero, List.set_cons_succ]; rfl)) (hJ1_3 ((Ax, cx, Bx, dx, Ay, cy, By, dy)) _ ⟨(fx.below hm.2.2), (MadeU.from hHeld0 hm), hHeld⟩)
                    · skip
                      have hz := hHeld.1.size
                      refine value_ (w1 := ?_) (v := ?_) (by rfl) rfl ?_ ?_
                      rotate_left 2
                      · go_simp
                        constructor
                        · rfl
                        · rfl
                      refine hK.out _ _ ⟨(hHeld.1.alloc hHeld.1.size _), (HX.out _ (hHeld.1.alloc hHeld.1.size _)).1, (HX.out _ (hHeld.1.alloc hHeld.1.size _)).2.1, (HX.out _ (hHeld.1.alloc hHeld.1.size _)).2.2.1, (HX.out _ (hHeld.1.alloc hHeld.1.size _)).2.2.2.1, (HX.out _ (hHeld.1.alloc hHeld.1.size _)).2.2.2.2.1, (HX.out _ (hHeld.1.alloc hHeld.1.size _)).2.2.2.2.2⟩ (fun hHeld => ?_)
                      clear hK K
                      refine norm_ (a' := ?_) ?_ ?_
                      rotate_left
                      · show Act.put _ (some 7) _ = _
                        simp only [Act.put, List.setIfInBounds_toArray, List.set_cons_zero, List.set_cons_succ, i64_w, i32_w]
                        rfl
                      exact norm_ (by first | (simp only [putAll, Act.put, List.setIfInBounds_toArray, List.set_cons_zero, List.set_cons_succ]; done) | (simp only [putAll, Act.put, List.setIfInBounds_toArray, List.set_cons_zero, List.set_cons_succ]; rfl)) (hJ1_4 ((Ax, cx, Bx, dx, wn.heap.size)) _ ⟨(fx.below ((Below.refl _ _).alloc (Nat.le_refl _) _)), (heap_alloc_new _ _), hz, hHeld⟩)
                    · skip
                      have hz := hHeld.1.size
                      refine value_ (w1 := ?_) (v := ?_) (by rfl) rfl ?_ ?_
                      rotate_left 2
                      · go_simp
                        constructor
                        · rfl
                        · rfl
                      refine hK.out _ _ ⟨(hHeld.1.alloc hHeld.1.size _), (HX.out _ (hHeld.1.alloc hHeld.1.size _)).1, (HX.out _ (hHeld.1.alloc hHeld.1.size _)).2.1, (HX.out _ (hHeld.1.alloc hHeld.1.size _)).2.2.1, (HX.out _ (hHeld.1.alloc hHeld.1.size _)).2.2.2.1, (HX.out _ (hHeld.1.alloc hHeld.1.size _)).2.2.2.2.1, (HX.out _ (hHeld.1.alloc hHeld.1.size _)).2.2.2.2.2⟩ (fun hHeld => ?_)
                      clear hK K
                      refine norm_ (a' := ?_) ?_ ?_
                      rotate_left
                      · show Act.put _ (some 8) _ = _
                        simp only [Act.put, List.setIfInBounds_toArray, List.set_cons_zero, List.set_cons_succ, i64_w, i32_w]
                        rfl
                      exact norm_ (by first | (simp only [putAll, Act.put, List.setIfInBounds_toArray, List.set_cons_zero, List.set_cons_succ]; done) | (simp only [putAll, Act.put, List.setIfInBounds_toArray, List.set_cons_zero, List.set_cons_succ]; rfl)) (hJ1_5 ((Ax, cx, Bx, dx, wn.heap.size)) _ ⟨(fx.below ((Below.refl _ _).alloc (Nat.le_refl _) _)), (heap_alloc_new _ _), hz, hHeld⟩)
                · skip
                  rintro ⟨b7, b8⟩ wn ⟨f7, g7, f8, g8, n78, hHeld⟩
                  refine norm_ (a' := ?_) ?_ ?_
                  rotate_left
                  · simp only [putAll, Act.put, List.setIfInBounds_toArray, List.set_cons_zero, List.set_cons_succ]
                    rfl
                  refine one_ (i := 1) (N := some 18) #[true, true, true, false, true, true, false, false] rfl rfl (by kernel_rfl) (by decide) (fun K hK => ?_)
                  have hHeld0 := hHeld.1
                  have hz := hHeld.1.size
                  refine goes_ Tryd.func16 (by kernel_rfl) rfl #[.agg #[.slice A0 a.length c0, .slice A1 b.length c1, .slice A2 c.length c2]] (by rfl) rfl rfl (by simp only [List.map_toArray, List.map_cons, List.map_nil]; rfl) ?_
                  with_reducible refine (HU.out _ hHeld.1).mono ?_
                  rintro e w9 ⟨Ax, cx, Bx, dx, rfl, hm⟩
                  refine ⟨_, rfl, ?_⟩
                  refine hK.out _ _ ⟨(hHeld.1.trans (hm.2.2.mono hHeld.1.size)), (HX.out _ (hHeld.1.trans (hm.2.2.mono hHeld.1.size))).1, (HX.out _ (hHeld.1.trans (hm.2.2.mono hHeld.1.size))).2.1, (HX.out _ (hHeld.1.trans (hm.2.2.mono hHeld.1.size))).2.2.1, (HX.out _ (hHeld.1.trans (hm.2.2.mono hHeld.1.size))).2.2.2.1, (HX.out _ (hHeld.1.trans (hm.2.2.mono hHeld.1.size))).2.2.2.2.1, (HX.out _ (hHeld.1.trans (hm.2.2.mono hHeld.1.size))).2.2.2.2.2⟩ (fun hHeld => ?_)
                  clear hK K
                  refine norm_ (a' := ?_) ?_ ?_
                  rotate_left
                  · show Act.put _ (some 18) _ = _
                    simp only [Act.put, List.setIfInBounds_toArray, List.set_cons_zero, List.set_cons_succ, i64_w, i32_w]
                    rfl
                  exact norm_ (by first | (simp only [putAll, Act.put, List.setIfInBounds_toArray, List.set_cons_zero, List.set_cons_succ]; done) | (simp only [putAll, Act.put, List.setIfInBounds_toArray, List.set_cons_zero, List.set_cons_succ]; rfl)) (hJ1_4_5 ((Ax, cx, Bx, dx, b7, b8)) _ ⟨(MadeU.from hHeld0 hm), ((hm.2.2.block _ (Array.getElem?_eq_some_iff.1 f7).1).trans f7), g7, ((hm.2.2.block _ (Array.getElem?_eq_some_iff.1 f8).1).trans f8), g8, n78, hHeld⟩)
              · skip
                rintro ⟨Ax, cx, Bx, dx, b8⟩ wn ⟨fx, f8, g8, hHeld⟩
                refine norm_ (a' := ?_) ?_ ?_
                rotate_left
                · simp only [putAll, Act.put, List.setIfInBounds_toArray, List.set_cons_zero, List.set_cons_succ]
                  rfl
                refine two_ (i := 3) (j := 4) (Ni := some 20) (Nj := some 7) #[true, true, true, true, false, true, false, false] #[true, true, true, false, true, true, false, false] rfl rfl rfl rfl (by kernel_rfl) (by decide) (by decide) (fun K hK => ?_) (fun K hK => ?_)
                · skip
                  have hHeld0 := hHeld.1
                  have hz := hHeld.1.size
                  refine goes_ Tryd.func16 (by kernel_rfl) rfl #[.agg #[.slice A3 a'.length c3, .slice A4 b'.length c4, .slice A5 c'.length c5]] (by rfl) rfl rfl (by simp only [List.map_toArray, List.map_cons, List.map_nil]; rfl) ?_
                  with_reducible refine (HU2.out _ hHeld.1).mono ?_
                  rintro e w9 ⟨Ay, cy, By, dy, rfl, hm⟩
                  refine ⟨_, rfl, ?_⟩
                  refine hK.out _ _ ⟨(hHeld.1.trans (hm.2.2.mono hHeld.1.size)), (HX.out _ (hHeld.1.trans (hm.2.2.mono hHeld.1.size))).1, (HX.out _ (hHeld.1.trans (hm.2.2.mono hHeld.1.size))).2.1, (HX.out _ (hHeld.1.trans (hm.2.2.mono hHeld.1.size))).2.2.1, (HX.out _ (hHeld.1.trans (hm.2.2.mono hHeld.1.size))).2.2.2.1, (HX.out _ (hHeld.1.trans (hm.2.2.mono hHeld.1.size))).2.2.2.2.1, (HX.out _ (hHeld.1.trans (hm.2.2.mono hHeld.1.size))).2.2.2.2.2⟩ (fun hHeld => ?_)
                  clear hK K
                  refine norm_ (a' := ?_) ?_ ?_
                  rotate_left
                  · show Act.put _ (some 20) _ = _
                    simp only [Act.put, List.setIfInBounds_toArray, List.set_cons_zero, List.set_cons_succ, i64_w, i32_w]
                    rfl
                  exact norm_ (by first | (simp only [putAll, Act.put, List.setIfInBounds_toArray, List.set_cons_zero, List.set_cons_succ]; done) | (simp only [putAll, Act.put, List.setIfInBounds_toArray, List.set_cons_zero, List.set_cons_succ]; rfl)) (hJ1_3_5 ((Ax, cx, Bx, dx, Ay, cy, By, dy, b8)) _ ⟨(fx.below hm.2.2), (MadeU.from hHeld0 hm), ((hm.2.2.block _ (Array.getElem?_eq_some_iff.1 f8).1).trans f8), g8, hHeld⟩)
                · skip
                  have hz := hHeld.1.size
                  refine value_ (w1 := ?_) (v := ?_) (by rfl) rfl ?_ ?_
                  rotate_left 2
                  · go_simp
                    constructor
                    · rfl
                    · rfl
                  refine hK.out _ _ ⟨(hHeld.1.alloc hHeld.1.size _), (HX.out _ (hHeld.1.alloc hHeld.1.size _)).1, (HX.out _ (hHeld.1.alloc hHeld.1.size _)).2.1, (HX.out _ (hHeld.1.alloc hHeld.1.size _)).2.2.1, (HX.out _ (hHeld.1.alloc hHeld.1.size _)).2.2.2.1, (HX.out _ (hHeld.1.alloc hHeld.1.size _)).2.2.2.2.1, (HX.out _ (hHeld.1.alloc hHeld.1.size _)).2.2.2.2.2⟩ (fun hHeld => ?_)
                  clear hK K
                  refine norm_ (a' := ?_) ?_ ?_
                  rotate_left
                  · show Act.put _ (some 7) _ = _
                    simp only [Act.put, List.setIfInBounds_toArray, List.set_cons_zero, List.set_cons_succ, i64_w, i32_w]
                    rfl
                  exact norm_ (by first | (simp only [putAll, Act.put, List.setIfInBounds_toArray, List.set_cons_zero, List.set_cons_succ]; done) | (simp only [putAll, Act.put, List.setIfInBounds_toArray, List.set_cons_zero, List.set_cons_succ]; rfl)) (hJ1_4_5 ((Ax, cx, Bx, dx, wn.heap.size, b8)) _ ⟨(fx.below ((Below.refl _ _).alloc (Nat.le_refl _) _)), (heap_alloc_new _ _), hz, (blk_alloc f8 _), g8, (Nat.ne_of_gt (Array.getElem?_eq_some_iff.1 f8).1), hHeld⟩)
            · skip
              rintro ⟨Ax, cx, Bx, dx, b7⟩ wn ⟨fx, f7, g7, hHeld⟩
              refine norm_ (a' := ?_) ?_ ?_
              rotate_left
              · simp only [putAll, Act.put, List.setIfInBounds_toArray, List.set_cons_zero, List.set_cons_succ]
                rfl
              refine two_ (i := 3) (j := 5) (Ni := some 20) (Nj := some 8) #[true, true, true, true, true, false, false, false] #[true, true, true, false, true, true, false, false] rfl rfl rfl rfl (by kernel_rfl) (by decide) (by decide) (fun K hK => ?_) (fun K hK => ?_)
              · skip
                have hHeld0 := hHeld.1
                have hz := hHeld.1.size
                refine goes_ Tryd.func16 (by kernel_rfl) rfl #[.agg #[.slice A3 a'.length c3, .slice A4 b'.length c4, .slice A5 c'.length c5]] (by rfl) rfl rfl (by simp only [List.map_toArray, List.map_cons, List.map_nil]; rfl) ?_
                with_reducible refine (HU2.out _ hHeld.1).mono ?_
                rintro e w9 ⟨Ay, cy, By, dy, rfl, hm⟩
                refine ⟨_, rfl, ?_⟩
                refine hK.out _ _ ⟨(hHeld.1.trans (hm.2.2.mono hHeld.1.size)), (HX.out _ (hHeld.1.trans (hm.2.2.mono hHeld.1.size))).1, (HX.out _ (hHeld.1.trans (hm.2.2.mono hHeld.1.size))).2.1, (HX.out _ (hHeld.1.trans (hm.2.2.mono hHeld.1.size))).2.2.1, (HX.out _ (hHeld.1.trans (hm.2.2.mono hHeld.1.size))).2.2.2.1, (HX.out _ (hHeld.1.trans (hm.2.2.mono hHeld.1.size))).2.2.2.2.1, (HX.out _ (hHeld.1.trans (hm.2.2.mono hHeld.1.size))).2.2.2.2.2⟩ (fun hHeld => ?_)
                clear hK K
                refine norm_ (a' := ?_) ?_ ?_
                rotate_left
                · show Act.put _ (some 20) _ = _
                  simp only [Act.put, List.setIfInBounds_toArray, List.set_cons_zero, List.set_cons_succ, i64_w, i32_w]
                  rfl
                exact norm_ (by first | (simp only [putAll, Act.put, List.setIfInBounds_toArray, List.set_cons_zero, List.set_cons_succ]; done) | (simp only [putAll, Act.put, List.setIfInBounds_toArray, List.set_cons_zero, List.set_cons_succ]; rfl)) (hJ1_3_4 ((Ax, cx, Bx, dx, Ay, cy, By, dy, b7)) _ ⟨(fx.below hm.2.2), (MadeU.from hHeld0 hm), ((hm.2.2.block _ (Array.getElem?_eq_some_iff.1 f7).1).trans f7), g7, hHeld⟩)
              · skip
                have hz := hHeld.1.size
                refine value_ (w1 := ?_) (v := ?_) (by rfl) rfl ?_ ?_
                rotate_left 2
                · go_simp
                  constructor
                  · rfl
                  · rfl
                refine hK.out _ _ ⟨(hHeld.1.alloc hHeld.1.size _), (HX.out _ (hHeld.1.alloc hHeld.1.size _)).1, (HX.out _ (hHeld.1.alloc hHeld.1.size _)).2.1, (HX.out _ (hHeld.1.alloc hHeld.1.size _)).2.2.1, (HX.out _ (hHeld.1.alloc hHeld.1.size _)).2.2.2.1, (HX.out _ (hHeld.1.alloc hHeld.1.size _)).2.2.2.2.1, (HX.out _ (hHeld.1.alloc hHeld.1.size _)).2.2.2.2.2⟩ (fun hHeld => ?_)
                clear hK K
                refine norm_ (a' := ?_) ?_ ?_
                rotate_left
                · show Act.put _ (some 8) _ = _
                  simp only [Act.put, List.setIfInBounds_toArray, List.set_cons_zero, List.set_cons_succ, i64_w, i32_w]
                  rfl
                exact norm_ (by first | (simp only [putAll, Act.put, List.setIfInBounds_toArray, List.set_cons_zero, List.set_cons_succ]; done) | (simp only [putAll, Act.put, List.setIfInBounds_toArray, List.set_cons_zero, List.set_cons_succ]; rfl)) (hJ1_4_5 ((Ax, cx, Bx, dx, b7, wn.heap.size)) _ ⟨(fx.below ((Below.refl _ _).alloc (Nat.le_refl _) _)), (blk_alloc f7 _), g7, (heap_alloc_new _ _), hz, (Nat.ne_of_lt (Array.getElem?_eq_some_iff.1 f7).1), hHeld⟩)
          · skip
            rintro ⟨Ax, cx, Bx, dx, Ay, cy, By, dy⟩ wn ⟨fx, fy, hHeld⟩
            refine norm_ (a' := ?_) ?_ ?_
            rotate_left
            · simp only [putAll, Act.put, List.setIfInBounds_toArray, List.set_cons_zero, List.set_cons_succ]
              rfl
            refine two_ (i := 4) (j := 5) (Ni := some 7) (Nj := some 8) #[true, true, true, true, true, false, false, false] #[true, true, true, true, false, true, false, false] rfl rfl rfl rfl (by kernel_rfl) (by decide) (by decide) (fun K hK => ?_) (fun K hK => ?_)
            · skip
              have hz := hHeld.1.size
              refine value_ (w1 := ?_) (v := ?_) (by rfl) rfl ?_ ?_
              rotate_left 2
              · go_simp
                constructor
                · rfl
                · rfl
              refine hK.out _ _ ⟨(hHeld.1.alloc hHeld.1.size _), (HX.out _ (hHeld.1.alloc hHeld.1.size _)).1, (HX.out _ (hHeld.1.alloc hHeld.1.size _)).2.1, (HX.out _ (hHeld.1.alloc hHeld.1.size _)).2.2.1, (HX.out _ (hHeld.1.alloc hHeld.1.size _)).2.2.2.1, (HX.out _ (hHeld.1.alloc hHeld.1.size _)).2.2.2.2.1, (HX.out _ (hHeld.1.alloc hHeld.1.size _)).2.2.2.2.2⟩ (fun hHeld => ?_)
              clear hK K
              refine norm_ (a' := ?_) ?_ ?_
              rotate_left
              · show Act.put _ (some 7) _ = _
                simp only [Act.put, List.setIfInBounds_toArray, List.set_cons_zero, List.set_cons_succ, i64_w, i32_w]
                rfl
              exact norm_ (by first | (simp only [putAll, Act.put, List.setIfInBounds_toArray, List.set_cons_zero, List.set_cons_succ]; done) | (simp only [putAll, Act.put, List.setIfInBounds_toArray, List.set_cons_zero, List.set_cons_succ]; rfl)) (hJ1_3_4 ((Ax, cx, Bx, dx, Ay, cy, By, dy, wn.heap.size)) _ ⟨(fx.below ((Below.refl _ _).alloc (Nat.le_refl _) _)), (fy.below ((Below.refl _ _).alloc (Nat.le_refl _) _)), (heap_alloc_new _ _), hz, hHeld⟩)
            · skip
              have hz := hHeld.1.size
              refine value_ (w1 := ?_) (v := ?_) (by rfl) rfl ?_ ?_
              rotate_left 2
              · go_simp
                constructor
                · rfl
                · rfl
              refine hK.out _ _ ⟨(hHeld.1.alloc hHeld.1.size _), (HX.out _ (hHeld.1.alloc hHeld.1.size _)).1, (HX.out _ (hHeld.1.alloc hHeld.1.size _)).2.1, (HX.out _ (hHeld.1.alloc hHeld.1.size _)).2.2.1, (HX.out _ (hHeld.1.alloc hHeld.1.size _)).2.2.2.1, (HX.out _ (hHeld.1.alloc hHeld.1.size _)).2.2.2.2.1, (HX.out _ (hHeld.1.alloc hHeld.1.size _)).2.2.2.2.2⟩ (fun hHeld => ?_)
              clear hK K
              refine norm_ (a' := ?_) ?_ ?_
              rotate_left
              · show Act.put _ (some 8) _ = _
                simp only [Act.put, List.setIfInBounds_toArray, List.set_cons_zero, List.set_cons_succ, i64_w, i32_w]
                rfl
              exact norm_ (by first | (simp only [putAll, Act.put, List.setIfInBounds_toArray, List.set_cons_zero, List.set_cons_succ]; done) | (simp only [putAll, Act.put, List.setIfInBounds_toArray, List.set_cons_zero, List.set_cons_succ]; rfl)) (hJ1_3_5 ((Ax, cx, Bx, dx, Ay, cy, By, dy, wn.heap.size)) _ ⟨(fx.below ((Below.refl _ _).alloc (Nat.le_refl _) _)), (fy.below ((Below.refl _ _).alloc (Nat.le_refl _) _)), (heap_alloc_new _ _), hz, hHeld⟩)
        · skip
          rintro ⟨Ax, cx, Bx, dx, b7, b8⟩ wn ⟨fx, f7, g7, f8, g8, n78, hHeld⟩
          refine norm_ (a' := ?_) ?_ ?_
          rotate_left
          · simp only [putAll, Act.put, List.setIfInBounds_toArray, List.set_cons_zero, List.set_cons_succ]
            rfl
          refine one_ (i := 3) (N := some 20) #[true, true, true, true, true, true, false, false] rfl rfl (by kernel_rfl) (by decide) (fun K hK => ?_)
          have hHeld0 := hHeld.1
          have hz := hHeld.1.size
          refine goes_ Tryd.func16 (by kernel_rfl) rfl #[.agg #[.slice A3 a'.length c3, .slice A4 b'.length c4, .slice A5 c'.length c5]] (by rfl) rfl rfl (by simp only [List.map_toArray, List.map_cons, List.map_nil]; rfl) ?_
          with_reducible refine (HU2.out _ hHeld.1).mono ?_
          rintro e w9 ⟨Ay, cy, By, dy, rfl, hm⟩
          refine ⟨_, rfl, ?_⟩
          refine hK.out _ _ ⟨(hHeld.1.trans (hm.2.2.mono hHeld.1.size)), (HX.out _ (hHeld.1.trans (hm.2.2.mono hHeld.1.size))).1, (HX.out _ (hHeld.1.trans (hm.2.2.mono hHeld.1.size))).2.1, (HX.out _ (hHeld.1.trans (hm.2.2.mono hHeld.1.size))).2.2.1, (HX.out _ (hHeld.1.trans (hm.2.2.mono hHeld.1.size))).2.2.2.1, (HX.out _ (hHeld.1.trans (hm.2.2.mono hHeld.1.size))).2.2.2.2.1, (HX.out _ (hHeld.1.trans (hm.2.2.mono hHeld.1.size))).2.2.2.2.2⟩ (fun hHeld => ?_)
          clear hK K
          refine norm_ (a' := ?_) ?_ ?_
          rotate_left
          · show Act.put _ (some 20) _ = _
            simp only [Act.put, List.setIfInBounds_toArray, List.set_cons_zero, List.set_cons_succ, i64_w, i32_w]
            rfl
          exact norm_ (by first | (simp only [putAll, Act.put, List.setIfInBounds_toArray, List.set_cons_zero, List.set_cons_succ]; done) | (simp only [putAll, Act.put, List.setIfInBounds_toArray, List.set_cons_zero, List.set_cons_succ]; rfl)) (hJ1_3_4_5 ((Ax, cx, Bx, dx, Ay, cy, By, dy, b7, b8)) _ ⟨(fx.below hm.2.2), (MadeU.from hHeld0 hm), ((hm.2.2.block _ (Array.getElem?_eq_some_iff.1 f7).1).trans f7), g7, ((hm.2.2.block _ (Array.getElem?_eq_some_iff.1 f8).1).trans f8), g8, n78, hHeld⟩)
      · skip
        rintro ⟨Ax, cx, Bx, dx, Ay, cy, By, dy, b8⟩ wn ⟨fx, fy, f8, g8, hHeld⟩
        refine norm_ (a' := ?_) ?_ ?_
        rotate_left
        · simp only [putAll, Act.put, List.setIfInBounds_toArray, List.set_cons_zero, List.set_cons_succ]
          rfl
        refine one_ (i := 4) (N := some 7) #[true, true, true, true, true, true, false, false] rfl rfl (by kernel_rfl) (by decide) (fun K hK => ?_)
        have hz := hHeld.1.size
        refine value_ (w1 := ?_) (v := ?_) (by rfl) rfl ?_ ?_
        rotate_left 2
        · go_simp
          constructor
          · rfl
          · rfl
        refine hK.out _ _ ⟨(hHeld.1.alloc hHeld.1.size _), (HX.out _ (hHeld.1.alloc hHeld.1.size _)).1, (HX.out _ (hHeld.1.alloc hHeld.1.size _)).2.1, (HX.out _ (hHeld.1.alloc hHeld.1.size _)).2.2.1, (HX.out _ (hHeld.1.alloc hHeld.1.size _)).2.2.2.1, (HX.out _ (hHeld.1.alloc hHeld.1.size _)).2.2.2.2.1, (HX.out _ (hHeld.1.alloc hHeld.1.size _)).2.2.2.2.2⟩ (fun hHeld => ?_)
        clear hK K
        refine norm_ (a' := ?_) ?_ ?_
        rotate_left
        · show Act.put _ (some 7) _ = _
          simp only [Act.put, List.setIfInBounds_toArray, List.set_cons_zero, List.set_cons_succ, i64_w, i32_w]
          rfl
        exact norm_ (by first | (simp only [putAll, Act.put, List.setIfInBounds_toArray, List.set_cons_zero, List.set_cons_succ]; done) | (simp only [putAll, Act.put, List.setIfInBounds_toArray, List.set_cons_zero, List.set_cons_succ]; rfl)) (hJ1_3_4_5 ((Ax, cx, Bx, dx, Ay, cy, By, dy, wn.heap.size, b8)) _ ⟨(fx.below ((Below.refl _ _).alloc (Nat.le_refl _) _)), (fy.below ((Below.refl _ _).alloc (Nat.le_refl _) _)), (heap_alloc_new _ _), hz, (blk_alloc f8 _), g8, (Nat.ne_of_gt (Array.getElem?_eq_some_iff.1 f8).1), hHeld⟩)
    · skip
      rintro ⟨Ax, cx, Bx, dx, Ay, cy, By, dy, b7⟩ wn ⟨fx, fy, f7, g7, hHeld⟩
      refine norm_ (a' := ?_) ?_ ?_
      rotate_left
      · simp only [putAll, Act.put, List.setIfInBounds_toArray, List.set_cons_zero, List.set_cons_succ]
        rfl
      refine one_ (i := 5) (N := some 8) #[true, true, true, true, true, true, false, false] rfl rfl (by kernel_rfl) (by decide) (fun K hK => ?_)
      have hz := hHeld.1.size
      refine value_ (w1 := ?_) (v := ?_) (by rfl) rfl ?_ ?_
      rotate_left 2
      · go_simp
        constructor
        · rfl
        · rfl
      refine hK.out _ _ ⟨(hHeld.1.alloc hHeld.1.size _), (HX.out _ (hHeld.1.alloc hHeld.1.size _)).1, (HX.out _ (hHeld.1.alloc hHeld.1.size _)).2.1, (HX.out _ (hHeld.1.alloc hHeld.1.size _)).2.2.1, (HX.out _ (hHeld.1.alloc hHeld.1.size _)).2.2.2.1, (HX.out _ (hHeld.1.alloc hHeld.1.size _)).2.2.2.2.1, (HX.out _ (hHeld.1.alloc hHeld.1.size _)).2.2.2.2.2⟩ (fun hHeld => ?_)
      clear hK K
      refine norm_ (a' := ?_) ?_ ?_
      rotate_left
      · show Act.put _ (some 8) _ = _
        simp only [Act.put, List.setIfInBounds_toArray, List.set_cons_zero, List.set_cons_succ, i64_w, i32_w]
        rfl
      exact norm_ (by first | (simp only [putAll, Act.put, List.setIfInBounds_toArray, List.set_cons_zero, List.set_cons_succ]; done) | (simp only [putAll, Act.put, List.setIfInBounds_toArray, List.set_cons_zero, List.set_cons_succ]; rfl)) (hJ1_3_4_5 ((Ax, cx, Bx, dx, Ay, cy, By, dy, b7, wn.heap.size)) _ ⟨(fx.below ((Below.refl _ _).alloc (Nat.le_refl _) _)), (fy.below ((Below.refl _ _).alloc (Nat.le_refl _) _)), (blk_alloc f7 _), g7, (heap_alloc_new _ _), hz, (Nat.ne_of_lt (Array.getElem?_eq_some_iff.1 f7).1), hHeld⟩)
  rintro ⟨Ax, cx, Bx, dx, Ay, cy, By, dy, b7, b8⟩ wn ⟨fx, fy, f7, g7, f8, g8, n78, hHeld⟩
  refine norm_ (a' := ?_) ?_ ?_
  rotate_left
  · simp only [putAll, Act.put, List.setIfInBounds_toArray, List.set_cons_zero, List.set_cons_succ]
    rfl
  refine one_ (i := 6) (N := none) #[true, true, true, true, true, true, true, false] rfl rfl (by kernel_rfl) (by decide) (fun K hK => ?_)
  have k0 : wn.cell? ⟨b7, 0, none⟩ = some (.slice none 0 0) := (blk_cell f7 0).trans rfl
  have k1_ : wn.cell? ⟨b7, 1, none⟩ = some (.slice none 0 0) := (blk_cell f7 1).trans rfl
  have z0 := blk_frozen f7 0
  have z1 := blk_frozen f7 1
  refine skip_ (w1 := ?_) (by rfl) rfl ?_ ?_
  rotate_left
  · go_simp
    rfl
  refine hK.out _ _ ⟨((hHeld.1.setCell (p := ⟨b7, 0, none⟩) g7 _).setCell (p := ⟨b7, 1, none⟩) g7 _), (HX.out _ ((hHeld.1.setCell (p := ⟨b7, 0, none⟩) g7 _).setCell (p := ⟨b7, 1, none⟩) g7 _)).1, (HX.out _ ((hHeld.1.setCell (p := ⟨b7, 0, none⟩) g7 _).setCell (p := ⟨b7, 1, none⟩) g7 _)).2.1, (HX.out _ ((hHeld.1.setCell (p := ⟨b7, 0, none⟩) g7 _).setCell (p := ⟨b7, 1, none⟩) g7 _)).2.2.1, (HX.out _ ((hHeld.1.setCell (p := ⟨b7, 0, none⟩) g7 _).setCell (p := ⟨b7, 1, none⟩) g7 _)).2.2.2.1, (HX.out _ ((hHeld.1.setCell (p := ⟨b7, 0, none⟩) g7 _).setCell (p := ⟨b7, 1, none⟩) g7 _)).2.2.2.2.1, (HX.out _ ((hHeld.1.setCell (p := ⟨b7, 0, none⟩) g7 _).setCell (p := ⟨b7, 1, none⟩) g7 _)).2.2.2.2.2⟩ (fun hHeld => ?_)
  clear hK K
  refine last_ (i := 7) (N := none) #[true, true, true, true, true, true, true, true] rfl rfl (by kernel_rfl) (by decide) (fun K hK => ?_)
  have e8 : ((wn.setCell ⟨b7, 0, none⟩ (.slice Ax px.length cx)).setCell ⟨b7, 1, none⟩ (.slice Bx qx.length dx)).heap[b8]? = some (.cells #[.slice none 0 0, .slice none 0 0] 25 (0, 0)) := (Below.heap_setCell _ ⟨b7, 1, none⟩ _ _ n78.symm).trans ((Below.heap_setCell _ ⟨b7, 0, none⟩ _ _ n78.symm).trans f8)
  have e7 : ((wn.setCell ⟨b7, 0, none⟩ (.slice Ax px.length cx)).setCell ⟨b7, 1, none⟩ (.slice Bx qx.length dx)).heap[b7]? = some (.cells #[.slice Ax px.length cx, .slice Bx qx.length dx] 25 (0, 0)) := set_two f7 _ _
  have ex : MadeU w0 ((wn.setCell ⟨b7, 0, none⟩ (.slice Ax px.length cx)).setCell ⟨b7, 1, none⟩ (.slice Bx qx.length dx)) px qx Ax cx Bx dx := (fx.set f7 g7 0 _).set (set_one f7 _) g7 1 _
  have ey : MadeU w0 ((wn.setCell ⟨b7, 0, none⟩ (.slice Ax px.length cx)).setCell ⟨b7, 1, none⟩ (.slice Bx qx.length dx)) py qy Ay cy By dy := (fy.set f7 g7 0 _).set (set_one f7 _) g7 1 _
  obtain ⟨wm, hwm⟩ : ∃ x, ((wn.setCell ⟨b7, 0, none⟩ (.slice Ax px.length cx)).setCell ⟨b7, 1, none⟩ (.slice Bx qx.length dx)) = x := ⟨_, rfl⟩
  rw [hwm] at e7 e8 ex ey ⊢
  clear hwm
  have k0 : wm.cell? ⟨b8, 0, none⟩ = some (.slice none 0 0) := (blk_cell e8 0).trans rfl
  have k1_ : wm.cell? ⟨b8, 1, none⟩ = some (.slice none 0 0) := (blk_cell e8 1).trans rfl
  have z0 := blk_frozen e8 0
  have z1 := blk_frozen e8 1
  refine skip_ (w1 := ?_) (by rfl) rfl ?_ ?_
  rotate_left
  · go_simp
    rfl
  refine hK.out _ _ ?_
  clear hK K
  refine done_ (by kernel_rfl) ?_
  have HL := Lib.hid (And.intro ex (And.intro ey (And.intro e7 (And.intro g7 (And.intro e8 (And.intro g8 n78))))))
  clear fx fy f7 f8 ex ey e7 e8 g7 g8 n78 k0 k1_ z0 z1 hHeld HX HU HU2 HU1 HU21
  go_upto_region 2 with fail
  obtain ⟨w2, hw2⟩ : ∃ x, (wm.setCell ⟨b8, 0, none⟩ (.slice Ay py.length cy)).setCell ⟨b8, 1, none⟩ (.slice By qy.length dy) = x := ⟨_, rfl⟩
  have H2 : Hid (Two w0 w2 px qx Ax cx Bx dx py qy Ay cy By dy b7 b8) := Lib.hid (by
    obtain ⟨ex, ey, e7, g7, e8, g8, n78⟩ := HL.out
    rw [← hw2]
    exact ⟨(ex.set e8 g8 0 _).set (set_one e8 _) g8 1 _, (ey.set e8 g8 0 _).set (set_one e8 _) g8 1 _, (Below.heap_setCell _ ⟨b8, 1, none⟩ _ _ n78).trans ((Below.heap_setCell _ ⟨b8, 0, none⟩ _ _ n78).trans e7), set_two e8 _ _⟩)
  rw [hw2]
  clear hw2 HL
  obtain ⟨Ta, Tb, Tc, Td, hTT⟩ : ∃ Ta Tb Tc Td, Texts px qy Ta Tb Tc Td := ⟨_, _, _, _, rfl, rfl, rfl, rfl⟩
  have HT := Lib.hid hTT
  clear hTT
  have hnx : px.length ≤ 5 := HMx.out.1
  have hny : qy.length ≤ 3 := by have := HMy.out.2.2.1; omega
  have HPa : Hid (∀ W, Below w2.heap.size w2 W → Calls Tryd.prog 12 #[.agg #[.slice Ax px.length cx, .slice none 0 0]] W fun e w' => e = .returned (.string Ta) ∧ Below W.heap.size W w') := Lib.hid fun W hB => by
    have hr := H2.out.1.reads
    rw [HT.out.1]
    exact Print_any Ax cx px none 0 [] W (Kd.C_below hr.1 hB) hr.2.1 (C_none _ _) (Nat.le_refl _)
  have HPb : Hid (∀ W, Below w2.heap.size w2 W → Calls Tryd.prog 12 #[.agg #[.slice none 0 0, .slice By qy.length dy]] W fun e w' => e = .returned (.string Tb) ∧ Below W.heap.size W w') := Lib.hid fun W hB => by
    have hr := H2.out.2.1.reads
    rw [HT.out.2.1]
    exact Print_any none 0 [] By dy qy W (C_none _ _) (Nat.le_refl _) (Kd.C_below hr.2.2.1 hB) hr.2.2.2
  have HPc : Hid (∀ W, Below w2.heap.size w2 W → Calls Tryd.prog 12 #[.agg #[.slice Ax px.length cx, .slice By qy.length dy]] W fun e w' => e = .returned (.string Tc) ∧ Below W.heap.size W w') := Lib.hid fun W hB => by
    have hr := H2.out.1.reads
    have hr2 := H2.out.2.1.reads
    rw [HT.out.2.2.1]
    exact Print_any Ax cx px By dy qy W (Kd.C_below hr.1 hB) hr.2.1 (Kd.C_below hr2.2.2.1 hB) hr2.2.2.2
  have b0 : w2.cell? ⟨b7, 0, none⟩ = some (.slice Ax px.length cx) := (blk_cell H2.out.2.2.1 0).trans rfl
  go_wp2_with fail
  clear b0
  refine (HPa.out _ (Below.refl _ _)).mono ?_
  rintro e w3 ⟨rfl, hb3⟩
  have H3 := Lib.hid (And.intro hb3 (H2.out.below hb3))
  clear hb3 HPa
  have b1 : w3.cell? ⟨b8, 1, none⟩ = some (.slice By qy.length dy) := (blk_cell H3.out.2.2.2.2 1).trans rfl
  go_wp2_with fail
  clear b1
  refine (HPb.out _ H3.out.1).mono ?_
  rintro e w4 ⟨rfl, hb4⟩
  have H4 := Lib.hid (And.intro (H3.out.1.trans (hb4.mono H3.out.1.size)) (H3.out.2.below hb4))
  clear hb4 HPb H3
  have b0 : w4.cell? ⟨b7, 0, none⟩ = some (.slice Ax px.length cx) := (blk_cell H4.out.2.2.2.1 0).trans rfl
  have b1 : w4.cell? ⟨b8, 1, none⟩ = some (.slice By qy.length dy) := (blk_cell H4.out.2.2.2.2 1).trans rfl
  go_wp2_with fail
  clear b0 b1
  refine (HPc.out _ H4.out.1).mono ?_
  rintro e w5 ⟨rfl, hb5⟩
  have H5 := Lib.hid (H4.out.2.below hb5)
  clear hb5 HPc H4 H2
  obtain ⟨t1, t2, t3, t4⟩ := texts_facts HMx.out HMy.out HT.out
  have t5 : (1 : Int) ≤ (Tb.size : Int) := by omega
  have t6 : ¬ (Tb.size : Int) < 1 := by omega
  have t7 : ¬ 9223372036854775807 < Ta.size + (Tb.extract 1 Tb.size).size := t2
  have t7b : ¬ 9223372036854775807 < Ta.size + (Tb.size - 1) := by rw [ByteArray.size_extract] at t2; omega
  have t8 : (decide ((Tb.size : Int) < 1) || !(Tc.toList == (Ta ++ Tb.extract 1 Tb.size).toList)) = false := by rw [t3, decide_eq_false t6]; simp
  have HT4 := Lib.hid t4
  have HT8 := Lib.hid t8
  clear t2 t3 t4 t8
  go_upto_if 45 with (fail)
  rw [HT8.out]
  clear t5 t6 t7 t7b
  have b0 : w5.cell? ⟨b7, 0, none⟩ = some (.slice Ax px.length cx) := (blk_cell H5.out.2.2.1 0).trans rfl
  go_upto_if 49 with (fail)
  clear b0
  go_cut [] (fun wc => Hid (Below w0.heap.size w0 wc))
  case first =>
    by_cases hp0 : px.length = 0
    · have hz : decide (0 < px.length) = false := by simp [hp0]
      rw [hz]
      clear hz hp0
      go_wp2_with fail
      go_meet
      exact Lib.hid H5.out.1.2.2
    · have hz : decide (0 < px.length) = true := decide_eq_true (by omega)
      rw [hz]
      have HT5 := Lib.hid (HT4.out (by omega))
      clear hz hp0
      obtain ⟨w8, rfl⟩ : ∃ x, x = w5 := ⟨_, rfl⟩
      have HX8 : Hid (∀ W, Below w8.heap.size w8 W → W.cell? ⟨b7, 0, none⟩ = some (.slice Ax px.length cx)) := Lib.hid fun W hB => cell_below hB ((blk_cell H5.out.2.2.1 0).trans rfl)
      have HA1 : Hid (∀ (W : World) (b : Nat), Below w8.heap.size w8 W → w8.heap.size ≤ b → ∃ v w', (Builtin.append_ #[22, 22] 22 #[.slice (some ⟨b, 0, none⟩) 0 0, .slice Ax px.length cx]).run Tryd.prog W = .ok v w' ∧ Sl.App w' w8.heap.size 9 1 v px.length (cellsS px) ∧ Below W.heap.size W w') := Lib.hid fun W b hB hb => appS1 w8 W b Ax cx px hB hb (Kd.C_below H5.out.1.reads.1 hB) (by omega)
      have HA2 : Hid (∀ (W : World) (v : Value) (nb : Nat), Below w8.heap.size w8 W → Sl.App W w8.heap.size 9 1 v px.length (cellsS px) → W.heap[nb]? = some (.cells #[.string ⟨#[97, 47, 98]⟩] 9 (0, 0)) → ∃ v' w', (Builtin.append_ #[22, 22] 22 #[v, .slice (some ⟨nb, 0, none⟩) 1 1]).run Tryd.prog W = .ok v' w' ∧ Sl.Sl w' 9 1 v' (px.length + 1) (cellsS px ++ cellsS newS) ∧ Below w8.heap.size w8 w' ∧ ∀ (g : Nat) (cs : Array Value) (t : TypeId), W.heap[g]? = some (Obj.cells cs t (0, 0)) → t ≠ 9 → w'.heap[g]? = W.heap[g]?) := Lib.hid fun W v nb hB hv hb => appS2 w8 W v px newS nb 1 1 rfl (by omega) (by omega) hB hv hb (by omega)
      have HPd : Hid (∀ (W : World) (A : Option Addr) (c : Nat), Below w8.heap.size w8 W → Sl.Sl W 9 1 (.slice A (px.length + 1) c) (px.length + 1) (cellsS px ++ cellsS newS) → Calls Tryd.prog 12 #[.agg #[.slice A (px.length + 1) c, .slice none 0 0]] W fun e w' => e = .returned (.string Td) ∧ Below W.heap.size W w') := Lib.hid fun W A c hB hs => by
        have hn : (px ++ newS).length = px.length + 1 := by simp [newS]
        have hs2 : Sl.Sl W 9 1 (.slice A (px.length + 1) c) (px.length + 1) ((px ++ newS).flatMap cellS) := by rw [List.flatMap_append]; exact hs
        obtain ⟨A5, c5, e5, h6, h7⟩ := Sl_C flatS rfl hs2 hn (by omega)
        have h8 := Print_any A5 c5 (px ++ newS) none 0 [] W h7 h6 (C_none _ _) (Nat.le_refl _)
        rw [hn] at e5 h8
        cases e5
        rw [HT.out.2.2.2]
        exact h8
      have b0 : w8.cell? ⟨b7, 0, none⟩ = some (.slice Ax px.length cx) := HX8.out _ (Below.refl _ _)
      go_upto_region 8 with fail
      clear b0
      have hlt : b7 < w8.heap.size := (Array.getElem?_eq_some_iff.1 H5.out.2.2.1).1
      have b0 : w8.cell? ⟨b7, 0, none⟩ = some (.slice Ax px.length cx) := HX8.out _ (Below.refl _ _)
      have B10 : Below w8.heap.size w8 (w8.alloc (.cells #[] 9)) := (Below.refl _ _).alloc (Nat.le_refl _) _
      obtain ⟨v67, w10, hr1, hA1, hb1⟩ := HA1.out _ w8.heap.size B10 (Nat.le_refl _)
      have B11 : Below w8.heap.size w8 (w10.alloc (.cells #[.string ⟨#[97, 47, 98]⟩] 9)) := (B10.trans (hb1.mono B10.size)).alloc (B10.trans (hb1.mono B10.size)).size _
      obtain ⟨v71, w11, hr2, hS2, hb2, _⟩ := HA2.out _ v67 w10.heap.size B11 (hA1.below ((Below.refl _ _).alloc (Nat.le_refl _) _)) (heap_alloc_new _ _)
      obtain ⟨a71, c71, rfl, _⟩ := hS2.form
      have H11 := Lib.hid (And.intro hb2 hS2)
      have HR1 := Lib.hid hr1
      have HR2 := Lib.hid hr2
      clear B10 B11 hA1 hb1 hS2 hb2 hr1 hr2
      go_wp2_with (first | (at_builtin; refine Sl.wpl_app rfl (.tmp 50) (.tmp 52) 22 rfl _ _ rfl rfl HR1.out ?_) | (at_builtin; refine Sl.wpl_app rfl (.tmp 53) (.tmp 54) 22 rfl _ _ rfl rfl HR2.out ?_))
      clear b0
      refine (HPd.out _ a71 c71 H11.out.1 H11.out.2).mono ?_
      rintro e w12 ⟨rfl, hb12⟩
      have H12 := Lib.hid (H11.out.1.trans (hb12.mono H11.out.1.size))
      clear hb12
      have u1 : ¬ 9223372036854775807 < Ta.size + (⟨#[47, 97, 37, 50, 70, 98]⟩ : ByteArray).size := by
        have h1 := HT5.out.2
        have h2 : (⟨#[47, 97, 37, 50, 70, 98]⟩ : ByteArray).size = 6 := rfl
        omega
      have u2 : ¬ 9223372036854775807 < Ta.size + 6 := by
        have h1 := HT5.out.2
        omega
      go_upto_if 61 with (fail)
      have u3 : (Td.toList == (Ta ++ (⟨#[47, 97, 37, 50, 70, 98]⟩ : ByteArray)).toList) = true := by rw [HT5.out.1]; simp
      rw [u3]
      clear u3
      go_wp2_with fail
      go_meet
      exact Lib.hid (H5.out.1.2.2.trans (H12.out.mono H5.out.1.2.2.size))
  case rest =>
    obtain ⟨wa, rfl⟩ : ∃ x, x = wc := ⟨_, rfl⟩
    have HW0 := Lib.hid (And.intro HK1.out H0.out.1)
    have HB := Lib.hid (H0.out.1.trans (hcut.out.mono H0.out.1.size))
    clear H5 HT4 HT8 HT hcut HMx HMy hnx hny H0 HK1
    obtain ⟨r, e1, r0, r1⟩ := within_ok more 0 5 (by omega) (by omega) (by omega) (by omega)
    obtain ⟨m, rfl⟩ : ∃ m : Nat, r = (m : Int) := ⟨r.toNat, by omega⟩
    have HWi : Hid (∀ W, Calls Tryd.prog 17 #[.int .i64 more, .int .i64 0, .int .i64 5] W fun e w' => e = .returned (.int .i64 (m : Int)) ∧ ∃ n, w' = W.drewN n) := Lib.hid fun W => (porticobook_Within.calls more 0 5 m W e1).mono fun _ _ ⟨h1, h2⟩ => ⟨h1, h2.out⟩
    have hm5 : m ≤ 5 := by omega
    clear e1 r0 r1
    obtain ⟨n, hn⟩ : ∃ n : Nat, (9 : Int) + (m : Int) = (n : Int) := ⟨9 + m, by omega⟩
    have hn9 : 9 ≤ n ∧ n ≤ 14 := by omega
    have HN := Lib.hid hn
    have mk : ∀ W : World, (Instr.makeSlice 22 (.int .i64 ((9 : Int) + (m : Int))) (.int .i64 ((9 : Int) + (m : Int)))).run Tryd.prog W = .ok (.slice (some ⟨W.heap.size, 0, none⟩) n n) (W.alloc (.cells (aRow 0 n) 9)) := fun W => make_aRow n (by omega) _ hn W
    clear hn
    go_upto_region 11 with fail
    go_wp2_with fail
    refine (HWi.out _).mono ?_
    rintro e wb ⟨rfl, nd, rfl⟩
    go_upto_region 12 with fail
    obtain ⟨bl, hbl⟩ : ∃ k, wa.heap.size + 1 = k := ⟨_, rfl⟩
    obtain ⟨KM, hKM⟩ : ∃ k, wa.heap.size = k := ⟨_, rfl⟩
    obtain ⟨wl, hwl⟩ : ∃ x, ((wa.drewN nd).alloc (.cells (aRow 0 n) 9)).alloc (.cells #[.slice (some ⟨wa.heap.size, 0, none⟩) n n, .slice none 0 0] 25) = x := ⟨_, rfl⟩
    have HLg : Hid (Long wa wl KM bl 0 n ∧ KM ≠ bl) := Lib.hid (by
      rw [← hwl, ← hbl, ← hKM]
      have hb : Below wa.heap.size wa ((wa.drewN nd).alloc (.cells (aRow 0 n) 9)) := (pw_below_drewN (Below.refl _ _) nd).alloc (Nat.le_refl _) _
      have h1 := heap_alloc_new ((wa.drewN nd).alloc (.cells (aRow 0 n) 9)) (.cells #[.slice (some ⟨wa.heap.size, 0, none⟩) n n, .slice none 0 0] 25)
      rw [show ((wa.drewN nd).alloc (.cells (aRow 0 n) 9)).heap.size = wa.heap.size + 1 by simp] at h1
      exact ⟨⟨blk_alloc (heap_alloc_new _ _) _, h1, hb.alloc (by simp) _, Nat.le_refl _⟩, by omega⟩)
    rw [hwl, hbl]
    simp only [hKM]
    clear hwl hbl hKM mk HWi
    obtain ⟨hne0, hne1⟩ : KM ≠ bl ∧ bl ≠ KM := ⟨HLg.out.2, HLg.out.2.symm⟩
    have HNE := Lib.hid (And.intro hne0 hne1)
    clear hne0 hne1
    have b0 : wl.cell? ⟨bl, 0, none⟩ = some (.slice (some ⟨KM, 0, none⟩) n n) := (blk_cell HLg.out.1.2.1 0).trans rfl
    go_wp2_with fail
    clear b0
    go_loopw [70] (fun i wr => ∃ k : Nat, k ≤ n ∧ i = .int .i64 k ∧ Hid (Long wa wr KM bl k n)) (fun i _ => n - (intOf i).toNat)
    case atStart => exact ⟨0, Nat.zero_le _, rfl, Lib.hid HLg.out.1⟩
    case round =>
      clear HLg
      obtain ⟨k, hk, rfl, HK⟩ := hrel
      have b0 : wr.cell? ⟨bl, 0, none⟩ = some (.slice (some ⟨KM, 0, none⟩) n n) := (blk_cell HK.out.2.1 0).trans rfl
      by_cases hlt : k < n
      · have x0 : wr.cell? ⟨KM, k, none⟩ = some (.string ⟨#[]⟩) := (blk_cell HK.out.1 k).trans (by rw [aRow_at k n k hk hlt, if_neg (Nat.lt_irrefl _)])
        have z0 := blk_frozen HK.out.1 k
        have k0 : (0 : Int) ≤ (k : Int) := by omega
        go_wp2_with fail
        go_roundw
        case rel => exact ⟨k + 1, by omega, by go_num, Lib.hid ⟨by
            have h := set_row HK.out.1 k (.string ⟨#[97]⟩)
            rw [aRow_set k n hlt] at h
            exact h, (Below.heap_setCell _ ⟨KM, k, none⟩ _ _ HNE.out.2).trans HK.out.2.1, HK.out.2.2.1.setCell (p := ⟨KM, k, none⟩) HK.out.2.2.2 _, HK.out.2.2.2⟩⟩
        case measure => simp [intOf]; omega
      · obtain rfl : n = k := by omega
        clear hlt hk b0
        have mk : ∀ W : World, (Instr.makeSlice 44 (.int .i64 65) (.int .i64 65)).run Tryd.prog W = .ok (.slice (some ⟨W.heap.size, 0, none⟩) 65 65) (W.alloc (.cells (madeCells #[Value.int .u8 0] 65) 5)) := make65
        have hcv := conv65 wr
        go_upto_region 17 with fail
        go_upto_region 18 with fail
        clear hcv mk
        obtain ⟨bw, hbw⟩ : ∃ k, wr.heap.size + 1 + 1 = k := ⟨_, rfl⟩
        obtain ⟨kw, hkw⟩ : ∃ k, wr.heap.size + 1 = k := ⟨_, rfl⟩
        obtain ⟨ww, hww⟩ : ∃ x, ((wr.alloc (.cells (madeCells #[Value.int .u8 0] 65) 5)).alloc (.cells #[.string Z65] 9)).alloc (.cells #[.slice (some ⟨wr.heap.size + 1, 0, none⟩) 1 1, .slice none 0 0] 25) = x := ⟨_, rfl⟩
        have HW : Hid (Long wa ww KM bl n n ∧ ww.heap[kw]? = some (.cells #[.string Z65] 9 (0, 0)) ∧ ww.heap[bw]? = some (.cells #[.slice (some ⟨kw, 0, none⟩) 1 1, .slice none 0 0] 25 (0, 0))) := Lib.hid (by
          rw [← hww, ← hbw, ← hkw]
          have h1 := heap_alloc_new (wr.alloc (.cells (madeCells #[Value.int .u8 0] 65) 5)) (.cells #[.string Z65] 9)
          have h2 := heap_alloc_new ((wr.alloc (.cells (madeCells #[Value.int .u8 0] 65) 5)).alloc (.cells #[.string Z65] 9)) (.cells #[.slice (some ⟨wr.heap.size + 1, 0, none⟩) 1 1, .slice none 0 0] 25)
          rw [show (wr.alloc (.cells (madeCells #[Value.int .u8 0] 65) 5)).heap.size = wr.heap.size + 1 by simp] at h1
          rw [show ((wr.alloc (.cells (madeCells #[Value.int .u8 0] 65) 5)).alloc (.cells #[.string Z65] 9)).heap.size = wr.heap.size + 1 + 1 by simp] at h2
          exact ⟨HK.out.below ((((Below.refl _ _).alloc (Nat.le_refl _) _).alloc (by simp) _).alloc (by simp; omega) _), blk_alloc h1 _, h2⟩)
        rw [hww, hbw]
        clear hww hbw hkw HK
        have b0 : ww.cell? ⟨bl, 0, none⟩ = some (.slice (some ⟨KM, 0, none⟩) n n) := (blk_cell HW.out.1.2.1 0).trans rfl
        have n8 : (8 : Int) ≤ (n : Int) := by omega
        have n8n : 8 ≤ n := by omega
        go_upto_region 19 with fail
        clear b0
        obtain ⟨bf, hbf⟩ : ∃ k, ww.heap.size = k := ⟨_, rfl⟩
        obtain ⟨wf, hwf⟩ : ∃ x, ww.alloc (.cells #[.slice (some ⟨KM, 0, none⟩) 8 n, .slice none 0 0] 25) = x := ⟨_, rfl⟩
        have HF : Hid (Ends wa wf KM bl kw bw bf n) := Lib.hid (by
          rw [← hwf, ← hbf]
          exact ⟨HW.out.1.below ((Below.refl _ _).alloc (Nat.le_refl _) _), blk_alloc HW.out.2.1 _, blk_alloc HW.out.2.2 _, heap_alloc_new _ _⟩)
        rw [hwf, hbf]
        clear hwf hbf HW
        have HR1 : Hid (∀ W, Ends wa W KM bl kw bw bf n → Calls Tryd.prog 14 #[.agg #[.slice (some ⟨KM, 0, none⟩) n n, .slice none 0 0]] W fun e w' => e = .returned (.bool false) ∧ Ends wa w' KM bl kw bw bf n) := Lib.hid fun W h => by
          have h1 := right_call (List.replicate n ⟨#[97]⟩) (some ⟨KM, 0, none⟩) n W (by rw [List.length_replicate]; exact a_read h.1.1 (Nat.le_refl _) (by omega)) (by simp)
          rw [List.length_replicate, right_as, decide_eq_false (by omega)] at h1
          exact h1.mono fun _ _ ⟨h2, h3⟩ => ⟨h2, h.below h3⟩
        have HR2 : Hid (∀ W, Ends wa W KM bl kw bw bf n → Calls Tryd.prog 12 #[.agg #[.slice (some ⟨KM, 0, none⟩) n n, .slice none 0 0]] W fun e w' => e = .returned (.string ⟨#[]⟩) ∧ Ends wa w' KM bl kw bw bf n) := Lib.hid fun W h => by
          have h1 := Print_any (some ⟨KM, 0, none⟩) n (List.replicate n ⟨#[97]⟩) none 0 [] W (by rw [List.length_replicate]; exact a_read h.1.1 (Nat.le_refl _) (by omega)) (by simp) (C_none _ _) (Nat.le_refl _)
          rw [List.length_replicate, textOf_wrong (by rw [right_as, decide_eq_false (by omega)]; decide)] at h1
          exact h1.mono fun _ _ ⟨h2, h3⟩ => ⟨h2, h.below h3⟩
        have HR3 : Hid (∀ W, Ends wa W KM bl kw bw bf n → Calls Tryd.prog 14 #[.agg #[.slice (some ⟨kw, 0, none⟩) 1 1, .slice none 0 0]] W fun e w' => e = .returned (.bool false) ∧ Ends wa w' KM bl kw bw bf n) := Lib.hid fun W h => by
          have h1 := right_call [Z65] (some ⟨kw, 0, none⟩) 1 W (one_read h.2.1) (Nat.le_refl _)
          rw [right_z] at h1
          exact h1.mono fun _ _ ⟨h2, h3⟩ => ⟨h2, h.below h3⟩
        have HR4 : Hid (∀ W, Ends wa W KM bl kw bw bf n → Calls Tryd.prog 14 #[.agg #[.slice (some ⟨KM, 0, none⟩) 8 n, .slice none 0 0]] W fun e w' => e = .returned (.bool true) ∧ Ends wa w' KM bl kw bw bf n) := Lib.hid fun W h => by
          have h1 := right_call (List.replicate 8 ⟨#[97]⟩) (some ⟨KM, 0, none⟩) n W (a_read h.1.1 n8n (by omega)) n8n
          rw [right_as] at h1
          exact h1.mono fun _ _ ⟨h2, h3⟩ => ⟨h2, h.below h3⟩
        have HEnd : Hid (∀ e W w', Ends wa W KM bl kw bw bf n → e = .returned (.bool true) ∧ Below W.heap.size W w' → LawTrue w e w') := Lib.hid fun e W w' h h2 => ⟨h2.1, HB.out.trans (((h.1.2.2.1).trans (h2.2.mono h.1.2.2.1.size)).mono HB.out.size)⟩
        have b0 : wf.cell? ⟨bl, 0, none⟩ = some (.slice (some ⟨KM, 0, none⟩) n n) := (blk_cell HF.out.1.2.1 0).trans rfl
        have b1 : wf.cell? ⟨bl, 1, none⟩ = some (.slice none 0 0) := (blk_cell HF.out.1.2.1 1).trans rfl
        clear n8 n8n
        go_wp2_with fail
        clear b0 b1
        refine (HR1.out _ HF.out).mono ?_
        rintro e wg ⟨rfl, hg⟩
        have HG := Lib.hid hg
        clear hg HF
        have b0 : wg.cell? ⟨bl, 0, none⟩ = some (.slice (some ⟨KM, 0, none⟩) n n) := (blk_cell HG.out.1.2.1 0).trans rfl
        have b1 : wg.cell? ⟨bl, 1, none⟩ = some (.slice none 0 0) := (blk_cell HG.out.1.2.1 1).trans rfl
        go_wp2_with fail
        clear b0 b1
        refine (HR2.out _ HG.out).mono ?_
        rintro e wh ⟨rfl, hg⟩
        have HH := Lib.hid hg
        clear hg HG
        have b0 : wh.cell? ⟨bw, 0, none⟩ = some (.slice (some ⟨kw, 0, none⟩) 1 1) := (blk_cell HH.out.2.2.1 0).trans rfl
        have b1 : wh.cell? ⟨bw, 1, none⟩ = some (.slice none 0 0) := (blk_cell HH.out.2.2.1 1).trans rfl
        go_wp2_with fail
        clear b0 b1
        refine (HR3.out _ HH.out).mono ?_
        rintro e wi ⟨rfl, hg⟩
        have HI := Lib.hid hg
        clear hg HH
        have b0 : wi.cell? ⟨bf, 0, none⟩ = some (.slice (some ⟨KM, 0, none⟩) 8 n) := (blk_cell HI.out.2.2.2 0).trans rfl
        have b1 : wi.cell? ⟨bf, 1, none⟩ = some (.slice none 0 0) := (blk_cell HI.out.2.2.2 1).trans rfl
        go_wp2_with fail
        clear b0 b1
        refine (HR4.out _ HI.out).mono ?_
        rintro e wj ⟨rfl, hg⟩
        have HJ := Lib.hid hg
        clear hg HI
        go_wp2_with fail
        refine (runs_any _).mono ?_
        rintro e wk ⟨rfl, hb⟩
        have HLast := Lib.hid hb
        clear hb
        go_wp2_with fail
        go_ret
        exact HEnd.out _ _ _ HJ.out ⟨rfl, HLast.out⟩
end Go.Proofs.YtcaaggfobdfgpaaDoor.UURLParts
