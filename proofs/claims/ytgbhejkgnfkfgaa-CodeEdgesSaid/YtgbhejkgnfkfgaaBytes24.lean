/- Package porticobook over bytes: Roomy, Intact. -/
import Derived.Test.YtgbhejkgnfkfgaaWalkCodeRuns
import Derived.Laws.CopyRow
import Derived.Laws.CopyOwn
import Derived.Laws.MakeOwn
import Derived.Laws.OwnMore
import Derived.Deep.LoopGhost
set_option linter.unusedVariables false
set_option linter.unusedSimpArgs false
namespace Go.Proofs.Ytgbhejkgnfkfgaa.Cd
open Go.RowKit Go.Proofs.Ytgbhejkgnfkfgaa.Given Go.Proofs.YtgbhejkgnfkfgaaW.PrintWords Go.Proofs.YtgbhejkgnfkfgaaW.PrintLast Go.Proofs.YtgbhejkgnfkfgaaW.PrintMore Go.Proofs.Ytgbhejkgnfkfgaa.PCodeRuns

abbrev bv (l : List Int) : List Value := l.map (Value.int .u8)
theorem bv_one (l : List Int) : ∀ v ∈ bv l, v.oneCell' = true := by simp [Value.oneCell']
/-- A block of bytes. -/
abbrev Blk (w : World) (r : Nat) (L : List Int) : Prop := w.heap[r]? = some (.cells (bv L).toArray 5 (0, 0))
theorem C_cells {w : World} {A : Option Addr} {n : Nat} {l : List Int} (h : Kd.C (Kd.int .u8) w A n l) (hn : 0 < l.length) : ∃ ad, A = some ad ∧ ∀ j u, (bv l)[j]? = some u → w.cell? (ad.add j) = some u := by
  have hl : l.length = n := h.1
  obtain ⟨ad, e, h4⟩ := h.2.2 (by omega)
  refine ⟨ad, e, fun j u hj => ?_⟩
  rw [List.getElem?_map] at hj
  obtain ⟨p, hp, rfl⟩ := Option.map_eq_some_iff.1 hj
  obtain ⟨cs, hcl, hK, hc⟩ := h4 j p hp
  have hK' : cs = [.int .u8 p] := hK
  subst hK'
  have := hc 0 _ rfl
  have hs : j * (Kd.int .u8).sz + 0 = j := by show j * 1 + 0 = j; omega
  rwa [hs] at this
theorem C_blk {w : World} {r m : Nat} {L : List Int} (h : Blk w r L) (hm : m ≤ L.length) (hL : L.length ≤ 1000000000) : Kd.C (Kd.int .u8) w (some ⟨r, 0, none⟩) m (L.take m) := by
  refine ⟨by show (L.take m).length = m; rw [List.length_take]; omega, by omega, fun h0 => ⟨⟨r, 0, none⟩, rfl, fun j p hj => ⟨[.int .u8 p], rfl, rfl, fun i u hu => ?_⟩⟩⟩
  have hj2 : j < m := by
    have := (List.getElem?_eq_some_iff.1 hj).1
    rw [List.length_take] at this
    omega
  rw [List.getElem?_take_of_lt hj2] at hj
  rcases i with _ | i
  · cases hu
    have hs : j * (Kd.int .u8).sz + 0 = j := by show j * 1 + 0 = j; omega
    rw [hs]
    have hadd : (⟨r, 0, none⟩ : Addr).add j = ⟨r, j, none⟩ := by unfold Addr.add; split <;> simp_all
    rw [hadd]
    simp [World.cell?, h, hj]
  · simp at hu
theorem blk_set {w : World} {g : Nat} {a b : List Int} {x y : Int} (h : Blk w g (a ++ x :: b)) : Blk (w.setCell ⟨g, a.length, none⟩ (.int .u8 y)) g (a ++ y :: b) := by
  unfold Blk at *
  simp [World.setCell, Array.getElem?_modify, h]
theorem blk_fro {w : World} {g : Nat} {L : List Int} (h : Blk w g L) (j : Nat) : w.frozen? ⟨g, j, none⟩ = false := by simp [World.frozen?, h]
theorem blk_at {w : World} {g : Nat} {L : List Int} (h : Blk w g L) (j : Nat) (hj : j < L.length) : w.cell? ⟨g, j, none⟩ = some (.int .u8 L[j]) := by simp [World.cell?, h, hj]
theorem info8 : (Try.prog.info? 5).map (fun i => (i.zero, i.size, i.bytes)) = some (some (.int .u8 0), 1, 1) := by kernel_rfl
theorem run_copy_row3 {P : Program} (w : World) (dT sT ty elem : TypeId) (size g o dLen dCap : Nat) (a : Addr) (sLen sCap : Nat) (cur : Array Value) (t : TypeId) (cs : List Value)
    (hu : P.underlying dT = some (.slice elem)) (hs : (P.info? elem).map (·.size) = some size)
    (hg : w.heap[g]? = some (.cells cur t (0, 0))) (hn : cs.length = Nat.min sLen dLen * size)
    (hsrc : ∀ j v, cs[j]? = some v → w.cell? (a.add j) = some v) (hfit : o + cs.length ≤ cur.size) (h1 : ∀ v ∈ cs, v.oneCell' = true) :
    (Builtin.copy_ #[dT, sT] ty #[.slice (some ⟨g, o, none⟩) dLen dCap, .slice (some a) sLen sCap]).run P w =
      .ok (goInt (Nat.min sLen dLen)) (w.setRow g (cur.toList.take o ++ cs ++ cur.toList.drop (o + cs.length)).toArray) := by
  have hl := run_loadCells_list (P := P) w a cs hsrc
  have hst := run_storeCells_at P g o t cs 0 cur w hg (by simpa using hfit) h1
  cases hq : P.info? elem with
  | none => simp [hq] at hs
  | some i =>
    have hi : i.size = size := by simpa [hq] using hs
    simp [Builtin.copy_, run_underlying hu, Builtin.lenOf, Builtin.firstCells, sizeOf, typeInfo, hq, hi, ← hn, hl, hst]
def fill (l : List Int) (x : Int) (i : Nat) : List Int := (l ++ List.replicate (i - l.length) x) ++ List.replicate (l.length + 80 - i) 0
theorem fill_len (l : List Int) (x : Int) (i : Nat) (h0 : l.length ≤ i) (h1 : i ≤ l.length + 80) : (fill l x i).length = l.length + 80 := by simp [fill]; omega
theorem fill_next (l : List Int) (x : Int) (i : Nat) (h0 : l.length ≤ i) (h1 : i < l.length + 80) : fill l x i = (l ++ List.replicate (i - l.length) x) ++ 0 :: List.replicate (l.length + 80 - (i + 1)) 0 ∧ fill l x (i + 1) = (l ++ List.replicate (i - l.length) x) ++ x :: List.replicate (l.length + 80 - (i + 1)) 0 := by
  unfold fill
  refine ⟨?_, ?_⟩
  · rw [show l.length + 80 - i = (l.length + 80 - (i + 1)) + 1 by omega, List.replicate_succ]
  · rw [show i + 1 - l.length = (i - l.length) + 1 by omega, List.replicate_succ', ← List.append_assoc, List.append_assoc, List.singleton_append]
def RoomB (l : List Int) (x : Int) (w : World) (en : Ending) (w' : World) : Prop := ∃ r, en = .returned (.slice (some ⟨r, 0, none⟩) (l.length + 80) (l.length + 80)) ∧ Blk w' r (l ++ List.replicate 80 x) ∧ Below w.heap.size w w' ∧ w.heap.size ≤ r
set_option maxHeartbeats 1000000 in
theorem RoomyB_any (ad : Addr) (c : Nat) (l : List Int) (w : World) (h : Kd.C (Kd.int .u8) w (some ad) l.length l) (hl : l.length ≤ 100000000) (x : Int) : Calls Try.prog 15 #[.slice (some ad) l.length c, .int .u8 x] w (RoomB l x w) := by
  obtain ⟨i0, hi, hzz⟩ := Option.map_eq_some_iff.1 info8
  simp only [Prod.mk.injEq] at hzz
  obtain ⟨hz0, hz1, hz2⟩ := hzz
  have hmk : ∀ W : World, (Instr.makeSlice 30 (.int .i64 ((l.length : Int) + 80)) (.int .i64 ((l.length : Int) + 80))).run Try.prog W = .ok (.slice (some ⟨W.heap.size, 0, none⟩) (l.length + 80) (l.length + 80)) (W.alloc (.cells (madeCells (Value.int .u8 0).cells ((l.length + 80) * 1)) 5)) := fun W => by
    have := run_make (P := Try.prog) W 30 5 i0 _ Try.underlying30 hi hz0 .i64 .i64 ((l.length : Int) + 80) ((l.length : Int) + 80) (by omega) (by omega) (by rw [hz2]; omega) (by omega)
    rw [hz1] at this
    exact this
  have HS : Hid ((Try.prog.info? 5).map (·.size) = some 1) := Lib.hid (by rw [hi]; simp [hz1])
  have HR := Lib.hid h
  have q0 : (0 : Int) ≤ (l.length : Int) := by omega
  have q1 : (l.length : Int) ≤ 100000000 := by omega
  clear h hi hz0 hz1 hz2
  go_enter Try.func15, Try.ntmps15
  go_upto_region 2 with (fail)
  have HW : Hid (Kd.C (Kd.int .u8) (w.alloc (.cells (madeCells #[.int .u8 0] (l.length + 80)) 5)) (some ad) l.length l ∧ Blk (w.alloc (.cells (madeCells #[.int .u8 0] (l.length + 80)) 5)) w.heap.size (List.replicate (l.length + 80) 0) ∧ Below w.heap.size w (w.alloc (.cells (madeCells #[.int .u8 0] (l.length + 80)) 5))) := Lib.hid (by
    have hB : Below w.heap.size w (w.alloc (.cells (madeCells #[.int .u8 0] (l.length + 80)) 5)) := (Below.refl _ _).alloc (Nat.le_refl _) _
    refine ⟨Kd.C_below HR.out hB, ?_, hB⟩
    have := heap_alloc_new w (.cells (madeCells #[.int .u8 0] (l.length + 80)) 5)
    have e : (madeCells #[Value.int .u8 0] (l.length + 80)) = (bv (List.replicate (l.length + 80) 0)).toArray := by
      apply Array.ext'
      rw [toList_madeCells_one]
      simp
    unfold Blk
    rw [← e]
    exact this)
  obtain ⟨G, hG⟩ : ∃ G, w.heap.size = G := ⟨_, rfl⟩
  rw [hG] at HW ⊢
  have HG := Lib.hid hG
  generalize (w.alloc (.cells (madeCells #[.int .u8 0] (l.length + 80)) 5)) = w2 at HW ⊢
  clear hG HR hmk
  have hcp : ∃ w3, (Builtin.copy_ #[30, 30] 3 #[.slice (some ⟨G, 0, none⟩) (l.length + 80) (l.length + 80), .slice (some ad) l.length c]).run Try.prog w2 = .ok (goInt l.length) w3 ∧ Hid (Blk w3 G (fill l x l.length) ∧ Below G w w3) := by
    have hm : Nat.min l.length (l.length + 80) = l.length := Nat.min_eq_left (by omega)
    by_cases hn : l.length = 0
    · have := run_copy_row3 (P := Try.prog) w2 30 30 3 5 1 G 0 (l.length + 80) (l.length + 80) ad l.length c _ 5 [] Try.underlying30 HS.out HW.out.2.1 (by rw [hm, hn]; rfl) (fun j u hu => by cases hu) (by simp) (by simp)
      rw [hm] at this
      refine ⟨_, this, Lib.hid ⟨?_, below_setRow HW.out.2.2 (Nat.le_refl _) _⟩⟩
      have h0 : l = [] := List.eq_nil_of_length_eq_zero hn
      subst h0
      unfold Blk
      rw [setRow_heap w2 G _ _ 5 _ HW.out.2.1]
      simp [fill]
    · obtain ⟨ad', e, hc⟩ := C_cells HW.out.1 (by omega)
      injection e with e
      subst e
      have := run_copy_row3 (P := Try.prog) w2 30 30 3 5 1 G 0 (l.length + 80) (l.length + 80) ad l.length c _ 5 (bv l) Try.underlying30 HS.out HW.out.2.1 (by rw [hm]; simp) hc (by simp) (bv_one l)
      rw [hm] at this
      refine ⟨_, this, Lib.hid ⟨?_, below_setRow HW.out.2.2 (Nat.le_refl _) _⟩⟩
      unfold Blk
      rw [setRow_heap w2 G _ _ 5 _ HW.out.2.1]
      congr 2
      simp [fill]
  obtain ⟨w3, hcp, HW3⟩ := hcp
  clear HW HS
  go_wp2_with fail
  clear hcp
  go_loopw [6] (fun t6 wr => ∃ i : Nat, t6 = .int .i64 (i : Int) ∧ l.length ≤ i ∧ i ≤ l.length + 80 ∧ Hid (Blk wr G (fill l x i) ∧ Below G w wr)) (fun t _ => match t with | .int _ i => (l.length + 80 - i).toNat | _ => 0)
  case atStart => exact ⟨l.length, rfl, by omega, by omega, HW3⟩
  case round =>
    obtain ⟨i, rfl, hi0, hi1, HI⟩ := hrel
    clear HW3
    by_cases c1 : i < l.length + 80
    · have q2 : (i : Int) < (l.length : Int) + 80 := by omega
      have q3 : (0 : Int) ≤ (i : Int) := by omega
      have q4 : i < l.length + 80 := c1
      have r0 := blk_at HI.out.1 i (by rw [fill_len l x i hi0 hi1]; exact c1)
      have z0 := blk_fro HI.out.1 i
      have HN : Hid (Blk (wr.setCell ⟨G, i, none⟩ (.int .u8 x)) G (fill l x (i + 1)) ∧ Below G w (wr.setCell ⟨G, i, none⟩ (.int .u8 x))) := Lib.hid (by
        refine ⟨?_, HI.out.2.setCell (Nat.le_refl _) _⟩
        obtain ⟨e1, e2⟩ := fill_next l x i hi0 c1
        have hb := HI.out.1
        rw [e1] at hb
        rw [e2]
        have := blk_set (y := x) hb
        rwa [show (l ++ List.replicate (i - l.length) x).length = i by rw [List.length_append, List.length_replicate]; omega] at this)
      clear HI
      go_wp2_with fail
      go_roundw
      case rel => exact ⟨i + 1, by go_num, by omega, by omega, HN⟩
      case measure => simp; omega
    · have q2 : ¬ (i : Int) < (l.length : Int) + 80 := by omega
      obtain rfl : i = l.length + 80 := by omega
      go_wp2_with fail
      go_ret
      refine ⟨G, rfl, ?_, by rw [HG.out]; exact HI.out.2, by rw [HG.out]; exact Nat.le_refl _⟩
      have := HI.out.1
      simpa [fill] using this
set_option maxHeartbeats 1000000 in
theorem IntactB_any (r : Nat) (A : Option Addr) (c : Nat) (m : List Int) (w : World) (x : Int) (h1 : Blk w r (m ++ List.replicate 80 x)) (h2 : Kd.C (Kd.int .u8) w A m.length m) (hc : m.length ≤ c) (hl : m.length ≤ 100000000) : Calls Try.prog 16 #[.slice (some ⟨r, 0, none⟩) (m.length + 80) (m.length + 80), .slice A m.length c, .int .u8 x] w fun en w' => en = .returned (.bool true) ∧ Below w.heap.size w w' := by
  have q0 : (0 : Int) ≤ (m.length : Int) := by omega
  have q1 : (m.length : Int) ≤ 100000000 := by omega
  have q2 : m.length ≤ m.length + 80 := by omega
  have h3 : Kd.C (Kd.int .u8) w (some ⟨r, 0, none⟩) m.length m := by
    have := C_blk h1 (m := m.length) (by simp) (by simp; omega)
    rwa [List.take_left] at this
  have H := Lib.hid (And.intro h1 (And.intro h2 (And.intro h3 hc)))
  clear h1 h2 h3 hc
  go_enter Try.func16, Try.ntmps16
  go_wp2_with fail
  refine (SameB_any _ _ m _ _ m w H.out.2.2.1 q2 H.out.2.1 H.out.2.2.2 (by omega)).mono ?_
  rintro e w2 ⟨b, rfl, hb, hB⟩
  obtain rfl := hb.2 rfl
  have H2 : Hid (Blk w2 r (m ++ List.replicate 80 x) ∧ Below w.heap.size w w2) := Lib.hid ⟨blk5 H.out.1 hB, hB⟩
  clear H hb hB
  go_wp2_with fail
  go_loopw [7] (fun t7 wr => ∃ i : Nat, t7 = .int .i64 (i : Int) ∧ m.length ≤ i ∧ i ≤ m.length + 80 ∧ Hid (Blk wr r (m ++ List.replicate 80 x) ∧ Below w.heap.size w wr)) (fun t _ => match t with | .int _ i => (m.length + 80 - i).toNat | _ => 0)
  case atStart => exact ⟨m.length, rfl, by omega, by omega, H2⟩
  case round =>
    obtain ⟨i, rfl, hi0, hi1, HI⟩ := hrel
    clear H2
    by_cases c1 : i < m.length + 80
    · have q3 : (i : Int) < (m.length : Int) + 80 := by omega
      have q4 : (0 : Int) ≤ (i : Int) := by omega
      have y0 := blk_at HI.out.1 i (by rw [List.length_append, List.length_replicate]; omega)
      have hg : (m ++ List.replicate 80 x)[i]'(by rw [List.length_append, List.length_replicate]; omega) = x := by rw [List.getElem_append_right hi0, List.getElem_replicate]
      rw [hg] at y0
      clear hg
      go_wp2_with fail
      go_roundw
      case rel => exact ⟨i + 1, by go_num, by omega, by omega, HI⟩
      case measure => simp; omega
    · have q3 : ¬ (i : Int) < (m.length : Int) + 80 := by omega
      go_wp2_with fail
      go_ret
      exact ⟨rfl, HI.out.2⟩
end Go.Proofs.Ytgbhejkgnfkfgaa.Cd
