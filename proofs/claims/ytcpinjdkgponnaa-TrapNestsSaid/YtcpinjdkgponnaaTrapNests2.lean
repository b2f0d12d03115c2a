/- TrapNests: Run over its closures; First over a row of them, and over none. -/
import Derived.Test.YtcpinjdkgponnaaTrapNests1
import Derived.Deep.LoopGhost
set_option linter.unusedVariables false
set_option linter.unusedSimpArgs false
namespace Go.Proofs.Ytcpinjdkgponnaa.Trap
open Go.RowKit Go.Proofs.YtcpinjdkgponnaaW.PrintWords Go.Proofs.Ytcpinjdkgponnaa.PTrapCatches

abbrev clo (b bi bt bn : Nat) : Value := .func (.func 18) #[] #[.pointer (some ⟨b, 0, none⟩), .pointer (some ⟨bi, 0, none⟩), .pointer (some ⟨bt, 0, none⟩), .pointer (some ⟨bn, 0, none⟩)]
/-- Run's results over a closure that throws, or doesn't. -/
def runV (x : Bool) (i r : Nat) : Value := if x then .tuple #[flt 3 ⟨#[111, 117, 116]⟩ ((i : Int) + (r : Int)), .bool false] else .tuple #[flt 0 ⟨#[]⟩ 0, .bool true]
theorem Run_nests1 (base b bi bt bn : Nat) (ad : Addr) (c : Nat) (l : List Bool) (i : Nat) (inner : Int) (x : Bool) (r : Nat) (v : Value) (xs : List Int) (w : World) (hL : LogAt base b w v xs) (hR : Reads b bi bt bn ad c l i inner x v w) (hx : xs.length ≤ 60) (hi : i < l.length) (hi2 : i < 20) (hr : porticobook_Within.f inner 0 99 = some (r : Int)) (hr2 : r ≤ 99) :
    Calls Try.prog 7 #[clo b bi bt bn] w fun en w' => en = .returned (runV x i r) ∧ ∃ v', LogAt base b w' v' (xs ++ [(i : Int), (i : Int)]) ∧ Logged b v v' w w' := by
  have rb := ran_below w
  have rs := ran_size w
  have hc := nests1 base b bi bt bn ad c l i inner x r v xs (ran w) (hL.kept (B := 0) rb) (hR.keeps (Logged.of_below rb)) hx hi hi2 hr hr2
  have hcall : ∀ w : World, (callFunc 18 #[.pointer (some ⟨b, 0, none⟩), .pointer (some ⟨bi, 0, none⟩), .pointer (some ⟨bt, 0, none⟩), .pointer (some ⟨bn, 0, none⟩)]).run Try.prog w = .ok (.enter 18 #[.pointer (some ⟨b, 0, none⟩), .pointer (some ⟨bi, 0, none⟩), .pointer (some ⟨bt, 0, none⟩), .pointer (some ⟨bn, 0, none⟩)]) w := fun w => by simp [go_sem, Try.func18]
  cases x with
  | true =>
    refine (Run_panics 3 ⟨#[111, 117, 116]⟩ ((i : Int) + (r : Int)) 18 _ w (fun w2 => ∃ v', LogAt base b w2 v' (xs ++ [(i : Int), (i : Int)]) ∧ Logged b v v' (ran w) w2) hcall (hc.mono ?_)).mono ?_
    · rintro en w2 ⟨rfl, v', hA, hG⟩
      exact ⟨by rw [if_pos rfl], ⟨v', hA, hG⟩, hG.own2 hL⟩
    · rintro en w' ⟨rfl, w2, ⟨v', hA, hG⟩, rfl⟩
      refine ⟨rfl, v', Logged.behind hL hA hG (hG.own2 hL) ?_ rfl rfl rfl (fun k hk1 hk2 _ => caught_keep _ _ _ _ _ _ hk2 hk1)⟩
      simp [caught, go_sem]
  | false =>
    refine (Run_returns 18 _ w (fun w2 => ∃ v', LogAt base b w2 v' (xs ++ [(i : Int), (i : Int)]) ∧ Logged b v v' (ran w) w2) hcall (hc.mono ?_)).mono ?_
    · rintro en w2 ⟨rfl, v', hA, hG⟩
      exact ⟨by rw [if_neg (by decide)], ⟨v', hA, hG⟩, hG.own2 hL⟩
    · rintro en w' ⟨rfl, w2, ⟨v', hA, hG⟩, rfl⟩
      refine ⟨rfl, v', Logged.behind hL hA hG (hG.own2 hL) ?_ rfl rfl rfl (fun k hk1 hk2 hk3 => came_keep _ _ _ hk2 hk3)⟩
      simp [came, World.setCell]
theorem Logged.low {b : Nat} {v v' : Value} {w W W' : World} (h : Logged b v v' w W) (hB : Below w.heap.size W W') : Logged b v v' w W' :=
  ⟨hB.os.trans h.os, hB.tape.trans h.tape, hB.output.trans h.output, Nat.le_trans h.size hB.size, fun k hk h1 h2 => (hB.block k hk).trans (h.block k hk h1 h2), h.row⟩
/-- Three stores into one block that is none of the log's. -/
theorem three_stores {base b K : Nat} {v : Value} {xs : List Int} {W : World} {x y z : Value} (h : LogAt base b W v xs) (hb : b ≠ K) (hv : some K ≠ v.ownBlock) : LogAt base b (((W.setCell ⟨K, 0, none⟩ x).setCell ⟨K, 1, none⟩ y).setCell ⟨K, 2, none⟩ z) v xs := by
  have hk : ∀ k, k ≠ K → (((W.setCell ⟨K, 0, none⟩ x).setCell ⟨K, 1, none⟩ y).setCell ⟨K, 2, none⟩ z).heap[k]? = W.heap[k]? := fun k hk => by
    rw [Below.heap_setCell _ _ _ _ hk, Below.heap_setCell _ _ _ _ hk, Below.heap_setCell _ _ _ _ hk]
  exact h.move (by simp [World.setCell]) (hk b hb) (fun k hk2 => hk k (fun e => hv (by rw [hk2, e])))
theorem three_below (K : Nat) (W : World) (x y z : Value) : Below K W (((W.setCell ⟨K, 0, none⟩ x).setCell ⟨K, 1, none⟩ y).setCell ⟨K, 2, none⟩ z) :=
  (((Below.refl K W).setCell (p := ⟨K, 0, none⟩) (Nat.le_refl _) x).setCell (p := ⟨K, 1, none⟩) (Nat.le_refl _) y).setCell (p := ⟨K, 2, none⟩) (Nat.le_refl _) z
theorem First_none (w : World) : Calls Try.prog 20 #[.slice none 0 0] w fun en w' => en = .returned (.tuple #[flt 0 ⟨#[]⟩ 0, .int .i64 (-1)]) ∧ Below w.heap.size w w' := by
  go_enter Try.func20, Try.ntmps20
  go_wp2_with fail
  go_loopw [10] (fun t wr => t = .int .i64 0 ∧ wr = w.alloc (.cells #[.int .i64 0, .string ⟨#[]⟩, .int .i64 0] 24)) (fun _ _ => 0)
  case atStart => exact ⟨rfl, rfl⟩
  case round =>
    obtain ⟨rfl, rfl⟩ := hrel
    go_wp2_with fail
    simp [bodyPost, results, Try.results20, go_sem]
    exact (Below.refl _ _).alloc (Nat.le_refl _) _
/-- i, i for each of the first n numbers. -/
def pairs : Nat → List Int
  | 0 => []
  | n + 1 => pairs n ++ [(n : Int), (n : Int)]
theorem pairs_length (n : Nat) : (pairs n).length = 2 * n := by
  induction n with
  | zero => rfl
  | succ n ih => simp [pairs, ih]; omega
/-- The first of the first n that throws. -/
def firstT (l : List Bool) (n : Nat) : Option Nat := (l.take n).findIdx? id
theorem firstT_some (l : List Bool) (n i : Nat) (h : i < l.length) (hn : i < n) (hb : l[i] = true) (ht : ∀ j (h : j < l.length), j < i → l[j] = false) : firstT l n = some i := by
  unfold firstT
  rw [List.findIdx?_eq_some_iff_getElem]
  refine ⟨by rw [List.length_take]; omega, by simp [hb], ?_⟩
  intro j hj
  simp [ht j (by omega) hj]
theorem firstT_none (l : List Bool) (n : Nat) (ht : ∀ j (h : j < l.length), j < n → l[j] = false) : firstT l n = none := by
  unfold firstT
  rw [List.findIdx?_eq_none_iff]
  intro x hx
  obtain ⟨j, hj, rfl⟩ := List.getElem_of_mem hx
  rw [List.length_take] at hj
  simp [ht j (by omega) (by omega)]
def firstV (o : Option Nat) (r : Nat) : Value := match o with
  | none => .tuple #[flt 0 ⟨#[]⟩ 0, .int .i64 (-1)]
  | some k => .tuple #[flt 3 ⟨#[111, 117, 116]⟩ ((k : Int) + (r : Int)), .int .i64 (k : Int)]
def firstN (o : Option Nat) (n : Nat) : Nat := match o with
  | none => n
  | some k => k + 1
set_option maxHeartbeats 1000000 in
set_option maxRecDepth 100000 in
theorem First_any (base b bt bn : Nat) (ad : Addr) (c : Nat) (l : List Bool) (inner : Int) (r n : Nat) (fa : Addr) (cf : Nat) (bs : Nat → Nat) (v : Value) (w : World) (hL : LogAt base b w v []) (hn : n ≤ 12) (hnl : n ≤ l.length) (hr : porticobook_Within.f inner 0 99 = some (r : Int)) (hr2 : r ≤ 99)
    (hf : ∀ k, k < n → w.cell? (fa.add k) = some (clo b (bs k) bt bn) ∧ (fa.add k).block ≠ b ∧ some (fa.add k).block ≠ v.ownBlock)
    (hR : ∀ k (h : k < l.length), k < n → Reads b (bs k) bt bn ad c l k inner l[k] v w) :
    Calls Try.prog 20 #[.slice (some fa) n cf] w fun en w' => en = .returned (firstV (firstT l n) r) ∧ ∃ v', LogAt base b w' v' (pairs (firstN (firstT l n) n)) ∧ Logged b v v' w w' := by
  have HL := Lib.hid hL
  have HF := Lib.hid hf
  have HR := Lib.hid hR
  have HRr := Lib.hid hr
  have HL0 := Lib.hid hL.lt
  clear hL hf hR hr
  go_enter Try.func20, Try.ntmps20
  go_wp2_with fail
  have hB0 : Below w.heap.size w (w.alloc (.cells #[.int .i64 0, .string ⟨#[]⟩, .int .i64 0] 24)) := (Below.refl _ _).alloc (Nat.le_refl _) _
  have hK0 : (w.alloc (.cells #[.int .i64 0, .string ⟨#[]⟩, .int .i64 0] 24)).heap[w.heap.size]? = some (.cells #[.int .i64 0, .string ⟨#[]⟩, .int .i64 0] 24 (0, 0)) := heap_alloc_new w _
  generalize w.alloc (.cells #[.int .i64 0, .string ⟨#[]⟩, .int .i64 0] 24) = w0 at hB0 hK0 ⊢
  have HB0 := Lib.hid hB0
  have HK0 := Lib.hid hK0
  clear hB0 hK0
  go_loopw [10] (fun t wr => ∃ (i : Nat) (v' : Value), t = .int .i64 (i : Int) ∧ i ≤ n ∧ Hid (LogAt base b wr v' (pairs i) ∧ Logged b v v' w0 wr ∧ ∀ j (h : j < l.length), j < i → l[j] = false)) (fun t _ => match t with | .int _ i => (n - i).toNat | _ => 0)
  case atStart => exact ⟨0, v, rfl, by omega, HL.out.kept (B := 0) HB0.out, Logged.of_below ⟨rfl, rfl, rfl, Nat.le_refl _, fun _ _ => rfl⟩, fun j h h' => by omega⟩
  case round =>
    obtain ⟨i, v', rfl, hi, HI⟩ := hrel
    by_cases c1 : i < n
    · have c2 : i < l.length := by omega
      have hkw : Logged b v v' w wr := (Logged.of_below HB0.out).trans HI.out.2.1
      have hcf := (hkw.keeps (HF.out i c1).1 (HF.out i c1).2.1 (HF.out i c1).2.2).1
      have hRd := (HR.out i c2 c1).keeps hkw
      have hKr := (HI.out.2.1.safe (k := w.heap.size) (lt_of_cell (p := ⟨w.heap.size, 0, none⟩) (v := .int .i64 0) (by simp [World.cell?, HK0.out])) (by have := HL.out.lt; omega) (fun e => by have := (HL.out.rowLt _ e.symm).2; omega))
      have q0 : (0 : Int) ≤ (i : Int) := by omega
      have q1 : (i : Int) < (n : Int) := by omega
      have hw : wrap64 ((i : Int) + 1) = ((i + 1 : Nat) : Int) := by unfold wrap64; omega
      have HKW := Lib.hid hkw
      have HRD := Lib.hid hRd
      have HKR := Lib.hid hKr
      clear hkw hRd hKr
      go_wp2_with fail
      refine (Run_nests1 base b (bs i) bt bn ad c l i inner l[i] r v' (pairs i) wr HI.out.1 HRD.out (by rw [pairs_length]; omega) c2 (by omega) HRr.out hr2).mono ?_
      rintro en w2 ⟨rfl, v2, hA, hG⟩
      have hkw2 := HKW.out.trans hG
      have hK2 := hG.safe (k := w.heap.size) (lt_of_cell (p := ⟨w.heap.size, 0, none⟩) (v := .int .i64 0) (by simp [World.cell?, HKR.out.1.trans HK0.out])) (by have := HL.out.lt; omega) HKR.out.2
      have hK3 : w2.heap[w.heap.size]? = some (.cells #[.int .i64 0, .string ⟨#[]⟩, .int .i64 0] 24 (0, 0)) := hK2.1.trans (HKR.out.1.trans HK0.out)
      have hks : w.heap.size < w2.heap.size := lt_of_cell (w := w2) (p := ⟨w.heap.size, 0, none⟩) (v := .int .i64 0) (by simp [World.cell?, hK3])
      have HG2 := Lib.hid (And.intro hA (And.intro hkw2 (And.intro hK2.2 (And.intro (HI.out.2.1.trans hG) HI.out.2.2))))
      clear hA hG hkw2 hK2 HKW HRD HKR hcf HI
      have hB3 : ∀ o, Below w2.heap.size w2 (w2.alloc o) := fun o => (Below.refl _ _).alloc (Nat.le_refl _) o
      cases hb : l[i] with
      | true =>
        have hfT : firstT l n = some i := firstT_some l n i c2 c1 hb HG2.out.2.2.2.2
        have HFT := Lib.hid hfT
        have c0 : w2.cell? ⟨w.heap.size, 0, none⟩ = some (.int .i64 0) := by simp [World.cell?, hK3]
        have c1 : w2.cell? ⟨w.heap.size, 1, none⟩ = some (.string ⟨#[]⟩) := by simp [World.cell?, hK3]
        have c2 : w2.cell? ⟨w.heap.size, 2, none⟩ = some (.int .i64 0) := by simp [World.cell?, hK3]
        have z0 : w2.frozen? ⟨w.heap.size, 0, none⟩ = false := by simp [World.frozen?, hK3]
        have z1 : w2.frozen? ⟨w.heap.size, 1, none⟩ = false := by simp [World.frozen?, hK3]
        have z2 : w2.frozen? ⟨w.heap.size, 2, none⟩ = false := by simp [World.frozen?, hK3]
        have hB : ∀ (W : World) o j, w.heap.size < W.heap.size → (W.alloc o).cell? ⟨w.heap.size, j, none⟩ = W.cell? ⟨w.heap.size, j, none⟩ ∧ (W.alloc o).frozen? ⟨w.heap.size, j, none⟩ = W.frozen? ⟨w.heap.size, j, none⟩ := fun W o j h => ⟨((Below.refl _ _).alloc (Nat.le_refl _) o).cell (p := ⟨w.heap.size, j, none⟩) h, ((Below.refl _ _).alloc (Nat.le_refl _) o).frozen (p := ⟨w.heap.size, j, none⟩) h⟩
        have k0 : ∀ o, (w2.alloc o).cell? ⟨w.heap.size, 0, none⟩ = some (.int .i64 0) := fun o => (hB w2 o 0 hks).1.trans c0
        have k1 : ∀ o, (w2.alloc o).cell? ⟨w.heap.size, 1, none⟩ = some (.string ⟨#[]⟩) := fun o => (hB w2 o 1 hks).1.trans c1
        have k2 : ∀ o, (w2.alloc o).cell? ⟨w.heap.size, 2, none⟩ = some (.int .i64 0) := fun o => (hB w2 o 2 hks).1.trans c2
        have f0 : ∀ o, (w2.alloc o).frozen? ⟨w.heap.size, 0, none⟩ = false := fun o => (hB w2 o 0 hks).2.trans z0
        have f1 : ∀ o, (w2.alloc o).frozen? ⟨w.heap.size, 1, none⟩ = false := fun o => (hB w2 o 1 hks).2.trans z1
        have f2 : ∀ o, (w2.alloc o).frozen? ⟨w.heap.size, 2, none⟩ = false := fun o => (hB w2 o 2 hks).2.trans z2
        have HC := Lib.hid (And.intro c0 (And.intro c1 (And.intro c2 hks)))
        clear c0 c1 c2 z0 z1 z2 hB hks
        have HB3 := Lib.hid hB3
        clear hB3 hK3 HF HR HL hfT
        rw [show runV true i r = .tuple #[flt 3 ⟨#[111, 117, 116]⟩ ((i : Int) + (r : Int)), .bool false] from rfl]
        go_wp2_with fail
        have hfin : firstV (firstT l n) r = .tuple #[flt 3 ⟨#[111, 117, 116]⟩ ((i : Int) + (r : Int)), .int .i64 (i : Int)] ∧ firstN (firstT l n) n = i + 1 := by rw [HFT.out]; exact ⟨rfl, rfl⟩
        rw [hfin.1, hfin.2]
        have e0 := k0 (.cells #[.int .i64 3, .string ⟨#[111, 117, 116]⟩, .int .i64 ((i : Int) + (r : Int))] 24)
        have e1 := k1 (.cells #[.int .i64 3, .string ⟨#[111, 117, 116]⟩, .int .i64 ((i : Int) + (r : Int))] 24)
        have e2 := k2 (.cells #[.int .i64 3, .string ⟨#[111, 117, 116]⟩, .int .i64 ((i : Int) + (r : Int))] 24)
        simp [bodyPost, results, Try.results20, go_sem, e0, e1, e2]
        obtain ⟨g1, g2, g3, g4, g5⟩ := HG2.out
        exact ⟨v2, three_stores (g1.kept (B := 0) (HB3.out _)) (by have := HL0.out; omega) g3, g2.low (((HB3.out _).mono g2.size).trans (three_below _ _ _ _ _))⟩
      | false =>
        rw [show runV false i r = .tuple #[flt 0 ⟨#[]⟩ 0, .bool true] from rfl]
        have HB3 := Lib.hid hB3
        clear hB3 hK3 HF HR
        go_wp2_with fail
        go_roundw
        case rel =>
          refine ⟨i + 1, v2, by first | rfl | simp, by omega, ?_⟩
          obtain ⟨g1, g2, g3, g4, g5⟩ := HG2.out
          refine Lib.hid ⟨g1.kept (B := 0) (HB3.out _), g4.trans (Logged.of_below (HB3.out _)), fun j h hj => ?_⟩
          rcases Nat.lt_or_ge j i with h1 | h1
          · exact g5 j h h1
          · have : j = i := by omega
            subst this
            exact hb
        case measure => simp; omega
    · have hin : i = n := by omega
      subst hin
      have hfT : firstT l i = none := firstT_none l i HI.out.2.2
      have hKr := (HI.out.2.1.safe (k := w.heap.size) (lt_of_cell (p := ⟨w.heap.size, 0, none⟩) (v := .int .i64 0) (by simp [World.cell?, HK0.out])) (by have := HL.out.lt; omega) (fun e => by have := (HL.out.rowLt _ e.symm).2; omega))
      have hK4 := hKr.1.trans HK0.out
      have k0 : wr.cell? ⟨w.heap.size, 0, none⟩ = some (.int .i64 0) := by simp [World.cell?, hK4]
      have k1 : wr.cell? ⟨w.heap.size, 1, none⟩ = some (.string ⟨#[]⟩) := by simp [World.cell?, hK4]
      have k2 : wr.cell? ⟨w.heap.size, 2, none⟩ = some (.int .i64 0) := by simp [World.cell?, hK4]
      have f0 : wr.frozen? ⟨w.heap.size, 0, none⟩ = false := by simp [World.frozen?, hK4]
      have f1 : wr.frozen? ⟨w.heap.size, 1, none⟩ = false := by simp [World.frozen?, hK4]
      have f2 : wr.frozen? ⟨w.heap.size, 2, none⟩ = false := by simp [World.frozen?, hK4]
      have HFT := Lib.hid hfT
      have HKR := Lib.hid hKr
      clear hKr hK4 hfT HF HR
      go_wp2_with fail
      have hfin : firstV (firstT l i) r = .tuple #[flt 0 ⟨#[]⟩ 0, .int .i64 (-1)] ∧ firstN (firstT l i) i = i := by rw [HFT.out]; exact ⟨rfl, rfl⟩
      rw [hfin.1, hfin.2]
      simp [bodyPost, results, Try.results20, go_sem, k0, k1, k2]
      obtain ⟨g1, g2, g3⟩ := HI.out
      have g4 := ((Logged.of_below HB0.out).trans g2)
      exact ⟨v', three_stores g1 (by have := HL0.out; omega) HKR.out.2, g4.low (three_below _ _ _ _ _)⟩
end Go.Proofs.Ytcpinjdkgponnaa.Trap
