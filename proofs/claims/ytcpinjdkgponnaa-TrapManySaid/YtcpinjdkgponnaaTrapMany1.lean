/- TrapMany's closure: the checks in a row. -/
import Derived.Test.YtcpinjdkgponnaaTrap
import Derived.Test.YtcpinjdkgponnaaWLast
import Derived.Deep.LoopGhost
import Derived.StillTailTactics
import Derived.Lib.Hide
import Derived.Deep.QuietTactic
import Derived.BigQuiet
set_option linter.unusedVariables false
set_option linter.unusedSimpArgs false
namespace Go.Proofs.Ytcpinjdkgponnaa.Trap
open Go.RowKit

/-- But for block b the world is as it was. -/
structure Wr (b : Nat) (w w' : World) : Prop where
  os : w'.os = w.os
  tape : w'.tape = w.tape
  output : w'.output = w.output
  size : w'.heap.size = w.heap.size
  block : ∀ k, k ≠ b → w'.heap[k]? = w.heap[k]?
theorem Wr.refl (b : Nat) (w : World) : Wr b w w := ⟨rfl, rfl, rfl, rfl, fun _ _ => rfl⟩
theorem Wr.set {b : Nat} {w w' : World} (h : Wr b w w') (o : Nat) (v : Value) : Wr b w (w'.setCell ⟨b, o, none⟩ v) :=
  ⟨h.os, h.tape, h.output, by simp [World.setCell, h.size], fun k hk => (Below.heap_setCell _ _ _ _ hk).trans (h.block k hk)⟩
theorem Wr.drew {b : Nat} {w w' : World} (h : Wr b w w') (n : Nat) : Wr b w (w'.drewN n) := ⟨h.os, h.tape, h.output, h.size, h.block⟩
theorem Wr.cell {b : Nat} {w w' : World} (h : Wr b w w') {p : Addr} (hp : p.block ≠ b) : w'.cell? p = w.cell? p := World.cell?_of_block (w := w) (h.block p.block hp)
theorem Wr.trans {b : Nat} {a w w' : World} (h : Wr b a w) (k : Wr b w w') : Wr b a w' :=
  ⟨k.os.trans h.os, k.tape.trans h.tape, k.output.trans h.output, k.size.trans h.size, fun i hi => (k.block i hi).trans (h.block i hi)⟩

/-- The first that isn't so, of the first 20. -/
def firstF (l : List Bool) : Option Nat := (l.take 20).findIdx? (!·)

theorem firstF_some (l : List Bool) (i : Nat) (h : i < l.length) (h20 : i < 20) (hb : l[i] = false) (ht : ∀ j (h : j < l.length), j < i → l[j] = true) : firstF l = some i := by
  unfold firstF
  rw [List.findIdx?_eq_some_iff_getElem]
  refine ⟨by rw [List.length_take]; omega, by simp [hb], ?_⟩
  intro j hj
  simp [ht j (by omega) hj]
theorem firstF_none (l : List Bool) (ht : ∀ j (h : j < l.length), j < 20 → l[j] = true) : firstF l = none := by
  unfold firstF
  rw [List.findIdx?_eq_none_iff]
  intro x hx
  obtain ⟨j, hj, rfl⟩ := List.getElem_of_mem hx
  rw [List.length_take] at hj
  simp [ht j (by omega) (by omega)]
theorem add_block (ad : Addr) (i : Nat) : (ad.add i).block = ad.block := by
  unfold Addr.add
  repeat' split
  all_goals rfl
set_option maxHeartbeats 4000000 in
set_option maxRecDepth 100000 in
theorem many_any (b0 b1 b2 : Nat) (A : Option Addr) (c : Nat) (l : List Bool) (n : ByteArray) (w : World)
    (h0 : w.cell? ⟨b0, 0, none⟩ = some (.slice A l.length c)) (h1 : w.cell? ⟨b1, 0, none⟩ = some (.string n)) (h2 : w.cell? ⟨b2, 0, none⟩ = some (.int .i64 0)) (f2 : w.frozen? ⟨b2, 0, none⟩ = false)
    (hl : ∀ i (h : i < l.length), ∃ ad, A = some ad ∧ ad.block ≠ b2 ∧ w.cell? (ad.add i) = some (.bool l[i])) (n0 : b0 ≠ b2) (n1 : b1 ≠ b2) :
    Calls Try.prog 17 #[.pointer (some ⟨b0, 0, none⟩), .pointer (some ⟨b2, 0, none⟩), .pointer (some ⟨b1, 0, none⟩)] w fun en w' =>
      Wr b2 w w' ∧ ((firstF l = none ∧ en = .returned (.tuple #[]) ∧ w'.cell? ⟨b2, 0, none⟩ = some (.int .i64 (min l.length 20 : Nat))) ∨ ∃ i, firstF l = some i ∧ en = thrown 8 n i ∧ w'.cell? ⟨b2, 0, none⟩ = some (.int .i64 (i + 1 : Nat))) := by
  have H0 := Lib.hid h0
  have H1 := Lib.hid h1
  have H2 := Lib.hid h2
  have F2 := Lib.hid f2
  have HL := Lib.hid hl
  clear h0 h1 h2 f2 hl
  go_enter Try.func17, Try.ntmps17
  go_wp2
  go_loopw [3] (fun t wr => ∃ i : Nat, t = .int .i64 (i : Int) ∧ i ≤ l.length ∧ i ≤ 20 ∧ Wr b2 w wr ∧ wr.cell? ⟨b2, 0, none⟩ = some (.int .i64 (i : Int)) ∧ wr.frozen? ⟨b2, 0, none⟩ = false ∧ Hid (∀ j (h : j < l.length), j < i → l[j] = true)) (fun t _ => match t with | .int _ i => (20 - i).toNat | _ => 0)
  case atStart => exact ⟨0, rfl, by omega, by omega, Wr.refl _ _, H2.out, F2.out, fun j h h' => by omega⟩
  case round =>
    obtain ⟨i, rfl, hi, hi20, hW, hc, hf, HT⟩ := hrel
    have e0 : wr.cell? ⟨b0, 0, none⟩ = some (.slice A l.length c) := by rw [hW.cell n0]; exact H0.out
    have e1 : wr.cell? ⟨b1, 0, none⟩ = some (.string n) := by rw [hW.cell n1]; exact H1.out
    by_cases c1 : i < l.length
    · by_cases c2 : i < 20
      · obtain ⟨ad, hA, na, hcell⟩ := HL.out i c1
        subst hA
        have q1 : (i : Int) < (l.length : Int) := by omega
        have q2 : (i : Int) < 20 := by omega
        have q3 : (0 : Int) ≤ (i : Int) := by omega
        have hw : wrap64 ((i : Int) + 1) = ((i + 1 : Nat) : Int) := by unfold wrap64; omega
        have d0 : ∀ v, (wr.setCell ⟨b2, 0, none⟩ v).cell? ⟨b0, 0, none⟩ = some (.slice (some ad) l.length c) := fun v => by rw [(hW.set 0 v).cell n0]; exact H0.out
        have d1 : ∀ v, (wr.setCell ⟨b2, 0, none⟩ v).cell? ⟨b1, 0, none⟩ = some (.string n) := fun v => by rw [(hW.set 0 v).cell n1]; exact H1.out
        have d3 : ∀ v, (wr.setCell ⟨b2, 0, none⟩ v).cell? (ad.add i) = some (.bool l[i]) := fun v => by rw [(hW.set 0 v).cell (show (ad.add i).block ≠ b2 by rw [add_block]; exact na)]; exact hcell
        have hs : ∀ v, (wr.setCell ⟨b2, 0, none⟩ v).cell? ⟨b2, 0, none⟩ = some v := fun v => by simp [go_sem, hc]
        have hz : ∀ v, (wr.setCell ⟨b2, 0, none⟩ v).frozen? ⟨b2, 0, none⟩ = false := fun v => by simp [go_sem, hf]
        have HW := Lib.hid hW
        clear hW hcell
        cases hb : l[i] with
        | true =>
          rw [hb] at d3
          go_wp2_with fail
          go_quiet ((go_at_call 11; exact Calls.quiet_of_same (Must_true _ _ _ _)))
          rename_i nq
          go_wp2
          go_roundw
          case rel =>
            refine ⟨i + 1, ?_, by omega, by omega, (HW.out.set 0 _).drew nq, ?_, ?_, ?_⟩
            · first | rfl | simp
            · have := hs (.int .i64 ((i : Int) + 1))
              simpa using this
            · have := hz (.int .i64 ((i : Int) + 1))
              simpa using this
            · intro j h hj
              rcases Nat.lt_or_ge j i with h1 | h1
              · exact HT.out j h h1
              · have : j = i := by omega
                subst this
                exact hb
          case measure => simp; omega
        | false =>
          rw [hb] at d3
          have HE : Wr b2 w (wr.setCell ⟨b2, 0, none⟩ (.int .i64 ((i : Int) + 1))).drew ∧ (∃ i' : Nat, firstF l = some i' ∧ thrown 8 n (i : Int) = thrown 8 n (i' : Int) ∧ (wr.setCell ⟨b2, 0, none⟩ (.int .i64 ((i : Int) + 1))).drew.cell? ⟨b2, 0, none⟩ = some (.int .i64 (i' + 1 : Nat))) := by
            have h1 := HW.out.set 0 (.int .i64 ((i : Int) + 1))
            refine ⟨⟨h1.os, h1.tape, h1.output, h1.size, h1.block⟩, i, firstF_some l i c1 c2 hb HT.out, rfl, ?_⟩
            have := hs (.int .i64 ((i : Int) + 1))
            simpa [go_sem] using this
          have HE := Lib.hid HE
          go_wp2_with fail
          have g0 : (wr.setCell ⟨b2, 0, none⟩ (.int .i64 ((i : Int) + 1))).drew.cell? ⟨b0, 0, none⟩ = some (.slice (some ad) l.length c) := d0 _
          have g1 : (wr.setCell ⟨b2, 0, none⟩ (.int .i64 ((i : Int) + 1))).drew.cell? ⟨b1, 0, none⟩ = some (.string n) := d1 _
          have g3 : (wr.setCell ⟨b2, 0, none⟩ (.int .i64 ((i : Int) + 1))).drew.cell? (ad.add i) = some (.bool false) := d3 _
          refine wp_region_still_tail 6 (by kernel_rfl) (by kernel_rfl) ?_
          simp only [List.take_succ_cons, List.take_zero, List.drop_succ_cons, List.drop_zero]
          change wpStill _ _ ((wr.setCell ⟨b2, 0, none⟩ (.int .i64 ((i : Int) + 1))).drew) (fun a' => wpList _ _ _ _ a' ((wr.setCell ⟨b2, 0, none⟩ (.int .i64 ((i : Int) + 1))).drew)) _ _
          generalize (wr.setCell ⟨b2, 0, none⟩ (.int .i64 ((i : Int) + 1))).drew = w2 at HE g0 g1 g3 ⊢
          clear hc hf e0 e1 d0 d1 d3 hs hz
          repeat still_step
          refine wpStill_nil ?_
          go_wp2_with (go_at_call 11; refine (Must_false _ _ _ _).mono ?_; rintro e w' ⟨rfl, rfl⟩)
          exact ⟨rfl, HE.out.1, Or.inr HE.out.2⟩
      · have q1 : (i : Int) < (l.length : Int) := by omega
        have q2 : ¬ (i : Int) < 20 := by omega
        have hfin : Wr b2 w wr ∧ firstF l = none ∧ min l.length 20 = i := ⟨hW, firstF_none l (fun j h hj => HT.out j h (by omega)), by omega⟩
        have HF := Lib.hid hfin
        clear hW hfin
        go_wp2_with fail
        go_end0
        refine ⟨HF.out.1, Or.inl ⟨HF.out.2.1, rfl, ?_⟩⟩
        rw [HF.out.2.2]
        exact hc
    · have q1 : ¬ (i : Int) < (l.length : Int) := by omega
      have hfin : Wr b2 w wr ∧ firstF l = none ∧ min l.length 20 = i := ⟨hW, firstF_none l (fun j h hj => HT.out j h (by omega)), by omega⟩
      have HF := Lib.hid hfin
      clear hW hfin
      go_wp2_with fail
      go_end0
      refine ⟨HF.out.1, Or.inl ⟨HF.out.2.1, rfl, ?_⟩⟩
      rw [HF.out.2.2]
      exact hc

theorem caught_heap (K : Nat) (e : Int) (n : ByteArray) (a : Int) (w : World) (k : Nat) (hk : k ≠ K) (hs : k < w.heap.size) : (caught ⟨K, 0, none⟩ e n a w).heap[k]? = w.heap[k]? := by
  unfold caught
  rw [Below.heap_alloc _ _ _ (by simp [World.setCell]; exact hs), Below.heap_setCell _ _ _ _ hk, Below.heap_setCell _ _ _ _ hk, Below.heap_setCell _ _ _ _ hk]
theorem came_heap (K : Nat) (w : World) (k : Nat) (hk : k ≠ K) (hk1 : k ≠ K + 1) : (came K w).heap[k]? = w.heap[k]? := by
  unfold came
  rw [Below.heap_setCell _ _ _ _ hk1, Below.heap_setCell _ _ _ _ hk, Below.heap_setCell _ _ _ _ hk, Below.heap_setCell _ _ _ _ hk]
def manyV (l : List Bool) (n : ByteArray) : Value := match firstF l with
  | none => .tuple #[flt 0 ⟨#[]⟩ 0, .bool true]
  | some i => .tuple #[flt 8 n (i : Int), .bool false]
def manyN (l : List Bool) : Nat := match firstF l with
  | none => min l.length 20
  | some i => i + 1
/-- What is known of the world behind Run: but for block b2 what was there is as it was. -/
structure Past (b2 : Nat) (w w' : World) : Prop where
  os : w'.os = w.os
  tape : w'.tape = w.tape
  output : w'.output = w.output
  size : w.heap.size + 2 ≤ w'.heap.size
  block : ∀ k, k < w.heap.size → k ≠ b2 → w'.heap[k]? = w.heap[k]?
theorem ran_block (w : World) (k : Nat) (h : k < w.heap.size) : (ran w).heap[k]? = w.heap[k]? := (ran_below w).block k h
theorem Run_many (b0 b1 b2 : Nat) (A : Option Addr) (c : Nat) (l : List Bool) (n : ByteArray) (w : World)
    (h0 : w.cell? ⟨b0, 0, none⟩ = some (.slice A l.length c)) (h1 : w.cell? ⟨b1, 0, none⟩ = some (.string n)) (h2 : w.cell? ⟨b2, 0, none⟩ = some (.int .i64 0)) (f2 : w.frozen? ⟨b2, 0, none⟩ = false)
    (hl : ∀ i (h : i < l.length), ∃ ad, A = some ad ∧ ad.block ≠ b2 ∧ w.cell? (ad.add i) = some (.bool l[i])) (n0 : b0 ≠ b2) (n1 : b1 ≠ b2) :
    Calls Try.prog 7 #[.func (.func 17) #[] #[.pointer (some ⟨b0, 0, none⟩), .pointer (some ⟨b2, 0, none⟩), .pointer (some ⟨b1, 0, none⟩)]] w fun en w' => en = .returned (manyV l n) ∧ Past b2 w w' ∧ w'.cell? ⟨b2, 0, none⟩ = some (.int .i64 (manyN l : Nat)) := by
  have hcall : ∀ w : World, (callFunc 17 #[.pointer (some ⟨b0, 0, none⟩), .pointer (some ⟨b2, 0, none⟩), .pointer (some ⟨b1, 0, none⟩)]).run Try.prog w = .ok (.enter 17 #[.pointer (some ⟨b0, 0, none⟩), .pointer (some ⟨b2, 0, none⟩), .pointer (some ⟨b1, 0, none⟩)]) w := fun w => by simp [go_sem, Try.func17]
  have hsz := ran_size w
  have l0 : b0 < w.heap.size := lt_of_cell h0
  have l1 : b1 < w.heap.size := lt_of_cell h1
  have l2 : b2 < w.heap.size := lt_of_cell h2
  have rb := ran_below w
  have hm := many_any b0 b1 b2 A c l n (ran w) (by rw [rb.cell (p := ⟨b0, 0, none⟩) l0]; exact h0) (by rw [rb.cell (p := ⟨b1, 0, none⟩) l1]; exact h1) (by rw [rb.cell (p := ⟨b2, 0, none⟩) l2]; exact h2) (by rw [rb.frozen (p := ⟨b2, 0, none⟩) l2]; exact f2)
    (fun i h => by
      obtain ⟨ad, hA, hb, hc⟩ := hl i h
      refine ⟨ad, hA, hb, ?_⟩
      rw [rb.cell (p := ad.add i) (lt_of_cell hc)]
      exact hc) n0 n1
  have own : ∀ w2, Wr b2 (ran w) w2 → Own2 w w2 := fun w2 h => ⟨h.block _ (by omega), h.block _ (by omega)⟩
  cases hF : firstF l with
  | none =>
    refine (Run_returns 17 _ w (fun w2 => Wr b2 (ran w) w2 ∧ w2.cell? ⟨b2, 0, none⟩ = some (.int .i64 (min l.length 20 : Nat))) hcall (hm.mono ?_)).mono ?_
    · rintro en w2 ⟨hW, ⟨_, rfl, hc⟩ | ⟨i, hi, _⟩⟩
      · exact ⟨rfl, ⟨hW, hc⟩, own w2 hW⟩
      · rw [hF] at hi; cases hi
    · rintro en w' ⟨rfl, w2, ⟨hW, hc⟩, rfl⟩
      refine ⟨by simp [manyV, hF], ⟨hW.os.trans rb.os, hW.tape.trans rb.tape, hW.output.trans rb.output, ?_, ?_⟩, ?_⟩
      · have := hW.size
        simp [came, World.setCell]
        omega
      · intro k hk hk2
        rw [came_heap _ _ _ (by omega) (by omega), hW.block k hk2, ran_block w k hk]
      · rw [World.cell?_of_block (w := w2) (a := ⟨b2, 0, none⟩) (came_heap _ _ _ (by show b2 ≠ _; omega) (by show b2 ≠ _; omega)), hc]
        simp [manyN, hF]
  | some i =>
    refine (Run_panics 8 n (i : Int) 17 _ w (fun w2 => Wr b2 (ran w) w2 ∧ w2.cell? ⟨b2, 0, none⟩ = some (.int .i64 (i + 1 : Nat))) hcall (hm.mono ?_)).mono ?_
    · rintro en w2 ⟨hW, ⟨h, _⟩ | ⟨i', hi, rfl, hc⟩⟩
      · rw [hF] at h; cases h
      · rw [hF] at hi
        obtain rfl := Option.some.inj hi
        exact ⟨rfl, ⟨hW, hc⟩, own w2 hW⟩
    · rintro en w' ⟨rfl, w2, ⟨hW, hc⟩, rfl⟩
      have hs2 := hW.size
      refine ⟨by simp [manyV, hF], ⟨hW.os.trans rb.os, hW.tape.trans rb.tape, hW.output.trans rb.output, ?_, ?_⟩, ?_⟩
      · simp [caught, go_sem]
        omega
      · intro k hk hk2
        rw [caught_heap _ _ _ _ _ _ (by omega) (by omega), hW.block k hk2, ran_block w k hk]
      · rw [World.cell?_of_block (w := w2) (a := ⟨b2, 0, none⟩) (caught_heap _ _ _ _ _ _ (by show b2 ≠ _; omega) (by show b2 < _; omega)), hc]
        simp [manyN, hF]
end Go.Proofs.Ytcpinjdkgponnaa.Trap
