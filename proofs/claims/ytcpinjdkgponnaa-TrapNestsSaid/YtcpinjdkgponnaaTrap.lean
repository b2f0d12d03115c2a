/- Package trap at this program: Throw, Must, the closure that catches, Run. -/
import Derived.Test.YtcpinjdkgponnaaProg
import Derived.Test.YtcpinjdkgponnaaWWords
import Derived.WalkKit
import Derived.WalkLawsBesides
import Derived.KernelRfl
import Derived.BigQuiet
import Derived.Deep.QuietTactic
import Derived.Below
import Derived.Defers
import Derived.Recover
import Derived.Laws.Pointers
import Derived.Laws.NewBlocks
set_option linter.unusedVariables false
set_option linter.unusedSimpArgs false
namespace Go.Proofs.Ytcpinjdkgponnaa.Trap
open Go.RowKit

/-- A fault, as a value. -/
abbrev flt (e : Int) (n : ByteArray) (a : Int) : Value := .agg #[.int .i64 e, .string n, .int .i64 a]
abbrev thrown (e : Int) (n : ByteArray) (a : Int) : Ending := .panicked [{ v := .iface 24 (flt e n a), recovered := false }]

theorem Throw_any (e : Int) (n : ByteArray) (a : Int) (w : World) :
    Calls Try.prog 9 #[.int .i64 e, .string n, .int .i64 a] w fun en w' => en = thrown e n a ∧ w' = w := by
  go_enter Try.func9, Try.ntmps9
  go_wp2
  exact ⟨rfl, rfl, rfl⟩
theorem Must_true (e : Int) (n : ByteArray) (a : Int) (w : World) :
    Calls Try.prog 11 #[.bool true, .int .i64 e, .string n, .int .i64 a] w fun en w' => en = .returned (.tuple #[]) ∧ w' = w := by
  go_enter Try.func11, Try.ntmps11
  go_wp2
  go_end0
  exact ⟨rfl, rfl⟩
theorem Must_false (e : Int) (n : ByteArray) (a : Int) (w : World) :
    Calls Try.prog 11 #[.bool false, .int .i64 e, .string n, .int .i64 a] w fun en w' => en = thrown e n a ∧ w' = w := by
  go_enter Try.func11, Try.ntmps11
  go_wp2_with (go_at_call 9; refine (Throw_any _ _ _ _).mono ?_; rintro e w' ⟨rfl, rfl⟩)
  exact ⟨rfl, rfl, rfl⟩

theorem catch_idle (p q : Addr) (w : World) (hc : w.cell? p = some (.bool true)) :
    CallsD Try.prog 21 #[.pointer (some p), .pointer (some q)] .returning w fun e u' w' => e = .returned (.tuple #[]) ∧ u' = .returning ∧ w' = w := by
  refine callsD_of_wpS Try.func21 rfl fun c₀ cs hu => ?_
  apply wpS_seq
  apply wpS_seq
  apply wpS_region
  simp [wpOpsS, go_sem, recoverD, hu, hc, Try.ntmps21, Exit.thenS]
  refine wpS_cond (t := true) (by simp [Act.eval, Array.replicate]) ?_
  simp only [if_true]
  refine wpS_of_wp (wp_ret ?_)
  cases c₀
  simp_all [bodyPostS, results, Try.results21, Exit.thenS]

theorem asserts (e : Int) (n : ByteArray) (a : Int) (w : World) : (Instr.typeAssert (.iface 24 (flt e n a)) 20 24 true).run Try.prog w = .ok (.tuple #[flt e n a, .bool true]) w := by kernel_rfl
/-- The world behind the closure: the fault laid into a variable of its own, then into the result. -/
def caught (q : Addr) (e : Int) (n : ByteArray) (a : Int) (w : World) : World :=
  (((w.setCell q (.int .i64 e)).setCell ⟨q.block, q.off + 1, none⟩ (.string n)).setCell ⟨q.block, q.off + 2, none⟩ (.int .i64 a)).alloc (.cells #[.int .i64 e, .string n, .int .i64 a] 24)
theorem catch_panicking (p : Addr) (b : Nat) (e : Int) (n : ByteArray) (a : Int) (older : List PanicEntry) (w : World) (x y z : Value) (hc : w.cell? p = some (.bool false)) (hx : w.cell? ⟨b, 0, none⟩ = some x) (hy : w.cell? ⟨b, 1, none⟩ = some y) (hz : w.cell? ⟨b, 2, none⟩ = some z)
    (fx : w.frozen? ⟨b, 0, none⟩ = false) (fy : w.frozen? ⟨b, 1, none⟩ = false) (fz : w.frozen? ⟨b, 2, none⟩ = false)
    (hb : b < w.heap.size) : CallsD Try.prog 21 #[.pointer (some p), .pointer (some ⟨b, 0, none⟩)] (.panicking ({ v := .iface 24 (flt e n a), recovered := false } :: older)) w fun en u' w' => en = .returned (.tuple #[]) ∧ u' = .panicking ({ v := .iface 24 (flt e n a), recovered := true } :: older) ∧ w' = caught ⟨b, 0, none⟩ e n a w := by
  refine callsD_of_wpS Try.func21 rfl fun c₀ cs hu => ?_
  apply wpS_seq
  apply wpS_seq
  apply wpS_region
  simp [wpOpsS, go_sem, recoverD, hu, hc, Try.ntmps21, Exit.thenS]
  refine wpS_cond (t := false) (by simp [Act.eval, Array.replicate]) ?_
  simp only [Bool.false_eq_true, if_false]
  refine wpS_of_wp (wp_skip ?_)
  simp only [Exit.thenS]
  apply wpS_seq
  apply wpS_region
  simp [wpOpsS, go_sem, recoverD, hu, Try.ntmps21, Exit.thenS]
  refine wpS_of_wp ?_
  have e1 : #[Value.pointer (some p), Value.pointer (some { block := b, off := 0 })] ++ (((Array.replicate 14 undef).setIfInBounds 3 (Value.bool false)).setIfInBounds 4 (Value.iface 24 (flt e n a))).setIfInBounds 0 (Value.iface 24 (flt e n a)) = #[Value.pointer (some p), Value.pointer (some { block := b, off := 0 }), .iface 24 (flt e n a), undef, undef, .bool false, .iface 24 (flt e n a), undef, undef, undef, undef, undef, undef, undef, undef, undef] := rfl
  rw [e1]
  clear e1
  have hta := asserts e n a
  have hB : ∀ o, Below w.heap.size w (w.alloc o) := fun o => (Below.refl w.heap.size w).alloc (Nat.le_refl _) o
  have hx' : ∀ o, (w.alloc o).cell? ⟨b, 0, none⟩ = some x := fun o => by rw [(hB o).cell (show (Addr.mk b 0 none).block < _ from hb)]; exact hx
  have hy' : ∀ o, (w.alloc o).cell? ⟨b, 1, none⟩ = some y := fun o => by rw [(hB o).cell (show (Addr.mk b 1 none).block < _ from hb)]; exact hy
  have hz' : ∀ o, (w.alloc o).cell? ⟨b, 2, none⟩ = some z := fun o => by rw [(hB o).cell (show (Addr.mk b 2 none).block < _ from hb)]; exact hz
  have fx' : ∀ o, (w.alloc o).frozen? ⟨b, 0, none⟩ = false := fun o => by rw [(hB o).frozen (show (Addr.mk b 0 none).block < _ from hb)]; exact fx
  have fy' : ∀ o, (w.alloc o).frozen? ⟨b, 1, none⟩ = false := fun o => by rw [(hB o).frozen (show (Addr.mk b 1 none).block < _ from hb)]; exact fy
  have fz' : ∀ o, (w.alloc o).frozen? ⟨b, 2, none⟩ = false := fun o => by rw [(hB o).frozen (show (Addr.mk b 2 none).block < _ from hb)]; exact fz
  go_wp2
  exact ⟨rfl, _, rfl, .tuple #[], by simp [results, Try.results21], rfl, rfl, rfl⟩

/-- The world in which Run calls: its two results have variables of their own. -/
def ran (w : World) : World := (w.alloc (.cells #[.int .i64 0, .string ⟨#[]⟩, .int .i64 0] 24)).alloc (.cells #[.bool false] 4)
structure Own2 (w w2 : World) : Prop where
  a : w2.heap[w.heap.size]? = (ran w).heap[w.heap.size]?
  b : w2.heap[w.heap.size + 1]? = (ran w).heap[w.heap.size + 1]?
structure Own2F (k : Nat) (w2 : World) : Prop where
  ok : w2.cell? ⟨k + 1, 0, none⟩ = some (.bool false)
  x : w2.cell? ⟨k, 0, none⟩ = some (.int .i64 0)
  y : w2.cell? ⟨k, 1, none⟩ = some (.string ⟨#[]⟩)
  z : w2.cell? ⟨k, 2, none⟩ = some (.int .i64 0)
  fo : w2.frozen? ⟨k + 1, 0, none⟩ = false
  fx : w2.frozen? ⟨k, 0, none⟩ = false
  fy : w2.frozen? ⟨k, 1, none⟩ = false
  fz : w2.frozen? ⟨k, 2, none⟩ = false
  lt : k + 1 < w2.heap.size
theorem lt_of_cell {w : World} {p : Addr} {v : Value} (h : w.cell? p = some v) : p.block < w.heap.size := by
  rcases Nat.lt_or_ge p.block w.heap.size with h1 | h1
  · exact h1
  · have : w.heap[p.block]? = none := Array.getElem?_eq_none h1
    simp [World.cell?, this] at h
theorem Own2.facts {w w2 : World} (h : Own2 w w2) : Own2F w.heap.size w2 := by
  have c1 : w2.cell? ⟨w.heap.size + 1, 0, none⟩ = some (.bool false) := by
    rw [World.cell?_of_block (w := ran w) (a := ⟨w.heap.size + 1, 0, none⟩) h.b]; simp [ran, go_sem]
  refine ⟨c1, ?_, ?_, ?_, ?_, ?_, ?_, ?_, lt_of_cell c1⟩
  · rw [World.cell?_of_block (w := ran w) (a := ⟨w.heap.size, 0, none⟩) h.a]; simp [ran, go_sem]
  · rw [World.cell?_of_block (w := ran w) (a := ⟨w.heap.size, 1, none⟩) h.a]; simp [ran, go_sem]
  · rw [World.cell?_of_block (w := ran w) (a := ⟨w.heap.size, 2, none⟩) h.a]; simp [ran, go_sem]
  · rw [World.frozen?_of_block (w := ran w) (a := ⟨w.heap.size + 1, 0, none⟩) h.b]; simp [ran, go_sem]
  · rw [World.frozen?_of_block (w := ran w) (a := ⟨w.heap.size, 0, none⟩) h.a]; simp [ran, go_sem]
  · rw [World.frozen?_of_block (w := ran w) (a := ⟨w.heap.size, 1, none⟩) h.a]; simp [ran, go_sem]
  · rw [World.frozen?_of_block (w := ran w) (a := ⟨w.heap.size, 2, none⟩) h.a]; simp [ran, go_sem]
theorem caught_cells {k : Nat} {e : Int} {n : ByteArray} {a : Int} {w2 : World} (h : Own2F k w2) : (caught ⟨k, 0, none⟩ e n a w2).cell? ⟨k, 0, none⟩ = some (.int .i64 e) ∧ (caught ⟨k, 0, none⟩ e n a w2).cell? ⟨k, 1, none⟩ = some (.string n) ∧ (caught ⟨k, 0, none⟩ e n a w2).cell? ⟨k, 2, none⟩ = some (.int .i64 a) ∧ (caught ⟨k, 0, none⟩ e n a w2).cell? ⟨k + 1, 0, none⟩ = some (.bool false) := by
  have hl := h.lt
  unfold caught
  refine ⟨?_, ?_, ?_, ?_⟩
  · rw [World.cell?_alloc_past _ _ _ (by simp [World.setCell]; omega)]
    simp [go_sem, h.x, h.y, h.z]
  · rw [World.cell?_alloc_past _ _ _ (by simp [World.setCell]; omega)]
    simp [go_sem, h.x, h.y, h.z]
  · rw [World.cell?_alloc_past _ _ _ (by simp [World.setCell]; omega)]
    simp [go_sem, h.x, h.y, h.z]
  · rw [World.cell?_alloc_past _ _ _ (by simp [World.setCell]; omega)]
    simp [go_sem, h.x, h.y, h.z, h.ok]
theorem Run_panics (e : Int) (n : ByteArray) (a : Int) (g : Nat) (cap : Array Value) (w : World) (R : World → Prop) (hcall : ∀ w : World, (callFunc g cap).run Try.prog w = .ok (.enter g cap) w) (hf : Calls Try.prog g cap (ran w) fun en w2 => en = thrown e n a ∧ R w2 ∧ Own2 w w2) :
    Calls Try.prog 7 #[.func (.func g) #[] cap] w fun en w' => en = .returned (.tuple #[flt e n a, .bool false]) ∧ ∃ w2, R w2 ∧ w' = caught ⟨w.heap.size, 0, none⟩ e n a w2 := by
  have hmf : ∀ (fn : Fn) (first cap : Array Value) (w : World), (Instr.makeFunc fn first cap).run Try.prog w = .ok (.func fn first cap) w := fun _ _ _ _ => rfl
  have hnil : ∀ w : World, (binOp BinOp.eql 1 (.func (.func g) #[] cap) .nilFunc).run Try.prog w = .ok (.bool false) w := fun _ => rfl
  go_enter_defers Try.func7, Try.ntmps7
  go_wp2_with (fail)
  refine hf.mono ?_
  rintro en w2 ⟨rfl, hR, hO⟩
  go_wp2_with (fail)
  have hF := hO.facts
  refine leaves_cons (f := 21) (args := #[.pointer (some ⟨w.heap.size + 1, 0, none⟩), .pointer (some ⟨w.heap.size, 0, none⟩)]) (by simp) (by simp [go_sem]) ?_
  refine (catch_panicking ⟨w.heap.size + 1, 0, none⟩ w.heap.size e n a [] w2 _ _ _ hF.ok hF.x hF.y hF.z hF.fx hF.fy hF.fz (by have := hF.lt; omega)).mono ?_
  rintro e' u' w'' ⟨rfl, rfl, rfl⟩
  obtain ⟨o1, o2, o3, o4⟩ := caught_cells (e := e) (n := n) (a := a) hF
  simp [Leaves, settle, results, Try.results7, go_sem, o1, o2, o3, o4]
  exact ⟨w2, hR, rfl⟩
/-- The world behind a function that comes back. -/
def came (k : Nat) (w2 : World) : World :=
  (((w2.setCell ⟨k, 0, none⟩ (.int .i64 0)).setCell ⟨k, 1, none⟩ (.string ⟨#[]⟩)).setCell ⟨k, 2, none⟩ (.int .i64 0)).setCell ⟨k + 1, 0, none⟩ (.bool true)
theorem came_cells {k : Nat} {w2 : World} (h : Own2F k w2) : (came k w2).cell? ⟨k, 0, none⟩ = some (.int .i64 0) ∧ (came k w2).cell? ⟨k, 1, none⟩ = some (.string ⟨#[]⟩) ∧ (came k w2).cell? ⟨k, 2, none⟩ = some (.int .i64 0) ∧ (came k w2).cell? ⟨k + 1, 0, none⟩ = some (.bool true) := by
  unfold came
  refine ⟨?_, ?_, ?_, ?_⟩ <;> simp [go_sem, h.x, h.y, h.z, h.ok]
theorem Run_returns (g : Nat) (cap : Array Value) (w : World) (R : World → Prop) (hcall : ∀ w : World, (callFunc g cap).run Try.prog w = .ok (.enter g cap) w) (hf : Calls Try.prog g cap (ran w) fun en w2 => en = .returned (.tuple #[]) ∧ R w2 ∧ Own2 w w2) :
    Calls Try.prog 7 #[.func (.func g) #[] cap] w fun en w' => en = .returned (.tuple #[flt 0 ⟨#[]⟩ 0, .bool true]) ∧ ∃ w2, R w2 ∧ w' = came w.heap.size w2 := by
  have hmf : ∀ (fn : Fn) (first cap : Array Value) (w : World), (Instr.makeFunc fn first cap).run Try.prog w = .ok (.func fn first cap) w := fun _ _ _ _ => rfl
  have hnil : ∀ w : World, (binOp BinOp.eql 1 (.func (.func g) #[] cap) .nilFunc).run Try.prog w = .ok (.bool false) w := fun _ => rfl
  go_enter_defers Try.func7, Try.ntmps7
  go_wp2_with (fail)
  refine hf.mono ?_
  rintro en w2 ⟨rfl, hR, hO⟩
  have hF := hO.facts
  obtain ⟨h1, h2, h3, h4, h5, h6, h7, h8, _⟩ := hO.facts
  go_wp2_with (fail)
  obtain ⟨o1, o2, o3, o4⟩ := came_cells hF
  change bodyPostD _ _ _ _ _ (came w.heap.size w2)
  refine leaves_cons (f := 21) (args := #[.pointer (some ⟨w.heap.size + 1, 0, none⟩), .pointer (some ⟨w.heap.size, 0, none⟩)]) (by simp) (by simp [go_sem]) ?_
  refine (catch_idle ⟨w.heap.size + 1, 0, none⟩ ⟨w.heap.size, 0, none⟩ _ o4).mono ?_
  rintro e' u' w'' ⟨rfl, rfl, rfl⟩
  simp [Leaves, settle, results, Try.results7, go_sem, o1, o2, o3, o4]
  exact ⟨w2, hR, rfl⟩

/-! Run of a function that writes nothing that was there. -/
theorem ran_size (w : World) : (ran w).heap.size = w.heap.size + 2 := by simp [ran, go_sem]
theorem ran_below (w : World) : Below w.heap.size w (ran w) := ((Below.refl _ w).alloc (Nat.le_refl _) _).alloc (by simp [go_sem]) _
theorem own2_of_below {w w2 : World} (h : Below (ran w).heap.size (ran w) w2) : Own2 w w2 := by
  have := ran_size w
  exact ⟨h.block _ (by omega), h.block _ (by omega)⟩
theorem Run_panics_below (e : Int) (n : ByteArray) (a : Int) (g : Nat) (cap : Array Value) (w : World) (hcall : ∀ w : World, (callFunc g cap).run Try.prog w = .ok (.enter g cap) w) (hf : ∀ w1, Calls Try.prog g cap w1 fun en w2 => en = thrown e n a ∧ Below w1.heap.size w1 w2) :
    Calls Try.prog 7 #[.func (.func g) #[] cap] w fun en w' => en = .returned (.tuple #[flt e n a, .bool false]) ∧ Below w.heap.size w w' := by
  refine (Run_panics e n a g cap w (fun w2 => Below w.heap.size w w2 ∧ w.heap.size ≤ w2.heap.size) hcall ((hf _).mono ?_)).mono ?_
  · rintro en w2 ⟨rfl, h⟩
    have hs := ran_size w
    have := h.size
    exact ⟨rfl, ⟨(ran_below w).trans (h.mono (by omega)), by omega⟩, own2_of_below h⟩
  · rintro en w' ⟨rfl, w2, ⟨h, hs⟩, rfl⟩
    refine ⟨rfl, ?_⟩
    unfold caught
    refine Below.alloc ?_ (by simp [go_sem]; omega) _
    exact ((h.setCell (Nat.le_refl _) _).setCell (Nat.le_refl _) _).setCell (Nat.le_refl _) _
theorem Run_returns_below (g : Nat) (cap : Array Value) (w : World) (hcall : ∀ w : World, (callFunc g cap).run Try.prog w = .ok (.enter g cap) w) (hf : ∀ w1, Calls Try.prog g cap w1 fun en w2 => en = .returned (.tuple #[]) ∧ Below w1.heap.size w1 w2) :
    Calls Try.prog 7 #[.func (.func g) #[] cap] w fun en w' => en = .returned (.tuple #[flt 0 ⟨#[]⟩ 0, .bool true]) ∧ Below w.heap.size w w' := by
  refine (Run_returns g cap w (fun w2 => Below w.heap.size w w2) hcall ((hf _).mono ?_)).mono ?_
  · rintro en w2 ⟨rfl, h⟩
    have hs := ran_size w
    exact ⟨rfl, (ran_below w).trans (h.mono (by omega)), own2_of_below h⟩
  · rintro en w' ⟨rfl, w2, h, rfl⟩
    refine ⟨rfl, ?_⟩
    unfold came
    exact (((h.setCell (Nat.le_refl _) _).setCell (Nat.le_refl _) _).setCell (Nat.le_refl _) _).setCell (Nat.le_succ _) _
end Go.Proofs.Ytcpinjdkgponnaa.Trap
