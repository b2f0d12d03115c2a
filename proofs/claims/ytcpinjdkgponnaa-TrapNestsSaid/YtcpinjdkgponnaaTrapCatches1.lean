/- TrapCatches: Run over its two closures, and over none. -/
import Derived.Test.YtcpinjdkgponnaaTrapLog
set_option linter.unusedVariables false
set_option linter.unusedSimpArgs false
namespace Go.Proofs.Ytcpinjdkgponnaa.Trap
open Go.RowKit Go.Proofs.YtcpinjdkgponnaaW.PrintWords

theorem LogAt.move {base b : Nat} {w w' : World} {v : Value} {xs : List Int} (h : LogAt base b w v xs) (hs : w.heap.size ≤ w'.heap.size) (hb : w'.heap[b]? = w.heap[b]?) (hr : ∀ k, v.ownBlock = some k → w'.heap[k]? = w.heap[k]?) : LogAt base b w' v xs :=
  ⟨hb.trans h.box, own_move h.row hr, Nat.le_trans h.le hs⟩
theorem LogAt.lt {base b : Nat} {w : World} {v : Value} {xs : List Int} (h : LogAt base b w v xs) : b < w.heap.size := lt_of_cell h.cell
theorem LogAt.rowLt {base b : Nat} {w : World} {v : Value} {xs : List Int} (h : LogAt base b w v xs) : ∀ k, v.ownBlock = some k → base ≤ k ∧ k < w.heap.size := h.row.lt
/-- Below a bound that holds both blocks nothing of them turns. -/
theorem LogAt.kept {base b B : Nat} {w w' : World} {v : Value} {xs : List Int} (h : LogAt base b w v xs) (hB : Below w.heap.size w w') : LogAt base b w' v xs :=
  h.move hB.size (hB.block _ h.lt) (fun k hk => hB.block k (h.rowLt k hk).2)
theorem caught_keep (K : Nat) (e : Int) (n : ByteArray) (a : Int) (w : World) (k : Nat) (hk : k ≠ K) (hs : k < w.heap.size) : (caught ⟨K, 0, none⟩ e n a w).heap[k]? = w.heap[k]? := by
  unfold caught
  rw [Below.heap_alloc _ _ _ (by simp [World.setCell]; exact hs), Below.heap_setCell _ _ _ _ hk, Below.heap_setCell _ _ _ _ hk, Below.heap_setCell _ _ _ _ hk]
theorem came_keep (K : Nat) (w : World) (k : Nat) (hk : k ≠ K) (hk1 : k ≠ K + 1) : (came K w).heap[k]? = w.heap[k]? := by
  unfold came
  rw [Below.heap_setCell _ _ _ _ hk1, Below.heap_setCell _ _ _ _ hk, Below.heap_setCell _ _ _ _ hk, Below.heap_setCell _ _ _ _ hk]
/-- The row is none of Run's two variables. -/
theorem LogAt.neRan {base b : Nat} {W w2 : World} {v : Value} {xs : List Int} (h : LogAt base b w2 v xs) (hO : Own2 W w2) : ∀ k, v.ownBlock = some k → k ≠ W.heap.size ∧ k ≠ W.heap.size + 1 := by
  intro k hk
  obtain ⟨cs, hc⟩ := own_typed h.row k hk
  have e1 : (ran W).heap[W.heap.size]? = some (.cells #[.int .i64 0, .string ⟨#[]⟩, .int .i64 0] 24 (0, 0)) := by
    unfold ran
    rw [heap_alloc_old _ _ (by simp), heap_alloc_new]
  have e2 : (ran W).heap[W.heap.size + 1]? = some (.cells #[.bool false] 4 (0, 0)) := by
    unfold ran
    have := heap_alloc_new (W.alloc (.cells #[.int .i64 0, .string ⟨#[]⟩, .int .i64 0] 24)) (.cells #[.bool false] 4)
    simpa using this
  constructor
  · rintro rfl
    have := hO.a
    rw [hc, e1] at this
    injection this with h1
    injection h1 with _ h1
    exact absurd h1 (by decide)
  · rintro rfl
    have := hO.b
    rw [hc, e2] at this
    injection this with h1
    injection h1 with _ h1
    exact absurd h1 (by decide)
/-- From the world in which Run calls to the world behind Run. -/
theorem Logged.behind {base b : Nat} {W w2 w' : World} {v v' : Value} {xs ys : List Int} (h : LogAt base b W v xs) (h2 : LogAt base b w2 v' ys) (hL : Logged b v v' (ran W) w2) (hO : Own2 W w2)
    (hs : w2.heap.size ≤ w'.heap.size) (ho : w'.os = w2.os) (ht : w'.tape = w2.tape) (hu : w'.output = w2.output) (hk : ∀ k, k < w2.heap.size → k ≠ W.heap.size → k ≠ W.heap.size + 1 → w'.heap[k]? = w2.heap[k]?) :
    LogAt base b w' v' ys ∧ Logged b v v' W w' := by
  have rb := ran_below W
  have rs := ran_size W
  have s2 := hL.size
  have hlt := h.lt
  refine ⟨h2.move hs (hk b h2.lt (by omega) (by omega)) (fun k hv => hk k (h2.rowLt k hv).2 (h2.neRan hO k hv).1 (h2.neRan hO k hv).2), ho.trans (hL.os.trans rb.os), ht.trans (hL.tape.trans rb.tape), hu.trans (hL.output.trans rb.output), by omega, fun k hk1 hb hv => ?_, ?_⟩
  · rw [hk k (by omega) (by omega) (by omega), hL.block k (by omega) hb hv, rb.block k hk1]
  · rcases hL.row with hr | ⟨k, hr, hk⟩
    · exact Or.inl hr
    · exact Or.inr ⟨k, hr, by omega⟩
theorem Logged.own2 {base b : Nat} {W w2 : World} {v v' : Value} {xs : List Int} (h : LogAt base b W v xs) (hL : Logged b v v' (ran W) w2) : Own2 W w2 := by
  have rs := ran_size W
  have hlt := h.lt
  refine ⟨hL.block _ (by omega) (by omega) (fun e => ?_), hL.block _ (by omega) (by omega) (fun e => ?_)⟩
  · have := (h.rowLt _ e.symm).2; omega
  · have := (h.rowLt _ e.symm).2; omega
theorem Run_catches (base b bd be bn bp : Nat) (e : Int) (n : ByteArray) (p : Int) (d : Nat) (v : Value) (w : World) (hL : LogAt base b w v []) (hd : d ≤ 20)
    (h1 : w.cell? ⟨bd, 0, none⟩ = some (.int .i64 (d : Int))) (h2 : w.cell? ⟨be, 0, none⟩ = some (.int .i64 e)) (h3 : w.cell? ⟨bn, 0, none⟩ = some (.string n)) (h4 : w.cell? ⟨bp, 0, none⟩ = some (.int .i64 p)) :
    Calls Try.prog 7 #[.func (.func 13) #[] #[.pointer (some ⟨b, 0, none⟩), .pointer (some ⟨bd, 0, none⟩), .pointer (some ⟨be, 0, none⟩), .pointer (some ⟨bn, 0, none⟩), .pointer (some ⟨bp, 0, none⟩)]] w fun en w' => en = .returned (.tuple #[flt e n p, .bool false]) ∧ ∃ v', LogAt base b w' v' (down d) ∧ Logged b v v' w w' := by
  have rb := ran_below w
  have l1 := lt_of_cell h1
  have l2 := lt_of_cell h2
  have l3 := lt_of_cell h3
  have l4 := lt_of_cell h4
  refine (Run_panics e n p 13 _ w (fun w2 => ∃ v', LogAt base b w2 v' (down d) ∧ Logged b v v' (ran w) w2) (fun w => by simp [go_sem, Try.func13]) ((catches1 base b bd be bn bp e n p d v (ran w) (hL.kept (B := 0) rb) hd ((rb.cell l1).trans h1) ((rb.cell l2).trans h2) ((rb.cell l3).trans h3) ((rb.cell l4).trans h4)).mono ?_)).mono ?_
  · rintro en w2 ⟨rfl, v', hA, hG⟩
    exact ⟨rfl, ⟨v', hA, hG⟩, hG.own2 hL⟩
  · rintro en w' ⟨rfl, w2, ⟨v', hA, hG⟩, rfl⟩
    refine ⟨rfl, v', Logged.behind hL hA hG (hG.own2 hL) ?_ rfl rfl rfl (fun k hk1 hk2 _ => caught_keep _ _ _ _ _ _ hk2 hk1)⟩
    simp [caught, go_sem]
theorem Run_adds (base b : Nat) (v : Value) (xs : List Int) (w : World) (hL : LogAt base b w v xs) (hx : xs.length ≤ 60) :
    Calls Try.prog 7 #[.func (.func 15) #[] #[.pointer (some ⟨b, 0, none⟩)]] w fun en w' => en = .returned (.tuple #[flt 0 ⟨#[]⟩ 0, .bool true]) ∧ ∃ v', LogAt base b w' v' (xs ++ [-5]) ∧ Logged b v v' w w' := by
  have rb := ran_below w
  refine (Run_returns 15 _ w (fun w2 => ∃ v', LogAt base b w2 v' (xs ++ [-5]) ∧ Logged b v v' (ran w) w2) (fun w => by simp [go_sem, Try.func15]) ((catches2 base b v xs (ran w) (hL.kept (B := 0) rb) hx).mono ?_)).mono ?_
  · rintro en w2 ⟨rfl, v', hA, hG⟩
    exact ⟨rfl, ⟨v', hA, hG⟩, hG.own2 hL⟩
  · rintro en w' ⟨rfl, w2, ⟨v', hA, hG⟩, rfl⟩
    refine ⟨rfl, v', Logged.behind hL hA hG (hG.own2 hL) ?_ rfl rfl rfl (fun k hk1 hk2 hk3 => came_keep _ _ _ hk2 hk3)⟩
    simp [came, World.setCell]
theorem Run_nil (w : World) : Calls Try.prog 7 #[.nilFunc] w fun en w' => en = .returned (.tuple #[flt 0 ⟨#[]⟩ 0, .bool true]) ∧ Below w.heap.size w w' := by
  have hnil : ∀ w : World, (binOp BinOp.eql 1 .nilFunc .nilFunc).run Try.prog w = .ok (.bool true) w := fun _ => rfl
  go_enter_defers Try.func7, Try.ntmps7
  go_wp2_with (fail)
  simp [bodyPostD, Leaves, settle, results, Try.results7, go_sem]
  exact ((Below.refl _ _).alloc (Nat.le_refl _) _).alloc (by simp [go_sem]) _
end Go.Proofs.Ytcpinjdkgponnaa.Trap
