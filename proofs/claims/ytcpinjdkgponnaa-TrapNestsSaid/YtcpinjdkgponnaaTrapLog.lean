/- A row of numbers of the call's own in a variable of its own: appending to it; TrapCatches' sink and closures. -/
import Derived.Test.YtcpinjdkgponnaaTrap
import Derived.Test.YtcpinjdkgponnaaWLast
import Derived.Test.YtcpinjdkgponnaaWMore
import Derived.Test.YtcpinjdkgponnaaWWords
import Derived.Lib.Hide
set_option linter.unusedVariables false
set_option linter.unusedSimpArgs false
namespace Go.Proofs.Ytcpinjdkgponnaa.Trap
open Go.RowKit Go.Proofs.YtcpinjdkgponnaaW.PrintWords

theorem infoInt : (Try.prog.info? 3).map (fun i => (i.zero, i.size, i.bytes)) = some (some (.int .i64 0), 1, 8) := by kernel_rfl
/-- Block b is a variable that holds v, and v is the row xs of the call's own. -/
structure LogAt (base b : Nat) (w : World) (v : Value) (xs : List Int) : Prop where
  box : w.heap[b]? = some (.cells #[v] 31 (0, 0))
  row : w.ownsRow base 3 1 v xs.length (nums .i64 xs)
  le : base ≤ w.heap.size
/-- But for block b and v's row the world is as it was. -/
structure Logged (b : Nat) (v v' : Value) (w w' : World) : Prop where
  os : w'.os = w.os
  tape : w'.tape = w.tape
  output : w'.output = w.output
  size : w.heap.size ≤ w'.heap.size
  block : ∀ k, k < w.heap.size → k ≠ b → some k ≠ v.ownBlock → w'.heap[k]? = w.heap[k]?
  row : v'.ownBlock = v.ownBlock ∨ ∃ k, v'.ownBlock = some k ∧ w.heap.size ≤ k
theorem Logged.trans {b : Nat} {v v1 v2 : Value} {w w1 w2 : World} (h : Logged b v v1 w w1) (h' : Logged b v1 v2 w1 w2) : Logged b v v2 w w2 := by
  refine ⟨h'.os.trans h.os, h'.tape.trans h.tape, h'.output.trans h.output, Nat.le_trans h.size h'.size, fun k hk hb hv => ?_, ?_⟩
  · have hs := h.size
    rw [h'.block k (by omega) hb ?_, h.block k hk hb hv]
    intro e
    rcases h.row with hr | ⟨j, hr, hj⟩
    · exact hv (e.trans hr)
    · rw [hr] at e
      have := Option.some.inj e
      omega
  · have hs := h.size
    rcases h'.row with hr | ⟨j, hr, hj⟩
    · rcases h.row with hr2 | ⟨j, hr2, hj⟩
      · exact Or.inl (hr.trans hr2)
      · exact Or.inr ⟨j, hr.trans hr2, hj⟩
    · exact Or.inr ⟨j, hr, by omega⟩
theorem LogAt.ne {base b : Nat} {w : World} {v : Value} {xs : List Int} (h : LogAt base b w v xs) : some b ≠ v.ownBlock := by
  intro e
  obtain ⟨cs, hc⟩ := own_typed h.row b e.symm
  rw [h.box] at hc
  injection hc with hc
  injection hc with _ hc
  exact absurd hc (by decide)
theorem LogAt.cell {base b : Nat} {w : World} {v : Value} {xs : List Int} (h : LogAt base b w v xs) : w.cell? ⟨b, 0, none⟩ = some v := by simp [World.cell?, h.box]
theorem LogAt.frozen {base b : Nat} {w : World} {v : Value} {xs : List Int} (h : LogAt base b w v xs) : w.frozen? ⟨b, 0, none⟩ = false := by simp [World.frozen?, h.box]
theorem setCell_box (w : World) (b : Nat) (v v1 : Value) (t : TypeId) (h : w.heap[b]? = some (.cells #[v] t (0, 0))) : (w.setCell ⟨b, 0, none⟩ v1).heap[b]? = some (.cells #[v1] t (0, 0)) := by
  simp [World.setCell, Array.getElem?_modify, h]
/-- What an append to the row, and the store behind it, make of the variable. -/
theorem LogAt.appended {base b : Nat} {w w1 : World} {v v1 : Value} {xs ys : List Int} {n : Nat} (h : LogAt base b w v xs) (hO : w1.ownsRow base 3 1 v1 n (nums .i64 ys)) (hn : n = ys.length) (hG : w.grownBy w1 v.ownBlock) (hR : v1.ownBlock = v.ownBlock ∨ ∃ k, v1.ownBlock = some k ∧ w.heap.size ≤ k) :
    LogAt base b (w1.setCell ⟨b, 0, none⟩ v1) v1 ys ∧ Logged b v v1 w (w1.setCell ⟨b, 0, none⟩ v1) ∧ w1.cell? ⟨b, 0, none⟩ = some v ∧ w1.frozen? ⟨b, 0, none⟩ = false := by
  subst hn
  have hlt : b < w.heap.size := lt_of_cell h.cell
  have hbox : w1.heap[b]? = some (.cells #[v] 31 (0, 0)) := (hG.block b hlt h.ne).trans h.box
  have hbs : some b ≠ v1.ownBlock := by
    rcases hR with hr | ⟨k, hr, hk⟩
    · rw [hr]; exact h.ne
    · rw [hr]; intro e; have := Option.some.inj e; omega
  have hss : (w1.setCell ⟨b, 0, none⟩ v1).heap.size = w1.heap.size := by simp [World.setCell]
  refine ⟨⟨setCell_box _ _ _ _ _ hbox, own_move hO (fun k hk => Below.heap_setCell _ _ _ _ (fun e => hbs (by rw [hk]; exact congrArg some e.symm))), ?_⟩, ⟨hG.os, hG.tape, hG.output, ?_, fun k hk hb hv => ?_, hR⟩, ?_, ?_⟩
  · have := hG.size; have := h.le; omega
  · have := hG.size; omega
  · rw [Below.heap_setCell _ _ _ _ hb, hG.block k hk hv]
  · simp [World.cell?, hbox]
  · simp [World.frozen?, hbox]

theorem own_slice {w : World} {base : Nat} {e : TypeId} {size n : Nat} {v : Value} {xs : List Value} (h : w.ownsRow base e size v n xs) : ∃ A c, v = .slice A n c := by
  rcases h.2 with ⟨rfl, rfl⟩ | ⟨g, cap, cur, rfl, _⟩
  · exact ⟨_, _, rfl⟩
  · exact ⟨_, _, rfl⟩

/-- d, d - 1, .., 0. -/
def down : Nat → List Int
  | 0 => [0]
  | d + 1 => ((d + 1 : Nat) : Int) :: down d
theorem down_length (d : Nat) : (down d).length = d + 1 := by
  induction d with
  | zero => rfl
  | succ d ih => simp [down, ih]

set_option maxHeartbeats 1000000 in
theorem sink_any (base b : Nat) (e : Int) (n : ByteArray) (p : Int) (d : Nat) : ∀ (v : Value) (xs : List Int) (w : World), LogAt base b w v xs → xs.length + d ≤ 60 → d ≤ 20 →
    Calls Try.prog 14 #[.pointer (some ⟨b, 0, none⟩), .int .i64 (d : Int), .int .i64 e, .string n, .int .i64 p] w fun en w' => en = thrown e n p ∧ ∃ v', LogAt base b w' v' (xs ++ down d) ∧ Logged b v v' w w' := by
  induction d with
  | zero =>
    intro v xs w hL hx hd
    have hc := hL.cell
    have hf := hL.frozen
    have HL := Lib.hid hL
    clear hL
    go_enter Try.func14, Try.ntmps14
    go_wp2_with (at_builtin; refine print_append_num (w0 := w) base rfl (.tmp 13) (.tmp 15) 31 3 .i64 8 rfl Try.underlying31 infoInt (by decide) v xs 0 rfl rfl HL.out.row (Below.refl _ _) HL.out.le (by omega) ?_)
    intro v1 w1 hO hB hG hR
    obtain ⟨A1, c1, rfl⟩ := own_slice hO
    obtain ⟨hA, hLg, h1, h2⟩ := HL.out.appended hO (by simp) hG hR
    have HA := Lib.hid hA
    have HLg := Lib.hid hLg
    clear hO hB hG hR hA hLg hc hf
    go_wp2_with (go_at_call 11; refine (Must_false _ _ _ _).mono ?_; rintro e w' ⟨rfl, rfl⟩)
    exact ⟨rfl, rfl, _, HA.out, HLg.out⟩
  | succ d ih =>
    intro v xs w hL hx hd
    have hc := hL.cell
    have hf := hL.frozen
    have HL := Lib.hid hL
    clear hL
    have hw : wrap64 (((d + 1 : Nat) : Int) - 1) = (d : Int) := by unfold wrap64; omega
    have hp : (0 : Int) < ((d + 1 : Nat) : Int) := by omega
    have hdn : down (d + 1) = ((d + 1 : Nat) : Int) :: down d := rfl
    generalize ((d + 1 : Nat) : Int) = D at *
    have HD := Lib.hid hdn
    clear hdn
    go_enter Try.func14, Try.ntmps14
    go_wp2_with (at_builtin; refine print_append_num (w0 := w) base rfl (.tmp 13) (.tmp 15) 31 3 .i64 8 rfl Try.underlying31 infoInt (by decide) v xs D rfl rfl HL.out.row (Below.refl _ _) HL.out.le (by omega) ?_)
    intro v1 w1 hO hB hG hR
    obtain ⟨A1, c1, rfl⟩ := own_slice hO
    obtain ⟨hA, hLg, h1, h2⟩ := HL.out.appended hO (by simp) hG hR
    have HA := Lib.hid hA
    have HLg := Lib.hid hLg
    clear hO hB hG hR hA hLg hc hf
    go_wp2_with (go_at_call 14; refine (ih _ (xs ++ [D]) _ HA.out (by simp; omega) (by omega)).mono ?_; rintro en w2 ⟨rfl, v2, hA2, hL2⟩)
    have hA2' : LogAt base b w2 v2 (xs ++ down (d + 1)) := by rw [HD.out]; simpa using hA2
    exact ⟨rfl, rfl, v2, hA2', HLg.out.trans hL2⟩
/-- The first closure of TrapCatches. -/
theorem catches1 (base b bd be bn bp : Nat) (e : Int) (n : ByteArray) (p : Int) (d : Nat) (v : Value) (w : World) (hL : LogAt base b w v []) (hd : d ≤ 20)
    (h1 : w.cell? ⟨bd, 0, none⟩ = some (.int .i64 (d : Int))) (h2 : w.cell? ⟨be, 0, none⟩ = some (.int .i64 e)) (h3 : w.cell? ⟨bn, 0, none⟩ = some (.string n)) (h4 : w.cell? ⟨bp, 0, none⟩ = some (.int .i64 p)) :
    Calls Try.prog 13 #[.pointer (some ⟨b, 0, none⟩), .pointer (some ⟨bd, 0, none⟩), .pointer (some ⟨be, 0, none⟩), .pointer (some ⟨bn, 0, none⟩), .pointer (some ⟨bp, 0, none⟩)] w fun en w' => en = thrown e n p ∧ ∃ v', LogAt base b w' v' (down d) ∧ Logged b v v' w w' := by
  have HL := Lib.hid hL
  clear hL
  go_enter Try.func13, Try.ntmps13
  go_wp2_with (go_at_call 14; refine (sink_any base b e n p d v [] _ HL.out (by simp; omega) hd).mono ?_; rintro en w2 ⟨rfl, v2, hA2, hL2⟩)
  exact ⟨rfl, rfl, v2, hA2, hL2⟩
/-- The second closure of TrapCatches. -/
theorem catches2 (base b : Nat) (v : Value) (xs : List Int) (w : World) (hL : LogAt base b w v xs) (hx : xs.length ≤ 60) :
    Calls Try.prog 15 #[.pointer (some ⟨b, 0, none⟩)] w fun en w' => en = .returned (.tuple #[]) ∧ ∃ v', LogAt base b w' v' (xs ++ [-5]) ∧ Logged b v v' w w' := by
  have hc := hL.cell
  have hf := hL.frozen
  have HL := Lib.hid hL
  clear hL
  go_enter Try.func15, Try.ntmps15
  go_wp2_with (at_builtin; refine print_append_num (w0 := w) base rfl (.tmp 1) (.tmp 2) 31 3 .i64 8 rfl Try.underlying31 infoInt (by decide) v xs (-5) rfl rfl HL.out.row (Below.refl _ _) HL.out.le (by omega) ?_)
  intro v1 w1 hO hB hG hR
  obtain ⟨A1, c1, rfl⟩ := own_slice hO
  obtain ⟨hA, hLg, h1, h2⟩ := HL.out.appended hO (by simp) hG hR
  have HA := Lib.hid hA
  have HLg := Lib.hid hLg
  clear hO hB hG hR hA hLg hc hf
  go_wp2_with fail
  go_end0
  exact ⟨rfl, _, HA.out, HLg.out⟩
end Go.Proofs.Ytcpinjdkgponnaa.Trap
