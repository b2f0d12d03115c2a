-- Words of the print that these texts use: fewer of them.
import Derived.Test.YtcaaggfobdfgpaaDoorWWords
import Derived.Test.YtcaaggfobdfgpaaDoorWLast
namespace Go.Proofs.YtcaaggfobdfgpaaDoorW.PrintMore
open Go.RowKit Go.Proofs.YtcaaggfobdfgpaaDoorW.PrintWords
namespace Kd
open Go.Proofs.YtcaaggfobdfgpaaDoorW.PrintWords.Kd
/-- Element i of a row of one's own, lent: its cells and what it leads to, as the row has them. -/
theorem R_get {α : Type} {d : Kd α} {e base n cap : Nat} {ok : Nat → Prop} {W : World} {ad : Addr} {xs : List α} (h : d.R e W base ok (.slice (some ad) n cap) xs) (z : α) (i : Int) (h0 : 0 ≤ i) (h1 : i < n) :
    ∃ c, c.length = d.sz ∧ d.M W base (fun k => ok k ∧ some k ≠ (Value.slice (some ad) n cap).ownBlock) (xs.getD i.toNat z) c ∧ ∀ j u, c[j]? = some u → W.cell? (ad.add (i.toNat * d.sz + j)) = some u := by
  obtain ⟨g, hg⟩ : ∃ g, ad = ⟨g, 0, none⟩ := by
    obtain ⟨_, inner, ho, _⟩ := h
    rcases ho.2 with ⟨hv, _⟩ | ⟨g, cap', cur, hv, _⟩
    · cases hv
    · injection hv with ha _ _
      injection ha with ha
      exact ⟨g, ha⟩
  subst hg
  obtain ⟨c, hcl, hM, hcc, _⟩ := R_elem h z i h0 h1
  refine ⟨c, hcl, d.M_mono (fun k hk => ⟨hk.1, fun he => hk.2 ?_⟩) hM, fun j u hu => ?_⟩
  · rw [add_at, Nat.zero_add]
    exact hcc j u hu
  · simpa [Value.ownBlock] using he
end Kd

namespace Kd
open Go.Proofs.YtcaaggfobdfgpaaDoorW.PrintWords.Kd
section
variable {α : Type} {d : Kd α} {e base g N : Nat} {ok : Nat → Prop} {W w1 : World} {u v : Value} {xs : List α}
/-- An elder row over an event that only makes: its blocks are elder than what was made. -/
theorem R_old (hu : d.R e W base ok u xs) (hb : Below W.heap.size W w1) : d.R e w1 base (fun k => ok k ∧ k < W.heap.size) u xs :=
  R_mono (R_below (R_bound hu) hb) (fun _ h => ⟨h.1, h.2.2.1⟩)
/-- The same over a state's call. -/
theorem R_oldK (hu : d.R e W base (fun k => ok k ∧ k ≠ g) u xs) (hk : KeepBut W w1 g none) : d.R e w1 base (fun k => ok k ∧ k < W.heap.size) u xs :=
  R_mono (R_keep (R_bound hu) hk (fun _ h => h.1.2)) (fun _ h => ⟨h.1.1, h.2.2.1⟩)
/-- It is none of the rows made since. -/
theorem R_told (h : d.R e w1 base (fun k => ok k ∧ k < N) u xs) (hbase : ∀ k, v.ownBlock = some k → N ≤ k) : d.R e w1 base (fun k => (ok k ∧ some k ≠ v.ownBlock) ∧ k < N) u xs :=
  R_mono h (fun k hk => ⟨⟨hk.1, fun e => Nat.lt_irrefl _ (Nat.lt_of_lt_of_le hk.2 (hbase k e.symm))⟩, hk.2⟩)
end
end Kd
/-- 'max' and 'min' of two whole numbers. -/
theorem max2_int (k k' : IntKind) (x y : Int) : Builtin.max2 (.int k x) (.int k' y) = pure (.int k (if x < y then y else x)) := by simp only [Builtin.max2, gt_iff_lt]
theorem min2_int (k k' : IntKind) (x y : Int) : Builtin.min2 (.int k x) (.int k' y) = pure (.int k (if y < x then y else x)) := by simp only [Builtin.min2]
theorem max_two (ats : Array TypeId) (ty : TypeId) (a b : Value) : Builtin.max_ ats ty #[a, b] = (Builtin.max2 a b >>= fun s => pure s) := by simp only [Builtin.max_, List.foldlM_cons, List.foldlM_nil]
theorem min_two (ats : Array TypeId) (ty : TypeId) (a b : Value) : Builtin.min_ ats ty #[a, b] = (Builtin.min2 a b >>= fun s => pure s) := by simp only [Builtin.min_, List.foldlM_cons, List.foldlM_nil]
theorem max_three (ats : Array TypeId) (ty : TypeId) (a b c : Value) : Builtin.max_ ats ty #[a, b, c] = (Builtin.max2 a b >>= fun s => Builtin.max2 s c >>= fun s => pure s) := by simp only [Builtin.max_, List.foldlM_cons, List.foldlM_nil]
theorem min_three (ats : Array TypeId) (ty : TypeId) (a b c : Value) : Builtin.min_ ats ty #[a, b, c] = (Builtin.min2 a b >>= fun s => Builtin.min2 s c >>= fun s => pure s) := by simp only [Builtin.min_, List.foldlM_cons, List.foldlM_nil]
theorem max_four (ats : Array TypeId) (ty : TypeId) (a b c d : Value) : Builtin.max_ ats ty #[a, b, c, d] = (Builtin.max2 a b >>= fun s => Builtin.max2 s c >>= fun s => Builtin.max2 s d >>= fun s => pure s) := by simp only [Builtin.max_, List.foldlM_cons, List.foldlM_nil]
theorem min_four (ats : Array TypeId) (ty : TypeId) (a b c d : Value) : Builtin.min_ ats ty #[a, b, c, d] = (Builtin.min2 a b >>= fun s => Builtin.min2 s c >>= fun s => Builtin.min2 s d >>= fun s => pure s) := by simp only [Builtin.min_, List.foldlM_cons, List.foldlM_nil]
end Go.Proofs.YtcaaggfobdfgpaaDoorW.PrintMore
namespace Go.Proofs.YtcaaggfobdfgpaaDoorW.PrintWords
open Go.RowKit
section
variable {P : Program} {ops : Array Oper} {rest : List Oper} {o : Oper} {a : Act} {Q : Exit → Act → World → Prop} {W : World}
/-- The operation is a call of this function (a cheap look ahead of a dear step). -/
theorem gate_callee {f : FuncId} {as : Array Operand} {ts : Array TypeId} (_ho : o.op = .call { callee := .value (.func f), args := as, argTypes := ts }) (h : wpList P ops Q (o :: rest) a W) : wpList P ops Q (o :: rest) a W := h
/-- The operation is a builtin over these places. -/
theorem gate_builtin {b : Builtin} {xs : Array Operand} {ts : Array TypeId} (_ho : o.op = .call { callee := .builtin b, args := xs, argTypes := ts }) (h : wpList P ops Q (o :: rest) a W) : wpList P ops Q (o :: rest) a W := h
end
/-- A call's arguments, spelled otherwise. -/
theorem calls_of_args {P : Program} {f : FuncId} {args args' : Array Value} {w : World} {Q : Ending → World → Prop} (h : args = args') (hc : Calls P f args' w Q) : Calls P f args w Q := h ▸ hc
/-- The greater of two whole numbers, as Go's max tells it. -/
def mx (a b : Int) : Int := if a < b then b else a
/-- The smaller of two whole numbers, as Go's min tells it. -/
def mn (a b : Int) : Int := if b < a then b else a
/-- A shift to the left, as Go tells it: a count beyond the width leaves nothing. -/
def shl (k : IntKind) (x y : Int) : Int := k.wrap (x * 2 ^ min y.toNat k.bits)
/-- A shift to the right: a count beyond the width leaves the sign. -/
def shr (k : IntKind) (x y : Int) : Int := x / 2 ^ min y.toNat k.bits
theorem shl_small {k : IntKind} {x y j : Int} (h : shl k x y = j) (hy : y ≤ k.bits) : k.wrap (x * 2 ^ y.toNat) = j := by rw [← h]; unfold shl; rw [Nat.min_eq_left (by omega)]
theorem shr_small {k : IntKind} {x y j : Int} (h : shr k x y = j) (hy : y ≤ k.bits) : x / 2 ^ y.toNat = j := by rw [← h]; unfold shr; rw [Nat.min_eq_left (by omega)]
/-- It says x = x, and that is its use: 'rw [drewN_self w]' fails where the world was not drawn, and the row behind it is skipped. -/
theorem drewN_self (w : World) (n : Nat) : w.drewN n = w.drewN n := rfl
theorem cell_unalloc {W : World} {o : Obj} {a : Addr} {v : Value} (h : (W.alloc o).cell? a = some v) (hlt : a.block < W.heap.size) : W.cell? a = some v := (World.cell?_alloc_lt _ _ _ hlt).symm.trans h
/-- A cell of a block that an event leaves alone. -/
theorem cell_grown {W w1 : World} {row : Option Nat} (hg : W.grownBy w1 row) {a : Addr} {v : Value} (h : W.cell? a = some v) (hne : some a.block ≠ row) : w1.cell? a = some v := by
  have := hg.block a.block (World.block_lt_of_cell? W a h) hne
  simpa [World.cell?, this] using h
namespace Kd
section
variable {α : Type} {d : Kd α} {e base : Nat} {ok : Nat → Prop} {W w1 : World} {v : Value} {xs : List α}
end
section
variable {α : Type} {d : Kd α} {e base g n cap : Nat} {ok oki okp : Nat → Prop} {W : World} {xs : List α} {i : Int} {c : List Value}
end
section
variable {α : Type} {d : Kd α} {e base b b' g N : Nat} {ok ok1 : Nat → Prop} {W W2 w1 : World} {u v : Value} {xs ys : List α} {S : Nat → Prop}
theorem Q_tight (hE : d.E = []) (h : d.Q e W base ok v xs) : d.Q e W base (fun k => some k = v.ownBlock) v xs := by
  obtain ⟨h0, inner, ho, hr⟩ := h
  refine ⟨fun k hk => hk.symm, inner, ho, hr.imp_ (fun p c hp => d.M_mono (fun k hk => ?_) (d.M_bound hp))⟩
  obtain ⟨_, _, _, q, hq, _⟩ := hk
  rw [hE] at hq
  cases hq
theorem Q_ok (h : d.Q e W base ok v xs) : ∀ k, v.ownBlock = some k → ok k := h.1
theorem Q_grown1 (h : d.Q e W base ok v xs) (hE : d.E = []) {row : Option Nat} (hg : W.grownBy w1 row) (hne : row ≠ v.ownBlock) : d.Q e w1 base ok v xs :=
  Q_mono (Q_grown (Q_tight hE h) hg (fun _ hk e_ => hne (e_.symm.trans hk))) (fun k hk => h.1 k hk.symm)
theorem Q_grown2 (h : d.Q e W base ok v xs) (hE : d.E = []) {row : Option Nat} (hg : W.grownBy w1 row) (hne : ∀ k, row = some k → some k ≠ v.ownBlock) : d.Q e w1 base ok v xs :=
  Q_mono (Q_grown (Q_tight hE h) hg (fun k hk e_ => hne k e_.symm hk)) (fun k hk => h.1 k hk.symm)
theorem Q_far1 (h : d.Q e W base ok v xs) (hE : d.E = []) {g : Nat} (hne : some g ≠ v.ownBlock) : d.Q e W base (fun k => ok k ∧ k ≠ g) v xs :=
  Q_mono (Q_tight hE h) (fun k hk => ⟨h.1 k hk.symm, fun e_ => hne (by rw [← e_]; exact hk)⟩)
theorem own_raise {n size : Nat} {cs : List Value} (h : W.ownsRow b e size v n cs) (hb : ∀ k, v.ownBlock = some k → b' ≤ k) : W.ownsRow b' e size v n cs := by
  obtain ⟨h1, h2⟩ := h
  refine ⟨h1, ?_⟩
  rcases h2 with h2 | ⟨g, cap, cur, rfl, _, r⟩
  · exact .inl h2
  · exact .inr ⟨g, cap, cur, rfl, hb g (by simp [Value.ownBlock]), r⟩
/-- A row whose elements lead to nothing, and whose block is younger than was told. -/
theorem R_raise (hM : ∀ w ok x cs, d.M w b ok x cs → d.M w b' ok x cs) (h : d.R e W b ok v xs) (hb : ∀ k, v.ownBlock = some k → b' ≤ k) : d.R e W b' ok v xs := by
  obtain ⟨h0, inner, ho, hr⟩ := h
  exact ⟨h0, inner, own_raise ho hb, hr.imp_ (fun _ _ hp => hM _ _ _ _ hp)⟩
theorem Q_old (hu : d.Q e W base ok u xs) (hb : Below W.heap.size W w1) : d.Q e w1 base (fun k => ok k ∧ k < W.heap.size) u xs := Q_mono (Q_below (Q_bound hu) hb) (fun _ h => ⟨h.1, h.2.2.1⟩)
theorem Q_oldK (hu : d.Q e W base (fun k => ok k ∧ k ≠ g) u xs) (hk : KeepBut W w1 g none) : d.Q e w1 base (fun k => ok k ∧ k < W.heap.size) u xs := Q_mono (Q_keep (Q_bound hu) hk (fun _ h => h.1.2)) (fun _ h => ⟨h.1.1, h.2.2.1⟩)
theorem Q_apart_nil (h : d.Q e W base ok u xs) : d.Q e W base (fun k => ok k ∧ some k ≠ (Value.slice none 0 0).ownBlock) u xs := Q_mono h (fun k hk => ⟨hk, by simp [Value.ownBlock]⟩)
theorem Q_told (h : d.Q e w1 base (fun k => ok k ∧ k < N) u xs) (hbase : ∀ k, v.ownBlock = some k → N ≤ k) : d.Q e w1 base (fun k => (ok k ∧ some k ≠ v.ownBlock) ∧ k < N) u xs :=
  Q_mono h (fun k hk => ⟨⟨hk.1, fun e => Nat.lt_irrefl _ (Nat.lt_of_lt_of_le hk.2 (hbase k e.symm))⟩, hk.2⟩)
end
end Kd
end Go.Proofs.YtcaaggfobdfgpaaDoorW.PrintWords
namespace Go.Proofs.YtcaaggfobdfgpaaDoorW.PrintWords
open Go.RowKit
namespace Kd
section
variable {α β : Type} {d : Kd α} {e base base' n m c g N' lo hi : Nat} {ok ok' S : Nat → Prop} {w W w1 : World} {A : Option Addr} {ad : Addr} {u v v1 : Value} {xs : List α}
theorem foot_int {k : IntKind} {l : List Int} (h : (Kd.int k).C w (some ad) n l) (i : Int) (h0 : 0 ≤ i) (h1 : i < n) : w.cell? (ad.add i.toNat) = some (.int k (rd l i)) := by
  obtain ⟨ad', he, hc⟩ := at_int h i h0 h1
  injection he with he
  subst he
  exact hc
theorem foot_bool {l : List Bool} (h : Kd.bool.C w (some ad) n l) (i : Int) (h0 : 0 ≤ i) (h1 : i < n) : w.cell? (ad.add i.toNat) = some (.bool (rdOf false l i)) := by
  obtain ⟨ad', he, hc⟩ := at_bool h i h0 h1
  injection he with he
  subst he
  exact hc
theorem foot_string {l : List ByteArray} (h : Kd.string.C w (some ad) n l) (i : Int) (h0 : 0 ≤ i) (h1 : i < n) : w.cell? (ad.add i.toNat) = some (.string (rdOf ByteArray.empty l i)) := by
  obtain ⟨ad', he, hc⟩ := at_string h i h0 h1
  injection he with he
  subst he
  exact hc
theorem R_newM {M : Nat → Prop} (h : d.R e w1 W.heap.size ok v xs) (hle : w.heap.size ≤ W.heap.size) (hM : ∀ k, w.heap.size ≤ k → M k) : d.R e w1 W.heap.size (fun k => M k ∧ ok k) v xs := R_mono (R_bound h) (fun k hk => ⟨hM k (Nat.le_trans hle hk.2.1), hk.1⟩)
theorem Q_newM {M : Nat → Prop} (h : d.Q e w1 W.heap.size ok v xs) (hle : w.heap.size ≤ W.heap.size) (hM : ∀ k, w.heap.size ≤ k → M k) : d.Q e w1 W.heap.size (fun k => M k ∧ ok k) v xs := Q_mono (Q_bound h) (fun k hk => ⟨hM k (Nat.le_trans hle hk.2.1), hk.1⟩)
end
end Kd
end Go.Proofs.YtcaaggfobdfgpaaDoorW.PrintWords

/-! ### 54. Behind orders that were drawn quietly: the same facts at the world's new name; a flat row's foot -/
namespace Go.Proofs.YtcaaggfobdfgpaaDoorW.PrintWords
open Go.RowKit
section
variable {w w' u : World} {m B g : Nat} {o : Obj} {row : Option Nat} {S : Nat → Prop} {a : Addr} {v : Value}
theorem below_at (hq : w.drewN m = w') (h : Below B u w) : Below B u w' := by subst hq; exact pw_below_drewN h m
theorem keep_at (hq : w.drewN m = w') (h : KeepBut u w g row) : KeepBut u w' g row := by subst hq; exact keep_drewN h m
theorem moved_at (hq : w.drewN m = w') (h : u.heap.size ≤ w.heap.size) : u.heap.size ≤ w'.heap.size := by subst hq; exact h
theorem blk_at (hq : w.drewN m = w') (h : w.heap[g]? = some o) : w'.heap[g]? = some o := by subst hq; exact h
theorem cell_at (hq : w.drewN m = w') (h : w.cell? a = some v) : w'.cell? a = some v := by subst hq; exact h
end
namespace Kd
section
variable {α : Type} {d : Kd α} {e base n m : Nat} {ok : Nat → Prop} {w w' : World} {v : Value} {A : Option Addr} {xs : List α}
theorem R_at (hq : w.drewN m = w') (h : d.R e w base ok v xs) : d.R e w' base ok v xs := by subst hq; exact R_drewN h m
theorem Q_at (hq : w.drewN m = w') (h : d.Q e w base ok v xs) : d.Q e w' base ok v xs := by subst hq; exact Q_drewN h m
theorem C_at (hq : w.drewN m = w') (h : d.C w A n xs) : d.C w' A n xs := by subst hq; exact C_drewN h m
/-- A flat row (its elements are told by no world) that lies elsewhere than the state's block stays read whatever happens to that block. hd: 'fun h => h' for whole numbers, bools, strings and structs of such. -/
theorem C_foot_ne {g : Nat} (hd : ∀ {W W' : World} {x : α} {cs : List Value}, d.K W x cs → d.K W' x cs) (h : d.C w A n xs) (hf : ∀ ad, A = some ad → 0 < n → ad.block ≠ g) : ∀ W', KeepBut w W' g none → d.C W' A n xs := by
  intro W' hk
  refine ⟨h.1, h.2.1, fun hn => ?_⟩
  obtain ⟨ad, he, hc⟩ := h.2.2 hn
  refine ⟨ad, he, fun j p hj => ?_⟩
  obtain ⟨cs, h1, h2, h3⟩ := hc j p hj
  exact ⟨cs, h1, hd h2, fun i u hu => keep_cell hk (h3 i u hu) (by rw [add_block]; exact hf ad he hn)⟩
end
end Kd
end Go.Proofs.YtcaaggfobdfgpaaDoorW.PrintWords
