/- What the printed texts of package code are given: a string appended in a region that draws, scroll.Right, the reader's state (the rest of its bytes is a part of it), reader.take. -/
import Derived.Test.YtgbhejkgnfkfgaaProg
import Derived.Below
import Derived.Deep.Draws
import Derived.Deep.AppendLies
import Derived.Maps.AppendAt
import Derived.OwnWalk
import Derived.Laws.BytesArg
import Derived.Laws.MakeOwn
import Derived.Laws.OwnMore
import Derived.Deep.OwnRows
import Derived.Tactics
import Derived.Lib.ConvBytes
import Derived.Laws.Slices
import Derived.WalkKit
import Derived.KernelRfl
import Derived.RowKit3
import Derived.Deep.LoopGhost
import Derived.Deep.QuietTactic
import Derived.BigQuiet
import Derived.WideLaws
import Derived.Deep.DeepCutAuto
import Derived.Deep.CutBlock
import Derived.Deep.RegionHeld3
import Derived.Laws.Rows
import Derived.Lib.AppendStr
import Derived.ArgAppend
import Derived.Laws.IdiomCopy
import Derived.OrdersHeld
import Derived.Laws.BitsLemmas
import Derived.RowKit
import Derived.Test.YtgbhejkgnfkfgaaWWords
import Derived.Test.YtgbhejkgnfkfgaaWLast
import Derived.Test.YtgbhejkgnfkfgaaWTab
import Derived.Test.YtgbhejkgnfkfgaaWFour
import Derived.Test.YtgbhejkgnfkfgaaWQPut
import Derived.Test.YtgbhejkgnfkfgaaWApart
import Derived.Test.YtgbhejkgnfkfgaaWArr
import Derived.Test.YtgbhejkgnfkfgaaWZeros
import Derived.Test.YtgbhejkgnfkfgaaWFoot
import Derived.Test.YtgbhejkgnfkfgaaWKept
import Derived.Test.YtgbhejkgnfkfgaaWShare
import Derived.Test.YtgbhejkgnfkfgaaWN
import Derived.Test.YtgbhejkgnfkfgaaWFootNe
import Derived.Test.YtgbhejkgnfkfgaaWAt
import Derived.Test.YtgbhejkgnfkfgaaWEqStruct
import Derived.Test.YtgbhejkgnfkfgaaWRepsOne
import Derived.Test.YtgbhejkgnfkfgaaWInv
import Derived.Test.YtgbhejkgnfkfgaaWInvWords
import Derived.Test.YtgbhejkgnfkfgaaWGuard
import Derived.Test.YtgbhejkgnfkfgaaWNEv
import Derived.Test.YtgbhejkgnfkfgaaWMore
import Derived.Test.YtgbhejkgnfkfgaaWLast
import Derived.Test.YtgbhejkgnfkfgaaWWords
import Derived.Test.YtgbhejkgnfkfgaaScroll1
import Derived.Test.YtgbhejkgnfkfgaaSl
import Derived.Lib.AppendStr
import Derived.OwnWalk
import Derived.BigQuiet
import Derived.Deep.QuietTactic
set_option linter.unusedVariables false
set_option linter.unusedSimpArgs false
namespace Go.Proofs.Ytgbhejkgnfkfgaa.Given
open Go.RowKit Go.Proofs.YtgbhejkgnfkfgaaW.PrintWords Go.Proofs.YtgbhejkgnfkfgaaW.PrintLast Go.Proofs.YtgbhejkgnfkfgaaW.PrintMore Go.Proofs.Ytgbhejkgnfkfgaa.Sl

section
variable {P : Program} {ops : Array Oper} {o : Oper} {a : Act} {Q : Exit → Act → World → Prop} {K : Act → World → Prop}
theorem append_str_step {w0 W : World} (base : Nat) (hw : Region.wanted o (yielded ops a.tmps) = true) (s x : Operand) (t u e : TypeId)
    (ho : o.op = .call { callee := .builtin .append, args := #[s, x], argTypes := #[t, u] })
    (ht : P.underlying t = some (.slice e)) (hu : P.underlying u = some .string) (hinfo : (P.info? e).map (fun i => (i.zero, i.size, i.bytes)) = some (some (.int .u8 0), 1, 1))
    (v : Value) (xs : List Int) (y : ByteArray) (hs : a.eval s = v) (hx : a.eval x = .string y)
    (HO : W.ownsRow base e 1 v xs.length (nums .u8 xs)) (HB : Below base w0 W) (hbase : base ≤ W.heap.size) (hl : xs.length + y.size ≤ 140737488355328)
    (h : ∀ v1 w1, w1.ownsRow base e 1 v1 (xs ++ bytesOf y).length (nums .u8 (xs ++ bytesOf y)) → Below base w0 w1 → W.grownBy w1 v.ownBlock → K (a.put o.dst v1) w1) :
    if Region.wanted o (yielded ops a.tmps) = true then Oper.wp P o a W K Q else K (a.put o.dst undef) W := by
  obtain ⟨i0, hi, hzz⟩ := Option.map_eq_some_iff.1 hinfo
  simp only [Prod.mk.injEq] at hzz
  obtain ⟨hz0, hz1, hz2⟩ := hzz
  rw [if_pos hw]
  obtain ⟨v', w', hr, h2, h3, h4⟩ := Lib.run_append_own_string (P := P) W base t u o.type e i0 ht hu hi hz0 hz1 hz2 v xs.length (nums .u8 xs) HO y (by simp only [maxLen]; omega) hl hbase
  unfold Oper.wp execOp
  simp only [ho, resolve, invoke, builtin, Sem.run_bind, Sem.run_pure, Result.andThen_ok, List.map_toArray, List.map_cons, List.map_nil, hs, hx, hr]
  have hl2 : (xs ++ bytesOf y).length = xs.length + y.size := by rw [List.length_append, bytesOf_length]
  have hc : nums .u8 (xs ++ bytesOf y) = nums .u8 xs ++ Lib.strCells y := by
    rw [nums_append]
    congr 1
    simp [nums, bytesOf, Lib.strCells]
  exact h v' w' (by rw [hl2, hc]; exact h2) (HB.grown h3 hbase (own_base HO)) h3
end
def scroll_Right.f (a0 : Int) : Option Bool := if 0 ≤ a0 ∧ a0 < 18446744073709551616 then some (decide (Fl.cl a0.toNat = a0.toNat)) else none
theorem scroll_Right.calls (a0 : Int) (r : Bool) (w : World) (h : scroll_Right.f a0 = some r) : Calls Try.prog 26 #[.int .u64 a0] w fun e w' => e = .returned (.bool r) ∧ Drawn0 w w' := by
  unfold scroll_Right.f at h
  split at h
  · rename_i hr
    obtain rfl := Option.some.inj h
    obtain ⟨n, rfl⟩ : ∃ n : Nat, a0 = (n : Int) := ⟨a0.toNat, by omega⟩
    have hn : n < 18446744073709551616 := by omega
    have hc := Fl.Clean_any n hn w
    have he : ((Fl.cl n : Int) == (n : Int)) = decide (Fl.cl n = n) := by
      by_cases e : Fl.cl n = n
      · simp [e]
      · have : ¬ (Fl.cl n : Int) = (n : Int) := by omega
        simp [e, this]
    rw [Int.toNat_natCast]
    clear h hr
    go_enter Try.func26, Try.ntmps26
    go_wp2_with fail
    refine hc.mono ?_
    rintro e w1 ⟨rfl, rfl⟩
    go_wp2_with fail
    go_ret
    exact ⟨by first | rfl | rw [he], Drawn0.refl _⟩
  · cases h
/-- The reader's state: what is left, and is it bad. -/
abbrev RSt := List Int × Bool
/-- A state of type 51 at block g of W; what its slices lead to came in by w0. -/
def IsS51 (w0 W : World) (g : Nat) (f0 : List Int) (f1 : RSt) : Prop := ∃ A0 c0, W.heap[g]? = some (.cells #[.slice A0 f1.1.length c0, .bool f1.2] 51 (0, 0)) ∧ w0.heap.size ≤ g ∧ (Kd.C (Kd.int .u8) w0 A0 f1.1.length f1.1 ∧ f1.1.length ≤ c0)
theorem IsS51.grown {w0 W : World} {g : Nat} {f0 : List Int} {f1 : RSt} {W1 : World} {row : Option Nat} (h : IsS51 w0 W g f0 f1) (hw : W.grownBy W1 row) (hne : some g ≠ row) : IsS51 w0 W1 g f0 f1 := by
  obtain ⟨A0, c0, hb, hg, hr0⟩ := h
  exact ⟨A0, c0, blk_grown hb hw hne, hg, hr0⟩
theorem IsS51.own_neN {w0 W : World} {g : Nat} {f0 : List Int} {f1 : RSt} {α : Type} {d : Kd α} {e : Nat} {base : Nat} {ok : Nat → Prop} {v : Value} {xs : List α} (h : IsS51 w0 W g f0 f1) (ho : Kd.N d e W base ok v xs) (ht : e ≠ 51) : some g ≠ v.ownBlock := by
  obtain ⟨A0, c0, hb, hg, hr0⟩ := h
  exact Kd.N_ne ho hb ht
theorem IsS51.fresh {w0 W : World} {g : Nat} {f0 : List Int} {f1 : RSt} (h : IsS51 w0 W g f0 f1) : ∀ k, W.heap.size ≤ k → k ≠ g := by
  obtain ⟨A0, c0, hb, hg, hr0⟩ := h
  exact Kd.freshB hb
theorem IsS51.kept {w0 W : World} {g : Nat} {f0 : List Int} {f1 : RSt} {W1 : World} {S : Nat → Prop} (h : IsS51 w0 W g f0 f1) (hk : Kept W W1 S) (hne : ¬ S g) : IsS51 w0 W1 g f0 f1 := by
  obtain ⟨A0, c0, hb, hg, hr0⟩ := h
  exact ⟨A0, c0, blk_kept hb hk hne, hg, hr0⟩
theorem IsS51.below {w0 W : World} {g : Nat} {f0 : List Int} {f1 : RSt} {W1 : World} (h : IsS51 w0 W g f0 f1) (hw : Below W.heap.size W W1) : IsS51 w0 W1 g f0 f1 := h.grown (grown_of_below hw none) (by simp)
theorem IsS51.alloc {w0 W : World} {g : Nat} {f0 : List Int} {f1 : RSt} (h : IsS51 w0 W g f0 f1) (o : Obj) : IsS51 w0 (W.alloc o) g f0 f1 := h.below (below_alloc (Below.refl _ _) o)
theorem IsS51.drewN {w0 W : World} {g : Nat} {f0 : List Int} {f1 : RSt} (h : IsS51 w0 W g f0 f1) (m : Nat) : IsS51 w0 (W.drewN m) g f0 f1 := h
theorem IsS51.drew {w0 W : World} {g : Nat} {f0 : List Int} {f1 : RSt} (h : IsS51 w0 W g f0 f1) : IsS51 w0 W.drew g f0 f1 := h
theorem IsS51.at_ {w0 W : World} {g : Nat} {f0 : List Int} {f1 : RSt} {w' : World} {m : Nat} (hq : W.drewN m = w') (h : IsS51 w0 W g f0 f1) : IsS51 w0 w' g f0 f1 := by subst hq; exact IsS51.drewN h m
theorem IsS51.apart {w0 W : World} {g : Nat} {f0 : List Int} {f1 : RSt} {α : Type} {d : Kd α} {e : Nat} {base : Nat} {ok : Nat → Prop} {v : Value} {xs : List α} (h : IsS51 w0 W g f0 f1) (ho : d.R e W base ok v xs) (ht : ∀ q, q ∈ e :: d.E → q ≠ 51) : d.R e W base (fun k => ok k ∧ k ≠ g) v xs := by
  obtain ⟨A0, c0, hb, hg, hr0⟩ := h
  exact Kd.R_types ho hb ht
theorem IsS51.own_ne {w0 W : World} {g : Nat} {f0 : List Int} {f1 : RSt} {α : Type} {d : Kd α} {e : Nat} {base : Nat} {ok : Nat → Prop} {v : Value} {xs : List α} (h : IsS51 w0 W g f0 f1) (ho : d.R e W base ok v xs) (ht : e ≠ 51) : some g ≠ v.ownBlock := by
  obtain ⟨A0, c0, hb, hg, hr0⟩ := h
  exact Kd.R_ne ho hb ht
theorem IsS51.apartQ {w0 W : World} {g : Nat} {f0 : List Int} {f1 : RSt} {α : Type} {d : Kd α} {e : Nat} {base : Nat} {ok : Nat → Prop} {v : Value} {xs : List α} (h : IsS51 w0 W g f0 f1) (ho : d.Q e W base ok v xs) (ht : ∀ q, q ∈ e :: d.E → q ≠ 51) : d.Q e W base (fun k => ok k ∧ k ≠ g) v xs := by
  obtain ⟨A0, c0, hb, hg, hr0⟩ := h
  exact Kd.Q_types ho hb ht
theorem IsS51.own_neQ {w0 W : World} {g : Nat} {f0 : List Int} {f1 : RSt} {α : Type} {d : Kd α} {e : Nat} {base : Nat} {ok : Nat → Prop} {v : Value} {xs : List α} (h : IsS51 w0 W g f0 f1) (ho : d.Q e W base ok v xs) (ht : e ≠ 51) : some g ≠ v.ownBlock := by
  obtain ⟨A0, c0, hb, hg, hr0⟩ := h
  exact Kd.Q_ne ho hb ht
theorem IsS51.apartS {w0 W : World} {g : Nat} {f0 : List Int} {f1 : RSt} {α : Type} {d : Kd α} {e : Nat} {base : Nat} {ok : Nat → Prop} {v : Value} {xs : List α} (h : IsS51 w0 W g f0 f1) (ho : d.S e W base ok v xs) (ht : ∀ q, q ∈ e :: d.E → q ≠ 51) : d.S e W base (fun k => ok k ∧ k ≠ g) v xs := by
  obtain ⟨A0, c0, hb, hg, hr0⟩ := h
  exact Kd.S_types ho hb ht
theorem IsS51.own_neS {w0 W : World} {g : Nat} {f0 : List Int} {f1 : RSt} {α : Type} {d : Kd α} {e : Nat} {base : Nat} {ok : Nat → Prop} {v : Value} {xs : List α} (h : IsS51 w0 W g f0 f1) (ho : d.S e W base ok v xs) (ht : e ≠ 51) : some g ≠ v.ownBlock := by
  obtain ⟨A0, c0, hb, hg, hr0⟩ := h
  exact Kd.S_ne ho hb ht
theorem IsS51.lt {w0 W : World} {g : Nat} {f0 : List Int} {f1 : RSt} (h : IsS51 w0 W g f0 f1) : g < W.heap.size := by
  obtain ⟨A0, c0, hb, hg, hr0⟩ := h
  exact blk_lt hb
theorem IsS51.ge {w0 W : World} {g : Nat} {f0 : List Int} {f1 : RSt} (h : IsS51 w0 W g f0 f1) : w0.heap.size ≤ g := by
  obtain ⟨A0, c0, hb, hg, hr0⟩ := h
  exact hg
theorem IsS51.ne_blk {w0 W : World} {g : Nat} {f0 : List Int} {f1 : RSt} {a : Nat} {cs : Array Value} {t : TypeId} {fr : Nat × Nat} (h : IsS51 w0 W g f0 f1) (hb2 : W.heap[a]? = some (.cells cs t fr)) (ht : t ≠ 51) : g ≠ a := by
  obtain ⟨A0, c0, hb, hg, hr0⟩ := h
  rintro rfl
  rw [hb] at hb2
  injection hb2 with hb2
  injection hb2 with _ ht2
  exact ht ht2.symm
theorem IsS51.far {w0 W : World} {g : Nat} {f0 : List Int} {f1 : RSt} {p : Addr} (h : IsS51 w0 W g f0 f1) (hne : g ≠ p.block) (u : Value) : IsS51 w0 (W.setCell p u) g f0 f1 := by
  obtain ⟨A0, c0, hb, hg, hr0⟩ := h
  exact ⟨A0, c0, blk_far hb hne u, hg, hr0⟩
theorem cellS51_0 {W : World} {g : Nat} {A0 : Option Addr} {c0 : Nat} {f1 : RSt} (h : W.heap[g]? = some (.cells #[.slice A0 f1.1.length c0, .bool f1.2] 51 (0, 0))) : W.cell? ⟨g, 0, none⟩ = some (.slice A0 f1.1.length c0) := (blk_cell h 0).trans rfl
theorem cellS51_1 {W : World} {g : Nat} {A0 : Option Addr} {c0 : Nat} {f1 : RSt} (h : W.heap[g]? = some (.cells #[.slice A0 f1.1.length c0, .bool f1.2] 51 (0, 0))) : W.cell? ⟨g, 1, none⟩ = some (.bool f1.2) := (blk_cell h 1).trans rfl
theorem IsS51.set_1 {w0 W : World} {g : Nat} {f0 : List Int} {f1 : RSt} (h : IsS51 w0 W g f0 f1) (x : Bool) : IsS51 w0 (W.setCell ⟨g, 1, none⟩ (.bool x)) g f0 (f1.1, x) := by
  obtain ⟨A0, c0, hb, hg, hr0⟩ := h
  exact ⟨A0, c0, by simpa using blk_set hb 1 (.bool x), hg, hr0⟩
theorem IsS51.new (w0 W : World) (A0 : Option Addr) (c0 : Nat) (f0 : List Int) (f1 : RSt) (hB : Below w0.heap.size w0 W) (hr0 : (Kd.C (Kd.int .u8) w0 A0 f1.1.length f1.1 ∧ f1.1.length ≤ c0)) : IsS51 w0 (W.alloc (.cells #[.slice A0 f1.1.length c0, .bool f1.2] 51)) W.heap.size f0 f1 := ⟨A0, c0, by simpa using heap_alloc_new W _, hB.size, hr0⟩

/-- A row of bytes that is read, whosever it is. -/
def VR (w : World) (v : Value) (xs : List Int) : Prop := ∃ A c, v = .slice A xs.length c ∧ xs.length ≤ c ∧ Kd.C (Kd.int .u8) w A xs.length xs
theorem VR.below {w w' : World} {v : Value} {xs : List Int} (h : VR w v xs) (hB : Below w.heap.size w w') : VR w' v xs := by
  obtain ⟨A, c, e, h1, h2⟩ := h
  exact ⟨A, c, e, h1, Kd.C_below h2 hB⟩
theorem VR.alloc {w : World} {v : Value} {xs : List Int} (h : VR w v xs) (o : Obj) : VR (w.alloc o) v xs := h.below ((Below.refl _ _).alloc (Nat.le_refl _) o)
theorem VR.drewN {w : World} {v : Value} {xs : List Int} (h : VR w v xs) (n : Nat) : VR (w.drewN n) v xs := h.below (pw_below_drewN (Below.refl _ _) n)
theorem VR.drew {w : World} {v : Value} {xs : List Int} (h : VR w v xs) : VR w.drew v xs := h.below (pw_below_drewN (Below.refl _ _) 1)
theorem VR.slice {w : World} {v : Value} {xs : List Int} (h : VR w v xs) : ∃ A c, v = .slice A xs.length c := by
  obtain ⟨A, c, e, _⟩ := h
  exact ⟨A, c, e⟩
theorem VR.reads {w : World} {A : Option Addr} {n c : Nat} {xs : List Int} (h : VR w (.slice A n c) xs) : n = xs.length ∧ n ≤ c ∧ Kd.C (Kd.int .u8) w A xs.length xs := by
  obtain ⟨A', c', e, h1, h2⟩ := h
  injection e with e1 e2 e3
  subst e1
  exact ⟨e2, by omega, h2⟩
theorem VR.string {w : World} {v : Value} {xs : List Int} (h : VR w v xs) : (convert 30 9 v).run Try.prog w = .ok (.string (strOfNums xs)) w := by
  obtain ⟨A, c, rfl, _, h2⟩ := h
  exact Kd.C_string Try.underlying30 Try.underlying5 Try.underlying9 h2
def reader_take.f (s0 : List Int) (s : RSt) (a : Int) : Option (List Int × RSt) :=
  if a < 0 ∨ 100000 < a then none else if s.2 = true ∨ (s.1.length : Int) < a then some (List.replicate a.toNat 0, (s.1, true)) else some (s.1.take a.toNat, (s.1.drop a.toNat, false))
theorem C_take {w : World} {A : Option Addr} {n m : Nat} {l : List Int} (h : Kd.C (Kd.int .u8) w A n l) (hm : m ≤ l.length) : Kd.C (Kd.int .u8) w A (l.take m).length (l.take m) := by
  obtain ⟨h1, h2, h3⟩ := h
  have h1 : l.length = n := h1
  refine ⟨rfl, by rw [List.length_take]; omega, fun h0 => ?_⟩
  rw [List.length_take] at h0
  obtain ⟨ad, e, h4⟩ := h3 (by omega)
  refine ⟨ad, e, fun j p hj => h4 j p ?_⟩
  have hj2 : j < m := by
    have := (List.getElem?_eq_some_iff.1 hj).1
    rw [List.length_take] at this
    omega
  rwa [List.getElem?_take_of_lt hj2] at hj
theorem addr_add (ad : Addr) (i j : Nat) : (ad.add i).add j = ad.add (i + j) := by
  obtain ⟨b, o, sp⟩ := ad
  unfold Addr.add
  by_cases h1 : i = 0 <;> by_cases h2 : j = 0 <;> simp [h1, h2, Nat.add_assoc] <;> omega
theorem C_drop {w : World} {ad : Addr} {n m : Nat} {l : List Int} (h : Kd.C (Kd.int .u8) w (some ad) n l) (hm : m ≤ l.length) : Kd.C (Kd.int .u8) w (some (ad.add m)) (l.drop m).length (l.drop m) := by
  obtain ⟨h1, h2, h3⟩ := h
  have h1 : l.length = n := h1
  refine ⟨rfl, by rw [List.length_drop]; omega, fun h0 => ?_⟩
  rw [List.length_drop] at h0
  obtain ⟨ad', e, h4⟩ := h3 (by omega)
  cases e
  refine ⟨_, rfl, fun j p hj => ?_⟩
  rw [List.getElem?_drop] at hj
  obtain ⟨cs, hK, hl, hc⟩ := h4 (m + j) p hj
  refine ⟨cs, hK, hl, fun i u hu => ?_⟩
  have := hc i u hu
  rw [addr_add]
  have e : m + (j * (Kd.int .u8).sz + i) = (m + j) * (Kd.int .u8).sz + i := by show m + (j * 1 + i) = (m + j) * 1 + i; omega
  rw [e]
  exact this
theorem infoU8 : (Try.prog.info? 5).map (fun i => (i.zero, i.size, i.bytes)) = some (some (.int .u8 0), 1, 1) := by kernel_rfl
def zrow (n : Nat) : Array Value := ((List.replicate n (0 : Int)).map (Value.int .u8 ·)).toArray
theorem made_bytes (n : Nat) : madeCells #[.int .u8 0] n = zrow n := by
  apply Array.toList_inj.1
  rw [toList_madeCells_one]
  simp [zrow]
theorem make_zs (n : Nat) (hl : n ≤ 100000) (W : World) : (Instr.makeSlice 30 (.int .i64 (n : Int)) (.int .i64 (n : Int))).run Try.prog W = .ok (.slice (some ⟨W.heap.size, 0, none⟩) n n) (W.alloc (.cells (zrow n) 5)) := by
  obtain ⟨i0, hi, hzz⟩ := Option.map_eq_some_iff.1 infoU8
  simp only [Prod.mk.injEq] at hzz
  obtain ⟨hz0, hz1, hz2⟩ := hzz
  have := run_make (P := Try.prog) W 30 5 i0 _ Try.underlying30 hi hz0 .i64 .i64 (n : Int) (n : Int) (by omega) (by omega) (by rw [hz2]; omega) (by omega)
  rw [hz1, Nat.mul_one, Int.toNat_natCast] at this
  rw [← made_bytes]
  exact this
theorem vr_zs (w : World) (n : Nat) (hl : n ≤ 100000) : VR (w.alloc (.cells (zrow n) 5)) (.slice (some ⟨w.heap.size, 0, none⟩) n n) (List.replicate n 0) := by
  have hlen : (List.replicate n (0 : Int)).length = n := by simp
  refine ⟨some ⟨w.heap.size, 0, none⟩, n, by rw [hlen], by rw [hlen]; exact Nat.le_refl _, rfl, by rw [hlen]; omega, fun h0 => ⟨_, rfl, fun j p hj => ⟨[.int .u8 p], rfl, rfl, fun i u hu => ?_⟩⟩⟩
  have hi : i = 0 := by
    rcases i with _ | i
    · rfl
    · simp at hu
  subst hi
  cases hu
  have hj2 := (List.getElem?_eq_some_iff.1 hj).1
  rw [hlen] at hj2
  have hp : p = 0 := by
    have := (List.getElem?_eq_some_iff.1 hj).2
    simpa using this.symm
  subst hp
  have hc := heap_alloc_new w (.cells (zrow n) 5)
  have ha : (⟨w.heap.size, 0, none⟩ : Addr).add (j * (Kd.int .u8).sz + 0) = ⟨w.heap.size, j, none⟩ := by
    show (⟨w.heap.size, 0, none⟩ : Addr).add (j * 1 + 0) = _
    unfold Addr.add
    split <;> simp_all
  rw [ha]
  simp only [World.cell?, hc]
  simp [zrow, hj2]
theorem take_short {w0 w : World} {g : Nat} {s0 l : List Int} {bad : Bool} {A0 : Option Addr} {c0 : Nat} (H : IsS51 w0 w g s0 (l, bad) ∧ Below w0.heap.size w0 w ∧ w0.heap.size ≤ g ∧ w.heap[g]? = some (.cells #[.slice A0 l.length c0, .bool bad] 51 (0, 0))) (n : Nat) (hn : n ≤ 100000) :
    ∃ v, Ending.returned (.slice (some ⟨w.heap.size, 0, none⟩) n n) = .returned v ∧ VR ((w.setCell ⟨g, 1, none⟩ (.bool true)).alloc (.cells (zrow n) 5)) v (List.replicate n 0) ∧ IsS51 w0 ((w.setCell ⟨g, 1, none⟩ (.bool true)).alloc (.cells (zrow n) 5)) g s0 (l, true) ∧ Below w0.heap.size w0 ((w.setCell ⟨g, 1, none⟩ (.bool true)).alloc (.cells (zrow n) 5)) ∧ KeepBut w ((w.setCell ⟨g, 1, none⟩ (.bool true)).alloc (.cells (zrow n) 5)) g none := by
  obtain ⟨h1, h2, h3, h4⟩ := H
  have hsz : (w.setCell ⟨g, 1, none⟩ (.bool true)).heap.size = w.heap.size := by simp [World.setCell]
  have hv := vr_zs (w.setCell ⟨g, 1, none⟩ (.bool true)) n hn
  rw [hsz] at hv
  exact ⟨_, rfl, hv, (h1.set_1 true).alloc _, (h2.setCell h3 _).alloc (by rw [hsz]; exact h2.size) _, keep_alloc ((KeepBut.refl w g none).set_ 1 _) _⟩
set_option maxHeartbeats 4000000 in
set_option maxRecDepth 100000 in
theorem reader_take.calls (g : Nat) (s0 : List Int) (s : RSt) (a : Int) (r1 : List Int) (r2 : RSt) (w0 w : World) (hI : IsS51 w0 w g s0 s) (hB : Below w0.heap.size w0 w) (h : reader_take.f s0 s a = some (r1, r2)) :
    Calls Try.prog 20 #[.pointer (some ⟨g, 0, none⟩), .int .i64 a] w fun e w' => ∃ v : Value, e = .returned v ∧ VR w' v r1 ∧ IsS51 w0 w' g s0 r2 ∧ Below w0.heap.size w0 w' ∧ KeepBut w w' g none := by
  unfold reader_take.f at h
  split at h
  · cases h
  · rename_i ha
    obtain ⟨n, rfl⟩ : ∃ n : Nat, a = (n : Int) := ⟨a.toNat, by omega⟩
    rw [Int.toNat_natCast] at h
    have hn : n ≤ 100000 := by omega
    have hI0 := hI
    obtain ⟨A0, c0, hb, hg, hr0, hc0⟩ := hI
    obtain ⟨l, bad⟩ := s
    simp only at h hb hr0 hc0
    have y0 : w.cell? ⟨g, 0, none⟩ = some (.slice A0 l.length c0) := (blk_cell hb 0).trans rfl
    have y1 : w.cell? ⟨g, 1, none⟩ = some (.bool bad) := (blk_cell hb 1).trans rfl
    have z0 : w.frozen? ⟨g, 0, none⟩ = false := by simp [World.frozen?, hb]
    have z1 : w.frozen? ⟨g, 1, none⟩ = false := by simp [World.frozen?, hb]
    have n0 : (0 : Int) ≤ (n : Int) := by omega
    split at h
    · rename_i hshort
      obtain ⟨rfl, rfl⟩ : List.replicate n (0 : Int) = r1 ∧ (l, true) = r2 := by
        have := Option.some.inj h
        injection this with a b
        exact ⟨a, b⟩
      have hcond : (bad || decide ((l.length : Int) < (n : Int))) = true := by
        rcases hshort with h1 | h1
        · rw [h1]; rfl
        · rw [decide_eq_true h1]; simp
      obtain ⟨i0, hi, hzz⟩ := Option.map_eq_some_iff.1 infoU8
      simp only [Prod.mk.injEq] at hzz
      obtain ⟨hz0, hz1, hz2⟩ := hzz
      have hmk := make_zs n hn
      have H := Lib.hid (And.intro hI0 (And.intro hB (And.intro hg hb)))
      have hlt := blk_lt hb
      clear hI0 hB hr0 hc0 hg hb h ha hshort hi hz0 hz1 hz2
      cases bad with
      | true =>
        clear hcond
        go_enter Try.func20, Try.ntmps20
        go_wp2_with fail
        go_ret
        exact take_short H.out n hn
      | false =>
        have hs : (l.length : Int) < (n : Int) := by simpa using hcond
        clear hcond
        go_enter Try.func20, Try.ntmps20
        go_wp2_with fail
        go_ret
        exact take_short H.out n hn
    · rename_i hok
      obtain ⟨rfl, rfl⟩ : l.take n = r1 ∧ (l.drop n, false) = r2 := by
        have := Option.some.inj h
        injection this with a b
        exact ⟨a, b⟩
      have hbad : bad = false := by cases bad <;> simp_all
      have hnl : n ≤ l.length := by
        have : ¬ (l.length : Int) < (n : Int) := fun e => hok (.inr e)
        omega
      subst hbad
      have q1 : ¬ (l.length : Int) < (n : Int) := by omega
      have q2 : (n : Int) ≤ (l.length : Int) := by omega
      have q3 : (n : Int) ≤ (c0 : Int) := by omega
      have q4 : (l.length : Int) ≤ (c0 : Int) := by omega
      have H := Lib.hid (And.intro hI0 (And.intro hB (And.intro hr0 (And.intro hc0 (And.intro hg hb)))))
      clear hI0 hB hr0 hc0 hg hb h hok ha
      by_cases hcn : c0 = n
      · subst hcn
        go_enter Try.func20, Try.ntmps20
        go_wp2_with fail
        go_ret
        have hl : l.length = c0 := by omega
        refine ⟨_, rfl, ?_, ⟨A0, 0, ?_, H.out.2.2.2.2.1, ?_, ?_⟩, (H.out.2.1).setCell H.out.2.2.2.2.1 _, (KeepBut.refl w g none).set_ 0 _⟩
        · exact ⟨A0, c0, by rw [List.length_take, Nat.min_eq_left hnl]; rfl, by rw [List.length_take]; omega, C_take (Kd.C_below H.out.2.2.1 (H.out.2.1.setCell H.out.2.2.2.2.1 _)) hnl⟩
        · have := blk_set H.out.2.2.2.2.2 0 (.slice A0 (l.length - c0) 0)
          simpa using this
        · rw [List.drop_of_length_le (by omega)]
          exact ⟨rfl, by simp, fun h0 => absurd h0 (Nat.lt_irrefl 0)⟩
        · rw [List.length_drop]; omega
      · have hcn' : ((c0 : Int) == (n : Int)) = false := by simp; omega
        go_enter Try.func20, Try.ntmps20
        go_wp2_with fail
        go_ret
        refine ⟨_, rfl, ?_, ⟨A0.map (fun x => x.add n), c0 - n, ?_, H.out.2.2.2.2.1, ?_, ?_⟩, (H.out.2.1).setCell H.out.2.2.2.2.1 _, (KeepBut.refl w g none).set_ 0 _⟩
        · exact ⟨A0, c0, by rw [List.length_take, Nat.min_eq_left hnl]; rfl, by rw [List.length_take]; omega, C_take (Kd.C_below H.out.2.2.1 (H.out.2.1.setCell H.out.2.2.2.2.1 _)) hnl⟩
        · have := blk_set H.out.2.2.2.2.2 0 (.slice (A0.map (fun x => x.add n)) (l.length - n) (c0 - n))
          simpa using this
        · cases A0 with
          | none =>
            have h0 : l.length = 0 := by
              by_cases h0 : 0 < l.length
              · obtain ⟨ad, e, _⟩ := H.out.2.2.1.2.2 h0
                cases e
              · omega
            have : l = [] := List.length_eq_zero_iff.1 h0
            subst this
            exact ⟨by simp, by simp, fun h0 => by simp at h0⟩
          | some ad => exact C_drop H.out.2.2.1 hnl
        · rw [List.length_drop]; omega
end Go.Proofs.Ytgbhejkgnfkfgaa.Given
