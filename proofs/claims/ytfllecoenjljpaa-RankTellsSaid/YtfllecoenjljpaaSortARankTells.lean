/- rank.Sorted: the closure, the insertion sort (fewer than 20 places). Over PRankTells's words. -/
import Derived.Test.YtfllecoenjljpaaOrdRankTells
import Derived.Test.YtfllecoenjljpaaIRow
import Derived.Lib.Hide
import Derived.Lib.MinMax
import Derived.BigQuiet
import Derived.Deep.QuietTactic
import Derived.Deep.LoopGhost
import Derived.Deep.DeepCutAuto
import Derived.Deep.CutBlock
set_option linter.unusedVariables false
set_option linter.unusedSimpArgs false
namespace Go.Proofs.Ytfllecoenjljpaa.SortRankTells
open Go.RowKit Go.Proofs.Ytfllecoenjljpaa.Given Go.Proofs.Ytfllecoenjljpaa.PRankTells Go.Proofs.YtfllecoenjljpaaW.PrintWords Go.Proofs.YtfllecoenjljpaaW.PrintLast Go.Proofs.YtfllecoenjljpaaW.PrintMore Go.Proofs.Ytfllecoenjljpaa.OrdRankTells Go.Proofs.Ytfllecoenjljpaa.Sl

abbrev Ls := List (List Sg)
abbrev KL : Kd (List Sg) := Kd.slice 23 k23
def gl (ls : Ls) (x : Int) : List Sg := ls.getD x.toNat []
/-- Two places compared. -/
def cz (ls : Ls) (x y : Int) : Int := cmpP (gl ls x) (gl ls y)
theorem at_LL {w : World} {A : Option Addr} {n : Nat} {xs : Ls} (h : Kd.C KL w A n xs) (i : Int) (h0 : 0 ≤ i) (h1 : i < n) : ∃ ad A0 c0, A = some ad ∧ w.cell? (ad.add i.toNat) = some (.slice A0 (gl xs i).length c0) ∧ (gl xs i).length ≤ c0 ∧ Kd.C k23 w A0 (gl xs i).length (gl xs i) := by
  obtain ⟨ad, c, e, _, hK, hc0⟩ := Kd.C_get h ([] : List Sg) i h0 h1
  have hc : ∀ j u, c[j]? = some u → w.cell? (ad.add (i.toNat * 1 + j)) = some u := hc0
  obtain ⟨A0, c0, rfl, l0, g0⟩ := hK
  exact ⟨ad, A0, c0, e, by have hq := hc 0 _ rfl; rwa [Nat.mul_one, Nat.add_zero] at hq, l0, g0⟩
theorem gl_len {ls : Ls} (hl : ∀ l ∈ ls, l.length ≤ 20) (x : Int) : (gl ls x).length ≤ 20 := by
  unfold gl
  rw [List.getD_eq_getElem?_getD]
  cases e : ls[x.toNat]? with
  | none => simp
  | some l => exact hl l (List.mem_of_getElem? e)
/-- The patterns stand in the world, and the variable that the closure holds. -/
structure At (w W : World) (bx : Nat) (A0 : Option Addr) (c0 : Nat) (ls : Ls) : Prop where
  low : Below w.heap.size w W
  hbx : w.heap.size ≤ bx
  box : W.heap[bx]? = some (.cells #[.slice A0 ls.length c0] 37 (0, 0))
  rd : Kd.C KL w A0 ls.length ls
theorem At.lt {w W : World} {bx : Nat} {A0 : Option Addr} {c0 : Nat} {ls : Ls} (h : At w W bx A0 c0 ls) : bx < W.heap.size := (Array.getElem?_eq_some_iff.1 h.box).1
theorem At.below {w W W' : World} {bx : Nat} {A0 : Option Addr} {c0 : Nat} {ls : Ls} (h : At w W bx A0 c0 ls) (hB : Below W.heap.size W W') : At w W' bx A0 c0 ls :=
  ⟨h.low.trans (hB.mono h.low.size), h.hbx, (hB.block bx h.lt).trans h.box, h.rd⟩
theorem cmp_any (A : Option Addr) (c : Nat) (x : List Sg) (B : Option Addr) (d : Nat) (y : List Sg) (w : World) (h1 : Kd.C k23 w A x.length x) (h2 : x.length ≤ c) (h3 : Kd.C k23 w B y.length y) (h4 : y.length ≤ d) (hx : x.length ≤ 20) (hy : y.length ≤ 20) : Calls Try.prog 8 #[.slice A x.length c, .slice B y.length d] w fun e w' => e = .returned (.int .i64 (cmpP x y)) ∧ Below w.heap.size w w' :=
  rank_Compare.calls 60 A c x B d y (cmpP x y) w h1 h2 h3 h4 (cmp_eq 60 (by omega) x y hx hy)
set_option maxHeartbeats 2000000 in
theorem clos_any (w W : World) (bx : Nat) (A0 : Option Addr) (c0 : Nat) (ls : Ls) (x y : Int) (h : At w W bx A0 c0 ls) (hx0 : 0 ≤ x) (hx : x < ls.length) (hy0 : 0 ≤ y) (hy : y < ls.length) (hl : ∀ l ∈ ls, l.length ≤ 20) : Calls Try.prog 21 #[.int .i64 x, .int .i64 y, .pointer (some ⟨bx, 0, none⟩)] W fun e w' => e = .returned (.int .i64 (cz ls x y)) ∧ Below W.heap.size W w' := by
  have hC : Kd.C KL W A0 ls.length ls := Kd.C_below h.rd h.low
  obtain ⟨ad, A1, c1, e1, y1, l1, g1⟩ := at_LL hC x hx0 hx
  obtain ⟨ad2, A2, c2, e2, y2, l2, g2⟩ := at_LL hC y hy0 hy
  have e3 := e1.symm.trans e2
  injection e3 with e3
  subst e3 e1
  clear e2
  have b0 : W.cell? ⟨bx, 0, none⟩ = some (.slice (some ad) ls.length c0) := (blk_cell h.box 0).trans rfl
  have HC : Hid (∀ W', Below W.heap.size W W' → Calls Try.prog 8 #[.slice A1 (gl ls x).length c1, .slice A2 (gl ls y).length c2] W' fun e w' => e = .returned (.int .i64 (cz ls x y)) ∧ Below W'.heap.size W' w') := Lib.hid fun W' hB => cmp_any A1 c1 (gl ls x) A2 c2 (gl ls y) W' (Kd.C_below g1 hB) l1 (Kd.C_below g2 hB) l2 (gl_len hl x) (gl_len hl y)
  clear g1 l1 g2 l2 hC h
  go_enter Try.func21, Try.ntmps21
  go_upto_region 1 with fail
  go_region_with (go_at_call 8; refine (HC.out _ (pw_below_drewN (Below.refl _ _) 1)).mono ?_; rintro e w' ⟨rfl, hB⟩; have HB := Lib.hid ((pw_below_drewN (Below.refl W.heap.size W) 1).trans (hB.mono (pw_below_drewN (Below.refl W.heap.size W) 1).size)); clear hB)
  all_goals
    go_wp2_with fail
    go_ret
    exact ⟨rfl, HB.out⟩
end Go.Proofs.Ytfllecoenjljpaa.SortRankTells
