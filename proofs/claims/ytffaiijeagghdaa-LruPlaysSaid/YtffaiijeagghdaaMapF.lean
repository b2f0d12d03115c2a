/- A map of the law's own, from texts to numbers, told by a function. -/
import Derived.Test.YtffaiijeagghdaaLruLaw
import Derived.Maps.Own
import Derived.Maps.OwnOps
import Derived.Maps.OwnSet
import Derived.Maps.Views
set_option linter.unusedVariables false
set_option linter.unusedSimpArgs false
namespace Go.Proofs.Ytffaiijeagghdaa.Lr
open Go.RowKit Go.Maps Go.WideMaps Go.Proofs.YtffaiijeagghdaaW.PrintWords Go.Proofs.YtffaiijeagghdaaW.PrintLast Go.Proofs.Ytffaiijeagghdaa.Sl

theorem strKeyed : Keyed Try.prog 9 := string_keyed Try.underlying9
theorem zeroInt (w : World) : (zeroValue 3).run Try.prog w = .ok (.int .i64 0) w := by kernel_rfl
abbrev kl (s : ByteArray) : Lit := .string s.data.toList
theorem kl_inj {s t : ByteArray} (h : s ≠ t) : kl s ≠ kl t := fun e => h (by
  injection e with e
  exact ByteArray.ext (Array.toList_inj.1 e))
structure MapF (w : World) (b n : Nat) (f : ByteArray → Option Int) : Prop where
  out : ∃ D : DataW Unit, w.ownsMap Try.prog 9 (plainElem Try.prog 3) b n D ∧ ∀ s : ByteArray, s.size ≤ maxLen → Maps.has D (kl s) = (f s).isSome ∧ D.atKey (kl s) (.lit (.int .i64 0)) = .lit (.int .i64 ((f s).getD 0))
variable {w w' : World} {b n : Nat} {f : ByteArray → Option Int}
theorem MapF.obj (h : MapF w b n f) : ∃ es c, w.heap[b]? = some (.map es c) := by
  obtain ⟨D, ⟨es, c, hb, _⟩, _⟩ := h.out
  exact ⟨es, c, hb⟩
theorem MapF.lt (h : MapF w b n f) : b < w.heap.size := by
  obtain ⟨es, c, hb⟩ := h.obj
  exact lt_of_heap hb
theorem MapF.ne (h : MapF w b n f) {k : Nat} {cs : Array Value} {t : TypeId} {fr : Nat × Nat} (hk : w.heap[k]? = some (.cells cs t fr)) : b ≠ k := fun e => by
  subst e
  obtain ⟨es, c, hb⟩ := h.obj
  rw [hb] at hk
  cases hk
theorem MapF.move (h : MapF w b n f) (hb : w'.heap[b]? = w.heap[b]?) : MapF w' b n f := by
  obtain ⟨D, ⟨es, c, h1, h2⟩, h3⟩ := h.out
  exact ⟨D, ⟨es, c, hb.trans h1, h2⟩, h3⟩
theorem MapF.made (w : World) : MapF (w.alloc (.map #[] 0)) w.heap.size 0 (fun _ => none) := by
  refine ⟨.map [], World.ownsMap_made _ _ _ _, fun s _ => ⟨rfl, ?_⟩⟩
  simp [DataW.atKey]
theorem MapF.lookup (h : MapF w b n f) (s : ByteArray) (hs : s.size ≤ maxLen) : (Instr.lookup 38 (.map (some b)) (.string s) true).run Try.prog w = .ok (.tuple #[.int .i64 ((f s).getD 0), .bool (f s).isSome]) w := by
  obtain ⟨D, h1, h2⟩ := h.out
  obtain ⟨v, ps, hr, hv⟩ := h1.look_ok strKeyed Try.underlying38 (zeroInt w) (zd := .lit (.int .i64 0)) (zp := []) (plainElem_int Try.underlying3 (by decide)) (keyOf_string_mk Try.underlying9 hs)
  obtain ⟨x, rfl, hx, _⟩ := plainElem_int_inv Try.underlying3 hv
  have h3 := h2 s hs
  have h4 := congrArg Prod.fst hx
  simp only at h4
  rw [h3.2] at h4
  injection h4 with h4
  injection h4 with _ h4
  rw [hr, h3.1, ← h4]
theorem MapF.get (h : MapF w b n f) (s : ByteArray) (hs : s.size ≤ maxLen) : (Instr.lookup 38 (.map (some b)) (.string s) false).run Try.prog w = .ok (.int .i64 ((f s).getD 0)) w := by
  obtain ⟨D, h1, h2⟩ := h.out
  obtain ⟨x, hr, hx⟩ := h1.lookup_int strKeyed Try.underlying38 Try.underlying3 (zeroInt w) (keyOf_string_mk Try.underlying9 hs)
  have h3 := h2 s hs
  rw [h3.2] at hx
  have h4 := hx.1
  injection h4 with h4
  injection h4 with _ h4
  rw [hr, ← h4]
theorem MapF.put (h : MapF w b n f) (hn : n < maxLen) (s : ByteArray) (hs : s.size ≤ maxLen) (x : Int) (hx : (Lit.int .i64 x).wf = true) (f' : ByteArray → Option Int) (h0 : f' s = some x) (h1 : ∀ t, t ≠ s → f' t = f t) : ∃ w', (Instr.mapUpdate 38 (.map (some b)) (.string s) (.int .i64 x)).run Try.prog w = .ok () w' ∧ MapF w' b (n + 1) f' ∧ w.grownBy w' (some b) := by
  obtain ⟨D, g1, g2⟩ := h.out
  obtain ⟨w', hr, ho, hg⟩ := g1.update strKeyed Try.underlying38 hn (keyOf_string_mk Try.underlying9 hs) (plainElem_int Try.underlying3 hx)
  refine ⟨w', hr, ⟨_, ho, fun t ht => ?_⟩, hg⟩
  by_cases e : t = s
  · subst e
    rw [h0]
    exact ⟨has_put_same g1.isMap (by trivial) _, atKey_put_same g1.isMap (by trivial) _ _⟩
  · rw [h1 t e]
    have := g2 t ht
    exact ⟨(has_put_other (kl_inj e) _).trans this.1, (atKey_put_other (kl_inj e) _ _).trans this.2⟩
theorem MapF.del (h : MapF w b n f) (s : ByteArray) (hs : s.size ≤ maxLen) (ty : TypeId) (f' : ByteArray → Option Int) (h0 : f' s = none) (h1 : ∀ t, t ≠ s → f' t = f t) : ∃ w', (Builtin.delete_ #[38, 9] ty #[.map (some b), .string s]).run Try.prog w = .ok (.tuple #[]) w' ∧ MapF w' b n f' ∧ w.grownBy w' (some b) := by
  obtain ⟨D, g1, g2⟩ := h.out
  obtain ⟨w', hr, ho, hg⟩ := g1.drop strKeyed Try.underlying38 (keyOf_string_mk Try.underlying9 hs) ty
  refine ⟨w', hr, ⟨_, ho, fun t ht => ?_⟩, hg.grown⟩
  by_cases e : t = s
  · subst e
    rw [h0]
    exact ⟨has_del_same, atKey_del_same _⟩
  · rw [h1 t e]
    have := g2 t ht
    exact ⟨(has_del_other (kl_inj e)).trans this.1, (atKey_del_other (kl_inj e) _).trans this.2⟩
end Go.Proofs.Ytffaiijeagghdaa.Lr
