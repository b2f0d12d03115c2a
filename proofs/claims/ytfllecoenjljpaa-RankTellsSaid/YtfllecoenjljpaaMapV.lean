/- A map of a call's own, of any types, told by a function from keys to the elements' own values: made, read, written, struck, counted. For any seat. -/
import Derived.Test.YtfllecoenjljpaaProg
import Derived.Maps.Own
import Derived.Maps.OwnOps
import Derived.Maps.OwnSet
import Derived.Maps.Views
import Derived.DeepKeys4
set_option linter.unusedVariables false
namespace Go.Proofs.Ytfllecoenjljpaa.Mv
open Go.Maps Go.RowKit

def RV (v : Value) : Option (DataW Value × List MemPlace) := some (.held v, [])
/-- Block b is a map, at most n times written, of m keys: at a key it holds what f says. -/
structure MapV (k : TypeId) (w : World) (b n m : Nat) (f : Lit → Option Value) : Prop where
  out : ∃ D : DataW Value, w.ownsMap Try.prog k RV b n D ∧ Maps.size D = m ∧ ∀ kl, Maps.has D kl = (f kl).isSome ∧ ∀ z, D.atKey kl (.held z) = .held ((f kl).getD z)
variable {k e t : TypeId} {w w' : World} {b n m : Nat} {f f' : Lit → Option Value} {key v z : Value} {kl : Lit}
theorem lt_heap {o : Obj} (h : w.heap[b]? = some o) : b < w.heap.size := (Array.getElem?_eq_some_iff.1 h).1
theorem MapV.obj (h : MapV k w b n m f) : ∃ es c, w.heap[b]? = some (.map es c) := by
  obtain ⟨D, ⟨es, c, hb, _⟩, _⟩ := h.out
  exact ⟨es, c, hb⟩
theorem MapV.lt (h : MapV k w b n m f) : b < w.heap.size := by
  obtain ⟨es, c, hb⟩ := h.obj
  exact lt_heap hb
theorem MapV.ne (h : MapV k w b n m f) {j : Nat} {cs : Array Value} {t : TypeId} {fr : Nat × Nat} (hk : w.heap[j]? = some (.cells cs t fr)) : b ≠ j := fun e => by
  subst e
  obtain ⟨es, c, hb⟩ := h.obj
  rw [hb] at hk
  cases hk
theorem MapV.move (h : MapV k w b n m f) (hb : w'.heap[b]? = w.heap[b]?) : MapV k w' b n m f := by
  obtain ⟨D, ⟨es, c, h1, h2⟩, h3⟩ := h.out
  exact ⟨D, ⟨es, c, hb.trans h1, h2⟩, h3⟩
theorem MapV.below (h : MapV k w b n m f) (hB : Below w.heap.size w w') : MapV k w' b n m f := h.move (hB.block b h.lt)
theorem MapV.grown {X : Option Nat} (h : MapV k w b n m f) (hg : w.grownBy w' X) (hX : X ≠ some b) : MapV k w' b n m f := h.move (hg.block b h.lt (fun e => hX e.symm))
theorem MapV.made (w : World) (k : TypeId) : MapV k (w.alloc (.map #[] 0)) w.heap.size 0 0 (fun _ => none) :=
  ⟨.map [], World.ownsMap_made _ _ _ _, rfl, fun kl => ⟨rfl, fun z => by simp [DataW.atKey]⟩⟩
theorem MapV.le (h : MapV k w b n m f) : m ≤ n := by
  obtain ⟨D, h1, h2, _⟩ := h.out
  rw [← h2]
  exact h1.size_le
theorem held_inj {x y : Value} {ps : List MemPlace} (h : RV x = some (.held y, ps)) : x = y := by
  unfold RV at h
  injection h with h
  injection h with h _
  injection h
theorem MapV.get (h : MapV k w b n m f) (K : Keyed Try.prog k) (ht : Try.prog.underlying t = some (.map k e)) (hz : (zeroValue e).run Try.prog w = .ok z w) (hkey : keyOf Try.prog k key = some kl) : (Instr.lookup t (.map (some b)) key false).run Try.prog w = .ok ((f kl).getD z) w := by
  obtain ⟨D, h1, _, h2⟩ := h.out
  obtain ⟨v, ps, hr, hv⟩ := h1.lookup K ht hz (zd := .held z) (zp := []) rfl hkey
  rw [(h2 kl).2 z] at hv
  rw [hr, held_inj hv]
theorem MapV.look (h : MapV k w b n m f) (K : Keyed Try.prog k) (ht : Try.prog.underlying t = some (.map k e)) (hz : (zeroValue e).run Try.prog w = .ok z w) (hkey : keyOf Try.prog k key = some kl) : (Instr.lookup t (.map (some b)) key true).run Try.prog w = .ok (.tuple #[(f kl).getD z, .bool (f kl).isSome]) w := by
  obtain ⟨D, h1, _, h2⟩ := h.out
  obtain ⟨v, ps, hr, hv⟩ := h1.look_ok K ht hz (zd := .held z) (zp := []) rfl hkey
  rw [(h2 kl).2 z] at hv
  rw [hr, held_inj hv, (h2 kl).1]
theorem MapV.put (h : MapV k w b n m f) (K : Keyed Try.prog k) (ht : Try.prog.underlying t = some (.map k e)) (hn : n < maxLen) (hkey : keyOf Try.prog k key = some kl) (v : Value) (f' : Lit → Option Value) (h0 : f' kl = some v) (h1 : ∀ kl', kl' ≠ kl → f' kl' = f kl') : ∃ w', (Instr.mapUpdate t (.map (some b)) key v).run Try.prog w = .ok () w' ∧ MapV k w' b (n + 1) (if (f kl).isSome = true then m else m + 1) f' ∧ w.grownBy w' (some b) := by
  obtain ⟨D, g1, gs, g2⟩ := h.out
  obtain ⟨w', hr, ho, hg⟩ := g1.update K ht hn hkey (d := .held v) (ps := []) rfl
  have hk := K.key hkey
  refine ⟨w', hr, ⟨_, ho, ?_, fun kl' => ?_⟩, hg⟩
  · rw [size_put (g1.tidy K), gs, (g2 kl).1]
  · by_cases e : kl' = kl
    · subst e
      rw [h0]
      exact ⟨has_put_same g1.isMap hk _, fun z => atKey_put_same g1.isMap hk _ _⟩
    · rw [h1 kl' e]
      exact ⟨(has_put_other e _).trans (g2 kl').1, fun z => (atKey_put_other e _ _).trans ((g2 kl').2 z)⟩
theorem MapV.del (h : MapV k w b n m f) (K : Keyed Try.prog k) (ht : Try.prog.underlying t = some (.map k e)) (hkey : keyOf Try.prog k key = some kl) (ty : TypeId) (f' : Lit → Option Value) (h0 : f' kl = none) (h1 : ∀ kl', kl' ≠ kl → f' kl' = f kl') : ∃ w', (Builtin.delete_ #[t, k] ty #[.map (some b), key]).run Try.prog w = .ok (.tuple #[]) w' ∧ MapV k w' b n (if (f kl).isSome = true then m - 1 else m) f' ∧ w.grownBy w' (some b) := by
  obtain ⟨D, g1, gs, g2⟩ := h.out
  obtain ⟨w', hr, ho, hg⟩ := g1.drop K ht hkey ty
  refine ⟨w', hr, ⟨_, ho, ?_, fun kl' => ?_⟩, hg.grown⟩
  · have := size_del (k := kl) (g1.tidy K)
    rw [gs, (g2 kl).1] at this
    split <;> simp_all <;> omega
  · by_cases e : kl' = kl
    · subst e
      rw [h0]
      exact ⟨has_del_same, fun z => atKey_del_same _⟩
    · rw [h1 kl' e]
      exact ⟨(has_del_other e).trans (g2 kl').1, fun z => (atKey_del_other e _).trans ((g2 kl').2 z)⟩
theorem MapV.len (h : MapV k w b n m f) (ht : Try.prog.underlying t = some (.map k e)) (ty : TypeId) : (Builtin.len_ #[t] ty #[.map (some b)]).run Try.prog w = .ok (.int .i64 (m : Int)) w := by
  obtain ⟨D, g1, gs, _⟩ := h.out
  rw [g1.len ht ty, gs]
end Go.Proofs.Ytfllecoenjljpaa.Mv
