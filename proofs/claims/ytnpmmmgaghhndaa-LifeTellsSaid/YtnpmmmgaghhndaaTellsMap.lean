/- LifeTells: a map of numbers to rows of kinds. -/
import Derived.Test.YtnpmmmgaghhndaaTellsPure
import Derived.Test.YtnpmmmgaghhndaaIRow
set_option linter.unusedSimpArgs false
set_option linter.unusedVariables false
namespace Go.Proofs.Ytnpmmmgaghhndaa.Lf
open Go.RowKit Go.Maps Go.Proofs.Ytnpmmmgaghhndaa.PLifeBegins Go.Proofs.YtnpmmmgaghhndaaW.PrintWords Go.Proofs.YtnpmmmgaghhndaaW.PrintLast Go.Proofs.Ytnpmmmgaghhndaa.Given Go.Proofs.Ytnpmmmgaghhndaa.Mv Go.Proofs.Ytnpmmmgaghhndaa.Sl

abbrev at_ (f : Lit → Option Value) (k : Lit) : Value := (f k).getD (.slice none 0 0)
theorem zeroRow (w : World) : (zeroValue 27).run Try.prog w = .ok (.slice none 0 0) w := by kernel_rfl
/-- What LifeTells' map holds: at each number a row of kinds, each in a block of its own. -/
structure Left (w0 w : World) (b n : Nat) (f : Lit → Option Value) (p : Lit → List Int) : Prop where
  low : Below w0.heap.size w0 w
  map : ∃ m, MapV 3 w b n m f
  mb : w0.heap.size ≤ b
  row : ∀ kl, IRow w (at_ f kl) (p kl)
  apart : ∀ k1 k2, k1 ≠ k2 → ∀ q, (at_ f k1).ownBlock = some q → (at_ f k2).ownBlock ≠ some q
  fresh : ∀ kl q, (at_ f kl).ownBlock = some q → w0.heap.size ≤ q
variable {w0 w w' w3 : World} {b n : Nat} {f : Lit → Option Value} {p : Lit → List Int} {key v' : Value} {kl : Lit} {q : List Int}
theorem Left.below (h : Left w0 w b n f p) (hB : Below w.heap.size w w') : Left w0 w' b n f p := by
  obtain ⟨m, hm⟩ := h.map
  exact ⟨h.low.trans (hB.mono h.low.size), ⟨m, hm.below hB⟩, h.mb, fun kl => (h.row kl).below hB, h.apart, h.fresh⟩
theorem Left.made (hB : Below w0.heap.size w0 w) : Left w0 (w.alloc (.map #[] 0)) w.heap.size 0 (fun _ => none) (fun _ => []) :=
  ⟨hB.alloc hB.size _, ⟨0, MapV.made w _⟩, hB.size, fun kl => Sl.nil _ _ _, fun _ _ _ q h => (by cases h), fun _ q h => (by cases h)⟩
theorem Left.ne (h : Left w0 w b n f p) (kl : Lit) : (at_ f kl).ownBlock ≠ some b := fun e => by
  obtain ⟨m, hm⟩ := h.map
  obtain ⟨_, cur, hc⟩ := (h.row kl).lt b e
  exact hm.ne hc rfl
/-- A key's row has grown, or has been cut; it is put back. -/
theorem Left.put (h : Left w0 w b n f p) (hg : w.grownBy w3 (at_ f kl).ownBlock) (hr : IRow w3 v' q) (ho : v'.ownBlock = (at_ f kl).ownBlock ∨ v'.ownBlock = some w.heap.size) (hn : n < maxLen) (hkey : keyOf Try.prog 3 key = some kl) :
    ∃ w4, (Instr.mapUpdate 32 (.map (some b)) key v').run Try.prog w3 = .ok () w4 ∧ Left w0 w4 b (n + 1) (upd f kl (some v')) (upd p kl q) ∧ w3.grownBy w4 (some b) := by
  obtain ⟨m, hm⟩ := h.map
  have hm3 := hm.grown hg (h.ne kl)
  obtain ⟨w4, hrun, hm4, hg4⟩ := hm3.put intKeyed Try.underlying32 hn hkey v' (upd f kl (some v')) (upd_same _ _ _) (fun x hx => upd_other _ _ hx)
  have hb3 : ∀ {v : Value} {l : List Int}, IRow w3 v l → IRow w4 v l := fun hv => Sl.move hv fun k hk => hg4.block k (hv.lt k hk).1 (fun e => by
    obtain ⟨_, cur, hc⟩ := hv.lt k hk
    cases e
    exact hm3.ne hc rfl)
  have hv' : ∀ k, v'.ownBlock = some k → w0.heap.size ≤ k := fun k hk => by
    rcases ho with ho | ho
    · exact h.fresh kl k (by rw [← ho]; exact hk)
    · rw [ho] at hk
      cases hk
      exact h.low.size
  have hap : ∀ x, x ≠ kl → ∀ k, (at_ f x).ownBlock = some k → v'.ownBlock ≠ some k := fun x hx k hk e => by
    rcases ho with ho | ho
    · rw [ho] at e
      exact h.apart x kl hx k hk e
    · rw [ho] at e
      cases e
      exact absurd ((h.row x).lt _ hk).1 (Nat.lt_irrefl _)
  refine ⟨w4, hrun, ⟨?_, ⟨_, hm4⟩, h.mb, fun x => ?_, fun k1 k2 hne => ?_, fun x k => ?_⟩, hg4⟩
  · have h3 : Below w0.heap.size w0 w3 := below_grown h.low hg (fun k hk => h.fresh kl k hk) h.low.size
    exact below_grown h3 hg4 (fun k hk => by cases hk; exact h.mb) h3.size
  · by_cases e : x = kl
    · subst e
      rw [at_, upd_same, upd_same]
      exact hb3 hr
    · rw [at_, upd_other _ _ e, upd_other _ _ e]
      exact hb3 (Sl.move (h.row x) fun k hk => hg.block k ((h.row x).lt k hk).1 (fun e2 => h.apart x kl e k hk e2.symm))
  · intro k h1
    by_cases e1 : k1 = kl
    · subst e1
      rw [at_, upd_same] at h1
      rw [at_, upd_other _ _ (Ne.symm hne)]
      exact fun e => hap k2 (Ne.symm hne) k e h1
    · rw [at_, upd_other _ _ e1] at h1
      by_cases e2 : k2 = kl
      · subst e2
        rw [at_, upd_same]
        exact hap k1 e1 k h1
      · rw [at_, upd_other _ _ e2]
        exact h.apart k1 k2 hne k h1
  · intro h1
    by_cases e : x = kl
    · subst e
      rw [at_, upd_same] at h1
      exact hv' k h1
    · rw [at_, upd_other _ _ e] at h1
      exact h.fresh x k h1

/-- The map holds each number's kinds so far. -/
structure Tm (w0 w : World) (b n : Nat) (f : Lit → Option Value) (p : Lit → List Int) (l : List Ev) : Prop where
  left : Left w0 w b n f p
  rows : ∀ x, p (ki x) = rowk l x
  has : ∀ x, (f (ki x)).isSome = decide (rowk l x ≠ [])
  keys : ∀ kl v, f kl = some v → ∃ x, kl = ki x ∧ (Lit.int .i64 x).wf = true
theorem Tm.below {w0 w w' : World} {b n : Nat} {f : Lit → Option Value} {p : Lit → List Int} {l : List Ev} (h : Tm w0 w b n f p l) (hB : Below w.heap.size w w') : Tm w0 w' b n f p l := ⟨h.left.below hB, h.rows, h.has, h.keys⟩
theorem Tm.made {w0 w : World} (hB : Below w0.heap.size w0 w) : Tm w0 (w.alloc (.map #[] 0)) w.heap.size 0 (fun _ => none) (fun _ => []) [] := ⟨Left.made hB, fun _ => rfl, fun _ => rfl, fun kl v h => by cases h⟩
/-- One event more: its number's row has grown, and is put back. -/
theorem Tm.put {w0 w w3 : World} {b n : Nat} {f : Lit → Option Value} {p : Lit → List Int} {l : List Ev} {v' : Value} (h : Tm w0 w b n f p l) (e : Ev) (hw : (Lit.int .i64 e.f1).wf = true) (hg : w.grownBy w3 (at_ f (ki e.f1)).ownBlock) (hr : IRow w3 v' (rowk l e.f1 ++ [e.f0])) (ho : v'.ownBlock = (at_ f (ki e.f1)).ownBlock ∨ v'.ownBlock = some w.heap.size) (hn : n < maxLen) :
    ∃ w4 f' p', (Instr.mapUpdate 32 (.map (some b)) (.int .i64 e.f1) v').run Try.prog w3 = .ok () w4 ∧ Tm w0 w4 b (n + 1) f' p' (l ++ [e]) ∧ w3.grownBy w4 (some b) := by
  obtain ⟨w4, h1, h2, h3⟩ := h.left.put hg hr ho hn (ki_key hw)
  refine ⟨w4, _, _, h1, ⟨h2, fun x => ?_, fun x => ?_, fun kl v hv => ?_⟩, h3⟩
  · rw [rowk_snoc]
    by_cases c : e.f1 = x
    · subst c; rw [upd_same, if_pos rfl]
    · rw [upd_other _ _ (fun h => c (ki_inj.1 h).symm), if_neg c, List.append_nil]; exact h.rows x
  · rw [rowk_snoc]
    by_cases c : e.f1 = x
    · subst c; rw [upd_same, if_pos rfl]; simp
    · rw [upd_other _ _ (fun h => c (ki_inj.1 h).symm), if_neg c, List.append_nil]; exact h.has x
  · by_cases c : kl = ki e.f1
    · exact ⟨e.f1, c, hw⟩
    · rw [upd_other _ _ c] at hv
      exact h.keys kl v hv
/-- What stands at a number. -/
theorem Tm.at {w0 w : World} {b n : Nat} {f : Lit → Option Value} {p : Lit → List Int} {l : List Ev} (h : Tm w0 w b n f p l) (x : Int) : IRow w (at_ f (ki x)) (rowk l x) := by
  rw [← h.rows x]
  exact h.left.row (ki x)
end Go.Proofs.Ytnpmmmgaghhndaa.Lf
