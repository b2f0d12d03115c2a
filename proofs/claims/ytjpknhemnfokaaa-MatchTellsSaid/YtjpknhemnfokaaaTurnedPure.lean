/- MatchTurned: the plain part. -/
import Derived.Test.YtjpknhemnfokaaaMatchPure
import Derived.Test.YtjpknhemnfokaaaMatchRuns
set_option linter.unusedVariables false
set_option linter.unusedSimpArgs false
namespace Go.Proofs.Ytjpknhemnfokaaa.Mt
open Go.RowKit Go.Maps Go.Proofs.Ytjpknhemnfokaaa.Mv Go.Proofs.Ytjpknhemnfokaaa.PMatchTells

/-- Of unlike keys each goes on from the place that the map holds. -/
theorem fromGo_unlike (ts : List Tr) (hd : ts.Pairwise (fun s t => kk s ≠ kk t)) (g : Tr → Int) : ∀ p : Lit → List Int, (∀ t ∈ ts, p (kk t) = [g t]) → fromGo p ts = ts.map g := by
  induction ts with
  | nil => intro p _; rfl
  | cons t r ih =>
    intro p hp
    obtain ⟨h1, h2⟩ := List.pairwise_cons.1 hd
    simp only [fromGo, hp t (by simp), List.map_cons]
    congr 1
    refine ih h2 _ fun s hs => ?_
    rw [upd_other _ _ (Ne.symm (h1 s hs)), hp s (by simp [hs])]
/-- The tree of a number. -/
def nt (i : Nat) : Tr := ⟨bs [108, 105], bs [UInt8.ofNat (48 + i)], bs []⟩
theorem nt_inj : ∀ i < 9, ∀ j < 9, i ≠ j → (nt i).b ≠ (nt j).b := by decide
theorem nt_sz (i : Nat) : (nt i).a.size ≤ maxLen ∧ (nt i).b.size ≤ maxLen := sz _ ⟨by show 2 ≤ 2; omega, by show 1 ≤ 2; omega⟩
theorem nt_ne {i j : Nat} (hi : i < 9) (hj : j < 9) (h : i ≠ j) : kk (nt i) ≠ kk (nt j) := kk_ne (nt_sz i) (nt_sz j) (.inr (nt_inj i hi j hj h))
def olds (k : Nat) : List Tr := (List.range k).map nt
theorem places_olds (k : Nat) (hk : k ≤ 9) (i : Nat) (hi : i < 9) : ∀ m ≤ k, places (olds k) m (kk (nt i)) = if i < m then [(i : Int)] else [] := by
  intro m
  induction m with
  | zero => intro _; simp [places]
  | succ m ih =>
    intro hm
    rw [places_succ _ m (by simp [olds]; omega)]
    have hg : (olds k)[m]'(by simp [olds]; omega) = nt m := by simp [olds]
    rw [hg]
    by_cases e : i = m
    · subst e
      rw [upd_same, ih (by omega)]
      simp
    · rw [upd_other _ _ (nt_ne hi (by omega) e), ih (by omega)]
      by_cases h : i < m
      · rw [if_pos h, if_pos (by omega)]
      · rw [if_neg h, if_neg (by omega)]
theorem from_olds (k : Nat) (hk : k ≤ 9) (l : List Nat) (hl : ∀ i ∈ l, i < k) (hd : l.Nodup) : fromL (olds k) (l.map nt) = l.map (fun (i : Nat) => (i : Int)) := by
  have hp : ∀ t ∈ l.map nt, ∃ i ∈ l, nt i = t := fun t ht => List.mem_map.1 ht
  unfold fromL
  have key : ∀ (l : List Nat), (∀ i ∈ l, i < k) → l.Nodup → ∀ p : Lit → List Int, (∀ i ∈ l, p (kk (nt i)) = [(i : Int)]) → fromGo p (l.map nt) = l.map (fun (i : Nat) => (i : Int)) := by
    intro l
    induction l with
    | nil => intro _ _ p _; rfl
    | cons a r ih =>
      intro h1 h2 p h3
      obtain ⟨h4, h5⟩ := List.nodup_cons.1 h2
      simp only [List.map_cons, fromGo, h3 a (by simp)]
      congr 1
      refine ih (fun i hi => h1 i (by simp [hi])) h5 _ fun i hi => ?_
      have hia : i ≠ a := fun e => h4 (e ▸ hi)
      rw [upd_other _ _ (nt_ne (by have := h1 i (by simp [hi]); omega) (by have := h1 a (by simp); omega) hia), h3 i (by simp [hi])]
  refine key l hl hd _ fun i hi => ?_
  have h1 := hl i hi
  have h2 : (olds k).length = k := by simp [olds]
  rw [h2, places_olds k hk i (by omega) k (Nat.le_refl _), if_pos h1]
/-- The places of the turned row. -/
def turnedN (k c : Nat) : List Nat := (List.range k).drop c ++ (List.range k).take c
def wantL (k c : Nat) : List Int := (List.range k).map (fun (i : Nat) => (((i + c) % k : Nat) : Int))
set_option maxRecDepth 100000 in
theorem turned_want : ∀ k < 10, ∀ c ≤ k, (turnedN k c).map (fun (i : Nat) => (i : Int)) = wantL k c := by decide
set_option maxRecDepth 100000 in
theorem turned_nodup : ∀ k < 10, ∀ c ≤ k, (turnedN k c).Nodup ∧ ∀ i ∈ turnedN k c, i < k := by decide
set_option maxRecDepth 100000 in
theorem turned_moves : ∀ k < 10, ∀ c ≤ k, match_Moves.f 20 (wantL k c) = some (min (c : Int) ((k : Int) - c)) := by decide +kernel
/-- The places that are not struck by a mask. -/
def leftN (k m : Nat) : List Nat := (List.range k).filter (fun i => !m.testBit i)
def leftL (k m : Nat) : List Int := (leftN k m).map (fun (i : Nat) => (i : Int))
set_option maxRecDepth 100000 in
theorem left_ok : ∀ k < 10, ∀ m < 2 ^ k, match_Kept.f 20 (leftL k m) = some ((leftN k m).length : Int) ∧ match_Moves.f 20 (leftL k m) = some 0 := by decide +kernel
end Go.Proofs.Ytjpknhemnfokaaa.Mt
