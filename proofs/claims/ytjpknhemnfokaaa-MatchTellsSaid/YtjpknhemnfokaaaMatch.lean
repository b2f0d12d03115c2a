/- Package match: what From's map holds along its loops; the contract of 'of'. -/
import Derived.Test.YtjpknhemnfokaaaMatchKey
import Derived.Test.YtjpknhemnfokaaaIRow
import Derived.Test.YtjpknhemnfokaaaPMatchTellsx1
set_option linter.unusedVariables false
set_option linter.unusedSimpArgs false
namespace Go.Proofs.Ytjpknhemnfokaaa.Mt
open Go.RowKit Go.Maps Go.Proofs.YtjpknhemnfokaaaW.PrintWords Go.Proofs.YtjpknhemnfokaaaW.PrintLast Go.Proofs.Ytjpknhemnfokaaa.Sl Go.Proofs.Ytjpknhemnfokaaa.Mv

/-- A tree's Tag, Key, Text (no attributes, no kids). -/
structure Tr where
  a : ByteArray
  b : ByteArray
  c : ByteArray
def Tr.cs (t : Tr) : List Value := [.string t.a, .string t.b, .string t.c, .slice none 0 0, .slice none 0 0]
def trEnc : List Tr → List Value
  | [] => []
  | t :: r => t.cs ++ trEnc r
theorem trEnc_length (l : List Tr) : (trEnc l).length = l.length * 5 := by
  induction l with
  | nil => rfl
  | cons t r ih => simp only [trEnc, List.length_append, ih, Tr.cs, List.length_cons, List.length_nil]; omega
theorem trEnc_get (l : List Tr) (i : Nat) (h : i < l.length) : ∀ j u, l[i].cs[j]? = some u → (trEnc l)[i * 5 + j]? = some u := by
  induction l generalizing i with
  | nil => cases h
  | cons t r ih =>
    intro j u hj
    cases i with
    | zero =>
      have hj5 : j < t.cs.length := (List.getElem?_eq_some_iff.1 hj).1
      simp only [trEnc, Nat.zero_mul, Nat.zero_add]
      rw [List.getElem?_append_left hj5]
      exact hj
    | succ i =>
      have h5 : t.cs.length = 5 := rfl
      simp only [trEnc]
      rw [List.getElem?_append_right (by omega), h5, show (i + 1) * 5 + j - 5 = i * 5 + j by omega]
      exact ih i (by simpa using h) j u hj
abbrev TRow (w : World) (v : Value) (l : List Tr) : Prop := Sl w 25 5 v l.length (trEnc l)
theorem TRow.below {w w' : World} {v : Value} {l : List Tr} (h : TRow w v l) (hB : Below w.heap.size w w') : TRow w' v l := Sl.below h hB (Nat.le_refl _)
theorem TRow.cells {w : World} {g o n c : Nat} {l : List Tr} (h : TRow w (.slice (some ⟨g, o, none⟩) n c) l) (hn : n = l.length) (i : Nat) (hi : i < l.length) : w.cell? ⟨g, o + i * 5, none⟩ = some (.string l[i].a) ∧ w.cell? ⟨g, o + i * 5 + 1, none⟩ = some (.string l[i].b) ∧ w.cell? ⟨g, o + i * 5 + 2, none⟩ = some (.string l[i].c) ∧ w.cell? ⟨g, o + i * 5 + 3, none⟩ = some (.slice none 0 0) ∧ w.cell? ⟨g, o + i * 5 + 4, none⟩ = some (.slice none 0 0) := by
  subst hn
  have key := fun j u hj => Sl.cell h (i * 5 + j) u (trEnc_get l i hi j u hj)
  exact ⟨key 0 _ rfl, key 1 _ rfl, key 2 _ rfl, key 3 _ rfl, key 4 _ rfl⟩
open Classical in
noncomputable def upd {α : Type} (f : Lit → α) (k : Lit) (v : α) : Lit → α := fun x => if x = k then v else f x
theorem upd_same {α : Type} (f : Lit → α) (k : Lit) (v : α) : upd f k v k = v := by simp [upd]
theorem upd_other {α : Type} (f : Lit → α) {k x : Lit} (v : α) (h : x ≠ k) : upd f k v x = f x := by simp [upd, h]
abbrev at_ (f : Lit → Option Value) (k : Lit) : Value := (f k).getD (.slice none 0 0)
theorem below_grown {B : Nat} {w0 w w' : World} {row : Option Nat} (h : Below B w0 w) (g : w.grownBy w' row) (hr : ∀ k, row = some k → B ≤ k) (hB : B ≤ w.heap.size) : Below B w0 w' :=
  ⟨g.os.trans h.os, g.tape.trans h.tape, g.output.trans h.output, Nat.le_trans h.size g.size, fun k hk => (g.block k (Nat.lt_of_lt_of_le hk hB) (fun e => by have := hr k e.symm; omega)).trans (h.block k hk)⟩
/-- What From's map holds: at each key a row of places, each in a block of its own. -/
structure Left (w0 w : World) (b n : Nat) (f : Lit → Option Value) (p : Lit → List Int) : Prop where
  low : Below w0.heap.size w0 w
  map : ∃ m, MapV 39 w b n m f
  mb : w0.heap.size ≤ b
  row : ∀ kl, IRow w (at_ f kl) (p kl)
  apart : ∀ k1 k2, k1 ≠ k2 → ∀ q, (at_ f k1).ownBlock = some q → (at_ f k2).ownBlock ≠ some q
  fresh : ∀ kl q, (at_ f kl).ownBlock = some q → w0.heap.size ≤ q
variable {w0 w w' w3 : World} {b n : Nat} {f : Lit → Option Value} {p : Lit → List Int} {key v' : Value} {kl : Lit} {q : List Int}
theorem Left.below (h : Left w0 w b n f p) (hB : Below w.heap.size w w') : Left w0 w' b n f p := by
  obtain ⟨m, hm⟩ := h.map
  exact ⟨h.low.trans (hB.mono h.low.size), ⟨m, hm.below hB⟩, h.mb, fun kl => (h.row kl).below hB, h.apart, h.fresh⟩
theorem Left.made (hB : Below w0.heap.size w0 w) : Left w0 (w.alloc (.map #[] 0)) w.heap.size 0 (fun _ => none) (fun _ => []) :=
  ⟨hB.alloc hB.size _, ⟨0, MapV.made w _⟩, hB.size, fun kl => Sl.nil _ _ _, fun _ _ _ q h => (by cases h), fun _ q h => (by cases h)⟩
theorem Left.ne (h : Left w0 w b n f p) (kl : Lit) : (at_ f kl).ownBlock ≠ some b := fun e => by
  obtain ⟨m, hm⟩ := h.map
  obtain ⟨_, cur, hc⟩ := (h.row kl).lt b e
  exact hm.ne hc rfl
/-- A key's row has grown, or has been cut; it is put back. -/
theorem Left.put (h : Left w0 w b n f p) (hg : w.grownBy w3 (at_ f kl).ownBlock) (hr : IRow w3 v' q) (ho : v'.ownBlock = (at_ f kl).ownBlock ∨ v'.ownBlock = some w.heap.size) (hn : n < maxLen) (hkey : keyOf Try.prog 39 key = some kl) :
    ∃ w4, (Instr.mapUpdate 37 (.map (some b)) key v').run Try.prog w3 = .ok () w4 ∧ Left w0 w4 b (n + 1) (upd f kl (some v')) (upd p kl q) ∧ w3.grownBy w4 (some b) := by
  obtain ⟨m, hm⟩ := h.map
  have hm3 := hm.grown hg (h.ne kl)
  obtain ⟨w4, hrun, hm4, hg4⟩ := hm3.put klaw Try.underlying37 hn hkey v' (upd f kl (some v')) (upd_same _ _ _) (fun x hx => upd_other _ _ hx)
  have hb3 : ∀ {v : Value} {l : List Int}, IRow w3 v l → IRow w4 v l := fun hv => Sl.move hv fun k hk => hg4.block k (hv.lt k hk).1 (fun e => by
    obtain ⟨_, cur, hc⟩ := hv.lt k hk
    cases e
    exact hm3.ne hc rfl)
  have hv' : ∀ k, v'.ownBlock = some k → w0.heap.size ≤ k := fun k hk => by
    rcases ho with ho | ho
    · exact h.fresh kl k (by rw [← ho]; exact hk)
    · rw [ho] at hk
      cases hk
      exact h.low.size
  have hap : ∀ x, x ≠ kl → ∀ k, (at_ f x).ownBlock = some k → v'.ownBlock ≠ some k := fun x hx k hk e => by
    rcases ho with ho | ho
    · rw [ho] at e
      exact h.apart x kl hx k hk e
    · rw [ho] at e
      cases e
      exact absurd ((h.row x).lt _ hk).1 (Nat.lt_irrefl _)
  refine ⟨w4, hrun, ⟨?_, ⟨_, hm4⟩, h.mb, fun x => ?_, fun k1 k2 hne => ?_, fun x k => ?_⟩, hg4⟩
  · have h3 : Below w0.heap.size w0 w3 := below_grown h.low hg (fun k hk => h.fresh kl k hk) h.low.size
    exact below_grown h3 hg4 (fun k hk => by cases hk; exact h.mb) h3.size
  · by_cases e : x = kl
    · subst e
      rw [at_, upd_same, upd_same]
      exact hb3 hr
    · rw [at_, upd_other _ _ e, upd_other _ _ e]
      exact hb3 (Sl.move (h.row x) fun k hk => hg.block k ((h.row x).lt k hk).1 (fun e2 => h.apart x kl e k hk e2.symm))
  · intro k h1
    by_cases e1 : k1 = kl
    · subst e1
      rw [at_, upd_same] at h1
      rw [at_, upd_other _ _ (Ne.symm hne)]
      exact fun e => hap k2 (Ne.symm hne) k e h1
    · rw [at_, upd_other _ _ e1] at h1
      by_cases e2 : k2 = kl
      · subst e2
        rw [at_, upd_same]
        exact hap k1 e1 k h1
      · rw [at_, upd_other _ _ e2]
        exact h.apart k1 k2 hne k h1
  · intro h1
    by_cases e : x = kl
    · subst e
      rw [at_, upd_same] at h1
      exact hv' k h1
    · rw [at_, upd_other _ _ e] at h1
      exact h.fresh x k h1
set_option maxHeartbeats 1000000 in
theorem of_any (t : Tr) (w : World) : Calls Try.prog 14 #[.agg #[.string t.a, .string t.b, .string t.c, .slice none 0 0, .slice none 0 0]] w fun e w' => e = .returned (.agg #[.string t.a, .string t.b]) ∧ Below w.heap.size w w' := by
  go_enter Try.func14, Try.ntmps14
  go_wp2_with fail
  simp [bodyPost, results, Try.results14, go_sem]
  exact ((Below.refl _ _).alloc (Nat.le_refl _) _).alloc (by simp) _
end Go.Proofs.Ytjpknhemnfokaaa.Mt
