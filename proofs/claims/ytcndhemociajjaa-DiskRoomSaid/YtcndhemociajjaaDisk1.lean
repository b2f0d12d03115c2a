/- Package disk: files by their names; Used. -/
import Derived.Test.YtcndhemociajjaaMapV
import Derived.Test.YtcndhemociajjaaSl
import Derived.Test.YtcndhemociajjaaWLast
import Derived.Test.YtcndhemociajjaaWWords
import Derived.Maps.RangeWalk
import Derived.OwnWalk
import Derived.Lib.MinMax
import Derived.Lib.Hide
import Derived.WalkLawsBesides
import Derived.BigQuiet
import Derived.Deep.QuietTactic
import Derived.Deep.LoopGhost
import Derived.Deep.DeepCutAuto
import Derived.Deep.CutBlock
set_option linter.unusedVariables false
set_option linter.unusedSimpArgs false
namespace Go.Proofs.Ytcndhemociajjaa.Dk
open Go.RowKit Go.Maps Go.WideMaps Go.Proofs.YtcndhemociajjaaW.PrintWords Go.Proofs.YtcndhemociajjaaW.PrintLast Go.Proofs.Ytcndhemociajjaa.Sl Go.Proofs.Ytcndhemociajjaa.Mv

theorem strKeyed : Keyed Try.prog 9 := string_keyed Try.underlying9
abbrev ks (s : ByteArray) : Lit := .string s.data.toList
theorem ks_inj {s t : ByteArray} : ks s = ks t ↔ s = t := ⟨fun e => by
  injection e with e
  exact ByteArray.ext (Array.toList_inj.1 e), fun e => by rw [e]⟩
theorem ks_key {s : ByteArray} (h : s.size ≤ maxLen) : keyOf Try.prog 9 (.string s) = some (ks s) := keyOf_string_mk Try.underlying9 h
/-- What a file holds: the slice, its bytes. -/
structure Fl where
  v : Value
  l : List Int
abbrev FS := List (ByteArray × Fl)
def lk (fs : FS) (s : ByteArray) : Option Fl := (fs.find? (fun p => decide (p.1 = s))).map (·.2)
def dl (fs : FS) (s : ByteArray) : FS := fs.filter (fun p => decide (p.1 ≠ s))
def pt (fs : FS) (s : ByteArray) (x : Fl) : FS := (s, x) :: dl fs s
def tot (fs : FS) : Nat := (fs.map (fun p => p.2.l.length)).sum
open Classical in
noncomputable def ff (fs : FS) (kl : Lit) : Option Value := (fs.find? (fun p => decide (kl = ks p.1))).map (·.2.v)
theorem ff_lk (fs : FS) (s : ByteArray) : ff fs (ks s) = (lk fs s).map (·.v) := by
  unfold ff lk
  rw [Option.map_map]
  congr 2
  funext p
  rw [decide_eq_decide, ks_inj]
  exact eq_comm
theorem ff_pt (fs : FS) (s : ByteArray) (x : Fl) : ff (pt fs s x) (ks s) = some x.v := by
  unfold ff pt
  simp [List.find?]
theorem find_dl (fs : FS) (s : ByteArray) (kl : Lit) (h : kl ≠ ks s) : ff (dl fs s) kl = ff fs kl := by
  classical
  unfold ff dl
  rw [List.find?_filter]
  congr 2
  funext p
  by_cases e : kl = ks p.1
  · have : p.1 ≠ s := fun e2 => h (by rw [e, e2])
    simp [e, this]
  · simp [e]
theorem ff_pt_other (fs : FS) (s : ByteArray) (x : Fl) (kl : Lit) (h : kl ≠ ks s) : ff (pt fs s x) kl = ff fs kl := by
  rw [← find_dl fs s kl h]
  unfold ff pt
  simp [List.find?, h]
theorem ff_dl (fs : FS) (s : ByteArray) : ff (dl fs s) (ks s) = none := by
  classical
  unfold ff dl
  rw [List.find?_filter]
  simp [ks_inj]
  intro a b _ h1 e
  exact h1 (ByteArray.ext e.symm)
abbrev names (fs : FS) : List ByteArray := fs.map (·.1)
theorem names_dl (fs : FS) (s : ByteArray) (h : (names fs).Nodup) : (names (dl fs s)).Nodup := h.sublist (List.filter_sublist.map _)
theorem not_mem_dl (fs : FS) (s : ByteArray) : s ∉ names (dl fs s) := fun h => by
  obtain ⟨p, hp, e⟩ := List.mem_map.1 h
  have := (List.mem_filter.1 hp).2
  simp at this
  exact this e
theorem names_pt (fs : FS) (s : ByteArray) (x : Fl) (h : (names fs).Nodup) : (names (pt fs s x)).Nodup := List.nodup_cons.2 ⟨not_mem_dl fs s, names_dl fs s h⟩
theorem dl_none (fs : FS) (s : ByteArray) (h : lk fs s = none) : dl fs s = fs := by
  unfold dl
  rw [List.filter_eq_self]
  intro p hp
  unfold lk at h
  rw [Option.map_eq_none_iff, List.find?_eq_none] at h
  have := h p hp
  simpa using this
theorem dl_len (fs : FS) (s : ByteArray) (h : (names fs).Nodup) : (lk fs s = none ∧ (dl fs s).length = fs.length) ∨ ∃ x, lk fs s = some x ∧ (s, x) ∈ fs ∧ (dl fs s).length + 1 = fs.length ∧ tot (dl fs s) + x.l.length = tot fs := by
  induction fs with
  | nil => exact .inl ⟨rfl, rfl⟩
  | cons p r ih =>
    obtain ⟨h1, h2⟩ := List.nodup_cons.1 h
    by_cases e : p.1 = s
    · right
      have h3 : s ∉ names r := by rw [← e]; exact h1
      have h4 : dl r s = r := by
        unfold dl
        rw [List.filter_eq_self]
        intro q hq
        have : q.1 ≠ s := fun e2 => h3 (by rw [← e2]; exact List.mem_map_of_mem hq)
        simpa using this
      have h5 : dl (p :: r) s = r := by
        have : dl (p :: r) s = dl r s := by unfold dl; rw [List.filter_cons_of_neg (by simp [e])]
        rw [this, h4]
      refine ⟨p.2, ?_, ?_, ?_, ?_⟩
      · unfold lk; rw [List.find?_cons_of_pos (by simp [e])]; rfl
      · rw [← e]; exact List.mem_cons_self
      · rw [h5]; rfl
      · rw [h5]; simp [tot]; omega
    · have h5 : dl (p :: r) s = p :: dl r s := by unfold dl; rw [List.filter_cons_of_pos (by simp [e])]
      have h6 : lk (p :: r) s = lk r s := by unfold lk; rw [List.find?_cons_of_neg (by simp [e])]
      rw [h5, h6]
      rcases ih h2 with ⟨a, b⟩ | ⟨x, a, b, c, d⟩
      · exact .inl ⟨a, by simp [b]⟩
      · exact .inr ⟨x, a, List.mem_cons_of_mem _ b, by simp [← c], by simp only [tot, List.map_cons, List.sum_cons] at d ⊢; omega⟩
theorem tot_pt (fs : FS) (s : ByteArray) (x : Fl) : tot (pt fs s x) = x.l.length + tot (dl fs s) := by simp [tot, pt]
abbrev BRow (w : World) (v : Value) (l : List Int) : Prop := Sl w 5 1 v l.length (l.map (.int .u8 ·))
theorem BRow.below {w w' : World} {v : Value} {l : List Int} (h : BRow w v l) (hB : Below w.heap.size w w') : BRow w' v l := Sl.below h hB (Nat.le_refl _)
theorem BRow.form {w : World} {v : Value} {l : List Int} (h : BRow w v l) : ∃ A c, v = .slice A l.length c ∧ l.length ≤ c := Sl.form h
/-- Block b is a map of files. -/
structure FM (w : World) (b n : Nat) (fs : FS) : Prop where
  nodup : (names fs).Nodup
  map : MapV 9 w b n fs.length (ff fs)
  rows : ∀ p ∈ fs, BRow w p.2.v p.2.l ∧ p.1.size ≤ 16
variable {w w' : World} {b n : Nat} {fs : FS}
theorem FM.below (h : FM w b n fs) (hB : Below w.heap.size w w') : FM w' b n fs := ⟨h.nodup, h.map.below hB, fun p hp => ⟨(h.rows p hp).1.below hB, (h.rows p hp).2⟩⟩
theorem BRow.ne_map {v : Value} {l : List Int} (h : BRow w v l) {k : TypeId} {b n m : Nat} {f : Lit → Option Value} (hm : MapV k w b n m f) : v.ownBlock ≠ some b := fun e => by
  obtain ⟨_, cur, hc⟩ := h.lt b e
  exact hm.ne hc rfl
theorem BRow.turned {v : Value} {l : List Int} (h : BRow w v l) (hg : w.grownBy w' (some b)) (hne : v.ownBlock ≠ some b) : BRow w' v l := Sl.move h fun k hk => hg.block k (h.lt k hk).1 (fun e => hne (by rw [hk]; exact e))
theorem FM.made (w : World) : FM (w.alloc (.map #[] 0)) w.heap.size 0 [] := ⟨List.nodup_nil, by
  have h := MapV.made w 9
  have e : ff [] = fun _ => none := by funext kl; rfl
  rw [e]
  exact h, fun p hp => by cases hp⟩
theorem lk_mem {fs : FS} {s : ByteArray} {x : Fl} (h : lk fs s = some x) : (s, x) ∈ fs := by
  unfold lk at h
  obtain ⟨p, hp, rfl⟩ := Option.map_eq_some_iff.1 h
  have h1 := List.find?_some hp
  simp at h1
  rw [← h1]
  exact List.mem_of_find?_eq_some hp
theorem FM.put (h : FM w b n fs) (hn : n < 100000) (s : ByteArray) (hs : s.size ≤ 16) (x : Fl) (hx : BRow w x.v x.l) : ∃ w', (Instr.mapUpdate 40 (.map (some b)) (.string s) x.v).run Try.prog w = .ok () w' ∧ FM w' b (n + 1) (pt fs s x) ∧ w.grownBy w' (some b) := by
  obtain ⟨w', hr, hm, hg⟩ := h.map.put strKeyed Try.underlying40 (by unfold maxLen; omega) (ks_key (s := s) (by unfold maxLen; omega)) x.v (ff (pt fs s x)) (ff_pt fs s x) (fun kl hkl => ff_pt_other fs s x kl hkl)
  refine ⟨w', hr, ⟨names_pt fs s x h.nodup, ?_, fun p hp => ?_⟩, hg⟩
  · have hl : (pt fs s x).length = if (ff fs (ks s)).isSome = true then fs.length else fs.length + 1 := by
      rw [ff_lk]
      rcases dl_len fs s h.nodup with ⟨a, c⟩ | ⟨y, a, _, c, _⟩
      · rw [a]; simp [pt, c]
      · rw [a]; simp [pt, c]
    rw [hl]
    exact hm
  · rcases List.mem_cons.1 hp with rfl | hp
    · exact ⟨hx.turned hg (hx.ne_map h.map), hs⟩
    · have hp' := (List.mem_filter.1 hp).1
      exact ⟨(h.rows p hp').1.turned hg ((h.rows p hp').1.ne_map h.map), (h.rows p hp').2⟩
theorem FM.del (h : FM w b n fs) (s : ByteArray) (hs : s.size ≤ 16) (ty : TypeId) : ∃ w', (Builtin.delete_ #[40, 9] ty #[.map (some b), .string s]).run Try.prog w = .ok (.tuple #[]) w' ∧ FM w' b n (dl fs s) ∧ w.grownBy w' (some b) := by
  obtain ⟨w', hr, hm, hg⟩ := h.map.del strKeyed Try.underlying40 (ks_key (s := s) (by unfold maxLen; omega)) ty (ff (dl fs s)) (ff_dl fs s) (fun kl hkl => find_dl fs s kl hkl)
  refine ⟨w', hr, ⟨names_dl fs s h.nodup, ?_, fun p hp => ?_⟩, hg⟩
  · have hl : (dl fs s).length = if (ff fs (ks s)).isSome = true then fs.length - 1 else fs.length := by
      rw [ff_lk]
      rcases dl_len fs s h.nodup with ⟨a, c⟩ | ⟨y, a, _, c, _⟩
      · rw [a]; simp [c]
      · rw [a]; simp; omega
    rw [hl]
    exact hm
  · have hp' := (List.mem_filter.1 hp).1
    exact ⟨(h.rows p hp').1.turned hg ((h.rows p hp').1.ne_map h.map), (h.rows p hp').2⟩
theorem FM.get (h : FM w b n fs) (s : ByteArray) (hs : s.size ≤ 16) : (Instr.lookup 40 (.map (some b)) (.string s) false).run Try.prog w = .ok (((lk fs s).map (·.v)).getD (.slice none 0 0)) w := by
  have hz : (zeroValue 26).run Try.prog w = .ok (.slice none 0 0) w := by kernel_rfl
  have := h.map.get strKeyed Try.underlying40 hz (ks_key (s := s) (by unfold maxLen; omega))
  rwa [ff_lk] at this
theorem FM.look (h : FM w b n fs) (s : ByteArray) (hs : s.size ≤ 16) : (Instr.lookup 40 (.map (some b)) (.string s) true).run Try.prog w = .ok (.tuple #[((lk fs s).map (·.v)).getD (.slice none 0 0), .bool (lk fs s).isSome]) w := by
  have hz : (zeroValue 26).run Try.prog w = .ok (.slice none 0 0) w := by kernel_rfl
  have := h.map.look strKeyed Try.underlying40 hz (ks_key (s := s) (by unfold maxLen; omega))
  rw [ff_lk] at this
  simpa using this
theorem FM.move (h : FM w b n fs) (hb : w'.heap[b]? = w.heap[b]?) (hr : ∀ p ∈ fs, ∀ k, p.2.v.ownBlock = some k → w'.heap[k]? = w.heap[k]?) : FM w' b n fs := ⟨h.nodup, h.map.move hb, fun p hp => ⟨Sl.move (h.rows p hp).1 (hr p hp), (h.rows p hp).2⟩⟩
end Go.Proofs.Ytcndhemociajjaa.Dk
