/- LifeTells: a row of events whose elements are written. -/
import Derived.Test.YtnpmmmgaghhndaaTellsMap
import Derived.Test.YtnpmmmgaghhndaaLifeBegins
set_option linter.unusedSimpArgs false
set_option linter.unusedVariables false
namespace Go.Proofs.Ytnpmmmgaghhndaa.Lf
open Go.RowKit Go.Maps Go.Proofs.Ytnpmmmgaghhndaa.PLifeBegins Go.Proofs.YtnpmmmgaghhndaaW.PrintWords Go.Proofs.YtnpmmmgaghhndaaW.PrintLast Go.Proofs.Ytnpmmmgaghhndaa.Given Go.Proofs.Ytnpmmmgaghhndaa.Mv Go.Proofs.Ytnpmmmgaghhndaa.Sl

def evcells (l : List Ev) : List Value := l.flatMap fun e => [.int .i64 e.f0, .int .i64 e.f1]
theorem evcells_len : ∀ l : List Ev, (evcells l).length = l.length * 2
  | [] => rfl
  | e :: t => by
    show (Value.int .i64 e.f0 :: Value.int .i64 e.f1 :: evcells t).length = (e :: t).length * 2
    simp [evcells_len t]
    omega
theorem evcells_get : ∀ (l : List Ev) (j : Nat) (e : Ev), l[j]? = some e → (evcells l)[j * 2]? = some (.int .i64 e.f0) ∧ (evcells l)[j * 2 + 1]? = some (.int .i64 e.f1)
  | [], j, e, h => by simp at h
  | m :: t, 0, e, h => by simp at h; subst h; exact ⟨rfl, rfl⟩
  | m :: t, j + 1, e, h => by
    have := evcells_get t j e (by simpa using h)
    rw [show (j + 1) * 2 = j * 2 + 1 + 1 by omega]
    exact this
theorem evcells_set : ∀ (l : List Ev) (j : Nat) (e : Ev), ((evcells l).set (j * 2) (.int .i64 e.f0)).set (j * 2 + 1) (.int .i64 e.f1) = evcells (l.set j e)
  | [], j, e => by simp [evcells]
  | m :: t, 0, e => rfl
  | m :: t, j + 1, e => by
    rw [show (j + 1) * 2 = j * 2 + 1 + 1 by omega]
    show Value.int .i64 m.f0 :: Value.int .i64 m.f1 :: (((evcells t).set (j * 2) _).set (j * 2 + 1) _) = _
    rw [evcells_set t j e]
    rfl
abbrev ESl (w : World) (v : Value) (l : List Ev) : Prop := Sl w 23 2 v l.length (evcells l)
theorem ESl.of_R {w : World} {B : Nat} {v : Value} {l : List Ev} (h : RL w B v l) : ESl w v l := by
  obtain ⟨_, inner, ho, hr⟩ := h
  have he : inner = evcells l := by
    have hl : inner.length = l.length * 2 := ho.1
    apply List.ext_getElem?
    intro j
    by_cases hj : j < l.length * 2
    · have hj2 : j / 2 < l.length := by omega
      obtain ⟨e, hle⟩ : ∃ e, l[j / 2]? = some e := ⟨l[j / 2], List.getElem?_eq_getElem hj2⟩
      have h1 := hr.2 (j / 2) e hle
      obtain ⟨c0, c1, e0, e1, e2⟩ := h1
      have e1 : c0 = [.int .i64 e.f0] := e1
      have e2 : c1 = [.int .i64 e.f1] := e2
      have e0 : (inner.drop (j / 2 * 2)).take 2 = c0 ++ c1 := e0
      rw [e1, e2] at e0
      obtain ⟨g0, g1⟩ := evcells_get l (j / 2) e hle
      have k0 : inner[j / 2 * 2]? = some (.int .i64 e.f0) := by
        have := congrArg (fun x => x[0]?) e0
        simpa [List.getElem?_take, List.getElem?_drop] using this
      have k1 : inner[j / 2 * 2 + 1]? = some (.int .i64 e.f1) := by
        have := congrArg (fun x => x[1]?) e0
        simpa [List.getElem?_take, List.getElem?_drop] using this
      rcases Nat.mod_two_eq_zero_or_one j with c | c
      · rw [show j = j / 2 * 2 by omega, k0, g0]
      · rw [show j = j / 2 * 2 + 1 by omega, k1, g1]
    · rw [List.getElem?_eq_none (by omega), List.getElem?_eq_none (by rw [evcells_len]; omega)]
  rw [he] at ho
  exact Sl.of_own ho
theorem ESl.C {w : World} {A : Option Addr} {n c : Nat} {l : List Ev} (h : ESl w (.slice A n c) l) (hl : l.length ≤ 1000000) : n = l.length ∧ n ≤ c ∧ Kd.C k23 w A l.length l := by
  obtain ⟨A', c', e, hc⟩ := Sl.form h
  injection e with e1 e2 e3
  subst e1 e2 e3
  refine ⟨rfl, hc, rfl, by omega, fun h0 => ?_⟩
  obtain ⟨g, o, c2, e, _⟩ := Sl.form1 h h0
  injection e with e1 e2 e3
  subst e1 e3
  refine ⟨⟨g, o, none⟩, rfl, fun j p hj => ⟨[.int .i64 p.f0, .int .i64 p.f1], rfl, k23_mk w p, fun i u hu => ?_⟩⟩
  obtain ⟨g0, g1⟩ := evcells_get l j p hj
  have hadd : ∀ q, (⟨g, o, none⟩ : Addr).add q = ⟨g, o + q, none⟩ := fun q => by unfold Addr.add; split <;> simp_all
  show w.cell? ((⟨g, o, none⟩ : Addr).add (j * 2 + i)) = some u
  rw [hadd]
  rcases i with _ | _ | i
  · cases hu; exact Sl.cell h (j * 2) _ g0
  · cases hu; exact Sl.cell h (j * 2 + 1) _ g1
  · simp at hu
theorem Sl.set1 {w : World} {e : TypeId} {size n g o c : Nat} {xs : List Value} (h : Sl w e size (.slice (some ⟨g, o, none⟩) n c) n xs) (j : Nat) (hj : j < n * size) (u : Value) : Sl (w.setCell ⟨g, o + j, none⟩ u) e size (.slice (some ⟨g, o, none⟩) n c) n (xs.set j u) := by
  refine ⟨by rw [List.length_set]; exact h.1, ?_⟩
  rcases h.2 with ⟨h0, _⟩ | ⟨g', o', cap, cur, e1, h1, h2, h3, h4, h5⟩
  · cases h0
  · injection e1 with e1 e2 e3
    injection e1 with e1
    injection e1 with e1 e4
    subst e1 e4 e3
    refine .inr ⟨g, o, c, cur.setIfInBounds (o + j) u, rfl, ?_, h2, h3, by simpa using h4, ?_⟩
    · simp [World.setCell, Array.getElem?_modify, h1]
    · rw [Array.toList_setIfInBounds, ← h5]
      rw [List.drop_set, if_neg (by omega), show o + j - o = j by omega, List.take_set]
theorem ESl.set {w : World} {g o n c : Nat} {l : List Ev} (h : ESl w (.slice (some ⟨g, o, none⟩) n c) l) (i : Nat) (hi : i < l.length) (e : Ev) : ESl ((w.setCell ⟨g, o + i * 2, none⟩ (.int .i64 e.f0)).setCell ⟨g, o + (i * 2 + 1), none⟩ (.int .i64 e.f1)) (.slice (some ⟨g, o, none⟩) n c) (l.set i e) := by
  obtain ⟨A', c', e1, hc⟩ := Sl.form h
  injection e1 with _ e2 _
  subst e2
  have h1 := Sl.set1 (n := l.length) h (i * 2) (by omega) (.int .i64 e.f0)
  have h2 := Sl.set1 (n := l.length) h1 (i * 2 + 1) (by omega) (.int .i64 e.f1)
  rw [evcells_set] at h2
  show Sl _ _ _ _ (l.set i e).length _
  rw [List.length_set]
  exact h2
end Go.Proofs.Ytnpmmmgaghhndaa.Lf
