/- What an argument reads as: from the row's reading ('DataW.trod') to the words of the print ('Kd'): whole numbers, bools, strings, structs, slices of these, nested; with the bounds that the row's reach gives. No conditions. -/
import Derived.Test.YtcaaggfobdfgpaaDoorWWords
import Derived.ProofKit
import Derived.OpenShut
import Derived.Deep.Slices
import Derived.SizedLaws
namespace Go.Proofs.YtcaaggfobdfgpaaDoor.Opens
open Go.ChangeShapes Go.WideShapes Go.ChangeAt Go.RowKit Go.Deep Go.Proofs.YtcaaggfobdfgpaaDoorW.PrintWords

section
variable {H : Type} (P : Program) (enc : TypeId × Value → H) (w : World)

/-- Type t, read, is of kind d, and G holds of what is read. -/
def Opn {α : Type} (t : TypeId) (d : Kd α) (G : α → Prop) : Prop :=
  ∀ (fuel : Nat) (cs : List Value) (x : DataW H × List MemPlace), DataW.trod enc P w 0 (fun _ => true) true fuel t cs = some x →
    (∀ n ∈ x.1.weights P t, n ≤ 140737488351232) → ∃ v : α, d.K w v cs ∧ G v

variable {P enc w}
theorem op_int {t : TypeId} {k : IntKind} (hu : P.underlying t = some (.int k)) : Opn P enc w t (Kd.int k) (fun n => (Lit.int k n).wf = true) := by
  intro fuel cs x h _
  obtain ⟨n, rfl, _, hw⟩ := DataW.trod_int hu h
  exact ⟨n, rfl, hw⟩
theorem op_bool {t : TypeId} (hu : P.underlying t = some .bool) : Opn P enc w t Kd.bool (fun _ => True) := by
  intro fuel cs x h _
  obtain ⟨b, rfl, _⟩ := DataW.trod_bool hu h
  exact ⟨b, rfl, trivial⟩
theorem op_string {t : TypeId} (hu : P.underlying t = some .string) : Opn P enc w t Kd.string (fun s => s.size ≤ 140737488351232) := by
  intro fuel cs x h hwt
  obtain ⟨s, rfl, rfl, _⟩ := DataW.trod_string hu h
  refine ⟨s, rfl, ?_⟩
  have := hwt s.data.toList.length (by simp [DataW.weights])
  simpa using this

theorem weightsAll_mem {H : Type} {P : Program} {e : TypeId} : ∀ {l : List (DataW H)} {d : DataW H}, d ∈ l → ∀ n ∈ d.weights P e, n ∈ DataW.weightsAll P e l
  | _ :: _, _, .head _, n, hn => by simp only [DataW.weightsAll, List.mem_append]; exact .inl hn
  | _ :: _, _, .tail _ h, n, hn => by simp only [DataW.weightsAll, List.mem_append]; exact .inr (weightsAll_mem h n hn)

theorem cells_at {base : Nat} {a : Addr} {n : Nat} {cs : List Value} (h : w.cells? base a n = some cs) : cs.length = n ∧ ∀ i u, cs[i]? = some u → w.cell? (a.add i) = some u := by
  obtain ⟨_, hl, hc⟩ := World.cells?_some h
  refine ⟨hl, fun i u hu => ?_⟩
  have hi : i < n := by
    have := (List.getElem?_eq_some_iff.1 hu).1
    omega
  rw [hc i hi]
  exact hu

theorem op_slice {α : Type} {t e : TypeId} {d : Kd α} {G : α → Prop} {B : Nat} (hu : P.underlying t = some (.slice e)) (hC : P.cellsOf e = d.sz) (hB : P.bytesOf e = B) (he : Opn P enc w e d G) :
    Opn P enc w t (Kd.slice e d) (fun xs => xs.length * B ≤ 140737488351232 ∧ ∀ x ∈ xs, G x) := by
  intro fuel cs x h hwt
  rcases open_slice hu h with ⟨rfl, rfl⟩ | ⟨a, len, cap, m, n, D, Pl, rfl, _, hl, hcm, hm, rfl, hi⟩
  · exact ⟨[], ⟨none, 0, rfl, Nat.le_refl _, rfl, by simp, fun h => absurd h (by simp)⟩, by simp, by simp⟩
  · simp only [if_true] at hm
    subst hm
    have hwt' : ∀ k ∈ (len + (m - len)) * P.bytesOf e :: (DataW.weightsAll P e ((List.range len).map D) ++ DataW.weightsAll P e ((List.range (m - len)).map fun j => D (len + j))), k ≤ 140737488351232 := by
      intro k hk
      refine hwt k ?_
      simp only [DataW.weights, hu, List.length_map, List.length_range]
      exact hk
    have hel : ∀ i, ∃ v : Option α, i < len → ∃ u cs', v = some u ∧ w.cells? 0 (a.add (i * P.cellsOf e)) (P.cellsOf e) = some cs' ∧ d.K w u cs' ∧ G u := by
      intro i
      rcases Nat.lt_or_ge i len with hlt | hge
      · obtain ⟨cs', hc, ht⟩ := hi i (by omega)
        obtain ⟨u, hK, hG⟩ := he _ _ _ ht (fun k hk => hwt' k (by
          refine List.mem_cons_of_mem _ (List.mem_append_left _ (weightsAll_mem (d := D i) ?_ k hk))
          exact List.mem_map.2 ⟨i, by simpa using hlt, rfl⟩))
        exact ⟨some u, fun _ => ⟨u, cs', rfl, hc, hK, hG⟩⟩
      · exact ⟨none, fun h => by omega⟩
    rcases Nat.eq_zero_or_pos len with h0 | hpos
    · subst h0
      exact ⟨[], ⟨some a, m, rfl, by simp, rfl, by simp, fun h => absurd h (by simp)⟩, by simp, by simp⟩
    · obtain ⟨v0, hv0⟩ := hel 0
      obtain ⟨u0, _, _, _⟩ := hv0 hpos
      have hf : ∃ f : Nat → α, ∀ i, i < len → ∃ cs', w.cells? 0 (a.add (i * P.cellsOf e)) (P.cellsOf e) = some cs' ∧ d.K w (f i) cs' ∧ G (f i) := by
        refine ⟨fun i => ((hel i).choose).getD u0, fun i hlt => ?_⟩
        obtain ⟨u, cs', hv, hc, hK, hG⟩ := (hel i).choose_spec hlt
        have eu : ((hel i).choose).getD u0 = u := by rw [hv]; rfl
        exact ⟨cs', hc, by show d.K w (((hel i).choose).getD u0) cs'; rw [eu]; exact hK, by show G (((hel i).choose).getD u0); rw [eu]; exact hG⟩
      obtain ⟨f, hf⟩ := hf
      have hlen : ((List.range len).map f).length = len := by simp
      refine ⟨(List.range len).map f, ⟨some a, m, by rw [hlen], by rw [hlen]; exact hl, ?_, ?_, ?_⟩, ?_, ?_⟩
      · rfl
      · rw [hlen]
        unfold maxLen at hcm
        omega
      · intro _
        refine ⟨a, rfl, fun j p hj => ?_⟩
        have hjl : j < len := by
          have := (List.getElem?_eq_some_iff.1 hj).1
          simpa using this
        obtain ⟨cs', hc, hK, _⟩ := hf j hjl
        have hp : f j = p := by
          have h2 : ((List.range len).map f)[j]? = some (f j) := by simp [List.getElem?_range hjl]
          rw [h2] at hj
          exact Option.some.inj hj
        subst hp
        rw [hC] at hc
        obtain ⟨hcl, hat⟩ := cells_at hc
        refine ⟨cs', hcl, hK, fun i u hu' => ?_⟩
        rw [← Go.Deep.add_add]
        exact hat i u hu'
      · rw [hlen, ← hB]
        have h1 := hwt' _ List.mem_cons_self
        exact Nat.le_trans (Nat.mul_le_mul_right _ (by omega)) h1
      · intro x hx
        obtain ⟨i, hi', rfl⟩ := List.mem_map.1 hx
        obtain ⟨_, _, _, hG⟩ := hf i (by simpa using hi')
        exact hG

variable (P enc w) in
/-- Fields in line, from a place on. -/
def OpnL {α : Type} (l : List Field) (off : Nat) (d : Kd α) (G : α → Prop) : Prop :=
  ∀ (n : Nat) (cs : List Value) (ys : List (DataW H × List MemPlace)), (∀ (i : Nat) (f : Field), l[i]? = some f → DataW.trod enc P w 0 (fun _ => true) true n f.type ((cs.drop f.offset).take (P.cellsOf f.type)) = ys[i]?) →
    ys.length = l.length → (∀ k ∈ DataW.weightsEach P (l.map (·.type)) (ys.map (·.1)), k ≤ 140737488351232) → cs.length = off + d.sz → ∃ v : α, d.K w v (cs.drop off) ∧ G v
theorem opl_one {α : Type} {f : Field} {off : Nat} {d : Kd α} {G : α → Prop} (he : Opn P enc w f.type d G) (ho : f.offset = off) (hC : P.cellsOf f.type = d.sz) : OpnL P enc w [f] off d G := by
  intro n cs ys hy hl hwt hcs
  match ys, hl with
  | [y], _ =>
    have h := hy 0 f rfl
    obtain ⟨v, hK, hG⟩ := he _ _ y (by simpa using h) (fun k hk => hwt k (by simpa [DataW.weightsEach] using hk))
    refine ⟨v, ?_, hG⟩
    rw [ho, hC, List.take_of_length_le (by rw [List.length_drop]; omega)] at hK
    exact hK
theorem opl_cons {α β : Type} {f : Field} {l : List Field} {off : Nat} {d0 : Kd α} {d1 : Kd β} {G0 : α → Prop} {G1 : β → Prop} (he : Opn P enc w f.type d0 G0) (ho : f.offset = off) (hC : P.cellsOf f.type = d0.sz) (hr : OpnL P enc w l (off + d0.sz) d1 G1) :
    OpnL P enc w (f :: l) off (Kd.pair d0 d1) (fun v => G0 v.1 ∧ G1 v.2) := by
  intro n cs ys hy hl hwt hcs
  match ys, hl with
  | y :: ys, hl =>
    have h := hy 0 f rfl
    have hsz : (Kd.pair d0 d1).sz = d0.sz + d1.sz := rfl
    obtain ⟨v0, hK0, hG0⟩ := he _ _ y (by simpa using h) (fun k hk => hwt k (by
      simp only [List.map_cons, DataW.weightsEach, List.mem_append]
      exact .inl hk))
    obtain ⟨v1, hK1, hG1⟩ := hr n cs ys (fun i g hg => by simpa using hy (i + 1) g (by simpa using hg)) (by simpa using hl) (fun k hk => hwt k (by
      simp only [List.map_cons, DataW.weightsEach, List.mem_append]
      exact .inr hk)) (by omega)
    refine ⟨(v0, v1), ⟨_, _, ?_, hK0, hK1⟩, hG0, hG1⟩
    rw [ho, hC, ← List.drop_drop, List.take_append_drop]
theorem op_struct {α : Type} {t : TypeId} {fs : Array Field} {d : Kd α} {G : α → Prop} (hu : P.underlying t = some (.struct fs)) (hl : OpnL P enc w fs.toList 0 d G) (hC : P.cellsOf t = d.sz) : Opn P enc w t d G := by
  intro fuel cs x h hwt
  obtain ⟨xs, n, _, rfl, hcl, hxl, hf⟩ := DataW.trod_struct hu h
  obtain ⟨v, hK, hG⟩ := hl n cs xs (fun i f hi => hf i f (by simpa using hi)) (by simpa using hxl) (fun k hk => hwt k (by
    simp only [DataW.weights, hu]
    exact hk)) (by omega)
  exact ⟨v, by simpa using hK, hG⟩
theorem op_iso {α β : Type} {t : TypeId} {d : Kd α} {G : α → Prop} (f : β → α) (g : α → β) (hfg : ∀ a, f (g a) = a) (h : Opn P enc w t d G) : Opn P enc w t (Kd.iso d f) (fun b => G (f b)) := by
  intro fuel cs x ht hwt
  obtain ⟨v, hK, hG⟩ := h fuel cs x ht hwt
  exact ⟨g v, by show d.K w (f (g v)) cs; rw [hfg]; exact hK, by show G (f (g v)); rw [hfg]; exact hG⟩

/-- An argument, by its place. -/
theorem arg_open {α : Type} {t : TypeId} {d : Kd α} {G : α → Prop} (ho : Opn P enc w t d G) {v : Value} {x : DataW H} {p : List MemPlace} (h : DataW.Trod enc P w 0 (fun _ => true) true t v x p)
    {ts : List TypeId} {ds : List (DataW H)} (hsz : (DataW.weightsEach P ts ds).all (· ≤ reachBytes) = true) {j : Nat} (ht : ts[j]? = some t) (hd : ds[j]? = some x) : ∃ a : α, d.K w a v.cells.toList ∧ G a := by
  obtain ⟨fuel, hf⟩ := h
  refine ho fuel _ _ hf (fun n hn => ?_)
  have := List.all_eq_true.1 hsz n (DataW.weights_mem_each ht hd n hn)
  exact of_decide_eq_true this
end
end Go.Proofs.YtcaaggfobdfgpaaDoor.Opens
