/- MatchTurned: more of the plain part: masks, rows step by step. -/
import Derived.Test.YtjpknhemnfokaaaTreeRow
set_option linter.unusedVariables false
set_option linter.unusedSimpArgs false
namespace Go.Proofs.Ytjpknhemnfokaaa.Mt
open Go.RowKit Go.Maps Go.Proofs.YtjpknhemnfokaaaW.PrintWords Go.Proofs.YtjpknhemnfokaaaW.PrintLast Go.Proofs.Ytjpknhemnfokaaa.Sl Go.Proofs.Ytjpknhemnfokaaa.Mv Go.Proofs.Ytjpknhemnfokaaa.PMatchTells

theorem olds_succ (i : Nat) : olds (i + 1) = olds i ++ [nt i] := by unfold olds; rw [List.range_succ, List.map_append]; rfl
theorem olds_len (i : Nat) : (olds i).length = i := by simp [olds]
theorem olds_get (k i : Nat) (h : i < (olds k).length) : (olds k)[i] = nt i := by simp [olds]
theorem olds_sz (k : Nat) : ∀ t ∈ olds k, t.a.size ≤ maxLen ∧ t.b.size ≤ maxLen := fun t ht => by
  obtain ⟨i, _, rfl⟩ := List.mem_map.1 ht
  exact nt_sz i
theorem map_sz (l : List Nat) : ∀ t ∈ l.map nt, t.a.size ≤ maxLen ∧ t.b.size ≤ maxLen := fun t ht => by
  obtain ⟨i, _, rfl⟩ := List.mem_map.1 ht
  exact nt_sz i
theorem turned_eq (k c : Nat) : (olds k).drop c ++ (olds k).take c = (turnedN k c).map nt := by
  unfold olds turnedN
  rw [List.map_append, List.map_drop, List.map_take]
theorem turned_len (k c : Nat) (h : c ≤ k) : (turnedN k c).length = k := by unfold turnedN; simp; omega
/-- The first i of the row that is wanted. -/
def wantP (k c i : Nat) : List Int := (List.range i).map (fun (j : Nat) => (((j + c) % k : Nat) : Int))
theorem wantP_succ (k c i : Nat) : wantP k c (i + 1) = wantP k c i ++ [(((i + c) % k : Nat) : Int)] := by unfold wantP; rw [List.range_succ, List.map_append]; rfl
theorem wantP_len (k c i : Nat) : (wantP k c i).length = i := by simp [wantP]
theorem wantP_all (k c : Nat) : wantP k c k = wantL k c := rfl
set_option maxRecDepth 100000 in
theorem want_same : ∀ k < 10, ∀ c ≤ k, porticobook_Same_int.f 20 (wantL k c) (wantL k c) = some true := by decide +kernel
theorem range_map (k : Nat) : olds k = (List.range k).map nt := rfl
set_option maxRecDepth 100000 in
theorem old_moves : ∀ k < 10, match_Moves.f 20 ((List.range k).map (fun (i : Nat) => (i : Int))) = some 0 := by decide +kernel
theorem fromL_nil (l : List Tr) : fromL [] l = List.replicate l.length (-1) := by
  unfold fromL
  have key : ∀ (l : List Tr), fromGo (fun _ => []) l = List.replicate l.length (-1) := by
    intro l
    induction l with
    | nil => rfl
    | cons t r ih => simp only [fromGo, ih, List.length_cons, List.replicate_succ]
  exact key l
set_option maxRecDepth 100000 in
theorem none_kept : ∀ k < 10, match_Kept.f 20 (List.replicate k (-1)) = some 0 := by decide +kernel
/-- How many are struck. -/
def cnt (k m : Nat) : Nat := (List.range k).countP (fun i => m.testBit i)
set_option maxRecDepth 100000 in
theorem cnt_step : ∀ k < 10, ∀ m < 2 ^ k, ∀ x < k, (m ||| 2 ^ x) < 2 ^ k ∧ cnt k (m ||| 2 ^ x) = if m.testBit x then cnt k m else cnt k m + 1 := by decide +kernel
theorem bit_step (m x y : Nat) : (m ||| 2 ^ x).testBit y = (m.testBit y || decide (x = y)) := by rw [Nat.testBit_or, Nat.testBit_two_pow]
set_option maxRecDepth 100000 in
theorem gone_cnt : ∀ k < 10, ∀ m < 2 ^ k, (goneL k (leftL k m)).length = cnt k m := by decide +kernel
theorem leftN_succ (i m : Nat) : leftN (i + 1) m = leftN i m ++ (if m.testBit i then [] else [i]) := by
  unfold leftN
  rw [List.range_succ, List.filter_append]
  congr 1
  by_cases h : m.testBit i <;> simp [h]
theorem leftN_len (i m : Nat) : (leftN i m).length ≤ i := by
  unfold leftN
  have := List.length_filter_le (fun i => !m.testBit i) (List.range i)
  simpa using this
theorem leftN_lt (i m : Nat) : ∀ x ∈ leftN i m, x < i := fun x hx => List.mem_range.1 (List.mem_filter.1 hx).1
theorem leftN_nodup (i m : Nat) : (leftN i m).Nodup := List.nodup_range.sublist List.filter_sublist
theorem cnt_le (k m : Nat) : cnt k m ≤ k := by
  unfold cnt
  have := List.countP_le_length (p := fun i => m.testBit i) (l := List.range k)
  simpa using this
/-- What the law's own map of numbers holds: a mask. -/
def Mask (f : Lit → Option Value) (m : Nat) : Prop := ∀ x : Nat, f (ki x) = if m.testBit x then some (.bool true) else none
theorem Mask.zero : Mask (fun _ => none) 0 := fun x => by simp
theorem Mask.put {f : Lit → Option Value} {m : Nat} (h : Mask f m) (x : Nat) : Mask (upd f (ki x) (some (.bool true))) (m ||| 2 ^ x) := fun y => by
  rw [bit_step]
  by_cases e : x = y
  · subst e
    rw [upd_same]
    simp
  · rw [upd_other _ _ (fun h => e (by injection h with _ h; omega)), h y]
    simp [e]
theorem zeroBool (w : World) : (zeroValue 4).run Try.prog w = .ok (.bool false) w := by kernel_rfl
theorem cap_le {w : World} {A : Option Addr} {n c : Nat} {l : List Int} (h : IRow w (.slice A n c) l) (hn : n = l.length) : l.length ≤ c := by
  subst hn
  obtain ⟨A', c', e, hc⟩ := h.form
  injection e with _ _ e3
  subst e3
  exact hc
theorem Same_rows {w : World} {A A' : Option Addr} {n c n' c' : Nat} {l l' : List Int} {r : Bool} (h : IRow w (.slice A n c) l) (hn : n = l.length) (h' : IRow w (.slice A' n' c') l') (hn' : n' = l'.length) (hf : porticobook_Same_int.f 20 l l' = some r) : Calls Try.prog 7 #[.slice A n c, .slice A' n' c'] w fun e w' => e = .returned (.bool r) ∧ Below w.heap.size w w' := by
  have hc := cap_le h hn
  have hc' := cap_le h' hn'
  subst hn
  subst hn'
  refine (porticobook_Same_int.calls 20 A c l A' c' l' r w (C_of_irow h rfl) hc (C_of_irow h' rfl) hc' hf).mono ?_
  rintro e w1 ⟨rfl, hd⟩
  obtain ⟨q, rfl⟩ := hd.out
  exact ⟨rfl, pw_below_drewN (Below.refl _ _) q⟩
theorem Moves_row {w : World} {A : Option Addr} {n c : Nat} {l : List Int} {r : Int} (h : IRow w (.slice A n c) l) (hn : n = l.length) (hf : match_Moves.f 20 l = some r) : Calls Try.prog 8 #[.slice A n c] w fun e w' => e = .returned (.int .i64 r) ∧ Below w.heap.size w w' := by
  have hc := cap_le h hn
  subst hn
  exact match_Moves.calls 20 A c l r w (C_of_irow h rfl) hc hf
theorem Kept_row {w : World} {A : Option Addr} {n c : Nat} {l : List Int} {r : Int} (h : IRow w (.slice A n c) l) (hn : n = l.length) (hf : match_Kept.f 20 l = some r) : Calls Try.prog 9 #[.slice A n c] w fun e w' => e = .returned (.int .i64 r) ∧ Below w.heap.size w w' := by
  have hc := cap_le h hn
  subst hn
  refine (match_Kept.calls 20 A c l r w (C_of_irow h rfl) hc hf).mono ?_
  rintro e w1 ⟨rfl, hd⟩
  obtain ⟨q, rfl⟩ := hd.out
  exact ⟨rfl, pw_below_drewN (Below.refl _ _) q⟩
theorem wantL_len (k c : Nat) : (wantL k c).length = k := by simp [wantL]
theorem leftL_len (k m : Nat) : (leftL k m).length = (leftN k m).length := by simp [leftL]
end Go.Proofs.Ytjpknhemnfokaaa.Mt
