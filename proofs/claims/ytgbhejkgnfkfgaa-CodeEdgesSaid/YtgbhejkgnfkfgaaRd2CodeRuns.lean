/- Decode's answer in plain words; a right session comes back out of its bytes. -/
import Derived.Test.YtgbhejkgnfkfgaaRdCodeRuns
set_option linter.unusedVariables false
set_option linter.unusedSimpArgs false
namespace Go.Proofs.Ytgbhejkgnfkfgaa.Cd
open Go.RowKit Go.Proofs.Ytgbhejkgnfkfgaa.Given Go.Proofs.YtgbhejkgnfkfgaaW.PrintWords Go.Proofs.YtgbhejkgnfkfgaaW.PrintLast Go.Proofs.YtgbhejkgnfkfgaaW.PrintMore Go.Proofs.Ytgbhejkgnfkfgaa.PCodeRuns

theorem equal_l0 (a b : List Int) (hl : a.length = b.length) (hn : a.length ≤ 1000000000) : ∀ (d i : Nat), i + d = a.length → Ev (fun k => slices_Equal_byte_byte.l0 k a b (a.length : Int) (i : Int)) (decide (a.drop i = b.drop i)) := by
  intro d
  induction d with
  | zero =>
    intro i hi
    rw [List.drop_of_length_le (by omega), List.drop_of_length_le (by omega)]
    refine (Ev.const true).succ fun k => ?_
    simp only [slices_Equal_byte_byte.l0]
    rw [if_neg (by omega)]
  | succ d ih =>
    intro i hi
    have hw : wrap64 ((i : Int) + 1) = ((i + 1 : Nat) : Int) := by unfold wrap64; omega
    have h1 : i < a.length := by omega
    have h2 : i < b.length := by omega
    have r1 : rd a (i : Int) = a[i] := by simp [rd, List.getD_eq_getElem?_getD, h1]
    have r2 : rd b (i : Int) = b[i] := by simp [rd, List.getD_eq_getElem?_getD, h2]
    rw [List.drop_eq_getElem_cons h1, List.drop_eq_getElem_cons h2]
    by_cases e : a[i] = b[i]
    · have : decide (a[i] :: a.drop (i + 1) = b[i] :: b.drop (i + 1)) = decide (a.drop (i + 1) = b.drop (i + 1)) := by rw [decide_eq_decide, List.cons.injEq]; exact ⟨fun h => h.2, fun h => ⟨e, h⟩⟩
      rw [this]
      refine (ih (i + 1) (by omega)).succ fun k => ?_
      simp only [slices_Equal_byte_byte.l0]
      rw [if_pos (by omega), if_pos (by omega), if_pos (by omega), if_pos (by omega), r1, r2, if_pos e, hw]
    · have : decide (a[i] :: a.drop (i + 1) = b[i] :: b.drop (i + 1)) = false := decide_eq_false (fun h => e (List.cons.inj h).1)
      rw [this]
      refine (Ev.const false).succ fun k => ?_
      simp only [slices_Equal_byte_byte.l0]
      rw [if_pos (by omega), if_pos (by omega), if_pos (by omega), if_pos (by omega), r1, r2, if_neg e]
theorem equal_ev (a b : List Int) (hn : a.length ≤ 1000000000) : Ev (fun k => slices_Equal_byte_byte.f k a b) (decide (a = b)) := by
  unfold slices_Equal_byte_byte.f
  by_cases hl : a.length = b.length
  · have h := equal_l0 a b hl hn a.length 0 (by omega)
    rw [List.drop_zero, List.drop_zero] at h
    simp only [if_pos (show (a.length : Int) = (b.length : Int) by omega)]
    exact h
  · have : decide (a = b) = false := by simp; rintro rfl; exact hl rfl
    rw [this]
    simpa only [if_neg (show ¬ (a.length : Int) = (b.length : Int) by omega)] using Ev.const false
theorem marksP_U64 : ∀ (n : Nat) (s : RSt) (a : List S24), (∀ m ∈ a, 0 ≤ m.f1 ∧ m.f1 < 18446744073709551616) → ∀ m ∈ (marksP n s a).1, 0 ≤ m.f1 ∧ m.f1 < 18446744073709551616 := by
  intro n
  induction n with
  | zero => intro s a h; exact h
  | succ n ih =>
    intro s a h
    refine ih (markP s).2 _ fun m hm => ?_
    rcases List.mem_append.1 hm with hm | hm
    · exact h m hm
    · obtain rfl := List.mem_singleton.1 hm
      exact wv_rng _ 0 (by decide) (by decide)
theorem sessP_U64 (s : RSt) : U64 (sessP s).1 := marksP_U64 _ _ [] (by simp)
theorem encB_len (s : Ses) : (encB s).length ≤ 20000000 := by
  unfold encB
  by_cases h : rightS s = true
  · rw [if_pos h, List.length_append, head_len]
    have := body_len s (right_Mod s h)
    omega
  · rw [if_neg h]; simp
def zeroS : Ses := ([], 0, [], [])
def decP (l : List Int) : Ses × Int :=
  if (takeP (l, false) 8).2.2 = true then (zeroS, 8) else if (sessP (takeP (l, false) 8).2).2.2 = true then (zeroS, 8) else if encB (sessP (takeP (l, false) 8).2).1 = l then ((sessP (takeP (l, false) 8).2).1, 0) else (zeroS, 8)
theorem dec_ev (l : List Int) : Ev (fun k => dec k l) (decP l) := by
  unfold dec decP
  have h1 := take_P (l, false) 8 (by omega)
  rw [show ((8 : Nat) : Int) = 8 from rfl] at h1
  simp only [h1, Option.bind_some]
  generalize (takeP (l, false) 8).2 = s1
  by_cases c1 : s1.2 = true
  · simp only [if_pos c1]; exact Ev.const _
  · simp only [if_neg c1]
    refine Ev.bind (g := fun k (s : List S24 × Int × List Bool × List (List Int) × RSt) => if s.2.2.2.2.2 = true then some (([], 0, [], []), 8) else (code_Encode.f k s.1 s.2.1 s.2.2.1 s.2.2.2.1).bind fun e => (slices_Equal_byte_byte.f k e l).bind fun b => if b = true then some ((s.1, s.2.1, s.2.2.1, s.2.2.2.1), 0) else some (([], 0, [], []), 8)) (sess_P s1) ?_
    have hU := sessP_U64 s1
    generalize sessP s1 = S at hU ⊢
    obtain ⟨⟨ms, at_, fl, st⟩, s2⟩ := S
    simp only at hU ⊢
    by_cases c2 : s2.2 = true
    · simp only [if_pos c2]; exact Ev.const _
    · simp only [if_neg c2]
      refine Ev.bind (g := fun k e => (slices_Equal_byte_byte.f k e l).bind fun b => if b = true then some ((ms, at_, fl, st), 0) else some (([], 0, [], []), 8)) (Encode_ev (ms, at_, fl, st) hU) ?_
      refine Ev.bind (g := fun k b => if b = true then some ((ms, at_, fl, st), 0) else some (([], 0, [], []), 8)) (equal_ev _ l (by have := encB_len (ms, at_, fl, st); omega)) ?_
      by_cases c3 : encB (ms, at_, fl, st) = l
      · simp only [c3, decide_true, if_true]; exact Ev.const _
      · simp only [c3, decide_false, if_false, Bool.false_eq_true]; exact Ev.const _
theorem decP_cases (l : List Int) : (∃ v, decP l = (v, 0) ∧ encB v = l ∧ U64 v) ∨ (decP l = (zeroS, 8)) := by
  unfold decP
  by_cases c1 : (takeP (l, false) 8).2.2 = true
  · rw [if_pos c1]; exact Or.inr rfl
  · rw [if_neg c1]
    by_cases c2 : (sessP (takeP (l, false) 8).2).2.2 = true
    · rw [if_pos c2]; exact Or.inr rfl
    · rw [if_neg c2]
      by_cases c3 : encB (sessP (takeP (l, false) 8).2).1 = l
      · rw [if_pos c3]; exact Or.inl ⟨_, rfl, c3, sessP_U64 _⟩
      · rw [if_neg c3]; exact Or.inr rfl
theorem num_nb (n : Int) (r : List Int) (h0 : -2147483648 ≤ n) (h1 : n < 2147483648) : numP (nb n ++ r, false) = (n, (r, false)) := by
  unfold numP wideP
  rw [takeP_app (nb n) r 4 (nb_len n)]
  simp only
  unfold nb
  obtain ⟨W, hW⟩ : ∃ W : Nat, IntKind.u64.wrap n = (W : Int) := Int.eq_ofNat_of_zero_le (by rw [IntKind.wrap_u64]; omega)
  rw [hW]
  have := wv_be W 4 0 (by have := Nat.mod_lt W (show 0 < 256 ^ 4 by decide); omega)
  rw [show ((0 : Nat) : Int) = 0 from rfl] at this
  rw [this]
  rw [IntKind.wrap_u64] at hW
  congr 1
  unfold wrap64 wrap32
  omega
theorem many_nb (n : Int) (r : List Int) (most : Int) (h0 : 0 ≤ n) (h1 : n ≤ most) (h2 : most ≤ 100000) : manyP (nb n ++ r, false) most = (n, (r, false)) := by
  unfold manyP
  rw [num_nb n r (by omega) (by omega)]
  simp only
  rw [if_neg (by omega)]
theorem str_bytes (s : ByteArray) : strOfNums (bytesOf s) = s := by
  unfold bytesOf strOfNums
  simp [List.map_map, Function.comp_def]
theorem mark_markB (m : S24) (r : List Int) (h : m.f0.size ≤ 1000) (h0 : 0 ≤ m.f1) (h1 : m.f1 < 18446744073709551616) : markP (markB m ++ r, false) = (m, (r, false)) := by
  have e : markB m ++ r = nb (m.f0.size : Int) ++ (bytesOf m.f0 ++ (be m.f1 8 ++ r)) := by simp [markB]
  unfold markP
  rw [e, many_nb _ _ 1000 (by omega) (by omega) (by omega)]
  simp only [Int.toNat_natCast]
  rw [takeP_app (bytesOf m.f0) _ m.f0.size (bytesOf_length _)]
  simp only
  unfold wideP
  rw [takeP_app (be m.f1 8) r 8 (be_len _ _)]
  simp only
  rw [str_bytes]
  obtain ⟨W, hW⟩ := Int.eq_ofNat_of_zero_le h0
  have := wv_be W 8 0 (by have := Nat.mod_lt W (show 0 < 256 ^ 8 by decide); omega)
  rw [show ((0 : Nat) : Int) = 0 from rfl] at this
  rw [hW, this, Nat.mod_eq_of_lt (by omega), Nat.zero_mul, Nat.zero_add, ← hW]
theorem marks_marksB (r : List Int) : ∀ (l a : List S24), (∀ m ∈ l, m.f0.size ≤ 1000 ∧ 0 ≤ m.f1 ∧ m.f1 < 18446744073709551616) → marksP l.length ((l.map markB).flatten ++ r, false) a = (a ++ l, (r, false)) := by
  intro l
  induction l with
  | nil => intro a _; simp [marksP]
  | cons m t ih =>
    intro a h
    have hm := h m (by simp)
    rw [List.map_cons, List.flatten_cons, List.append_assoc]
    show marksP t.length (markP (markB m ++ _, false)).2 (a ++ [(markP (markB m ++ _, false)).1]) = _
    rw [mark_markB m _ hm.1 hm.2.1 hm.2.2, ih _ (fun x hx => h x (by simp [hx]))]
    simp
theorem flags_flagsB (r : List Int) : ∀ (l a : List Bool), flagsP l.length ((l.map flagB).flatten ++ r, false) a = (a ++ l, (r, false)) := by
  intro l
  induction l with
  | nil => intro a; simp [flagsP]
  | cons m t ih =>
    intro a
    rw [List.map_cons, List.flatten_cons, List.append_assoc]
    show flagsP t.length (manyP (nb (if m = true then 1 else 0) ++ _, false) 1).2 (a ++ [(manyP (nb (if m = true then 1 else 0) ++ _, false) 1).1 == 1]) = _
    rw [many_nb _ _ 1 (by cases m <;> simp) (by cases m <;> simp) (by omega)]
    simp only
    rw [ih]
    cases m <;> simp
theorem nums_numsB (r : List Int) : ∀ (l a : List Int), (∀ n ∈ l, -2147483648 ≤ n ∧ n < 2147483648) → numsP l.length ((l.map nb).flatten ++ r, false) a = (a ++ l, (r, false)) := by
  intro l
  induction l with
  | nil => intro a _; simp [numsP]
  | cons m t ih =>
    intro a h
    have hm := h m (by simp)
    rw [List.map_cons, List.flatten_cons, List.append_assoc]
    show numsP t.length (numP (nb m ++ _, false)).2 (a ++ [(numP (nb m ++ _, false)).1]) = _
    rw [num_nb m _ hm.1 hm.2]
    simp only
    rw [ih _ (fun x hx => h x (by simp [hx]))]
    simp
theorem rows_rowsB (r : List Int) : ∀ (l a : List (List Int)), (∀ x ∈ l, x.length ≤ 6 ∧ ∀ n ∈ x, -2147483648 ≤ n ∧ n < 2147483648) → rowsP l.length ((l.map rowB).flatten ++ r, false) a = (a ++ l, (r, false)) := by
  intro l
  induction l with
  | nil => intro a _; simp [rowsP]
  | cons m t ih =>
    intro a h
    have hm := h m (by simp)
    rw [List.map_cons, List.flatten_cons, List.append_assoc]
    have e : ∀ q, rowB m ++ q = nb (m.length : Int) ++ ((m.map nb).flatten ++ q) := fun q => by simp [rowB]
    show rowsP t.length (numsP (manyP (rowB m ++ _, false) 6).1.toNat (manyP (rowB m ++ _, false) 6).2 []).2 (a ++ [(numsP (manyP (rowB m ++ _, false) 6).1.toNat (manyP (rowB m ++ _, false) 6).2 []).1]) = _
    rw [e, many_nb _ _ 6 (by omega) (by omega) (by omega)]
    simp only [Int.toNat_natCast]
    rw [nums_numsB _ m [] hm.2]
    simp only [List.nil_append]
    rw [ih _ (fun x hx => h x (by simp [hx]))]
    simp
theorem right_num (s : Ses) (h : rightS s = true) : 0 ≤ s.2.1 ∧ s.2.1 < (s.1.length : Int) ∧ ∀ l ∈ s.2.2.2, ∀ n ∈ l, -1000 ≤ n ∧ n ≤ 1000 := by
  unfold rightS rightB at h
  simp only [Bool.and_eq_true, decide_eq_true_eq, List.all_eq_true] at h
  obtain ⟨⟨⟨⟨⟨⟨h1, h2⟩, h3⟩, h4⟩, h5⟩, h6⟩, h7⟩ := h
  refine ⟨h2, h3, fun l hl n hn => ?_⟩
  have := h7 l hl
  unfold rowOk at this
  simp only [Bool.and_eq_true, decide_eq_true_eq, Bool.not_eq_true', List.any_eq_false, Bool.not_eq_false, Bool.not_eq_true] at this
  have h9 := this.2 n hn
  unfold numOk at h9
  simp at h9
  omega
theorem sess_body (s : Ses) (h : rightS s = true) (hu : U64 s) : sessP (bodyB s, false) = (s, ([], false)) := by
  obtain ⟨h1, h2, h3, h4, h5⟩ := right_mod s h
  obtain ⟨n0, n1, n2⟩ := right_num s h
  have e : bodyB s = nb (s.1.length : Int) ++ ((s.1.map markB).flatten ++ (nb s.2.1 ++ (nb (s.2.2.1.length : Int) ++ ((s.2.2.1.map flagB).flatten ++ (nb (s.2.2.2.length : Int) ++ ((s.2.2.2.map rowB).flatten ++ [])))))) := by simp [bodyB]
  unfold sessP
  rw [e, many_nb _ _ 12 (by omega) (by omega) (by omega)]
  simp only [Int.toNat_natCast]
  rw [marks_marksB _ s.1 [] (fun m hm => ⟨h2 m hm, hu m hm⟩)]
  simp only [List.nil_append]
  rw [num_nb _ _ (by omega) (by omega)]
  simp only
  rw [many_nb _ _ 8 (by omega) (by omega) (by omega)]
  simp only [Int.toNat_natCast]
  rw [flags_flagsB _ s.2.2.1 []]
  simp only [List.nil_append]
  rw [many_nb _ _ 16 (by omega) (by omega) (by omega)]
  simp only [Int.toNat_natCast]
  rw [rows_rowsB _ s.2.2.2 [] (fun l hl => ⟨h5 l hl, fun n hn => by have := n2 l hl n hn; omega⟩)]
  simp
/-- A right session comes back out of its bytes. -/
theorem back (s : Ses) (h : rightS s = true) (hu : U64 s) : decP (encB s) = (s, 0) := by
  have e1 : encB s = headB (bodyB s) ++ bodyB s := by unfold encB; rw [if_pos h]
  have e2 : takeP (encB s, false) 8 = (headB (bodyB s), (bodyB s, false)) := by rw [e1]; exact takeP_app _ _ 8 (head_len _)
  unfold decP
  rw [e2]
  simp only
  rw [sess_body s h hu]
  simp
/-- What is no right session has no bytes, and they are none. -/
theorem none_nil (s : Ses) (h : ¬ rightS s = true) : encB s = [] := by unfold encB; rw [if_neg h]
theorem enc_pos (s : Ses) (h : rightS s = true) : 8 ≤ (encB s).length := by
  unfold encB
  rw [if_pos h, List.length_append, head_len]
  omega
theorem decP_nil : decP [] = (zeroS, 8) := by
  rcases decP_cases [] with ⟨v, h, h2, _⟩ | h
  · have h3 : (takeP (([] : List Int), false) 8).2.2 = true := by unfold takeP; rw [if_pos (Or.inr (by simp))]
    unfold decP
    rw [if_pos h3]
  · exact h
/-- A proper beginning is none. -/
theorem begun (s : Ses) (h : rightS s = true) (c : Nat) (hc : c < (encB s).length) : decP ((encB s).take c) = (zeroS, 8) := by
  rcases decP_cases ((encB s).take c) with ⟨v, h1, h2, _⟩ | h1
  · by_cases hv : rightS v = true
    · exact absurd h2 (begun_no s v h hv c hc)
    · rw [← h2, none_nil v hv]; exact decP_nil
  · exact h1
/-- Two have the same bytes just if they are the same. -/
theorem enc_inj (s t : Ses) (hs : rightS s = true) (ht : rightS t = true) (us : U64 s) (ut : U64 t) (h : encB s = encB t) : s = t := by
  have a := back s hs us
  rw [h, back t ht ut] at a
  exact (congrArg Prod.fst a).symm
end Go.Proofs.Ytgbhejkgnfkfgaa.Cd
