/- Decode in plain words: the reader part by part, for any bytes and for a right session's. -/
import Derived.Test.YtgbhejkgnfkfgaaEnc2CodeRuns
set_option linter.unusedVariables false
set_option linter.unusedSimpArgs false
namespace Go.Proofs.Ytgbhejkgnfkfgaa.Cd
open Go.RowKit Go.Proofs.Ytgbhejkgnfkfgaa.Given Go.Proofs.YtgbhejkgnfkfgaaW.PrintWords Go.Proofs.YtgbhejkgnfkfgaaW.PrintLast Go.Proofs.YtgbhejkgnfkfgaaW.PrintMore Go.Proofs.Ytgbhejkgnfkfgaa.PCodeRuns

def Byt (l : List Int) : Prop := ∀ x ∈ l, 0 ≤ x ∧ x < 256
def takeP (s : RSt) (n : Nat) : List Int × RSt := if s.2 = true ∨ (s.1.length : Int) < (n : Int) then (List.replicate n 0, (s.1, true)) else (s.1.take n, (s.1.drop n, false))
theorem take_P (s : RSt) (n : Nat) (hn : n ≤ 100000) : reader_take.f [] s (n : Int) = some (takeP s n) := by
  unfold reader_take.f takeP
  rw [if_neg (by omega)]
  by_cases h : s.2 = true ∨ (s.1.length : Int) < (n : Int)
  · rw [if_pos h, if_pos h]; rfl
  · rw [if_neg h, if_neg h]; rfl
theorem takeP_byt (s : RSt) (n : Nat) (h : Byt s.1) : Byt (takeP s n).1 ∧ Byt (takeP s n).2.1 := by
  unfold takeP
  by_cases c : s.2 = true ∨ (s.1.length : Int) < (n : Int)
  · rw [if_pos c]
    exact ⟨fun x hx => by have := List.eq_of_mem_replicate hx; omega, h⟩
  · rw [if_neg c]
    exact ⟨fun x hx => h x (List.mem_of_mem_take hx), fun x hx => h x (List.mem_of_mem_drop hx)⟩
theorem takeP_len (s : RSt) (n : Nat) : (takeP s n).1.length = n := by
  unfold takeP
  by_cases c : s.2 = true ∨ (s.1.length : Int) < (n : Int)
  · rw [if_pos c]; simp
  · rw [if_neg c]
    simp only [not_or, Bool.not_eq_true] at c
    rw [List.length_take, Nat.min_eq_left (by omega)]
theorem takeP_app (a r : List Int) (n : Nat) (h : a.length = n) : takeP (a ++ r, false) n = (a, (r, false)) := by
  unfold takeP
  rw [if_neg (by simp only [List.length_append]; rintro (h | h); · cases h
                 · omega)]
  simp [← h]
def step (x y : Int) : Int := Go.bits .or .u64 (IntKind.u64.wrap (x * 256)) (IntKind.u64.wrap y)
def wv (l : List Int) (x : Int) : Int := l.foldl step x
theorem step_rng (x y : Int) : 0 ≤ step x y ∧ step x y < 18446744073709551616 := by
  unfold step bits
  simp only
  rw [IntKind.wrap_u64]
  omega
theorem step_val (x y : Int) (h0 : 0 ≤ x) (h1 : x * 256 < 18446744073709551616) (y0 : 0 ≤ y) (y1 : y < 256) : step x y = x * 256 + y := by
  unfold step
  rw [show IntKind.u64.wrap (x * 256) = x * 256 by rw [IntKind.wrap_u64]; omega, show IntKind.u64.wrap y = y by rw [IntKind.wrap_u64]; omega]
  exact bits_join .u64 64 (by decide) (fun n a b => by rw [IntKind.wrap_u64]; omega) 8 (x * 256) y (by omega) (by omega) (by omega) y0 (by omega) (by omega)
theorem wv_rng (l : List Int) : ∀ x : Int, 0 ≤ x → x < 18446744073709551616 → 0 ≤ wv l x ∧ wv l x < 18446744073709551616 := by
  induction l with
  | nil => intro x a b; exact ⟨a, b⟩
  | cons y r ih => intro x a b; exact ih (step x y) (step_rng x y).1 (step_rng x y).2
theorem wv_be (n : Nat) (m : Nat) : ∀ x : Nat, x * 256 ^ m + n % 256 ^ m < 18446744073709551616 → wv (be (n : Int) m) (x : Int) = ((x * 256 ^ m + n % 256 ^ m : Nat) : Int) := by
  induction m with
  | zero => intro x _; simp [be, wv, Nat.mod_one]
  | succ m ih =>
    intro x h
    have hP : 0 < 256 ^ m := Nat.pow_pos (by decide)
    have e1 : n % 256 ^ (m + 1) = n % 256 ^ m + 256 ^ m * (n / 256 ^ m % 256) := by rw [Nat.pow_succ, Nat.mod_mul]
    have e2 : ((n : Int) / 2 ^ (8 * m)) % 256 = ((n / 256 ^ m % 256 : Nat) : Int) := by
      have : (2 : Int) ^ (8 * m) = ((256 ^ m : Nat) : Int) := by rw [Int.pow_mul]; simp
      rw [this]; simp
    have hq : n / 256 ^ m % 256 < 256 := Nat.mod_lt _ (by decide)
    rw [Nat.pow_succ] at h ⊢
    rw [Nat.pow_succ] at e1
    rw [e1] at h ⊢
    generalize n / 256 ^ m % 256 = q at *
    have hle : x * 256 * 1 ≤ x * 256 * 256 ^ m := Nat.mul_le_mul_left _ hP
    have e3 : x * (256 ^ m * 256) = x * 256 * 256 ^ m := by rw [Nat.mul_comm (256 ^ m) 256, ← Nat.mul_assoc]
    have e4 : (x * 256 + q) * 256 ^ m = x * 256 * 256 ^ m + 256 ^ m * q := by rw [Nat.add_mul, Nat.mul_comm q]
    show wv (be (n : Int) m) (step (x : Int) (((n : Int) / 2 ^ (8 * m)) % 256)) = _
    rw [e2, step_val _ _ (by omega) (by omega) (by omega) (by omega), show (x : Int) * 256 + (q : Int) = ((x * 256 + q : Nat) : Int) by omega, ih (x * 256 + q) (by omega)]
    congr 1
    omega
def wideP (s : RSt) (m : Nat) : Int × RSt := (wv (takeP s m).1 0, (takeP s m).2)
theorem wide_l0 (l : List Int) (s : RSt) (hl : l.length ≤ 1000000) : ∀ (d i : Nat) (x : Int), i + d = l.length → Ev (fun k => code_reader_wide.l0 k x l (l.length : Int) (i : Int) [] s) (wv (l.drop i) x, s) := by
  intro d
  induction d with
  | zero =>
    intro i x hi
    rw [List.drop_of_length_le (by omega)]
    refine (Ev.const (x, s)).succ fun k => ?_
    simp only [code_reader_wide.l0]
    rw [if_neg (by omega)]
  | succ d ih =>
    intro i x hi
    have hw : wrap64 ((i : Int) + 1) = ((i + 1 : Nat) : Int) := by unfold wrap64; omega
    have hil : i < l.length := by omega
    have hrd : rd l (i : Int) = l[i] := by simp [rd, List.getD_eq_getElem?_getD, hil]
    rw [List.drop_eq_getElem_cons hil]
    refine (ih (i + 1) (step x l[i]) (by omega)).succ fun k => ?_
    simp only [code_reader_wide.l0]
    rw [if_pos (by omega), if_pos (by omega), if_pos (by omega), hw, hrd]
    rfl
theorem wide_ev (s : RSt) (m : Nat) (hm : m ≤ 100000) : Ev (fun k => code_reader_wide.f k [] s (m : Int)) (wideP s m) := by
  have h := wide_l0 (takeP s m).1 (takeP s m).2 (by rw [takeP_len]; omega) (takeP s m).1.length 0 0 (by omega)
  rw [List.drop_zero] at h
  obtain ⟨K, h⟩ := h
  refine ⟨K, fun k hk => ?_⟩
  show code_reader_wide.f k [] s (m : Int) = _
  unfold code_reader_wide.f
  rw [take_P s m hm, Option.bind_some]
  exact h k hk
def numP (s : RSt) : Int × RSt := (wrap64 (wrap32 (wideP s 4).1), (wideP s 4).2)
theorem num_P (s : RSt) : Ev (fun k => code_reader_num.f k [] s) (numP s) := by
  unfold code_reader_num.f
  exact Ev.bind (g := fun k bt => some (wrap64 (wrap32 bt.1), bt.2)) (wide_ev s 4 (by omega)) (Ev.const _)
def manyP (s : RSt) (most : Int) : Int × RSt := if (numP s).1 < 0 ∨ (numP s).1 > most then (0, ((numP s).2.1, true)) else numP s
theorem many_P (s : RSt) (most : Int) : Ev (fun k => code_reader_many.f k [] s most) (manyP s most) := by
  unfold code_reader_many.f
  refine Ev.bind (g := fun k bt => if bt.1 < 0 then some (0, (bt.2.1, true)) else if bt.1 > most then some (0, (bt.2.1, true)) else some (bt.1, bt.2)) (num_P s) ?_
  unfold manyP
  by_cases h1 : (numP s).1 < 0
  · rw [if_pos (Or.inl h1)]
    exact ⟨0, fun k _ => if_pos h1⟩
  · by_cases h2 : (numP s).1 > most
    · rw [if_pos (Or.inr h2)]
      exact ⟨0, fun k _ => by show (if _ then _ else _) = _; rw [if_neg h1, if_pos h2]⟩
    · rw [if_neg (show ¬ ((numP s).1 < 0 ∨ (numP s).1 > most) by omega)]
      exact ⟨0, fun k _ => by show (if _ then _ else _) = _; rw [if_neg h1, if_neg h2]⟩
theorem manyP_rng (s : RSt) (most : Int) (h : 0 ≤ most) : 0 ≤ (manyP s most).1 ∧ (manyP s most).1 ≤ most := by
  unfold manyP
  by_cases c : (numP s).1 < 0 ∨ (numP s).1 > most
  · rw [if_pos c]; exact ⟨Int.le_refl _, h⟩
  · rw [if_neg c]; omega
def numsP : Nat → RSt → List Int → List Int × RSt
  | 0, s, a => (a, s)
  | n + 1, s, a => numsP n (numP s).2 (a ++ [(numP s).1])
def rowsP : Nat → RSt → List (List Int) → List (List Int) × RSt
  | 0, s, a => (a, s)
  | n + 1, s, a => rowsP n (numsP (manyP s 6).1.toNat (manyP s 6).2 []).2 (a ++ [(numsP (manyP s 6).1.toNat (manyP s 6).2 []).1])
def flagsP : Nat → RSt → List Bool → List Bool × RSt
  | 0, s, a => (a, s)
  | n + 1, s, a => flagsP n (manyP s 1).2 (a ++ [(manyP s 1).1 == 1])
def markP (s : RSt) : S24 × RSt :=
  (⟨strOfNums (takeP (manyP s 1000).2 (manyP s 1000).1.toNat).1, (wideP (takeP (manyP s 1000).2 (manyP s 1000).1.toNat).2 8).1⟩, (wideP (takeP (manyP s 1000).2 (manyP s 1000).1.toNat).2 8).2)
def marksP : Nat → RSt → List S24 → List S24 × RSt
  | 0, s, a => (a, s)
  | n + 1, s, a => marksP n (markP s).2 (a ++ [(markP s).1])
def sessP (s : RSt) : Ses × RSt :=
  let m := marksP (manyP s 12).1.toNat (manyP s 12).2 []
  let t := numP m.2
  let f := flagsP (manyP t.2 8).1.toNat (manyP t.2 8).2 []
  let r := rowsP (manyP f.2 16).1.toNat (manyP f.2 16).2 []
  ((m.1, t.1, f.1, r.1), r.2)
theorem sess_l3 (x42 x43 : Int) (ms : List S24) (at_ : Int) (fl : List Bool) (st : List (List Int)) (r) : ∀ (d i : Nat) (s : RSt) (a : List Int), i + d ≤ 1000 → a.length + d ≤ 100000 → st.length ≤ 1000000 → Ev (fun k => code_reader_session.l2 k x42 (wrap64 (x43 + 1)) [] (numsP d s a).2 ms at_ fl (st ++ [(numsP d s a).1])) r → Ev (fun k => code_reader_session.l3 k a x42 x43 ((i + d : Nat) : Int) (i : Int) [] s ms at_ fl st) r := by
  intro d
  induction d with
  | zero =>
    intro i s a h1 h2 h3 h
    refine h.succ fun k => ?_
    simp only [code_reader_session.l3]
    rw [if_neg (by omega), if_pos (by omega)]
    rfl
  | succ d ih =>
    intro i s a h1 h2 h3 h
    have hw : wrap64 ((i : Int) + 1) = ((i + 1 : Nat) : Int) := by unfold wrap64; omega
    have h4 := ih (i + 1) (numP s).2 (a ++ [(numP s).1]) (by omega) (by simp; omega) h3 h
    rw [show i + 1 + d = i + (d + 1) by omega] at h4
    have h5 := Ev.bind (g := fun k bt => code_reader_session.l3 k (a ++ [bt.1]) x42 x43 ((i + (d + 1) : Nat) : Int) ((i + 1 : Nat) : Int) [] bt.2 ms at_ fl st) (num_P s) h4
    refine h5.succ fun k => ?_
    simp only [code_reader_session.l3]
    rw [if_pos (by omega), hw]
    congr 1
    funext bt
    rw [if_pos (by omega)]
theorem sess_l2 (ms : List S24) (at_ : Int) (fl : List Bool) : ∀ (d i : Nat) (s : RSt) (a : List (List Int)), i + d ≤ 1000 → a.length + d ≤ 100000 → Ev (fun k => code_reader_session.l2 k ((i + d : Nat) : Int) (i : Int) [] s ms at_ fl a) (ms, at_, fl, (rowsP d s a).1, (rowsP d s a).2) := by
  intro d
  induction d with
  | zero =>
    intro i s a h1 h2
    refine (Ev.const (ms, at_, fl, a, s)).succ fun k => ?_
    simp only [code_reader_session.l2]
    rw [if_neg (by omega)]
  | succ d ih =>
    intro i s a h1 h2
    have hw : wrap64 ((i : Int) + 1) = ((i + 1 : Nat) : Int) := by unfold wrap64; omega
    have hr := manyP_rng s 6 (by omega)
    have h4 := ih (i + 1) (numsP (manyP s 6).1.toNat (manyP s 6).2 []).2 (a ++ [(numsP (manyP s 6).1.toNat (manyP s 6).2 []).1]) (by omega) (by simp; omega)
    rw [show i + 1 + d = i + (d + 1) by omega, ← hw] at h4
    have h5 := sess_l3 ((i + (d + 1) : Nat) : Int) (i : Int) ms at_ fl a _ (manyP s 6).1.toNat 0 (manyP s 6).2 [] (by omega) (by simp; omega) (by omega) h4
    rw [show ((0 + (manyP s 6).1.toNat : Nat) : Int) = (manyP s 6).1 by omega] at h5
    have h6 := Ev.bind (g := fun k bt => code_reader_session.l3 k [] ((i + (d + 1) : Nat) : Int) (i : Int) bt.1 ((0 : Nat) : Int) [] bt.2 ms at_ fl a) (many_P s 6) h5
    refine h6.succ fun k => ?_
    simp only [code_reader_session.l2]
    rw [if_pos (by omega)]
    rfl
theorem sess_l1 (ms : List S24) (at_ : Int) (r) : ∀ (d i : Nat) (s : RSt) (a : List Bool), i + d ≤ 1000 → a.length + d ≤ 100000 → Ev (fun k => (code_reader_many.f k [] (flagsP d s a).2 16).bind fun bt => code_reader_session.l2 k bt.1 0 [] bt.2 ms at_ (flagsP d s a).1 []) r → Ev (fun k => code_reader_session.l1 k ((i + d : Nat) : Int) (i : Int) [] s ms at_ a) r := by
  intro d
  induction d with
  | zero =>
    intro i s a h1 h2 h
    refine h.succ fun k => ?_
    simp only [code_reader_session.l1]
    rw [if_neg (by omega)]
    rfl
  | succ d ih =>
    intro i s a h1 h2 h
    have hw : wrap64 ((i : Int) + 1) = ((i + 1 : Nat) : Int) := by unfold wrap64; omega
    have h4 := ih (i + 1) (manyP s 1).2 (a ++ [(manyP s 1).1 == 1]) (by omega) (by simp; omega) h
    rw [show i + 1 + d = i + (d + 1) by omega] at h4
    have h5 := Ev.bind (g := fun k bt => code_reader_session.l1 k ((i + (d + 1) : Nat) : Int) ((i + 1 : Nat) : Int) [] bt.2 ms at_ (a ++ [bt.1 == 1])) (many_P s 1) h4
    refine h5.succ fun k => ?_
    simp only [code_reader_session.l1]
    rw [if_pos (by omega), hw]
    congr 1
    funext bt
    rw [if_pos (by omega)]
theorem sess_l0 (r) : ∀ (d i : Nat) (s : RSt) (a : List S24), i + d ≤ 1000 → a.length + d ≤ 100000 → Ev (fun k => (code_reader_num.f k [] (marksP d s a).2).bind fun bt => (code_reader_many.f k [] bt.2 8).bind fun b2 => code_reader_session.l1 k b2.1 0 [] b2.2 (marksP d s a).1 bt.1 []) r → Ev (fun k => code_reader_session.l0 k ((i + d : Nat) : Int) (i : Int) [] s a 0) r := by
  intro d
  induction d with
  | zero =>
    intro i s a h1 h2 h
    refine h.succ fun k => ?_
    simp only [code_reader_session.l0]
    rw [if_neg (by omega)]
    rfl
  | succ d ih =>
    intro i s a h1 h2 h
    have hw : wrap64 ((i : Int) + 1) = ((i + 1 : Nat) : Int) := by unfold wrap64; omega
    have hr := manyP_rng s 1000 (by omega)
    have h4 := ih (i + 1) (markP s).2 (a ++ [(markP s).1]) (by omega) (by simp; omega) h
    rw [show i + 1 + d = i + (d + 1) by omega] at h4
    have h5 := Ev.bind (g := fun k b8 => code_reader_session.l0 k ((i + (d + 1) : Nat) : Int) ((i + 1 : Nat) : Int) [] b8.2 (a ++ [(⟨strOfNums (takeP (manyP s 1000).2 (manyP s 1000).1.toNat).1, b8.1⟩ : S24)]) 0) (wide_ev (takeP (manyP s 1000).2 (manyP s 1000).1.toNat).2 8 (by omega)) h4
    have h6 := Ev.bind (g := fun k b7 => (code_reader_wide.f k [] b7.2 8).bind fun b8 => code_reader_session.l0 k ((i + (d + 1) : Nat) : Int) ((i + 1 : Nat) : Int) [] b8.2 (a ++ [(⟨strOfNums b7.1, b8.1⟩ : S24)]) 0) (f := fun _ => reader_take.f [] (manyP s 1000).2 (manyP s 1000).1) ⟨0, fun _ _ => by
      have := take_P (manyP s 1000).2 (manyP s 1000).1.toNat (by omega)
      rw [Int.toNat_of_nonneg hr.1] at this
      exact this⟩ h5
    have h7 := Ev.bind (g := fun k b6 => (reader_take.f [] b6.2 b6.1).bind fun b7 => (code_reader_wide.f k [] b7.2 8).bind fun b8 => code_reader_session.l0 k ((i + (d + 1) : Nat) : Int) ((i + 1 : Nat) : Int) [] b8.2 (a ++ [(⟨strOfNums b7.1, b8.1⟩ : S24)]) 0) (many_P s 1000) h6
    refine h7.succ fun k => ?_
    simp only [code_reader_session.l0]
    rw [if_pos (by omega), hw]
    congr 1
    funext b6
    congr 1
    funext b7
    congr 1
    funext b8
    rw [if_pos (by omega)]
theorem sess_P (s : RSt) : Ev (fun k => code_reader_session.f k [] s) ((sessP s).1.1, (sessP s).1.2.1, (sessP s).1.2.2.1, (sessP s).1.2.2.2, (sessP s).2) := by
  unfold code_reader_session.f
  unfold sessP
  refine Ev.bind (g := fun k bt => code_reader_session.l0 k bt.1 0 [] bt.2 [] 0) (many_P s 12) ?_
  have hr := manyP_rng s 12 (by omega)
  generalize manyP s 12 = M0 at hr ⊢
  obtain ⟨n0, s0⟩ := M0
  obtain ⟨d0, rfl⟩ := Int.eq_ofNat_of_zero_le hr.1
  simp only [Int.toNat_natCast] at hr ⊢
  have e0 := sess_l0 (r := ((marksP d0 s0 []).1, (numP (marksP d0 s0 []).2).1, (flagsP (manyP (numP (marksP d0 s0 []).2).2 8).1.toNat (manyP (numP (marksP d0 s0 []).2).2 8).2 []).1, (rowsP (manyP (flagsP (manyP (numP (marksP d0 s0 []).2).2 8).1.toNat (manyP (numP (marksP d0 s0 []).2).2 8).2 []).2 16).1.toNat (manyP (flagsP (manyP (numP (marksP d0 s0 []).2).2 8).1.toNat (manyP (numP (marksP d0 s0 []).2).2 8).2 []).2 16).2 []).1, (rowsP (manyP (flagsP (manyP (numP (marksP d0 s0 []).2).2 8).1.toNat (manyP (numP (marksP d0 s0 []).2).2 8).2 []).2 16).1.toNat (manyP (flagsP (manyP (numP (marksP d0 s0 []).2).2 8).1.toNat (manyP (numP (marksP d0 s0 []).2).2 8).2 []).2 16).2 []).2)) d0 0 s0 [] (by omega) (by simp; omega)
  rw [Nat.zero_add] at e0
  refine e0 ?_
  clear e0
  generalize marksP d0 s0 [] = M1
  obtain ⟨ms, s1⟩ := M1
  simp only
  refine Ev.bind (g := fun k bt => (code_reader_many.f k [] bt.2 8).bind fun b2 => code_reader_session.l1 k b2.1 0 [] b2.2 ms bt.1 []) (num_P s1) ?_
  generalize numP s1 = M2
  obtain ⟨at_, s2⟩ := M2
  simp only
  refine Ev.bind (g := fun k b2 => code_reader_session.l1 k b2.1 0 [] b2.2 ms at_ []) (many_P s2 8) ?_
  have hr2 := manyP_rng s2 8 (by omega)
  generalize manyP s2 8 = M3 at hr2 ⊢
  obtain ⟨n3, s3⟩ := M3
  obtain ⟨d3, rfl⟩ := Int.eq_ofNat_of_zero_le hr2.1
  simp only [Int.toNat_natCast] at hr2 ⊢
  have e1 := sess_l1 (r := (ms, at_, (flagsP d3 s3 []).1, (rowsP (manyP (flagsP d3 s3 []).2 16).1.toNat (manyP (flagsP d3 s3 []).2 16).2 []).1, (rowsP (manyP (flagsP d3 s3 []).2 16).1.toNat (manyP (flagsP d3 s3 []).2 16).2 []).2)) ms at_ d3 0 s3 [] (by omega) (by simp; omega)
  rw [Nat.zero_add] at e1
  refine e1 ?_
  clear e1
  generalize flagsP d3 s3 [] = M4
  obtain ⟨fl, s4⟩ := M4
  simp only
  refine Ev.bind (g := fun k b2 => code_reader_session.l2 k b2.1 0 [] b2.2 ms at_ fl []) (many_P s4 16) ?_
  have hr3 := manyP_rng s4 16 (by omega)
  generalize manyP s4 16 = M5 at hr3 ⊢
  obtain ⟨n5, s5⟩ := M5
  obtain ⟨d5, rfl⟩ := Int.eq_ofNat_of_zero_le hr3.1
  simp only [Int.toNat_natCast] at hr3 ⊢
  have e2 := sess_l2 ms at_ fl d5 0 s5 [] (by omega) (by simp; omega)
  rw [Nat.zero_add] at e2
  exact e2
end Go.Proofs.Ytgbhejkgnfkfgaa.Cd
