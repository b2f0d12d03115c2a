/- Encode's bytes: Encode_ev; a byte turned, a beginning are no right session's bytes. -/
import Derived.Test.YtgbhejkgnfkfgaaEncCodeRuns
set_option linter.unusedVariables false
set_option linter.unusedSimpArgs false
namespace Go.Proofs.Ytgbhejkgnfkfgaa.Cd
open Go.RowKit Go.Proofs.Ytgbhejkgnfkfgaa.Given Go.Proofs.YtgbhejkgnfkfgaaW.PrintWords Go.Proofs.YtgbhejkgnfkfgaaW.PrintLast Go.Proofs.YtgbhejkgnfkfgaaW.PrintMore Go.Proofs.Ytgbhejkgnfkfgaa.PCodeRuns

def rightS (s : Ses) : Bool := rightB s.1 s.2.1 s.2.2.1 s.2.2.2
def headB (B : List Int) : List Int := nb (B.length : Int) ++ nb (sumB B)
def encB (s : Ses) : List Int := if rightS s = true then headB (bodyB s) ++ bodyB s else []
/-- Its scrolls are bits. -/
def U64 (s : Ses) : Prop := ∀ m ∈ s.1, 0 ≤ m.f1 ∧ m.f1 < 18446744073709551616
theorem right_mod (s : Ses) (h : rightS s = true) : s.1.length ≤ 12 ∧ (∀ m ∈ s.1, m.f0.size ≤ 1000) ∧ s.2.2.1.length ≤ 8 ∧ s.2.2.2.length ≤ 16 ∧ ∀ l ∈ s.2.2.2, l.length ≤ 6 := by
  unfold rightS rightB at h
  simp only [Bool.and_eq_true, decide_eq_true_eq, List.all_eq_true] at h
  obtain ⟨⟨⟨⟨⟨⟨h1, h2⟩, h3⟩, h4⟩, h5⟩, h6⟩, h7⟩ := h
  refine ⟨h1, fun m hm => ?_, h4, h5, fun l hl => ?_⟩
  · have := h6 m hm
    unfold markOk at this
    simp only [Bool.and_eq_true, decide_eq_true_eq] at this
    exact this.1
  · have := h7 l hl
    unfold rowOk at this
    simp only [Bool.and_eq_true, decide_eq_true_eq] at this
    exact this.1
theorem right_Mod (s : Ses) (h : rightS s = true) : Mod s := by
  obtain ⟨h1, h2, h3, h4, h5⟩ := right_mod s h
  exact ⟨by omega, h2, by omega, by omega, fun l hl => by have := h5 l hl; omega⟩
theorem nb_byte (n : Int) : ∀ x ∈ nb n, 0 ≤ x ∧ x < 256 := be_byte _ _
theorem bytesOf_byte (s : ByteArray) : ∀ x ∈ bytesOf s, 0 ≤ x ∧ x < 256 := by
  intro x hx
  unfold bytesOf at hx
  obtain ⟨b, _, rfl⟩ := List.mem_map.1 hx
  have := b.toNat_lt
  omega
theorem flat_byte {α : Type} (f : α → List Int) (hf : ∀ a, ∀ x ∈ f a, 0 ≤ x ∧ x < 256) (l : List α) : ∀ x ∈ (l.map f).flatten, 0 ≤ x ∧ x < 256 := by
  intro x hx
  obtain ⟨y, hy, hx⟩ := List.mem_flatten.1 hx
  obtain ⟨a, _, rfl⟩ := List.mem_map.1 hy
  exact hf a x hx
theorem app_byte {a b : List Int} (ha : ∀ x ∈ a, 0 ≤ x ∧ x < 256) (hb : ∀ x ∈ b, 0 ≤ x ∧ x < 256) : ∀ x ∈ a ++ b, 0 ≤ x ∧ x < 256 := fun x hx => by
  rcases List.mem_append.1 hx with h | h
  · exact ha x h
  · exact hb x h
theorem body_byte (s : Ses) : ∀ x ∈ bodyB s, 0 ≤ x ∧ x < 256 := by
  unfold bodyB
  refine app_byte (app_byte (app_byte (app_byte (app_byte (app_byte (nb_byte _) (flat_byte _ (fun m => ?_) _)) (nb_byte _)) (nb_byte _)) (flat_byte _ (fun f => ?_) _)) (nb_byte _)) (flat_byte _ (fun l => ?_) _)
  · exact app_byte (app_byte (nb_byte _) (bytesOf_byte _)) (be_byte _ _)
  · exact nb_byte _
  · exact app_byte (nb_byte _) (flat_byte _ (fun n => nb_byte n) _)
theorem marks_len (l : List S24) (h : ∀ m ∈ l, m.f0.size ≤ 1000) : ((l.map markB).flatten).length ≤ 1012 * l.length := by
  induction l with
  | nil => simp
  | cons a r ih =>
    have h1 := ih (fun m hm => h m (by simp [hm]))
    have h2 := h a (by simp)
    have hby : (bytesOf a.f0).length = a.f0.size := bytesOf_length _
    simp only [List.map_cons, List.flatten_cons, List.length_append, markB, nb_len, be_len, hby, List.length_cons]
    omega
theorem rows_len (l : List (List Int)) (h : ∀ m ∈ l, m.length ≤ 1000) : ((l.map rowB).flatten).length ≤ 4004 * l.length := by
  induction l with
  | nil => simp
  | cons a r ih =>
    have h1 := ih (fun m hm => h m (by simp [hm]))
    have h2 := h a (by simp)
    simp only [List.map_cons, List.flatten_cons, List.length_append, rowB, nb_len, nbs_len, List.length_cons]
    omega
theorem body_len (s : Ses) (h : Mod s) : (bodyB s).length ≤ 10000000 := by
  obtain ⟨h1, h2, h3, h4, h5⟩ := h
  have a := marks_len s.1 h2
  have b := rows_len s.2.2.2 h5
  have c := flags_len s.2.2.1
  unfold bodyB
  simp only [List.length_append, nb_len, c]
  omega
theorem Encode_ev (s : Ses) (hu : U64 s) : Ev (fun k => code_Encode.f k s.1 s.2.1 s.2.2.1 s.2.2.2) (encB s) := by
  have hR : code_Right.f s.1 s.2.1 s.2.2.1 s.2.2.2 = some (rightS s) := by unfold code_Right.f; exact if_pos hu
  unfold encB
  by_cases hr : rightS s = true
  · rw [if_pos hr]
    have hM := right_Mod s hr
    have hl := body_len s hM
    have hb := body_ev s hM
    have h1 := num_ev ((bodyB s).length : Int) [] (by simp)
    rw [List.nil_append] at h1
    have h2 := sum_ev (bodyB s) (by omega) (body_byte s)
    have h3 := num_ev (sumB (bodyB s)) (nb ((bodyB s).length : Int)) (by rw [nb_len]; omega)
    obtain ⟨K1, hb⟩ := hb
    obtain ⟨K2, h1⟩ := h1
    obtain ⟨K3, h2⟩ := h2
    obtain ⟨K4, h3⟩ := h3
    refine ⟨max (max K1 K2) (max K3 K4), fun k hk => ?_⟩
    show code_Encode.f k s.1 s.2.1 s.2.2.1 s.2.2.2 = _
    unfold code_Encode.f
    rw [hR, Option.bind_some, if_pos hr, show code_body.f k s.1 s.2.1 s.2.2.1 s.2.2.2 = _ from hb k (by omega), Option.bind_some, show code_num.f k [] ((bodyB s).length : Int) = _ from h1 k (by omega), Option.bind_some, show code_sum.f k (bodyB s) = _ from h2 k (by omega), Option.bind_some, show code_num.f k (nb ((bodyB s).length : Int)) (sumB (bodyB s)) = _ from h3 k (by omega), Option.bind_some, if_pos (by simp only [List.length_append, nb_len]; omega)]
    rfl
  · rw [if_neg hr]
    refine ⟨0, fun k _ => ?_⟩
    show code_Encode.f k s.1 s.2.1 s.2.2.1 s.2.2.2 = _
    unfold code_Encode.f
    rw [hR, Option.bind_some, if_neg hr]
theorem nb_inj {a b : Int} (ha : 0 ≤ a ∧ a < 4294967296) (hb : 0 ≤ b ∧ b < 4294967296) (h : nb a = nb b) : a = b := by
  have wa : IntKind.u64.wrap a = a := by rw [IntKind.wrap_u64]; omega
  have wb : IntKind.u64.wrap b = b := by rw [IntKind.wrap_u64]; omega
  unfold nb at h
  rw [wa, wb] at h
  simp only [be, List.cons.injEq] at h
  obtain ⟨h3, h2, h1, h0, _⟩ := h
  simp at h3 h2 h1 h0
  omega
theorem head_len (B : List Int) : (headB B).length = 8 := by simp [headB, nb_len]
theorem sumB_rng (B : List Int) : 0 ≤ sumB B ∧ sumB B < 4294967296 := ⟨Int.emod_nonneg _ (by decide), Int.emod_lt_of_pos _ (by decide)⟩
theorem head_inj {B C : List Int} (hB : B.length ≤ 100000000) (hC : C.length ≤ 100000000) (h : headB B = headB C) : B.length = C.length ∧ sumB B = sumB C := by
  unfold headB at h
  obtain ⟨h1, h2⟩ := List.append_inj h (by rw [nb_len, nb_len])
  have := nb_inj (by omega) (by omega) h1
  exact ⟨by omega, nb_inj (sumB_rng B) (sumB_rng C) h2⟩
theorem sum_set (l : List Int) (i : Nat) (hi : i < l.length) (y : Int) : (l.set i y).sum = l.sum - l[i] + y := by
  induction l generalizing i with
  | nil => cases hi
  | cons a r ih =>
    cases i with
    | zero => simp; omega
    | succ i =>
      have := ih i (by simpa using hi)
      simp only [List.set_cons_succ, List.sum_cons, List.getElem_cons_succ]
      omega
/-- A byte turned: no right session's bytes. -/
theorem turned_no (s v : Ses) (hs : rightS s = true) (i : Nat) (hi : i < (encB s).length) (y : Int) (hy : 0 ≤ y ∧ y < 256) (hne : y ≠ (encB s)[i]) : encB v ≠ (encB s).set i y := by
  intro h
  have hv : rightS v = true := by
    by_cases c : rightS v = true
    · exact c
    · rw [show encB v = [] from by unfold encB; rw [if_neg c]] at h
      have := congrArg List.length h
      rw [List.length_set, List.length_nil] at this
      omega
  have e1 : encB s = headB (bodyB s) ++ bodyB s := by unfold encB; rw [if_pos hs]
  have e2 : encB v = headB (bodyB v) ++ bodyB v := by unfold encB; rw [if_pos hv]
  have l1 := body_len s (right_Mod s hs)
  have l2 := body_len v (right_Mod v hv)
  by_cases h8 : i < 8
  · have hset : (encB s).set i y = (headB (bodyB s)).set i y ++ bodyB s := by rw [e1, List.set_append, if_pos (by rw [head_len]; exact h8)]
    rw [e2, hset] at h
    obtain ⟨a, b⟩ := List.append_inj h (by rw [List.length_set, head_len, head_len])
    rw [b] at a
    have h3 : (headB (bodyB s))[i]? = ((headB (bodyB s)).set i y)[i]? := congrArg (fun l => l[i]?) a
    rw [List.getElem?_set_self (by rw [head_len]; exact h8)] at h3
    apply hne
    have h4 : (encB s)[i]? = some y := by rw [e1, List.getElem?_append_left (by rw [head_len]; exact h8)]; exact h3
    rw [List.getElem?_eq_getElem hi] at h4
    exact (Option.some.inj h4).symm
  · have hl : (encB s).length = 8 + (bodyB s).length := by rw [e1, List.length_append, head_len]
    have hset : (encB s).set i y = headB (bodyB s) ++ (bodyB s).set (i - 8) y := by rw [e1, List.set_append, if_neg (by rw [head_len]; exact h8), head_len]
    rw [e2, hset] at h
    obtain ⟨a, b⟩ := List.append_inj h (by rw [head_len, head_len])
    have hsum := (head_inj (by omega) (by omega) a).2
    unfold sumB at hsum
    rw [b, sum_set _ _ (by omega)] at hsum
    have hx := body_byte s ((bodyB s)[i - 8]'(by omega)) (List.getElem_mem _)
    have hge : (encB s)[i] = (bodyB s)[i - 8]'(by omega) := by
      have h5 : (encB s)[i]? = (bodyB s)[i - 8]? := by rw [e1, List.getElem?_append_right (by rw [head_len]; omega), head_len]
      rw [List.getElem?_eq_getElem hi, List.getElem?_eq_getElem (show i - 8 < (bodyB s).length by omega)] at h5
      exact Option.some.inj h5
    rw [hge] at hne
    omega
/-- A proper beginning: no right session's bytes. -/
theorem begun_no (s v : Ses) (hs : rightS s = true) (hv : rightS v = true) (c : Nat) (hc : c < (encB s).length) : encB v ≠ (encB s).take c := by
  intro h
  have e1 : encB s = headB (bodyB s) ++ bodyB s := by unfold encB; rw [if_pos hs]
  have e2 : encB v = headB (bodyB v) ++ bodyB v := by unfold encB; rw [if_pos hv]
  have l1 := body_len s (right_Mod s hs)
  have l2 := body_len v (right_Mod v hv)
  have hl := congrArg List.length h
  rw [List.length_take, Nat.min_eq_left (by omega), e2, List.length_append, head_len] at hl
  have hls : (encB s).length = 8 + (bodyB s).length := by rw [e1, List.length_append, head_len]
  rw [e2, e1, List.take_append, head_len, List.take_of_length_le (by rw [head_len]; omega)] at h
  obtain ⟨a, _⟩ := List.append_inj h (by rw [head_len, head_len])
  have := (head_inj (by omega) (by omega) a).1
  omega
end Go.Proofs.Ytgbhejkgnfkfgaa.Cd
