/- Encode's bytes, in plain words: the head (how many bytes, their sum), the body part by part. -/
import Derived.Test.YtgbhejkgnfkfgaaDecodeCodeRuns
set_option linter.unusedVariables false
set_option linter.unusedSimpArgs false
namespace Go.Proofs.Ytgbhejkgnfkfgaa.Cd
open Go.RowKit Go.Proofs.Ytgbhejkgnfkfgaa.Given Go.Proofs.YtgbhejkgnfkfgaaW.PrintWords Go.Proofs.YtgbhejkgnfkfgaaW.PrintLast Go.Proofs.YtgbhejkgnfkfgaaW.PrintMore Go.Proofs.Ytgbhejkgnfkfgaa.PCodeRuns

/-- With rounds enough it tells r. -/
def Ev {α : Type} (f : Nat → Option α) (r : α) : Prop := ∃ K, ∀ k, K ≤ k → f k = some r
theorem Ev.bind {α β : Type} {f : Nat → Option α} {g : Nat → α → Option β} {a : α} {b : β} (h : Ev f a) (h2 : Ev (fun k => g k a) b) : Ev (fun k => (f k).bind (g k)) b := by
  obtain ⟨K1, h1⟩ := h
  obtain ⟨K2, h2⟩ := h2
  exact ⟨max K1 K2, fun k hk => by show (f k).bind (g k) = some b; rw [h1 k (by omega)]; exact h2 k (by omega)⟩
theorem Ev.succ {α : Type} {f g : Nat → Option α} {r : α} (h : Ev g r) (hs : ∀ k, f (k + 1) = g k) : Ev f r := by
  obtain ⟨K, h⟩ := h
  exact ⟨K + 1, fun k hk => by obtain ⟨m, rfl⟩ : ∃ m, k = m + 1 := ⟨k - 1, by omega⟩; rw [hs]; exact h m (by omega)⟩
theorem Ev.const {α : Type} (r : α) : Ev (fun _ => some r) r := ⟨0, fun _ _ => rfl⟩
def be (n : Int) : Nat → List Int
  | 0 => []
  | m + 1 => (n / 2 ^ (8 * m)) % 256 :: be n m
theorem be_len (n : Int) (m : Nat) : (be n m).length = m := by
  induction m with
  | zero => rfl
  | succ m ih => simp [be, ih]
theorem be_byte (n : Int) (m : Nat) : ∀ x ∈ be n m, 0 ≤ x ∧ x < 256 := by
  induction m with
  | zero => intro x h; cases h
  | succ m ih =>
    intro x h
    rcases List.mem_cons.1 h with rfl | h
    · exact ⟨Int.emod_nonneg _ (by decide), Int.emod_lt_of_pos _ (by decide)⟩
    · exact ih x h
theorem put_l0 (n : Int) (m : Nat) (hm : m ≤ 8) : ∀ b : List Int, b.length + m ≤ 1000000000 → Ev (fun k => code_put.l0 k b n ((m : Int) - 1)) (b ++ be n m) := by
  induction m with
  | zero =>
    intro b _
    refine (Ev.const (b ++ be n 0)).succ fun k => ?_
    simp only [code_put.l0]
    rw [if_neg (by omega)]
    simp [be]
  | succ m ih =>
    intro b hb
    have h1 := ih (by omega) (b ++ [(n / 2 ^ (8 * m)) % 256]) (by simp; omega)
    rw [List.append_assoc] at h1
    refine Ev.succ h1 fun k => ?_
    simp only [code_put.l0]
    have e0 : (((m + 1 : Nat) : Int) - 1) = (m : Int) := by omega
    have e1 : wrap64 (8 * (m : Int)) = 8 * (m : Int) := by unfold wrap64; omega
    have e2 : wrap64 ((m : Int) - 1) = (m : Int) - 1 := by unfold wrap64; omega
    rw [e0, if_pos (by omega), e1, if_pos (by omega), if_pos (by omega), e2]
    have e3 : shr .u64 n (8 * (m : Int)) = n / 2 ^ (8 * m) := by
      unfold shr
      rw [show (8 * (m : Int)).toNat = 8 * m by omega, Nat.min_eq_left (by show 8 * m ≤ 64; omega)]
    rw [e3]
theorem put_ev (n : Int) (m : Nat) (hm : m ≤ 8) (b : List Int) (hb : b.length + m ≤ 1000000000) : Ev (fun k => code_put.f k b n (m : Int)) (b ++ be n m) := by
  have h := put_l0 n m hm b hb
  obtain ⟨K, h⟩ := h
  refine ⟨K, fun k hk => ?_⟩
  unfold code_put.f
  rw [show wrap64 ((m : Int) - 1) = (m : Int) - 1 by unfold wrap64; omega]
  exact h k hk
/-- A number's four bytes. -/
def nb (n : Int) : List Int := be (IntKind.u64.wrap n) 4
theorem nb_len (n : Int) : (nb n).length = 4 := be_len _ _
theorem num_ev (n : Int) (b : List Int) (hb : b.length + 4 ≤ 1000000000) : Ev (fun k => code_num.f k b n) (b ++ nb n) := by
  unfold code_num.f
  exact Ev.bind (put_ev _ 4 (by omega) b hb) (Ev.const _)
def markB (m : S24) : List Int := nb (m.f0.size : Int) ++ bytesOf m.f0 ++ be m.f1 8
def flagB (f : Bool) : List Int := nb (if f = true then 1 else 0)
def rowB (l : List Int) : List Int := nb (l.length : Int) ++ (l.map nb).flatten
def bodyB (s : Ses) : List Int := nb (s.1.length : Int) ++ (s.1.map markB).flatten ++ nb s.2.1 ++ nb (s.2.2.1.length : Int) ++ (s.2.2.1.map flagB).flatten ++ nb (s.2.2.2.length : Int) ++ (s.2.2.2.map rowB).flatten
theorem nbs_len (l : List Int) : ((l.map nb).flatten).length = 4 * l.length := by
  induction l with
  | nil => rfl
  | cons a r ih => simp [nb_len, ih]; omega
theorem body_l3 (st : List (List Int)) (i : Int) (l : List Int) (r : List Int) : ∀ (d j : Nat) (b : List Int), j + d = l.length → l.length ≤ 1000000 → b.length + 4 * d ≤ 100000000 → Ev (fun k => code_body.l2 k (b ++ ((l.drop j).map nb).flatten) st (st.length : Int) (wrap64 (i + 1))) r → Ev (fun k => code_body.l3 k b st (st.length : Int) i l (l.length : Int) (j : Int)) r := by
  intro d
  induction d with
  | zero =>
    intro j b hj hl hb h
    rw [List.drop_of_length_le (by omega)] at h
    simp only [List.map_nil, List.flatten_nil, List.append_nil] at h
    refine h.succ fun k => ?_
    simp only [code_body.l3]
    rw [if_neg (by omega)]
  | succ d ih =>
    intro j b hj hl hb h
    have hw : wrap64 ((j : Int) + 1) = ((j + 1 : Nat) : Int) := by unfold wrap64; omega
    have hrd : rd l (j : Int) = l[j]'(by omega) := by simp [rd, List.getD_eq_getElem?_getD, show j < l.length by omega]
    rw [List.drop_eq_getElem_cons (show j < l.length by omega), List.map_cons, List.flatten_cons, ← List.append_assoc] at h
    have h2 := Ev.bind (g := fun k t => code_body.l3 k t st (st.length : Int) i l (l.length : Int) ((j + 1 : Nat) : Int)) (num_ev (l[j]'(by omega)) b (by omega)) (ih (j + 1) (b ++ nb (l[j]'(by omega))) (by omega) hl (by rw [List.length_append, nb_len]; omega) h)
    refine h2.succ fun k => ?_
    simp only [code_body.l3]
    rw [if_pos (by omega), if_pos (by omega), if_pos (by omega), hw, hrd]
theorem body_l2 (st : List (List Int)) (hst : st.length ≤ 1000) (hrow : ∀ l ∈ st, l.length ≤ 1000) : ∀ (d i : Nat) (b : List Int), i + d = st.length → b.length + 10000 * d ≤ 50000000 → Ev (fun k => code_body.l2 k b st (st.length : Int) (i : Int)) (b ++ ((st.drop i).map rowB).flatten) := by
  intro d
  induction d with
  | zero =>
    intro i b hi hb
    rw [List.drop_of_length_le (by omega)]
    simp only [List.map_nil, List.flatten_nil, List.append_nil]
    refine (Ev.const b).succ fun k => ?_
    simp only [code_body.l2]
    rw [if_neg (by omega)]
  | succ d ih =>
    intro i b hi hb
    have hw : wrap64 ((i : Int) + 1) = ((i + 1 : Nat) : Int) := by unfold wrap64; omega
    have hil : i < st.length := by omega
    have hrd : rd_L6 st (i : Int) = st[i] := by simp [rd_L6, List.getD_eq_getElem?_getD, hil]
    have hl := hrow st[i] (List.getElem_mem hil)
    rw [List.drop_eq_getElem_cons hil, List.map_cons, List.flatten_cons]
    have h3 := ih (i + 1) (b ++ rowB st[i]) (by omega) (by rw [List.length_append, rowB, List.length_append, nb_len, nbs_len]; omega)
    rw [List.append_assoc] at h3
    have h4 := body_l3 st (i : Int) st[i] _ st[i].length 0 (b ++ nb (st[i].length : Int)) (by omega) (by omega) (by rw [List.length_append, nb_len]; omega) (by
      rw [List.drop_zero, hw, List.append_assoc]
      exact h3)
    have h5 := Ev.bind (g := fun k t => code_body.l3 k t st (st.length : Int) (i : Int) st[i] (st[i].length : Int) ((0 : Nat) : Int)) (num_ev (st[i].length : Int) b (by omega)) h4
    refine h5.succ fun k => ?_
    simp only [code_body.l2]
    rw [if_pos (by omega), if_pos (by omega), if_pos (by omega), hrd]
    rfl
theorem flags_len (l : List Bool) : ((l.map flagB).flatten).length = 4 * l.length := by
  induction l with
  | nil => rfl
  | cons a r ih => simp [flagB, nb_len, ih]; omega
theorem body_l1 (ms : List S24) (at_ : Int) (fl : List Bool) (st : List (List Int)) (hst : st.length ≤ 1000) (hrow : ∀ l ∈ st, l.length ≤ 1000) : ∀ (d i : Nat) (b : List Int), i + d = fl.length → fl.length ≤ 1000 → b.length + 4 * d ≤ 10000000 → Ev (fun k => code_body.l1 k b fl (fl.length : Int) (i : Int) ms at_ fl st) (b ++ ((fl.drop i).map flagB).flatten ++ nb (st.length : Int) ++ (st.map rowB).flatten) := by
  intro d
  induction d with
  | zero =>
    intro i b hi hf hb
    rw [List.drop_of_length_le (by omega)]
    simp only [List.map_nil, List.flatten_nil, List.append_nil]
    have h2 := body_l2 st hst hrow st.length 0 (b ++ nb (st.length : Int)) (by omega) (by rw [List.length_append, nb_len]; omega)
    rw [List.drop_zero] at h2
    have h5 := Ev.bind (g := fun k t => code_body.l2 k t st (st.length : Int) ((0 : Nat) : Int)) (num_ev (st.length : Int) b (by omega)) h2
    refine h5.succ fun k => ?_
    simp only [code_body.l1]
    rw [if_neg (by omega)]
    rfl
  | succ d ih =>
    intro i b hi hf hb
    have hw : wrap64 ((i : Int) + 1) = ((i + 1 : Nat) : Int) := by unfold wrap64; omega
    have hil : i < fl.length := by omega
    have hrd : rdOf false fl (i : Int) = fl[i] := by simp [rdOf, List.getD_eq_getElem?_getD, hil]
    rw [List.drop_eq_getElem_cons hil, List.map_cons, List.flatten_cons]
    have h3 := ih (i + 1) (b ++ flagB fl[i]) (by omega) hf (by rw [List.length_append, flagB, nb_len]; omega)
    rw [List.append_assoc b] at h3
    have h4 := Ev.bind (g := fun k t => code_body.l1 k t fl (fl.length : Int) ((i + 1 : Nat) : Int) ms at_ fl st) (num_ev (if fl[i] = true then 1 else 0) b (by omega)) h3
    refine h4.succ fun k => ?_
    simp only [code_body.l1]
    rw [if_pos (by omega), if_pos (by omega), if_pos (by omega), hw, hrd]
    cases fl[i] <;> rfl
theorem body_l0 (at_ : Int) (ms : List S24) (hms : ms.length ≤ 1000) (hm : ∀ m ∈ ms, m.f0.size ≤ 1000) (fl : List Bool) (hf : fl.length ≤ 1000) (st : List (List Int)) (hst : st.length ≤ 1000) (hrow : ∀ l ∈ st, l.length ≤ 1000) : ∀ (d i : Nat) (b : List Int), i + d = ms.length → b.length + 2000 * d ≤ 5000000 → Ev (fun k => code_body.l0 k b ms (ms.length : Int) (i : Int) ms at_ fl st) (b ++ ((ms.drop i).map markB).flatten ++ nb at_ ++ nb (fl.length : Int) ++ (fl.map flagB).flatten ++ nb (st.length : Int) ++ (st.map rowB).flatten) := by
  intro d
  induction d with
  | zero =>
    intro i b hi hb
    rw [List.drop_of_length_le (by omega)]
    simp only [List.map_nil, List.flatten_nil, List.append_nil]
    have h2 := body_l1 ms at_ fl st hst hrow fl.length 0 (b ++ nb at_ ++ nb (fl.length : Int)) (by omega) hf (by simp only [List.length_append, nb_len]; omega)
    rw [List.drop_zero] at h2
    have h4 := Ev.bind (g := fun k t => code_body.l1 k t fl (fl.length : Int) ((0 : Nat) : Int) ms at_ fl st) (num_ev (fl.length : Int) (b ++ nb at_) (by simp only [List.length_append, nb_len]; omega)) h2
    have h5 := Ev.bind (g := fun k t => (code_num.f k t (fl.length : Int)).bind fun t => code_body.l1 k t fl (fl.length : Int) ((0 : Nat) : Int) ms at_ fl st) (num_ev at_ b (by omega)) h4
    refine h5.succ fun k => ?_
    simp only [code_body.l0]
    rw [if_neg (by omega)]
    rfl
  | succ d ih =>
    intro i b hi hb
    have hw : wrap64 ((i : Int) + 1) = ((i + 1 : Nat) : Int) := by unfold wrap64; omega
    have hil : i < ms.length := by omega
    have hrd : rd_T24 ms (i : Int) = ms[i] := by simp [rd_T24, List.getD_eq_getElem?_getD, hil]
    have hsz := hm ms[i] (List.getElem_mem hil)
    have hby : (bytesOf ms[i].f0).length = ms[i].f0.size := bytesOf_length _
    rw [List.drop_eq_getElem_cons hil, List.map_cons, List.flatten_cons]
    have h3 := ih (i + 1) (b ++ markB ms[i]) (by omega) (by rw [List.length_append, markB, List.length_append, List.length_append, nb_len, be_len, hby]; omega)
    rw [List.append_assoc b] at h3
    have e1 : b ++ markB ms[i] = (b ++ nb (ms[i].f0.size : Int)) ++ bytesOf ms[i].f0 ++ be ms[i].f1 8 := by simp [markB]
    have hp := put_ev ms[i].f1 8 (by omega) ((b ++ nb (ms[i].f0.size : Int)) ++ bytesOf ms[i].f0) (by simp only [List.length_append, nb_len, hby]; omega)
    rw [← e1] at hp
    have h4 := Ev.bind (g := fun k t => code_body.l0 k t ms (ms.length : Int) ((i + 1 : Nat) : Int) ms at_ fl st) hp h3
    have h5 := Ev.bind (g := fun k t => if t.length + ms[i].f0.size < 140737488355328 then ((code_put.f k (t ++ bytesOf ms[i].f0) ms[i].f1 8).bind fun t119 => (code_body.l0 k t119 ms (ms.length : Int) ((i + 1 : Nat) : Int) ms at_ fl st)) else none) (num_ev (ms[i].f0.size : Int) b (by omega)) (by
      obtain ⟨K, h⟩ := h4
      exact ⟨K, fun k hk => by
        show (if _ then _ else _) = _
        rw [if_pos (by simp only [List.length_append, nb_len]; omega)]
        exact h k hk⟩)
    refine h5.succ fun k => ?_
    simp only [code_body.l0]
    rw [if_pos (by omega), if_pos (by omega), if_pos (by omega), hw, hrd]
/-- The sizes that Encode asks for. -/
def Mod (s : Ses) : Prop := s.1.length ≤ 1000 ∧ (∀ m ∈ s.1, m.f0.size ≤ 1000) ∧ s.2.2.1.length ≤ 1000 ∧ s.2.2.2.length ≤ 1000 ∧ ∀ l ∈ s.2.2.2, l.length ≤ 1000
theorem body_ev (s : Ses) (h : Mod s) : Ev (fun k => code_body.f k s.1 s.2.1 s.2.2.1 s.2.2.2) (bodyB s) := by
  obtain ⟨h1, h2, h3, h4, h5⟩ := h
  have h0 := body_l0 s.2.1 s.1 h1 h2 s.2.2.1 h3 s.2.2.2 h4 h5 s.1.length 0 ([] ++ nb (s.1.length : Int)) (by omega) (by rw [List.nil_append, nb_len]; omega)
  rw [List.drop_zero, List.nil_append] at h0
  unfold code_body.f bodyB
  exact Ev.bind (g := fun k t => code_body.l0 k t s.1 (s.1.length : Int) 0 s.1 s.2.1 s.2.2.1 s.2.2.2) (num_ev (s.1.length : Int) [] (by simp)) h0
def sumB (l : List Int) : Int := l.sum % 4294967296
theorem sum_l0 (l : List Int) (hl : l.length ≤ 100000000) (hb : ∀ x ∈ l, 0 ≤ x ∧ x < 256) : ∀ (d i : Nat) (x : Int), i + d = l.length → Ev (fun k => code_sum.l0 k (x % 4294967296) l (l.length : Int) (i : Int)) ((x + (l.drop i).sum) % 4294967296) := by
  intro d
  induction d with
  | zero =>
    intro i x hi
    rw [List.drop_of_length_le (by omega)]
    simp only [List.sum_nil, Int.add_zero]
    refine (Ev.const (x % 4294967296)).succ fun k => ?_
    simp only [code_sum.l0]
    rw [if_neg (by omega)]
    congr 1
    unfold wrap64
    omega
  | succ d ih =>
    intro i x hi
    have hw : wrap64 ((i : Int) + 1) = ((i + 1 : Nat) : Int) := by unfold wrap64; omega
    have hil : i < l.length := by omega
    have hrd : rd l (i : Int) = l[i] := by simp [rd, List.getD_eq_getElem?_getD, hil]
    have hx := hb l[i] (List.getElem_mem hil)
    have h3 := ih (i + 1) (x + l[i]) (by omega)
    rw [List.drop_eq_getElem_cons hil, List.sum_cons, show x + (l[i] + (l.drop (i + 1)).sum) = x + l[i] + (l.drop (i + 1)).sum by omega]
    refine h3.succ fun k => ?_
    simp only [code_sum.l0]
    rw [if_pos (by omega), if_pos (by omega), if_pos (by omega), hw, hrd]
    congr 1
    omega
theorem sum_ev (l : List Int) (hl : l.length ≤ 100000000) (hb : ∀ x ∈ l, 0 ≤ x ∧ x < 256) : Ev (fun k => code_sum.f k l) (sumB l) := by
  have h := sum_l0 l hl hb l.length 0 0 (by omega)
  rw [List.drop_zero, Int.zero_add] at h
  exact h
end Go.Proofs.Ytgbhejkgnfkfgaa.Cd
