/- The contracts of few, right, Right, Encode, Decode, sessions, Same in plain words. -/
import Derived.Test.YtgbhejkgnfkfgaaMoreCodeRuns
import Derived.Test.YtgbhejkgnfkfgaaCodeRuns
set_option linter.unusedVariables false
set_option linter.unusedSimpArgs false
namespace Go.Proofs.Ytgbhejkgnfkfgaa.Cd
open Go.RowKit Go.Proofs.Ytgbhejkgnfkfgaa.Given Go.Proofs.YtgbhejkgnfkfgaaW.PrintWords Go.Proofs.YtgbhejkgnfkfgaaW.PrintLast Go.Proofs.YtgbhejkgnfkfgaaW.PrintMore Go.Proofs.Ytgbhejkgnfkfgaa.PCodeRuns

abbrev agg4 (A0 : Option Addr) (c0 : Nat) (A2 : Option Addr) (c2 : Nat) (A3 : Option Addr) (c3 : Nat) (s : Ses) : Value := .agg #[.slice A0 s.1.length c0, .int .i64 s.2.1, .slice A2 s.2.2.1.length c2, .slice A3 s.2.2.2.length c3]
theorem Few_any (s : Ses) (v : Value) (w : World) (h : SesV w v s) : Calls Try.prog 10 #[v] w fun e w' => ∃ (A0 : Option Addr) (c0 : Nat) (A2 : Option Addr) (c2 : Nat) (A3 : Option Addr) (c3 : Nat), e = .returned (.agg #[.slice A0 (fewS s).1.length c0, .int .i64 (fewS s).2.1, .slice A2 (fewS s).2.2.1.length c2, .slice A3 (fewS s).2.2.2.length c3]) ∧ SesR w' w.heap.size A0 c0 A2 c2 A3 c3 (fewS s) ∧ Below w.heap.size w w' := by
  obtain ⟨A0, c0, A2, c2, A3, c3, rfl, hc, h0, h2, h3⟩ := h
  obtain ⟨K, hK⟩ := few_ev s
  refine (porticolaw24_few.calls K A0 c0 s.1 s.2.1 A2 c2 s.2.2.1 A3 c3 s.2.2.2 _ _ _ _ w h0 hc.1 h2 hc.2.1 h3 hc.2.2 (hK K (Nat.le_refl _))).mono ?_
  rintro e w' ⟨v0, v2, v3, rfl, hR0, hR2, hR3, hB⟩
  obtain ⟨B0, d0, rfl⟩ := Kd.R_slice hR0
  obtain ⟨B2, d2, rfl⟩ := Kd.R_slice hR2
  have hR3 := Kd.S_R hR3
  obtain ⟨B3, d3, rfl⟩ := Kd.R_slice hR3
  exact ⟨B0, d0, B2, d2, B3, d3, rfl, ⟨hR0, hR2, hR3⟩, hB⟩
theorem right_any (s : Ses) (v : Value) (w : World) (h : SesV w v s) (hs : Few s) (hu : U64 s) : Calls Try.prog 12 #[v] w fun e w' => e = .returned (.bool (rightS s)) ∧ Below w.heap.size w w' := by
  obtain ⟨A0, c0, A2, c2, A3, c3, rfl, hc, h0, h2, h3⟩ := h
  obtain ⟨K, hK⟩ := right_ev s hs hu
  exact porticolaw24_right.calls K A0 c0 s.1 s.2.1 A2 c2 s.2.2.1 A3 c3 s.2.2.2 _ w h0 hc.1 h2 hc.2.1 h3 hc.2.2 (hK K (Nat.le_refl _))
theorem Right_any (s : Ses) (v : Value) (w : World) (h : SesV w v s) (hu : U64 s) : Calls Try.prog 11 #[v] w fun e w' => e = .returned (.bool (rightS s)) ∧ Below w.heap.size w w' := by
  obtain ⟨A0, c0, A2, c2, A3, c3, rfl, hc, h0, h2, h3⟩ := h
  exact code_Right.calls A0 c0 s.1 s.2.1 A2 c2 s.2.2.1 A3 c3 s.2.2.2 (rightS s) w h0 hc.1 h2 hc.2.1 h3 hc.2.2 (by unfold code_Right.f; exact if_pos hu)
theorem Enc_any (s : Ses) (v : Value) (w : World) (h : SesV w v s) (hu : U64 s) : Calls Try.prog 7 #[v] w fun e w' => ∃ (A : Option Addr) (c : Nat), e = .returned (.slice A (encB s).length c) ∧ (encB s).length ≤ c ∧ Kd.C (Kd.int .u8) w' A (encB s).length (encB s) ∧ Below w.heap.size w w' := by
  obtain ⟨K, hK⟩ := Encode_ev s hu
  exact Encode_any K s v w h (encB s) (hK K (Nat.le_refl _))
theorem Dec_any (A : Option Addr) (n c : Nat) (l : List Int) (w : World) (hr : Kd.C (Kd.int .u8) w A n l) (hc : n ≤ c) (r : Ses × Int) (h : decP l = r) : Calls Try.prog 8 #[.slice A n c] w fun e w' => ∃ (A0 : Option Addr) (c0 : Nat) (A2 : Option Addr) (c2 : Nat) (A3 : Option Addr) (c3 : Nat), e = .returned (.tuple #[.agg #[.slice A0 r.1.1.length c0, .int .i64 r.1.2.1, .slice A2 r.1.2.2.1.length c2, .slice A3 r.1.2.2.2.length c3], .int .i64 r.2]) ∧ SesV w' (.agg #[.slice A0 r.1.1.length c0, .int .i64 r.1.2.1, .slice A2 r.1.2.2.1.length c2, .slice A3 r.1.2.2.2.length c3]) r.1 ∧ Below w.heap.size w w' := by
  obtain ⟨K, hK⟩ := dec_ev l
  subst h
  refine (Decode_any K A n c l w hr hc (decP l) (hK K (Nat.le_refl _))).mono ?_
  rintro e w' ⟨v, rfl, hS, hB⟩
  obtain ⟨A0, c0, A2, c2, A3, c3, rfl, hrest⟩ := hS
  exact ⟨A0, c0, A2, c2, A3, c3, rfl, ⟨A0, c0, A2, c2, A3, c3, rfl, hrest⟩, hB⟩
theorem Sess_any (s t : Ses) (v u : Value) (w : World) (h : SesV w v s) (h2 : SesV w u t) (hs : Sized s) : Calls Try.prog 9 #[v, u] w fun e w' => ∃ b, e = .returned (.bool b) ∧ (b = true ↔ s = t) ∧ Below w.heap.size w w' := by
  obtain ⟨r, ⟨K, hK⟩, hi⟩ := sessions_ev s t hs
  refine (Sessions_any K s t v u w h h2 r (hK K (Nat.le_refl _))).mono ?_
  rintro e w' ⟨rfl, hB⟩
  exact ⟨r, rfl, hi, hB⟩
theorem SameB_any (A : Option Addr) (c : Nat) (a : List Int) (B : Option Addr) (d : Nat) (b : List Int) (w : World) (h : Kd.C (Kd.int .u8) w A a.length a) (hc : a.length ≤ c) (h2 : Kd.C (Kd.int .u8) w B b.length b) (hd : b.length ≤ d) (hn : a.length ≤ 1000000000) : Calls Try.prog 14 #[.slice A a.length c, .slice B b.length d] w fun e w' => ∃ r, e = .returned (.bool r) ∧ (r = true ↔ a = b) ∧ Below w.heap.size w w' := by
  obtain ⟨r, ⟨K, hK⟩, hi⟩ := same_byte_ev a b hn
  refine (porticobook_Same_byte.calls K A c a B d b r w h hc h2 hd (hK K (Nat.le_refl _))).mono ?_
  rintro e w' ⟨rfl, q, rfl⟩
  exact ⟨r, rfl, hi, pw_below_drewN (Below.refl _ _) q⟩
theorem cells4 {w : World} {K : Nat} {x0 x1 x2 x3 : Value} {T : TypeId} (h : w.heap[K]? = some (.cells #[x0, x1, x2, x3] T (0, 0))) : w.cell? ⟨K, 0, none⟩ = some x0 ∧ w.cell? ⟨K, 1, none⟩ = some x1 ∧ w.cell? ⟨K, 2, none⟩ = some x2 ∧ w.cell? ⟨K, 3, none⟩ = some x3 :=
  ⟨(blk_cell h 0).trans rfl, (blk_cell h 1).trans rfl, (blk_cell h 2).trans rfl, (blk_cell h 3).trans rfl⟩
theorem cells_4 {w : World} {K : Nat} {x0 x1 x2 x3 : Value} {T : TypeId} (h : w.heap[K]? = some (.cells #[x0, x1, x2, x3] T (0, 0))) : w.frozen? ⟨K, 0, none⟩ = false ∧ w.frozen? ⟨K, 1, none⟩ = false ∧ w.frozen? ⟨K, 2, none⟩ = false ∧ w.frozen? ⟨K, 3, none⟩ = false := ⟨blk_frozen h 0, blk_frozen h 1, blk_frozen h 2, blk_frozen h 3⟩
theorem set4_far {w : World} {K J : Nat} {o : Obj} (h : w.heap[J]? = some o) (hne : J ≠ K) (v0 v1 v2 v3 : Value) : ((((w.setCell ⟨K, 0, none⟩ v0).setCell ⟨K, 1, none⟩ v1).setCell ⟨K, 2, none⟩ v2).setCell ⟨K, 3, none⟩ v3).heap[J]? = some o := by
  simp [World.setCell, Array.getElem?_modify, h, Ne.symm hne, hne]
theorem within (a lo hi : Int) (h : lo ≤ hi) (h0 : -1000000 ≤ lo) (h1 : hi ≤ 100000000) : ∃ r : Int, porticobook_Within.f a lo hi = some r ∧ lo ≤ r ∧ r ≤ hi := by
  have e1 : wrap64 (hi - lo) = hi - lo := by unfold wrap64; omega
  have e2 : wrap64 (hi - lo + 1) = hi - lo + 1 := by unfold wrap64; omega
  unfold porticobook_Within.f
  rw [e1, e2, if_neg (by omega)]
  obtain ⟨m, hm⟩ : ∃ m, Int.tmod a (hi - lo + 1) = m := ⟨_, rfl⟩
  have l1 : m < hi - lo + 1 := by rw [← hm]; exact Int.tmod_lt_of_pos a (by omega)
  have l2 : -(hi - lo + 1) < m := by
    rw [← hm]
    have := Int.tmod_lt_of_pos (-a) (show 0 < hi - lo + 1 by omega)
    rw [Int.neg_tmod] at this
    omega
  rw [hm]
  by_cases c : m < 0
  · rw [if_pos c]
    refine ⟨_, rfl, ?_, ?_⟩ <;> unfold wrap64 <;> omega
  · rw [if_neg c]
    refine ⟨_, rfl, ?_, ?_⟩ <;> unfold wrap64 <;> omega
theorem C_take {w : World} {A : Option Addr} {n m : Nat} {l : List Int} (h : Kd.C (Kd.int .u8) w A n l) (hm : m ≤ l.length) : Kd.C (Kd.int .u8) w A m (l.take m) := by
  obtain ⟨h1, h2, h3⟩ := h
  have h1 : l.length = n := h1
  refine ⟨by show (l.take m).length = m; rw [List.length_take]; omega, by omega, fun h0 => ?_⟩
  obtain ⟨ad, e, h4⟩ := h3 (by omega)
  refine ⟨ad, e, fun j p hj => h4 j p ?_⟩
  have hj2 : j < m := by
    have := (List.getElem?_eq_some_iff.1 hj).1
    rw [List.length_take] at this
    omega
  rwa [List.getElem?_take_of_lt hj2] at hj
end Go.Proofs.Ytgbhejkgnfkfgaa.Cd
