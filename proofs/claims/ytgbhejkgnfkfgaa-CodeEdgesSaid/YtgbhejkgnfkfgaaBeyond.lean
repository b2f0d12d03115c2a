/- slices.ContainsFunc with code.Right's own function. -/
import Derived.Test.YtgbhejkgnfkfgaaGivenCode
import Derived.Lib.Hide
set_option linter.unusedVariables false
set_option linter.unusedSimpArgs false
namespace Go.Proofs.Ytgbhejkgnfkfgaa.Given
open Go.RowKit Go.Proofs.YtgbhejkgnfkfgaaW.PrintWords Go.Proofs.YtgbhejkgnfkfgaaW.PrintLast Go.Proofs.YtgbhejkgnfkfgaaW.PrintMore

def numOk (n : Int) : Bool := decide (-1000 ≤ n) && decide (n ≤ 1000)
set_option maxHeartbeats 4000000 in
set_option maxRecDepth 100000 in
theorem beyond_any (n : Int) (w : World) : Calls Try.prog 27 #[.int .i64 n] w fun e w' => e = .returned (.bool (!numOk n)) ∧ w' = w := by
  by_cases h1 : n < -1000
  · have hk : numOk n = false := by unfold numOk; rw [decide_eq_false (by omega)]; rfl
    rw [hk]
    clear hk
    go_enter Try.func27, Try.ntmps27
    go_wp2_with fail
    go_ret
    exact ⟨rfl, rfl⟩
  · by_cases h2 : 1000 < n
    · have hk : numOk n = false := by unfold numOk; rw [decide_eq_false (show ¬ n ≤ 1000 by omega)]; simp
      rw [hk]
      clear hk
      go_enter Try.func27, Try.ntmps27
      go_wp2_with fail
      go_ret
      exact ⟨rfl, rfl⟩
    · have hk : numOk n = true := by unfold numOk; rw [decide_eq_true (show n ≤ 1000 by omega), decide_eq_true (show -1000 ≤ n by omega)]; rfl
      rw [hk]
      clear hk
      go_enter Try.func27, Try.ntmps27
      go_wp2_with fail
      go_ret
      exact ⟨rfl, rfl⟩
theorem cint_cell {w : World} {A : Option Addr} {n : Nat} {l : List Int} (h : Kd.C (Kd.int .i64) w A n l) (i : Nat) (hi : i < l.length) : ∃ ad, A = some ad ∧ w.cell? (ad.add i) = some (.int .i64 l[i]) := by
  have hn : l.length = n := h.1
  obtain ⟨ad, cs, e, _, hK, hc⟩ := Kd.C_get h 0 (i : Int) (by omega) (by omega)
  have hK' : cs = [.int .i64 (l.getD (i : Int).toNat 0)] := hK
  subst hK'
  have hg : l.getD (i : Int).toNat 0 = l[i] := by simp [List.getD_eq_getElem?_getD, hi]
  have := hc 0 _ rfl
  rw [hg] at this
  have hs : (i : Int).toNat * (Kd.int .i64).sz + 0 = i := by show (i : Int).toNat * 1 + 0 = i; omega
  rw [hs] at this
  exact ⟨ad, e, this⟩
abbrev bey : Value := .func (.func 27) #[] #[]
set_option maxHeartbeats 4000000 in
set_option maxRecDepth 100000 in
theorem IndexFunc_any (A : Option Addr) (n c : Nat) (l : List Int) (w : World) (hr : Kd.C (Kd.int .i64) w A n l) (hl : l.length ≤ 1000) : Calls Try.prog 34 #[.slice A n c, bey] w fun e w' => ∃ r : Int, e = .returned (.int .i64 r) ∧ (decide (0 ≤ r) = l.any (fun n => !numOk n)) ∧ w' = w := by
  obtain rfl : l.length = n := hr.1
  have H := Lib.hid (And.intro hr hl)
  clear hr hl
  go_enter Try.func34, Try.ntmps34
  go_wp2_with fail
  go_loopw [5, 8] (fun t5 t8 wr => ∃ i : Nat, t8 = .int .i64 (i : Int) ∧ i ≤ l.length ∧ Hid ((∀ j (hj : j < l.length), j < i → numOk l[j] = true) ∧ wr = w)) (fun _ t _ => match t with | .int _ q => (l.length - q).toNat | _ => 0)
  case atStart => exact ⟨0, rfl, by omega, Lib.hid ⟨fun j _ h => by omega, rfl⟩⟩
  case round =>
    obtain ⟨i, rfl, hi, HI⟩ := hrel
    have i0 : (0 : Int) ≤ (i : Int) := by omega
    have hwr := HI.out.2
    subst hwr
    by_cases d1 : i < l.length
    · have i1 : (i : Int) < (l.length : Int) := by omega
      have i2 : (i : Int) ≤ 1000 := by have := H.out.2; omega
      obtain ⟨ad, e0, y0⟩ := cint_cell H.out.1 i d1
      subst e0
      obtain ⟨x, hx⟩ : ∃ x, l[i] = x := ⟨_, rfl⟩
      rw [hx] at y0
      go_wp2_with fail
      refine (beyond_any x wr).mono ?_
      rintro e w1 ⟨rfl, rfl⟩
      cases hk : numOk x with
      | false =>
        go_wp2_with fail
        go_ret
        refine ⟨_, rfl, ?_, rfl⟩
        rw [decide_eq_true i0]
        symm
        rw [List.any_eq_true]
        exact ⟨x, by rw [← hx]; exact List.getElem_mem d1, by rw [hk]; rfl⟩
      | true =>
        have HI2 : Hid ((∀ j (hj : j < l.length), j < i + 1 → numOk l[j] = true) ∧ w1 = w1) := Lib.hid ⟨fun j hj h => by
          rcases Nat.lt_succ_iff_lt_or_eq.1 h with h | h
          · exact HI.out.1 j hj h
          · subst h; rw [hx]; exact hk, rfl⟩
        clear HI y0
        go_wp2_with fail
        go_roundw
        case rel => exact ⟨i + 1, by go_num, by omega, HI2⟩
        case measure => first | (simp; omega) | simp
    · have i1 : ¬ (i : Int) < (l.length : Int) := by omega
      go_wp2_with fail
      go_ret
      refine ⟨-1, rfl, ?_, rfl⟩
      rw [decide_eq_false (by omega)]
      symm
      rw [List.any_eq_false]
      intro x hx
      obtain ⟨j, hj, rfl⟩ := List.getElem_of_mem hx
      rw [HI.out.1 j hj (by omega)]
      decide
set_option maxHeartbeats 4000000 in
set_option maxRecDepth 100000 in
theorem ContainsFunc_any (A : Option Addr) (n c : Nat) (l : List Int) (w : World) (hr : Kd.C (Kd.int .i64) w A n l) (hl : l.length ≤ 1000) : Calls Try.prog 28 #[.slice A n c, bey] w fun e w' => e = .returned (.bool (l.any (fun n => !numOk n))) ∧ w' = w := by
  have hI := IndexFunc_any A n c l w hr hl
  clear hr hl
  go_enter Try.func28, Try.ntmps28
  go_wp2_with fail
  refine hI.mono ?_
  rintro e w1 ⟨r, rfl, hr, rfl⟩
  have HR := Lib.hid hr
  clear hr hI
  go_wp2_with fail
  go_ret
  exact ⟨by rw [← HR.out]; rfl, rfl⟩
theorem at_rows {w : World} {A : Option Addr} {n : Nat} {xs : List (List Int)} (h : Kd.C (Kd.slice 3 (Kd.int .i64)) w A n xs) (i : Nat) (hi : i < xs.length) : ∃ ad A0 c0, A = some ad ∧ w.cell? (ad.add i) = some (.slice A0 xs[i].length c0) ∧ xs[i].length ≤ c0 ∧ Kd.C (Kd.int .i64) w A0 xs[i].length xs[i] := by
  have hn : xs.length = n := h.1
  obtain ⟨ad, c, e, _, hK, hc0⟩ := Kd.C_get h ([] : List Int) (i : Int) (by omega) (by omega)
  have hg : xs.getD (i : Int).toNat [] = xs[i] := by simp [List.getD_eq_getElem?_getD, hi]
  rw [hg] at hK
  have hc : ∀ j u, c[j]? = some u → w.cell? (ad.add ((i : Int).toNat * 1 + j)) = some u := hc0
  obtain ⟨A0, c0, rfl, l0, g0⟩ := hK
  exact ⟨ad, A0, c0, e, by have hq := hc 0 _ rfl; rwa [Nat.mul_one, Nat.add_zero, Int.toNat_natCast] at hq, l0, g0⟩
end Go.Proofs.Ytgbhejkgnfkfgaa.Given
