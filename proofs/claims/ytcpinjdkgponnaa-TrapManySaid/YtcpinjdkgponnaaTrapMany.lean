/- TrapMany: the walk. -/
import Derived.Test.YtcpinjdkgponnaaTrapMany1
import Derived.Test.YtcpinjdkgponnaaTrapRuns
import Derived.Test.YtcpinjdkgponnaaWMore
set_option linter.unusedVariables false
set_option linter.unusedSimpArgs false
namespace Go.Proofs.Ytcpinjdkgponnaa.Trap
open Go.RowKit Go.Proofs.YtcpinjdkgponnaaW.PrintWords Go.Proofs.YtcpinjdkgponnaaW.PrintMore
attribute [local go_sem] max2_int min2_int max_two min_two

set_option maxHeartbeats 2000000 in
set_option maxRecDepth 100000 in
theorem TrapMany_any (A : Option Addr) (c : Nat) (l : List Bool) (s : ByteArray) (w : World) (hl : ∀ i (h : i < l.length), ∃ ad, A = some ad ∧ w.cell? (ad.add i) = some (.bool l[i])) :
    Calls Try.prog 5 #[.slice A l.length c, .string s] w fun en w' => en = .returned (.bool true) ∧ Below w.heap.size w w' := by
  have HL := Lib.hid hl
  clear hl
  have hmf : ∀ (fn : Fn) (first cap : Array Value) (w : World), (Instr.makeFunc fn first cap).run Try.prog w = .ok (.func fn first cap) w := fun _ _ _ _ => rfl
  obtain ⟨m, hm⟩ : ∃ m, (if (9 : Int) < (s.size : Int) then (9 : Int) else (s.size : Int)) = m := ⟨_, rfl⟩
  have hm0 : 0 ≤ m := by rw [← hm]; split <;> omega
  have hm1 : m ≤ (s.size : Int) := by rw [← hm]; split <;> omega
  go_enter Try.func5, Try.ntmps5
  go_wp2_with fail
  generalize hn : s.extract 0 m.toNat = n
  clear hm hm0 hm1 hn hmf
  have hlt : ∀ i (h : i < l.length) ad, A = some ad → (ad.add i).block < w.heap.size := fun i h ad hA => by
    obtain ⟨ad', hA', hc⟩ := HL.out i h
    rw [hA] at hA'
    obtain rfl := Option.some.inj hA'
    exact lt_of_cell hc
  have hBW : Below w.heap.size w (((w.alloc (.cells #[.slice A l.length c] 36)).alloc (.cells #[.string n] 9)).alloc (.cells #[.int .i64 0] 3)) := (((Below.refl _ _).alloc (Nat.le_refl _) _).alloc (by simp [go_sem]) _).alloc (by simp [go_sem]; omega) _
  refine (Run_many w.heap.size (w.heap.size + 1) (w.heap.size + 1 + 1) A c l n _ (by simp [go_sem]) (by simp [go_sem]) (by simp [go_sem]) (by simp [go_sem]) (fun i h => by
    obtain ⟨ad, hA, hc⟩ := HL.out i h
    have hb := hlt i h ad hA
    refine ⟨ad, hA, by rw [add_block] at hb; omega, ?_⟩
    rw [hBW.cell hb]
    exact hc) (by omega) (by omega)).mono ?_
  rintro e w4 ⟨rfl, hP, hcnt⟩
  obtain ⟨E, N, P, B, hv, hV⟩ : ∃ (E : Int) (N : ByteArray) (P : Int) (B : Bool), manyV l n = .tuple #[flt E N P, .bool B] ∧ ((firstF l = none ∧ E = 0 ∧ N = ⟨#[]⟩ ∧ P = 0 ∧ B = true) ∨ ∃ i : Nat, firstF l = some i ∧ E = 8 ∧ N = n ∧ P = i ∧ B = false) := by
    unfold manyV
    cases hF : firstF l with
    | none => exact ⟨0, _, 0, true, rfl, Or.inl ⟨rfl, rfl, rfl, rfl, rfl⟩⟩
    | some i => exact ⟨8, n, i, false, rfl, Or.inr ⟨i, rfl, rfl, rfl, rfl, rfl⟩⟩
  rw [hv]
  have hsz : (((w.alloc (.cells #[.slice A l.length c] 36)).alloc (.cells #[.string n] 9)).alloc (.cells #[.int .i64 0] 3)).heap.size = w.heap.size + 3 := by simp [go_sem]
  have s4 : w.heap.size + 5 ≤ w4.heap.size := by have := hP.size; omega
  have b4 : Below w.heap.size w w4 := hBW.trans ⟨hP.os, hP.tape, hP.output, by omega, fun k hk => hP.block k (by omega) (by omega)⟩
  have p0 : ∀ o, (w4.alloc o).cell? ⟨w.heap.size, 0, none⟩ = some (.slice A l.length c) := fun o => by
    rw [World.cell?_alloc_past _ _ _ (show w.heap.size < _ by omega), World.cell?_of_block (a := ⟨w.heap.size, 0, none⟩) (hP.block w.heap.size (by omega) (by omega))]
    simp [go_sem]
  have p1 : ∀ o, (w4.alloc o).cell? ⟨w.heap.size + 1, 0, none⟩ = some (.string n) := fun o => by
    rw [World.cell?_alloc_past _ _ _ (show w.heap.size + 1 < _ by omega), World.cell?_of_block (a := ⟨w.heap.size + 1, 0, none⟩) (hP.block (w.heap.size + 1) (by omega) (by omega))]
    simp [go_sem]
  have p2 : ∀ o, (w4.alloc o).cell? ⟨w.heap.size + 1 + 1, 0, none⟩ = some (.int .i64 (manyN l : Nat)) := fun o => by
    rw [World.cell?_alloc_past _ _ _ (show w.heap.size + 1 + 1 < _ by omega)]
    exact hcnt
  have pl : ∀ i (h : i < l.length), ∃ ad, A = some ad ∧ ∀ o, (w4.alloc o).cell? (ad.add i) = some (.bool l[i]) := fun i h => by
    obtain ⟨ad, hA, hc⟩ := HL.out i h
    have hb := hlt i h ad hA
    refine ⟨ad, hA, fun o => ?_⟩
    rw [((Below.refl w4.heap.size w4).alloc (Nat.le_refl _) o).cell (show (ad.add i).block < w4.heap.size by omega), b4.cell hb]
    exact hc
  have HV := Lib.hid hV
  have PL := Lib.hid pl
  have B4 := Lib.hid b4
  have S4 := Lib.hid s4
  clear hV pl b4 s4 hsz hP hcnt hBW hlt HL hv
  go_wp2_with fail
  have q0 := p0 (.cells #[.int .i64 E, .string N, .int .i64 P] 24)
  have qn := p1 (.cells #[.int .i64 E, .string N, .int .i64 P] 24)
  have q2 := p2 (.cells #[.int .i64 E, .string N, .int .i64 P] 24)
  have ql : ∀ i (h : i < l.length), ∃ ad, A = some ad ∧ (w4.alloc (.cells #[.int .i64 E, .string N, .int .i64 P] 24)).cell? (ad.add i) = some (.bool l[i]) := fun i h => by
    obtain ⟨ad, hA, hc⟩ := PL.out i h
    exact ⟨ad, hA, hc _⟩
  have r0 : (w4.alloc (.cells #[.int .i64 E, .string N, .int .i64 P] 24)).cell? ⟨w4.heap.size, 0, none⟩ = some (.int .i64 E) := by simp [go_sem]
  have r1 : (w4.alloc (.cells #[.int .i64 E, .string N, .int .i64 P] 24)).cell? ⟨w4.heap.size, 1, none⟩ = some (.string N) := by simp [go_sem]
  have r2 : (w4.alloc (.cells #[.int .i64 E, .string N, .int .i64 P] 24)).cell? ⟨w4.heap.size, 2, none⟩ = some (.int .i64 P) := by simp [go_sem]
  have b5 : Below w.heap.size w (w4.alloc (.cells #[.int .i64 E, .string N, .int .i64 P] 24)) := B4.out.alloc (by have := S4.out; omega) _
  generalize (w4.alloc (.cells #[.int .i64 E, .string N, .int .i64 P] 24)) = w5 at q0 qn q2 ql r0 r1 r2 b5 ⊢
  clear p0 p1 p2 PL B4 S4
  generalize w4.heap.size = K5 at *
  have B5 := Lib.hid b5
  have QL := Lib.hid ql
  clear b5 ql
  go_loopw [9, 10] (fun t9 t10 wr => ∃ (i : Nat) (f : Int), t9 = .int .i64 f ∧ t10 = .int .i64 (i : Int) ∧ i ≤ l.length ∧ i ≤ 20 ∧ wr = w5 ∧ Hid ((f = -1 ∧ ∀ j (h : j < l.length), j < i → l[j] = true) ∨ ∃ k : Nat, k < i ∧ f = (k : Int) ∧ firstF l = some k)) (fun _ t _ => match t with | .int _ i => (20 - i).toNat | _ => 0)
  case atStart => exact ⟨0, -1, rfl, rfl, by omega, by omega, rfl, Or.inl ⟨rfl, fun j h h' => by omega⟩⟩
  case round =>
    obtain ⟨i, f, rfl, rfl, hi, hi20, rfl, HI⟩ := hrel
    by_cases c1 : i < l.length
    · by_cases c2 : i < 20
      · obtain ⟨ad, hA, hcell⟩ := QL.out i c1
        subst hA
        have q1 : (i : Int) < (l.length : Int) := by omega
        have q3 : (i : Int) < 20 := by omega
        have q4 : (0 : Int) ≤ (i : Int) := by omega
        have hw : wrap64 ((i : Int) + 1) = ((i + 1 : Nat) : Int) := by unfold wrap64; omega
        cases hb : l[i] with
        | true =>
          rw [hb] at hcell
          go_wp2_with fail
          go_roundw
          case rel =>
            refine ⟨i + 1, f, by first | rfl | simp, by first | rfl | simp, by omega, by omega, by first | trivial | rfl, ?_⟩
            rcases HI.out with ⟨rfl, h⟩ | ⟨k, hk, h1, h2⟩
            · refine Or.inl ⟨rfl, fun j hj hji => ?_⟩
              rcases Nat.lt_or_ge j i with h3 | h3
              · exact h j hj h3
              · have : j = i := by omega
                subst this
                exact hb
            · exact Or.inr ⟨k, by omega, h1, h2⟩
          case measure => simp; omega
        | false =>
          rw [hb] at hcell
          by_cases hf : f < 0
          · go_wp2_with fail
            go_roundw
            case rel =>
              refine ⟨i + 1, (i : Int), by first | rfl | simp, by first | rfl | simp, by omega, by omega, by first | trivial | rfl, ?_⟩
              rcases HI.out with ⟨_, h⟩ | ⟨k, hk, h1, h2⟩
              · exact Or.inr ⟨i, by omega, rfl, firstF_some l i c1 c2 hb h⟩
              · omega
            case measure => simp; omega
          · go_wp2_with fail
            go_roundw
            case rel =>
              refine ⟨i + 1, f, by first | rfl | simp, by first | rfl | simp, by omega, by omega, by first | trivial | rfl, ?_⟩
              rcases HI.out with ⟨h0, h⟩ | ⟨k, hk, h1, h2⟩
              · omega
              · exact Or.inr ⟨k, by omega, h1, h2⟩
            case measure => simp; omega
      · have q1 : (i : Int) < (l.length : Int) := by omega
        have q3 : ¬ (i : Int) < 20 := by omega
        have hfin : (f = -1 ∧ firstF l = none) ∨ ∃ k : Nat, f = (k : Int) ∧ firstF l = some k := by
          rcases HI.out with ⟨h0, h⟩ | ⟨k, hk, h1, h2⟩
          · exact Or.inl ⟨h0, firstF_none l (fun j hj hj2 => h j hj (by omega))⟩
          · exact Or.inr ⟨k, h1, h2⟩
        rcases hfin with ⟨rfl, hF⟩ | ⟨k, rfl, hF⟩
        · rcases HV.out with ⟨_, rfl, rfl, rfl, rfl⟩ | ⟨i', h, _⟩
          · have hM : manyN l = min l.length 20 := by simp [manyN, hF]
            have hm1 : (if (20 : Int) < (l.length : Int) then (20 : Int) else (l.length : Int)) = (manyN l : Int) := by rw [hM]; split <;> omega
            have hm2 : (if 20 < l.length then (20 : Int) else (l.length : Int)) = (manyN l : Int) := by rw [hM]; split <;> omega
            generalize manyN l = M at *
            clear HV hF hM HI
            go_wp2_with (go_at_call 3; refine (TrapRuns_any _).mono ?_; rintro e w6 ⟨rfl, b6⟩; have B6 := Lib.hid b6; clear b6)
            go_ret
            exact ⟨rfl, B5.out.trans (B6.out.mono B5.out.size)⟩
          · rw [hF] at h; cases h
        · rcases HV.out with ⟨h, _⟩ | ⟨i', h, rfl, rfl, rfl, rfl⟩
          · rw [hF] at h; cases h
          · rw [hF] at h
            obtain rfl := Option.some.inj h
            have hM : manyN l = k + 1 := by simp [manyN, hF]
            rw [hM] at q2
            have hk0 : ¬ (k : Int) < 0 := by omega
            have hk20 : k < 20 := by
              unfold firstF at hF
              obtain ⟨hk, _⟩ := List.findIdx?_eq_some_iff_getElem.1 hF
              rw [List.length_take] at hk
              omega
            have hw : wrap64 ((k : Int) + 1) = ((k + 1 : Nat) : Int) := by unfold wrap64; omega
            clear HV hF hM HI
            go_wp2_with (go_at_call 3; refine (TrapRuns_any _).mono ?_; rintro e w6 ⟨rfl, b6⟩; have B6 := Lib.hid b6; clear b6)
            go_ret
            exact ⟨rfl, B5.out.trans (B6.out.mono B5.out.size)⟩
    · have q1 : ¬ (i : Int) < (l.length : Int) := by omega
      have hfin : (f = -1 ∧ firstF l = none) ∨ ∃ k : Nat, f = (k : Int) ∧ firstF l = some k := by
        rcases HI.out with ⟨h0, h⟩ | ⟨k, hk, h1, h2⟩
        · exact Or.inl ⟨h0, firstF_none l (fun j hj hj2 => h j hj (by omega))⟩
        · exact Or.inr ⟨k, h1, h2⟩
      rcases hfin with ⟨rfl, hF⟩ | ⟨k, rfl, hF⟩
      · rcases HV.out with ⟨_, rfl, rfl, rfl, rfl⟩ | ⟨i', h, _⟩
        · have hM : manyN l = min l.length 20 := by simp [manyN, hF]
          have hm1 : (if (20 : Int) < (l.length : Int) then (20 : Int) else (l.length : Int)) = (manyN l : Int) := by rw [hM]; split <;> omega
          have hm2 : (if 20 < l.length then (20 : Int) else (l.length : Int)) = (manyN l : Int) := by rw [hM]; split <;> omega
          generalize manyN l = M at *
          clear HV hF hM HI
          go_wp2_with (go_at_call 3; refine (TrapRuns_any _).mono ?_; rintro e w6 ⟨rfl, b6⟩; have B6 := Lib.hid b6; clear b6)
          go_ret
          exact ⟨rfl, B5.out.trans (B6.out.mono B5.out.size)⟩
        · rw [hF] at h; cases h
      · rcases HV.out with ⟨h, _⟩ | ⟨i', h, rfl, rfl, rfl, rfl⟩
        · rw [hF] at h; cases h
        · rw [hF] at h
          obtain rfl := Option.some.inj h
          have hM : manyN l = k + 1 := by simp [manyN, hF]
          rw [hM] at q2
          have hk0 : ¬ (k : Int) < 0 := by omega
          have hk20 : k < 20 := by
            unfold firstF at hF
            obtain ⟨hk, _⟩ := List.findIdx?_eq_some_iff_getElem.1 hF
            rw [List.length_take] at hk
            omega
          have hw : wrap64 ((k : Int) + 1) = ((k + 1 : Nat) : Int) := by unfold wrap64; omega
          clear HV hF hM HI
          go_wp2_with (go_at_call 3; refine (TrapRuns_any _).mono ?_; rintro e w6 ⟨rfl, b6⟩; have B6 := Lib.hid b6; clear b6)
          go_ret
          exact ⟨rfl, B5.out.trans (B6.out.mono B5.out.size)⟩
end Go.Proofs.Ytcpinjdkgponnaa.Trap
