/- code.Right. -/
import Derived.Test.YtgbhejkgnfkfgaaPCodeRunsx0
import Derived.Test.YtgbhejkgnfkfgaaBeyond
set_option linter.unusedVariables false
set_option linter.unusedSimpArgs false
namespace Go.Proofs.Ytgbhejkgnfkfgaa.Given
open Go.RowKit Go.Proofs.YtgbhejkgnfkfgaaW.PrintWords Go.Proofs.YtgbhejkgnfkfgaaW.PrintLast Go.Proofs.YtgbhejkgnfkfgaaW.PrintMore Go.Proofs.Ytgbhejkgnfkfgaa.PCodeRuns

def markOk (m : S24) : Bool := decide (m.f0.size ≤ 1000) && decide (Fl.cl m.f1.toNat = m.f1.toNat)
def rowOk (l : List Int) : Bool := decide (l.length ≤ 6) && !(l.any (fun n => !numOk n))
def rightB (ms : List S24) (at_ : Int) (fl : List Bool) (st : List (List Int)) : Bool :=
  decide (ms.length ≤ 12) && decide (0 ≤ at_) && decide (at_ < (ms.length : Int)) && decide (fl.length ≤ 8) && decide (st.length ≤ 16) && ms.all markOk && st.all rowOk
def code_Right.f (ms : List S24) (at_ : Int) (fl : List Bool) (st : List (List Int)) : Option Bool := if ∀ m ∈ ms, 0 ≤ m.f1 ∧ m.f1 < 18446744073709551616 then some (rightB ms at_ fl st) else none
set_option maxHeartbeats 8000000 in
set_option maxRecDepth 100000 in
theorem code_Right.calls (A0 : Option Addr) (c0 : Nat) (l0 : List S24) (a1 : Int) (A2 : Option Addr) (c2 : Nat) (l2 : List Bool) (A3 : Option Addr) (c3 : Nat) (l3 : List (List Int)) (r : Bool) (w : World) (hr0 : Kd.C k24 w A0 l0.length l0) (hc0 : l0.length ≤ c0) (hr2 : Kd.C Kd.bool w A2 l2.length l2) (hc2 : l2.length ≤ c2) (hr3 : Kd.C (Kd.slice 3 (Kd.int .i64)) w A3 l3.length l3) (hc3 : l3.length ≤ c3) (h : code_Right.f l0 a1 l2 l3 = some r) :
    Calls Try.prog 11 #[.agg #[.slice A0 l0.length c0, .int .i64 a1, .slice A2 l2.length c2, .slice A3 l3.length c3]] w fun e w' => e = .returned (.bool r) ∧ Below w.heap.size w w' := by
  unfold code_Right.f at h
  split at h
  case isFalse => cases h
  rename_i hm
  obtain rfl := Option.some.inj h
  obtain ⟨R, hR⟩ : ∃ R, rightB l0 a1 l2 l3 = R := ⟨_, rfl⟩
  rw [hR]
  have HR := Lib.hid hR
  clear hR
  have H := Lib.hid (And.intro hr0 (And.intro hr3 hm))
  clear hr0 hc0 hr2 hc2 hr3 hc3 h hm
  go_enter Try.func11, Try.ntmps11
  go_upto_region 1 with fail
  have hk : (w.alloc (.cells #[.slice A0 l0.length c0, .int .i64 a1, .slice A2 l2.length c2, .slice A3 l3.length c3] 29)).heap[w.heap.size]? = some (.cells #[.slice A0 l0.length c0, .int .i64 a1, .slice A2 l2.length c2, .slice A3 l3.length c3] 29 (0, 0)) := heap_alloc_new _ _
  have HB : Hid (Below w.heap.size w (w.alloc (.cells #[.slice A0 l0.length c0, .int .i64 a1, .slice A2 l2.length c2, .slice A3 l3.length c3] 29))) := Lib.hid ((Below.refl _ _).alloc (Nat.le_refl _) _)
  generalize w.alloc (.cells #[.slice A0 l0.length c0, .int .i64 a1, .slice A2 l2.length c2, .slice A3 l3.length c3] 29) = w1 at hk HB ⊢
  generalize w.heap.size = K at hk ⊢
  have y0 : w1.cell? ⟨K, 0, none⟩ = some (.slice A0 l0.length c0) := by simp [World.cell?, hk]
  have y1 : w1.cell? ⟨K, 1, none⟩ = some (.int .i64 a1) := by simp [World.cell?, hk]
  have y2 : w1.cell? ⟨K, 2, none⟩ = some (.slice A2 l2.length c2) := by simp [World.cell?, hk]
  have y3 : w1.cell? ⟨K, 3, none⟩ = some (.slice A3 l3.length c3) := by simp [World.cell?, hk]
  have HK := Lib.hid hk
  clear hk
  by_cases c1 : (12 : Int) < (l0.length : Int)
  · have hb : rightB l0 a1 l2 l3 = false := by unfold rightB; rw [decide_eq_false (show ¬ l0.length ≤ 12 by omega)]; rfl
    have HF := Lib.hid hb
    clear hb
    go_wp2_with fail
    go_ret
    exact ⟨by rw [← HR.out, HF.out]; rfl, HB.out⟩
  · by_cases c2' : a1 < 0
    · have hb : rightB l0 a1 l2 l3 = false := by unfold rightB; rw [decide_eq_false (show ¬ 0 ≤ a1 by omega)]; simp
      have HF := Lib.hid hb
      clear hb
      go_wp2_with fail
      go_ret
      exact ⟨by rw [← HR.out, HF.out]; rfl, HB.out⟩
    · by_cases c3' : (l0.length : Int) ≤ a1
      · have hb : rightB l0 a1 l2 l3 = false := by unfold rightB; rw [decide_eq_false (show ¬ a1 < (l0.length : Int) by omega)]; simp
        have HF := Lib.hid hb
        clear hb
        go_wp2_with fail
        go_ret
        exact ⟨by rw [← HR.out, HF.out]; rfl, HB.out⟩
      · by_cases c4 : (8 : Int) < (l2.length : Int)
        · have hb : rightB l0 a1 l2 l3 = false := by unfold rightB; rw [decide_eq_false (show ¬ l2.length ≤ 8 by omega)]; simp
          have HF := Lib.hid hb
          clear hb
          go_wp2_with fail
          go_ret
          exact ⟨by rw [← HR.out, HF.out]; rfl, HB.out⟩
        · by_cases c5 : (16 : Int) < (l3.length : Int)
          · have hb : rightB l0 a1 l2 l3 = false := by unfold rightB; rw [decide_eq_false (show ¬ l3.length ≤ 16 by omega)]; simp
            have HF := Lib.hid hb
            clear hb
            go_wp2_with fail
            go_ret
            exact ⟨by rw [← HR.out, HF.out]; rfl, HB.out⟩
          · have hb : rightB l0 a1 l2 l3 = (l0.all markOk && l3.all rowOk) := by
              unfold rightB
              rw [decide_eq_true (show l0.length ≤ 12 by omega), decide_eq_true (show 0 ≤ a1 by omega), decide_eq_true (show a1 < (l0.length : Int) by omega), decide_eq_true (show l2.length ≤ 8 by omega), decide_eq_true (show l3.length ≤ 16 by omega)]
              simp
            have HF := Lib.hid hb
            clear hb
            have l12 : (l0.length : Int) ≤ 12 := by omega
            have l16 : (l3.length : Int) ≤ 16 := by omega
            go_wp2_with fail
            go_loopw [40] (fun t40 wr => ∃ i : Nat, t40 = .int .i64 (i : Int) ∧ i ≤ l0.length ∧ Hid ((∀ j (hj : j < l0.length), j < i → markOk l0[j] = true) ∧ Below w1.heap.size w1 wr)) (fun t _ => match t with | .int _ q => (l0.length - q).toNat | _ => 0)
            case atStart => exact ⟨0, rfl, by omega, Lib.hid ⟨fun j _ h => by omega, Below.refl _ _⟩⟩
            case round =>
              obtain ⟨i, rfl, hi, HI⟩ := hrel
              have i0 : (0 : Int) ≤ (i : Int) := by omega
              by_cases d1 : i < l0.length
              · have i1 : (i : Int) < (l0.length : Int) := by omega
                obtain ⟨ad, e0, x0, x1⟩ := at_T24 (Kd.C_below (Kd.C_below H.out.1 HB.out) HI.out.2) (i : Int) i0 i1
                subst e0
                have hget : rd_T24 l0 (i : Int) = l0[i] := by simp [rd_T24, List.getD_eq_getElem?_getD, d1]
                rw [hget, Int.toNat_natCast] at x0 x1
                obtain ⟨m, hm⟩ : ∃ m, l0[i] = m := ⟨_, rfl⟩
                rw [hm] at x0 x1
                have hmr := H.out.2.2 m (by rw [← hm]; exact List.getElem_mem d1)
                have HM := Lib.hid (And.intro hm hmr)
                clear hget hm hmr
                go_upto_region 6 with fail
                have hk4 := heap_alloc_new wr (.cells #[.string m.f0, .int .u64 m.f1] 24)
                have HI2 : Hid ((∀ j (hj : j < l0.length), j < i → markOk l0[j] = true) ∧ Below w1.heap.size w1 (wr.alloc (.cells #[.string m.f0, .int .u64 m.f1] 24))) := Lib.hid ⟨HI.out.1, HI.out.2.alloc HI.out.2.size _⟩
                clear HI x0 x1
                generalize wr.alloc (.cells #[.string m.f0, .int .u64 m.f1] 24) = w4 at hk4 HI2 ⊢
                generalize wr.heap.size = K4 at hk4 ⊢
                have u0 : w4.cell? ⟨K4, 0, none⟩ = some (.string m.f0) := by simp [World.cell?, hk4]
                have u1 : w4.cell? ⟨K4, 1, none⟩ = some (.int .u64 m.f1) := by simp [World.cell?, hk4]
                clear hk4
                have hbad : markOk m = false → (l0.all markOk && l3.all rowOk) = false := fun e => by
                  have : l0.all markOk = false := by
                    rw [List.all_eq_false]
                    exact ⟨m, by rw [← HM.out.1]; exact List.getElem_mem d1, by rw [e]; decide⟩
                  rw [this]; rfl
                by_cases c6 : (1000 : Int) < (m.f0.size : Int)
                · have hmk : markOk m = false := by unfold markOk; rw [decide_eq_false (show ¬ m.f0.size ≤ 1000 by omega)]; rfl
                  have HX := Lib.hid (hbad hmk)
                  clear hbad hmk
                  go_wp2_with fail
                  go_ret
                  exact ⟨by rw [← HR.out, HF.out, HX.out]; rfl, HB.out.trans (HI2.out.2.mono HB.out.size)⟩
                · have hsc : scroll_Right.f m.f1 = some (decide (Fl.cl m.f1.toNat = m.f1.toNat)) := by unfold scroll_Right.f; rw [if_pos HM.out.2]
                  go_wp2_with fail
                  refine (scroll_Right.calls m.f1 _ w4 hsc).mono ?_
                  rintro e w5 ⟨rfl, hd⟩
                  obtain ⟨q5, rfl⟩ := hd.out
                  have HI5 : Hid ((∀ j (hj : j < l0.length), j < i → markOk l0[j] = true) ∧ Below w1.heap.size w1 (w4.drewN q5)) := Lib.hid ⟨HI2.out.1, pw_below_drewN HI2.out.2 q5⟩
                  clear HI2 u0 u1 hsc hd
                  generalize w4.drewN q5 = w5 at HI5 ⊢
                  by_cases hcl : Fl.cl m.f1.toNat = m.f1.toNat
                  · have hmk : markOk m = true := by unfold markOk; rw [decide_eq_true (show m.f0.size ≤ 1000 by omega), decide_eq_true hcl]; rfl
                    rw [decide_eq_true hcl]
                    have HI6 : Hid ((∀ j (hj : j < l0.length), j < i + 1 → markOk l0[j] = true) ∧ Below w1.heap.size w1 w5) := Lib.hid ⟨fun j hj h => by
                      rcases Nat.lt_succ_iff_lt_or_eq.1 h with h | h
                      · exact HI5.out.1 j hj h
                      · subst h; rw [HM.out.1]; exact hmk, HI5.out.2⟩
                    clear HI5 hmk hbad hcl
                    go_wp2_with fail
                    go_roundw
                    case rel => exact ⟨i + 1, by go_num, by omega, HI6⟩
                    case measure => first | (simp; omega) | simp
                  · have hmk : markOk m = false := by unfold markOk; rw [decide_eq_false hcl]; simp
                    have HX := Lib.hid (hbad hmk)
                    rw [decide_eq_false hcl]
                    clear hbad hmk hcl
                    go_wp2_with fail
                    go_ret
                    exact ⟨by rw [← HR.out, HF.out, HX.out]; rfl, HB.out.trans (HI5.out.2.mono HB.out.size)⟩
              · have i1 : ¬ (i : Int) < (l0.length : Int) := by omega
                obtain rfl : i = l0.length := by omega
                have hall : l0.all markOk = true := by
                  rw [List.all_eq_true]
                  intro m hm
                  obtain ⟨j, hj, rfl⟩ := List.getElem_of_mem hm
                  exact HI.out.1 j hj hj
                have HA := Lib.hid hall
                have HI2 := Lib.hid HI.out.2
                have hk2 := (HI.out.2.block K (Array.getElem?_eq_some_iff.1 HK.out).1).trans HK.out
                have v3 : wr.cell? ⟨K, 3, none⟩ = some (.slice A3 l3.length c3) := by simp [World.cell?, hk2]
                clear hall HI hk2 d1 hi i0 i1
                go_wp2_with fail
                go_loopw [7, 58] (fun t7 t58 wq => ∃ i : Nat, t58 = .int .i64 (i : Int) ∧ i ≤ l3.length ∧ Hid ((∀ j (hj : j < l3.length), j < i → rowOk l3[j] = true) ∧ wq = wr)) (fun _ t _ => match t with | .int _ q => (l3.length - q).toNat | _ => 0)
                case atStart => exact ⟨0, rfl, by omega, Lib.hid ⟨fun j _ h => by omega, rfl⟩⟩
                case round =>
                  obtain ⟨i, rfl, hi, HI⟩ := hrel
                  obtain ⟨hro, rfl⟩ := HI.out
                  clear HI v3
                  have HRO := Lib.hid hro
                  clear hro
                  have i0 : (0 : Int) ≤ (i : Int) := by omega
                  by_cases d1 : i < l3.length
                  · have i1 : (i : Int) < (l3.length : Int) := by omega
                    obtain ⟨ad, Ai, ci, e0, x0, hci, hri⟩ := at_rows (Kd.C_below (Kd.C_below H.out.2.1 HB.out) HI2.out) i d1
                    subst e0
                    obtain ⟨m, hm⟩ : ∃ m, l3[i] = m := ⟨_, rfl⟩
                    rw [hm] at x0 hci hri
                    have HM := Lib.hid (And.intro hm hri)
                    clear hm hri hci
                    have hbad : rowOk m = false → (l0.all markOk && l3.all rowOk) = false := fun e => by
                      have : l3.all rowOk = false := by
                        rw [List.all_eq_false]
                        exact ⟨m, by rw [← HM.out.1]; exact List.getElem_mem d1, by rw [e]; decide⟩
                      rw [this]; simp
                    by_cases c6 : (6 : Int) < (m.length : Int)
                    · have hmk : rowOk m = false := by unfold rowOk; rw [decide_eq_false (show ¬ m.length ≤ 6 by omega)]; rfl
                      have HX := Lib.hid (hbad hmk)
                      clear hbad hmk
                      go_wp2_with fail
                      go_ret
                      exact ⟨by rw [← HR.out, HF.out, HX.out]; rfl, HB.out.trans (HI2.out.mono HB.out.size)⟩
                    · go_wp2_with fail
                      refine (ContainsFunc_any Ai m.length ci m _ HM.out.2 (by omega)).mono ?_
                      rintro e w5 ⟨rfl, rfl⟩
                      cases hany : m.any (fun n => !numOk n) with
                      | true =>
                        have hmk : rowOk m = false := by unfold rowOk; rw [hany]; simp
                        have HX := Lib.hid (hbad hmk)
                        clear hbad hmk
                        go_wp2_with fail
                        go_ret
                        exact ⟨by rw [← HR.out, HF.out, HX.out]; rfl, HB.out.trans (HI2.out.mono HB.out.size)⟩
                      | false =>
                        have hmk : rowOk m = true := by unfold rowOk; rw [hany, decide_eq_true (show m.length ≤ 6 by omega)]; rfl
                        have HI6 : Hid ((∀ j (hj : j < l3.length), j < i + 1 → rowOk l3[j] = true) ∧ w5 = w5) := Lib.hid ⟨fun j hj h => by
                          rcases Nat.lt_succ_iff_lt_or_eq.1 h with h | h
                          · exact HRO.out j hj h
                          · subst h; rw [HM.out.1]; exact hmk, rfl⟩
                        clear hmk hbad hany
                        go_wp2_with fail
                        go_roundw
                        case rel => exact ⟨i + 1, by go_num, by omega, HI6⟩
                        case measure => first | (simp; omega) | simp
                  · have i1 : ¬ (i : Int) < (l3.length : Int) := by omega
                    obtain rfl : i = l3.length := by omega
                    have hall : l3.all rowOk = true := by
                      rw [List.all_eq_true]
                      intro m hm
                      obtain ⟨j, hj, rfl⟩ := List.getElem_of_mem hm
                      exact HRO.out j hj hj
                    have HX := Lib.hid hall
                    clear hall
                    go_wp2_with fail
                    go_ret
                    exact ⟨by rw [← HR.out, HF.out, HA.out, HX.out]; rfl, HB.out.trans (HI2.out.mono HB.out.size)⟩
end Go.Proofs.Ytgbhejkgnfkfgaa.Given
