/- Package match: Gone. -/
import Derived.Test.YtjpknhemnfokaaaFrom
set_option linter.unusedVariables false
set_option linter.unusedSimpArgs false
namespace Go.Proofs.Ytjpknhemnfokaaa.Mt
open Go.RowKit Go.Maps Go.Proofs.YtjpknhemnfokaaaW.PrintWords Go.Proofs.YtjpknhemnfokaaaW.PrintLast Go.Proofs.Ytjpknhemnfokaaa.Sl Go.Proofs.Ytjpknhemnfokaaa.Mv

theorem intKeyed : Keyed Try.prog 3 := int_keyed Try.underlying3
theorem zeroInt (w : World) : (zeroValue 3).run Try.prog w = .ok (.int .i64 0) w := by kernel_rfl
abbrev ki (x : Int) : Lit := .int .i64 x
theorem ki_key {x : Int} (h : (Lit.int .i64 x).wf = true) : keyOf Try.prog 3 (.int .i64 x) = some (ki x) := keyOf_int_mk Try.underlying3 h
/-- A map of numbers to numbers that counts a list's. -/
def Counts (f : Lit → Option Value) (l : List Int) : Prop := ∀ x : Int, (f (ki x)).getD (.int .i64 0) = .int .i64 (l.count x : Int)
theorem Counts.snoc {f : Lit → Option Value} {l : List Int} (h : Counts f l) (x : Int) : Counts (upd f (ki x) (some (.int .i64 ((l.count x : Int) + 1)))) (l ++ [x]) := fun y => by
  by_cases e : y = x
  · subst e
    rw [upd_same, List.count_append]
    simp
  · rw [upd_other _ _ (fun h => e (by injection h)), h y, List.count_append]
    have : List.count y [x] = 0 := by simp [List.count_cons, Ne.symm e]
    rw [this]
    rfl
/-- The places below n that are not in l. -/
def goneL (n : Nat) (l : List Int) : List Int := ((List.range n).filter (fun (i : Nat) => l.count (i : Int) == 0)).map (fun (i : Nat) => (i : Int))
theorem goneL_succ (n : Nat) (l : List Int) : goneL (n + 1) l = goneL n l ++ (if l.count (n : Int) = 0 then [(n : Int)] else []) := by
  unfold goneL
  rw [List.range_succ, List.filter_append, List.map_append]
  congr 1
  by_cases e : l.count (n : Int) = 0 <;> simp [e]
theorem goneL_len (n : Nat) (l : List Int) : (goneL n l).length ≤ n := by
  unfold goneL
  rw [List.length_map]
  have := List.length_filter_le (fun i : Nat => l.count (i : Int) == 0) (List.range n)
  simpa using this
set_option maxHeartbeats 8000000 in
set_option maxRecDepth 1000000 in
theorem Gone_any (n : Nat) (v : Value) (l : List Int) (w : World) (h : IRow w v l) (hl : l.length ≤ 1000) (hw : ∀ x ∈ l, (Lit.int .i64 x).wf = true) (hn : n ≤ 1000) : Calls Try.prog 10 #[.int .i64 (n : Int), v] w fun e w' => ∃ A c, e = .returned (.slice A (goneL n l).length c) ∧ IRow w' (.slice A (goneL n l).length c) (goneL n l) ∧ Below w.heap.size w w' ∧ ∀ k, (Value.slice A (goneL n l).length c).ownBlock = some k → w.heap.size ≤ k := by
  obtain ⟨A0, c0, rfl, hc0⟩ := h.form
  have HO := Lib.hid (And.intro h (And.intro hl (And.intro hw hc0)))
  have HN := Lib.hid hn
  have hmax : max (n : Int) 0 = (n : Int) := by omega
  clear h hl hw hc0 hn
  have hmm := @Go.RowKit.run_makeMap Try.prog
  go_enter Try.func10, Try.ntmps10
  go_wp2_with fail
  clear hmm
  obtain ⟨b, hb⟩ : ∃ b, w.heap.size = b := ⟨_, rfl⟩
  have H1 : Hid (Below w.heap.size w (w.alloc (.map #[] 0)) ∧ w.heap.size ≤ b ∧ ∃ m f, MapV 3 (w.alloc (.map #[] 0)) b 0 m f ∧ Counts f (l.take 0)) := Lib.hid ⟨(Below.refl _ _).alloc (Nat.le_refl _) _, by omega, 0, _, by rw [← hb]; exact MapV.made w _, fun x => rfl⟩
  rw [hb]
  clear hb
  generalize w.alloc (.map #[] 0) = w1 at H1 ⊢
  go_loopw [13] (fun t13 wr => ∃ i : Nat, t13 = .int .i64 (i : Int) ∧ i ≤ l.length ∧ Hid (Below w.heap.size w wr ∧ w.heap.size ≤ b ∧ ∃ m f, MapV 3 wr b i m f ∧ Counts f (l.take i))) (fun t _ => match t with | .int _ q => (l.length - q).toNat | _ => 0)
  case atStart => exact ⟨0, rfl, by omega, H1⟩
  case round =>
    obtain ⟨i, rfl, hi, HI⟩ := hrel
    clear H1
    have g0 : (0 : Int) ≤ (i : Int) := by omega
    by_cases d1 : i < l.length
    · have g1 : (i : Int) < (l.length : Int) := by omega
      have g2 : (i : Int) ≤ 1000 := by have := HO.out.2.1; omega
      obtain ⟨g, o, c', e0, hc1⟩ := Sl.form1 HO.out.1 (by omega)
      cases e0
      have g3 : (i : Int) ≤ (c0 : Int) := by omega
      obtain ⟨x, hx⟩ : ∃ x, l[i] = x := ⟨_, rfl⟩
      have hw := HO.out.2.2.1 x (by rw [← hx]; exact List.getElem_mem d1)
      have y1 : wr.cell? ⟨g, o + i, none⟩ = some (.int .i64 x) := by
        have h1 := Sl.cell HO.out.1 i (.int .i64 x) (by rw [List.getElem?_map, List.getElem?_eq_getElem d1, hx]; rfl)
        exact (HI.out.1.cell (World.block_lt_of_cell? _ _ h1)).trans h1
      obtain ⟨hB, hbw, m, f, hm, hc⟩ := HI.out
      have hlk := hm.get intKeyed Try.underlying41 (zeroInt wr) (ki_key hw)
      rw [hc x] at hlk
      obtain ⟨w2, hr2, hm2, hg2⟩ := hm.put intKeyed Try.underlying41 (by unfold maxLen; omega) (ki_key hw) (.int .i64 (((l.take i).count x : Int) + 1)) (upd f (ki x) _) (upd_same _ _ _) (fun y hy => upd_other _ _ hy)
      have hcn := hc.snoc x
      rw [show l.take i ++ [x] = l.take (i + 1) by rw [List.take_succ_eq_append_getElem d1, hx]] at hcn
      have H2 : Hid (Below w.heap.size w w2 ∧ w.heap.size ≤ b ∧ ∃ m f, MapV 3 w2 b (i + 1) m f ∧ Counts f (l.take (i + 1))) := Lib.hid ⟨below_grown hB hg2 (fun k hk => by cases hk; exact hbw) hB.size, hbw, _, _, hm2, hcn⟩
      have hct : ((l.take i).count x : Int) ≤ 1000 := by
        have h1 := List.count_le_length (a := x) (l := l.take i)
        rw [List.length_take] at h1
        have := HO.out.2.1
        omega
      obtain ⟨q, hq⟩ : ∃ q, (l.take i).count x = q := ⟨_, rfl⟩
      rw [hq] at hlk hr2 hct
      have q0 : (0 : Int) ≤ (q : Int) := by omega
      clear HI hB hbw hm hc hm2 hg2 hcn hx hw hq
      go_wp2_with fail
      go_roundw
      case rel => exact ⟨i + 1, by go_num, by omega, H2⟩
      case measure => first | (simp; omega) | simp
    · have g1 : ¬ (i : Int) < (l.length : Int) := by omega
      go_wp2_with fail
      obtain rfl : i = l.length := by omega
      obtain ⟨hB, hbw, m, f, hm, hc⟩ := HI.out
      rw [List.take_length] at hc
      have H2 : Hid (Below w.heap.size w wr ∧ MapV 3 wr b l.length m f ∧ IRow wr (.slice none 0 0) (goneL 0 l) ∧ (∀ k, (Value.slice none 0 0).ownBlock = some k → w.heap.size ≤ k)) := Lib.hid ⟨hB, hm, Sl.nil _ _ _, fun k h => by cases h⟩
      have HC := Lib.hid (And.intro hc hbw)
      clear HI hB hm hc hbw HO hi d1 g1 g0
      have n0 : (0 : Int) ≤ (n : Int) := by omega
      go_loopw [8, 24] (fun t8 t24 wq => ∃ (i k c' : Nat) (A' : Option Addr), t24 = .int .i64 (i : Int) ∧ t8 = .slice A' k c' ∧ i ≤ n ∧ Hid (k = (goneL i l).length ∧ Below w.heap.size w wq ∧ MapV 3 wq b l.length m f ∧ IRow wq (.slice A' k c') (goneL i l) ∧ (∀ q, (Value.slice A' k c').ownBlock = some q → w.heap.size ≤ q))) (fun _ t _ => match t with | .int _ q => (n - q).toNat | _ => 0)
      case atStart => exact ⟨0, 0, 0, none, rfl, rfl, by omega, Lib.hid ⟨rfl, H2.out⟩⟩
      case round =>
        obtain ⟨i, k, c', A', rfl, rfl, hi, HI⟩ := hrel
        clear H2
        have g0 : (0 : Int) ≤ (i : Int) := by omega
        by_cases d1 : i < n
        · have g1 : (i : Int) < (n : Int) := by omega
          have g2 : (i : Int) ≤ 1000 := by have := HN.out; omega
          have hw : (Lit.int .i64 (i : Int)).wf = true := by simp [Lit.wf, IntKind.min, IntKind.max, IntKind.signed, IntKind.bits]; omega
          have hlk := HI.out.2.2.1.get intKeyed Try.underlying41 (zeroInt wr) (ki_key hw)
          rw [HC.out.1 (i : Int)] at hlk
          have hst := goneL_succ i l
          by_cases e : l.count (i : Int) = 0
          · rw [e] at hlk
            rw [if_pos e] at hst
            have HST := Lib.hid hst
            have HI2 : Hid (Below w.heap.size w (wr.alloc (.cells #[.int .i64 (i : Int)] 3)) ∧ MapV 3 (wr.alloc (.cells #[.int .i64 (i : Int)] 3)) b l.length m f ∧ IRow (wr.alloc (.cells #[.int .i64 (i : Int)] 3)) (.slice A' k c') (goneL i l)) := Lib.hid ⟨HI.out.2.1.alloc HI.out.2.1.size _, HI.out.2.2.1.below ((Below.refl _ _).alloc (Nat.le_refl _) _), HI.out.2.2.2.1.below ((Below.refl _ _).alloc (Nat.le_refl _) _)⟩
            have HA := Lib.hid (heap_alloc_new wr (.cells #[.int .i64 (i : Int)] 3))
            clear hw hst e
            go_wp2_with (at_builtin; refine wpl_append_int rfl (.tmp 31) (.tmp 33) rfl (.slice A' k c') (goneL i l) (i : Int) wr.heap.size 1 rfl rfl HI2.out.2.2 HA.out (by have := goneL_len i l; have := HN.out; omega) ?_)
            rintro A7 c7 w7 hr7 hg7 ho7
            have hl7 : (goneL (i + 1) l).length = (goneL i l).length + 1 := by rw [HST.out, List.length_append]; rfl
            have H7 : Hid ((goneL i l).length + 1 = (goneL (i + 1) l).length ∧ Below w.heap.size w w7 ∧ MapV 3 w7 b l.length m f ∧ IRow w7 (.slice A7 ((goneL i l).length + 1) c7) (goneL (i + 1) l) ∧ (∀ q, (Value.slice A7 ((goneL i l).length + 1) c7).ownBlock = some q → w.heap.size ≤ q)) := Lib.hid (by
              refine ⟨hl7.symm, below_grown HI2.out.1 hg7 HI.out.2.2.2.2 HI2.out.1.size, HI2.out.2.1.grown hg7 (fun e => ?_), by rw [HST.out]; simpa using hr7, fun q hq => ?_⟩
              · obtain ⟨_, cur, hc⟩ := HI2.out.2.2.lt b e
                exact HI2.out.2.1.ne hc rfl
              · have ho : (Value.slice A7 ((goneL i l).length + 1) c7).ownBlock = (Value.slice A' k c').ownBlock ∨ (Value.slice A7 ((goneL i l).length + 1) c7).ownBlock = some (wr.heap.size + 1) := by simpa using ho7
                rcases ho with ho | ho
                · exact HI.out.2.2.2.2 q (by rw [← ho]; exact hq)
                · rw [ho] at hq
                  have := Option.some.inj hq
                  have := HI.out.2.1.size
                  omega)
            clear hr7 hg7 ho7 HI HI2 HA hl7 hlk
            go_wp2_with fail
            go_roundw
            case rel => exact ⟨i + 1, _, c7, A7, by go_num, rfl, by omega, H7⟩
            case measure => first | (simp; omega) | simp
          · rw [if_neg e, List.append_nil] at hst
            have HST := Lib.hid hst
            obtain ⟨q, hq⟩ : ∃ q, l.count (i : Int) = q := ⟨_, rfl⟩
            rw [hq] at hlk e
            have q1 : ¬ (q : Int) = 0 := by omega
            clear hw hst e hq
            go_wp2_with fail
            go_roundw
            case rel => exact ⟨i + 1, k, c', A', by go_num, rfl, by omega, by rw [HST.out]; exact HI⟩
            case measure => first | (simp; omega) | simp
        · have g1 : ¬ (i : Int) < (n : Int) := by omega
          obtain rfl : i = n := by omega
          go_wp2_with fail
          go_ret
          obtain ⟨rfl, hB, _, hr, hf⟩ := HI.out
          exact ⟨A', c', rfl, hr, hB, hf⟩
end Go.Proofs.Ytjpknhemnfokaaa.Mt
