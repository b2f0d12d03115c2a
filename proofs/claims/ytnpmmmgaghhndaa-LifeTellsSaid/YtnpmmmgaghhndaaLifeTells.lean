/- LifeTells: the walk (begun: up to the map). -/
import Derived.Test.YtnpmmmgaghhndaaTellsRange
import Derived.Deep.CutBlock
import Derived.Deep.DeepCutAuto
import Derived.Deep.RegionLaw
set_option linter.unusedSimpArgs false
set_option linter.unusedVariables false
namespace Go.Proofs.Ytnpmmmgaghhndaa.Lf
open Go.RowKit Go.Maps Go.WideMaps Go.Proofs.Ytnpmmmgaghhndaa.PLifeBegins Go.Proofs.YtnpmmmgaghhndaaW.PrintWords Go.Proofs.YtnpmmmgaghhndaaW.PrintLast Go.Proofs.YtnpmmmgaghhndaaW.PrintMore Go.Proofs.Ytnpmmmgaghhndaa.Given Go.Proofs.Ytnpmmmgaghhndaa.Mv Go.Proofs.Ytnpmmmgaghhndaa.Sl

def w14 (a : Int) : Int := (porticobook_Within.f a 1 4).getD 0
theorem w14_rng (a : Int) : porticobook_Within.f a 1 4 = some (w14 a) ∧ 1 ≤ w14 a ∧ w14 a ≤ 4 := by
  obtain ⟨r, h1, h2, h3⟩ := within a 1 4 (by omega) (by omega) (by omega)
  unfold w14
  rw [h1]
  exact ⟨rfl, h2, h3⟩
theorem Within_14 (a : Int) (w : World) : Calls Try.prog 12 #[.int .i64 a, .int .i64 1, .int .i64 4] w fun e w' => e = .returned (.int .i64 (w14 a)) ∧ Drawn0 w w' := porticobook_Within.calls a 1 4 (w14 a) w (w14_rng a).1
theorem RL_made (w : World) (B : Nat) (hb : B ≤ w.heap.size) : RL (w.alloc (.cells #[] 23)) B (.slice (some ⟨w.heap.size, 0, none⟩) 0 0) [] :=
  ⟨fun _ _ => trivial, [], World.ownsRow_made (base := B) (e := 23) (size := 2) w #[] 0 hb (by decide) (by rfl), ⟨rfl, fun j p hj => by simp at hj⟩⟩
theorem rowk_len (l : List Ev) (n : Int) : (rowk l n).length ≤ l.length := by
  unfold rowk
  rw [List.length_map]
  exact List.length_filter_le _ _
theorem step_append_run {P : Program} {ops : Array Oper} {o : Oper} {a : Act} {w w1 : World} {K : Act → World → Prop} {Q : Exit → Act → World → Prop} {E : Prop} {v : Value}
    (hg : o.guard = none) (s x : Operand) (t : TypeId) (hop : o.op = Op.call { callee := Callee.builtin Builtin.append, args := #[s, x], argTypes := #[t, t] })
    (vs vx : Value) (hs : a.eval s = vs) (hx : a.eval x = vx) (hr : (Builtin.append_ #[t, t] o.type #[vs, vx]).run P w = .ok v w1) (hK : K (a.put o.dst v) w1) :
    if Region.wanted o (yielded ops a.tmps) = true then Oper.wp P o a w K Q else E := by
  have hw : Region.wanted o (yielded ops a.tmps) = true := by simp [Region.wanted, hg]
  rw [if_pos hw]
  unfold Oper.wp
  simp [execOp, hop, resolve, invoke, builtin, hs, hx, hr, Result.andThen]
  exact hK
theorem take_next {α : Type} {l : List α} {i : Nat} {e : α} (h : l[i]? = some e) : l.take (i + 1) = l.take i ++ [e] := by
  rw [List.take_add_one, h]; rfl
theorem step_R (L : List Ev) (e : Ev) (R : Bool) (top : Int) (hR : R = true ↔ (∀ e ∈ L, 1 ≤ e.f1) ∧ rising L 0 = true) (ht : R = true → top = lastM L 0) (R' : Bool) (top' : Int) (h1 : R' = true ↔ R = true ∧ 1 ≤ e.f1 ∧ (e.f0 = 1 → top < e.f1)) (h2 : top' = if e.f0 = 1 then (if top < e.f1 then e.f1 else top) else top) :
    (R' = true ↔ (∀ x ∈ L ++ [e], 1 ≤ x.f1) ∧ rising (L ++ [e]) 0 = true) ∧ (R' = true → top' = lastM (L ++ [e]) 0) := by
  rw [rising_snoc, lastM_snoc, h1]
  constructor
  · constructor
    · rintro ⟨hr, h3, h4⟩
      have h5 := hR.1 hr
      refine ⟨fun x hx => ?_, ?_⟩
      · rcases List.mem_append.1 hx with hx | hx
        · exact h5.1 x hx
        · rw [List.mem_singleton.1 hx]; exact h3
      · rw [h5.2, ← ht hr]
        by_cases c : e.f0 = 1
        · simp [c, h4 c]
        · simp [c]
    · rintro ⟨h3, h4⟩
      have h4' : rising L 0 = true ∧ (if e.f0 = 1 then decide (lastM L 0 < e.f1) else true) = true := by simpa using h4
      have hr : R = true := hR.2 ⟨fun x hx => h3 x (List.mem_append.2 (.inl hx)), h4'.1⟩
      refine ⟨hr, h3 e (by simp), fun c => ?_⟩
      have h6 := h4'.2
      rw [if_pos c] at h6
      rw [ht hr]
      simpa using h6
  · rintro ⟨hr, _, h4⟩
    rw [h2]
    by_cases c : e.f0 = 1
    · rw [if_pos c, if_pos c, if_pos (h4 c)]
    · rw [if_neg c, if_neg c]; exact ht hr
attribute [local go_sem] max2_int min2_int max_two min_two
set_option maxHeartbeats 8000000 in
set_option maxRecDepth 100000 in
theorem LifeTells_any (A : Option Addr) (c : Nat) (raw : List Ev) (B : Option Addr) (d : Nat) (nums : List Int) (w : World) (hr : Kd.C k23 w A raw.length raw) (hc : raw.length ≤ c) (hw : ∀ e ∈ raw, (Lit.int .i64 e.f1).wf = true) (hr2 : Kd.C (Kd.int .i64) w B nums.length nums) (hc2 : nums.length ≤ d) : Calls Try.prog 4 #[.slice A raw.length c, .slice B nums.length d] w fun e w' => e = .returned (.bool true) ∧ Below w.heap.size w w' := by
  have HA := Lib.hid (And.intro (And.intro hr hc) (And.intro hw (And.intro hr2 hc2)))
  clear hr hw hr2
  obtain ⟨m, hm⟩ : ∃ m : Nat, (if (40 : Int) < (raw.length : Int) then 40 else (raw.length : Int)) = (m : Int) := ⟨min raw.length 40, by split <;> omega⟩
  have hm1 : m ≤ raw.length := by split at hm <;> omega
  have hm2 : m ≤ c := by omega
  have hm3 : m ≤ 40 := by split at hm <;> omega
  have hlt : (raw.take m).length = m := by rw [List.length_take]; omega
  have H0 : Hid (Below w.heap.size w (w.alloc (.cells #[] 23)) ∧ RL (w.alloc (.cells #[] 23)) w.heap.size (.slice (some ⟨w.heap.size, 0, none⟩) 0 0) [] ∧ Kd.C k23 (w.alloc (.cells #[] 23)) A m (raw.take m)) := Lib.hid ⟨(Below.refl _ _).alloc (Nat.le_refl _) _, RL_made w _ (Nat.le_refl _), C_take (Kd.C_below HA.out.1.1 ((Below.refl _ _).alloc (Nat.le_refl _) _)) hm1⟩
  have HT := Lib.hid hlt
  clear hlt
  go_enter Try.func4, Try.ntmps4
  go_upto_region 2 with (at_builtin; refine Kd.R_append_rows k23 (w0 := w) w.heap.size rfl (.tmp 21) (.tmp 26) 24 23 (.agg #[(.int .i64 0), (.int .i64 0)]) 16 rfl Try.underlying24 info23 rfl (by decide) (by omega) (.slice (some ⟨w.heap.size, 0, none⟩) 0 0) [] (raw.take m) A m c (fun _ => True) (fun _ => False) rfl rfl H0.out.2.1 H0.out.2.2 (fun _ _ h => h) (fun _ h => h.elim) (fun _ _ => trivial) H0.out.1 H0.out.1.size (by simp; omega) ?_; intro v1 w1 hr1 hb1 hg1 ho1; obtain ⟨A1, c1, rfl⟩ := Kd.R_slice hr1)
  obtain ⟨l0, hl0⟩ : ∃ l, raw.take m = l := ⟨_, rfl⟩
  have hr1 : RL w1 w.heap.size (.slice A1 ([] ++ raw.take m).length c1) ([] ++ raw.take m) := hr1
  rw [List.nil_append, hl0] at hr1
  have hlm : l0.length = m := by rw [← hl0]; exact HT.out
  rw [hlm] at hr1
  have H1 : Hid (ESl w1 (.slice A1 m c1) l0 ∧ (∀ q, (Value.slice A1 m c1).ownBlock = some q → w.heap.size ≤ q) ∧ Below w.heap.size w w1 ∧ l0.length = m ∧ ∀ e ∈ l0, (Lit.int .i64 e.f1).wf = true) := Lib.hid ⟨ESl.of_R hr1, fun q hq => ((Kd.R_own hr1).choose_spec.lt q hq).1, hb1, hlm, fun e he => HA.out.2.1 e (by rw [← hl0] at he; exact List.mem_of_mem_take he)⟩
  clear hr1 hb1 hg1 ho1 hlm hl0 H0 HT hm hm1 hm2
  have hm40 : (m : Int) ≤ 40 := by omega
  have hm0 : (0 : Int) ≤ (m : Int) := by omega
  try rw [show (raw.take m).length = m from by rw [List.length_take]; omega]
  go_upto_block 0 with fail
  go_cut [6, 30] (fun t6 t30 wc => Hid (∃ l : List Ev, ESl wc (.slice A1 m c1) l ∧ (∀ q, (Value.slice A1 m c1).ownBlock = some q → w.heap.size ≤ q) ∧ Below w.heap.size w wc ∧ l.length = m ∧ ∀ e ∈ l, (Lit.int .i64 e.f1).wf = true))
  case first =>
-- DEV<
    go_wp2_with fail
    go_loopw [6, 30] (fun t6 t30 wr => ∃ i : Nat, t30 = .int .i64 (i : Int) ∧ i ≤ m ∧ Hid (∃ l : List Ev, ESl wr (.slice A1 m c1) l ∧ (∀ q, (Value.slice A1 m c1).ownBlock = some q → w.heap.size ≤ q) ∧ Below w.heap.size w wr ∧ l.length = m ∧ ∀ e ∈ l, (Lit.int .i64 e.f1).wf = true)) (fun _ t _ => match t with | .int _ q => (m - q).toNat | _ => 0)
    case atStart => exact ⟨0, rfl, by omega, Lib.hid ⟨l0, H1.out⟩⟩
    case round =>
      obtain ⟨i, rfl, hi, HI⟩ := hrel
      clear H1
      obtain ⟨l, HIx⟩ := HI.out
      have HJ := Lib.hid HIx
      clear HI HIx
      have i0 : (0 : Int) ≤ (i : Int) := by omega
      by_cases d1 : i < m
      · have d1i : (i : Int) < (m : Int) := by omega
        go_upto_block 1 with fail
        go_cut [6] (fun t6 wc => Hid (∃ l : List Ev, ESl wc (.slice A1 m c1) l ∧ (∀ q, (Value.slice A1 m c1).ownBlock = some q → w.heap.size ≤ q) ∧ Below w.heap.size w wc ∧ l.length = m ∧ ∀ e ∈ l, (Lit.int .i64 e.f1).wf = true))
        case first =>
          by_cases d2 : i < nums.length
          · have d2i : (i : Int) < (nums.length : Int) := by omega
            have did : (i : Int) < (d : Int) := by omega
            obtain ⟨g, o, c2, e1, hgc⟩ := Sl.form1 HJ.out.1 (by have := HJ.out.2.2.2.1; omega)
            injection e1 with e1 e2 e3
            subst e1 e3
            clear e2 hgc
            obtain ⟨ad, cs, e0, _, hK, hcl⟩ := Kd.C_get (Kd.C_below HA.out.2.2.1 HJ.out.2.2.1) 0 (i : Int) i0 (by omega)
            subst e0
            obtain ⟨x, hx⟩ : ∃ x, nums.getD (i : Int).toNat 0 = x := ⟨_, rfl⟩
            rw [hx] at hK
            have hK' : cs = [.int .i64 x] := hK
            subst hK'
            have y0 := hcl 0 _ rfl
            rw [show (i : Int).toNat * (Kd.int .i64).sz + 0 = i from by show (i : Int).toNat * 1 + 0 = i; omega] at y0
            clear hK hcl hx
            have hil : i < l.length := by have := HJ.out.2.2.2.1; omega
            obtain ⟨g0, g1⟩ := evcells_get l i l[i] (List.getElem?_eq_getElem hil)
            have hES : Sl wr 23 2 (.slice (some ⟨g, o, none⟩) m c1) m (evcells l) := by
              have h := HJ.out.1
              unfold ESl at h
              rw [HJ.out.2.2.2.1] at h
              exact h
            have y1 := Sl.cell hES (i * 2) _ g0
            have y2 : wr.cell? ⟨g, o + i * 2 + 1, none⟩ = some (.int .i64 l[i].f1) := Sl.cell hES (i * 2 + 1) _ g1
            have z1 := Sl.frozen hES (o + i * 2)
            have z2 : wr.frozen? ⟨g, o + i * 2 + 1, none⟩ = false := Sl.frozen hES (o + (i * 2 + 1))
            have HSet : Hid (∀ (Q : Nat) (e : Ev), ESl (((wr.drewN Q).setCell ⟨g, o + i * 2, none⟩ (.int .i64 e.f0)).setCell ⟨g, o + i * 2 + 1, none⟩ (.int .i64 e.f1)) (.slice (some ⟨g, o, none⟩) m c1) (l.set i e) ∧ Below w.heap.size w (((wr.drewN Q).setCell ⟨g, o + i * 2, none⟩ (.int .i64 e.f0)).setCell ⟨g, o + i * 2 + 1, none⟩ (.int .i64 e.f1))) := Lib.hid fun Q e => by
              have h1 : ESl (wr.drewN Q) (.slice (some ⟨g, o, none⟩) m c1) l := Sl.below HJ.out.1 (pw_below_drewN (Below.refl _ _) Q) (Nat.le_refl _)
              have hgb := HJ.out.2.1 g rfl
              exact ⟨h1.set i hil e, ((pw_below_drewN HJ.out.2.2.1 Q).setCell hgb _).setCell hgb _⟩
            clear g0 g1 hES
            go_upto_region 6 with fail
            go_region_with (go_at_call 12; refine (Within_14 _ _).mono ?_; rintro e9 w9 ⟨rfl, q9, rfl⟩)
            all_goals
              go_wp2_with fail
              go_meet
              case rel =>
                refine Lib.hid ⟨l.set i ⟨w14 x, w14 (IntKind.i64.wrap (x.tdiv 4))⟩, (HSet.out _ ⟨w14 x, w14 (IntKind.i64.wrap (x.tdiv 4))⟩).1, HJ.out.2.1, (HSet.out _ ⟨w14 x, w14 (IntKind.i64.wrap (x.tdiv 4))⟩).2, by rw [List.length_set]; exact HJ.out.2.2.2.1, fun e he => ?_⟩
                rcases List.mem_or_eq_of_mem_set he with he | rfl
                · exact HJ.out.2.2.2.2 e he
                · have := w14_rng (IntKind.i64.wrap (x.tdiv 4))
                  exact wf_of (by show 1 ≤ w14 _ ∧ w14 _ ≤ 1000; omega)
          · have d2i : ¬ (i : Int) < (nums.length : Int) := by omega
            go_wp2_with fail
            go_meet
            case rel => exact Lib.hid ⟨l, HJ.out⟩
        case rest =>
        clear HJ
        go_wp2_with fail
        go_roundw
        case rel => exact ⟨i + 1, by go_num, by omega, hcut⟩
        case measure => simp; omega
      · have d1i : ¬ (i : Int) < (m : Int) := by omega
        obtain rfl : i = m := by omega
        go_wp2_with fail
        go_meet
        exact Lib.hid ⟨l, HJ.out⟩
-- DEV>
  case rest =>
  obtain ⟨l, HLx⟩ := hcut.out
  have HL := Lib.hid HLx
  clear hcut HLx H1
  have hmm := @Go.RowKit.run_makeMap Try.prog
  go_upto_block 2 with fail
  clear hmm
  obtain ⟨b, hb⟩ : ∃ b, wc.heap.size = b := ⟨_, rfl⟩
  have hBa : Below wc.heap.size wc (wc.alloc (.map #[] 0)) := (Below.refl _ _).alloc (Nat.le_refl _) _
  have H2 : Hid (ESl (wc.alloc (.map #[] 0)) (.slice A1 m c1) l ∧ Tm w (wc.alloc (.map #[] 0)) b 0 (fun _ => none) (fun _ => []) [] ∧ (∀ q, (Value.slice A1 m c1).ownBlock = some q → w.heap.size ≤ q ∧ q < b)) := Lib.hid ⟨Sl.below HL.out.1 hBa (Nat.le_refl _), by rw [← hb]; exact Tm.made HL.out.2.2.1, fun q hq => ⟨HL.out.2.1 q hq, by rw [← hb]; exact (HL.out.1.lt q hq).1⟩⟩
  have HW := Lib.hid HL.out.2.2.2
  rw [hb]
  clear hBa hb HL
  generalize wc.alloc (.map #[] 0) = w2 at H2 ⊢
  go_cut [8, 9] (fun t8 t9 wd => ∃ (R : Bool) (top : Int), t8 = .bool R ∧ t9 = .int .i64 top ∧ Hid (∃ n f p, n ≤ 40 ∧ ESl wd (.slice A1 m c1) l ∧ Tm w wd b n f p l ∧ (R = true ↔ (∀ e ∈ l, 1 ≤ e.f1) ∧ rising l 0 = true)))
  case first =>
-- DEV2<
    go_wp2_with fail
    go_loopw [8, 9, 56] (fun t8 t9 t56 wr => ∃ (i : Nat) (R : Bool) (top : Int), t8 = .bool R ∧ t9 = .int .i64 top ∧ t56 = .int .i64 (i : Int) ∧ i ≤ m ∧ Hid (∃ n f p, n ≤ i ∧ ESl wr (.slice A1 m c1) l ∧ Tm w wr b n f p (l.take i) ∧ (R = true ↔ (∀ e ∈ l.take i, 1 ≤ e.f1) ∧ rising (l.take i) 0 = true) ∧ (R = true → top = lastM (l.take i) 0))) (fun _ _ t _ => match t with | .int _ q => (m - q).toNat | _ => 0)
    case atStart => exact ⟨0, true, 0, rfl, rfl, rfl, by omega, Lib.hid ⟨0, _, _, Nat.le_refl _, H2.out.1, H2.out.2.1, ⟨fun _ => ⟨fun e he => (by cases he), rfl⟩, fun _ => rfl⟩, fun _ => rfl⟩⟩
    case round =>
      obtain ⟨i, R, top, rfl, rfl, rfl, hi, HI⟩ := hrel
      have i0 : (0 : Int) ≤ (i : Int) := by omega
      by_cases d1 : i < m
      · have d1i : (i : Int) < (m : Int) := by omega
        obtain ⟨n, f, p, HIx⟩ := HI.out
        have HJ := Lib.hid HIx
        clear HI HIx H2
        obtain ⟨ev, hev⟩ : ∃ e, l[i]? = some e := ⟨_, List.getElem?_eq_getElem (by have := HW.out.1; omega)⟩
        obtain ⟨g, o, c2, e1, hgc⟩ := Sl.form1 HJ.out.2.1 (by have := HW.out.1; omega)
        injection e1 with e1 e2 e3
        subst e1 e3
        clear e2 hgc
        have hES : Sl wr 23 2 (.slice (some ⟨g, o, none⟩) m c1) m (evcells l) := by
          have h := HJ.out.2.1
          unfold ESl at h
          rw [HW.out.1] at h
          exact h
        obtain ⟨g0, g1⟩ := evcells_get l i ev hev
        have y1 := Sl.cell hES (i * 2) _ g0
        have y2 : wr.cell? ⟨g, o + i * 2 + 1, none⟩ = some (.int .i64 ev.f1) := Sl.cell hES (i * 2 + 1) _ g1
        clear g0 g1 hES
        have HV := Lib.hid hev
        clear hev
        go_upto_block 3 with fail
        go_cut [8, 9] (fun t8 t9 wc => ∃ (R : Bool) (top : Int), t8 = .bool R ∧ t9 = .int .i64 top ∧ Hid (∃ n f p, n ≤ i + 1 ∧ ESl wc (.slice (some ⟨g, o, none⟩) m c1) l ∧ Tm w wc b n f p (l.take (i + 1)) ∧ (R = true ↔ (∀ e ∈ l.take (i + 1), 1 ≤ e.f1) ∧ rising (l.take (i + 1)) 0 = true) ∧ (R = true → top = lastM (l.take (i + 1)) 0)))
        case first =>
          go_upto_region 13 with fail
          obtain ⟨wb, hwb⟩ : ∃ x, wr.alloc (.cells #[.int .i64 ev.f0, .int .i64 ev.f1] 23) = x := ⟨_, rfl⟩
          obtain ⟨q, hq⟩ : ∃ x, wr.heap.size = x := ⟨_, rfl⟩
          have hBb : Below wr.heap.size wr wb := by rw [← hwb]; exact (Below.refl _ _).alloc (Nat.le_refl _) _
          have hbox : wb.heap[q]? = some (.cells #[.int .i64 ev.f0, .int .i64 ev.f1] 23 (0, 0)) := by rw [← hwb, ← hq]; exact heap_alloc_new _ _
          have hwf := HW.out.2 ev (List.mem_of_getElem? HV.out)
          have HQ : Hid (q < wb.heap.size ∧ wr.heap.size = q ∧ wb.heap[q]? = some (.cells #[.int .i64 ev.f0, .int .i64 ev.f1] 23 (0, 0)) ∧ ESl wb (.slice (some ⟨g, o, none⟩) m c1) l ∧ Tm w wb b n f p (l.take i) ∧ l[i]? = some ev ∧ n ≤ i ∧ (Lit.int .i64 ev.f1).wf = true) := Lib.hid ⟨Mv.lt_heap hbox, hq, hbox, Sl.below HJ.out.2.1 hBb (Nat.le_refl _), HJ.out.2.2.1.below hBb, HV.out, HJ.out.1, hwf⟩
          have b0 : wb.cell? ⟨q, 0, none⟩ = some (.int .i64 ev.f0) := (blk_cell hbox 0).trans rfl
          have hbox2 : (wb.alloc (.cells #[.int .i64 ev.f0] 3)).heap[q]? = some (.cells #[.int .i64 ev.f0, .int .i64 ev.f1] 23 (0, 0)) := (heap_alloc_old wb _ (Mv.lt_heap hbox)).trans hbox
          have b3 : (wb.alloc (.cells #[.int .i64 ev.f0] 3)).cell? ⟨q, 0, none⟩ = some (.int .i64 ev.f0) := (blk_cell hbox2 0).trans rfl
          have b4 : (wb.alloc (.cells #[.int .i64 ev.f0] 3)).cell? ⟨q, 1, none⟩ = some (.int .i64 ev.f1) := (blk_cell hbox2 1).trans rfl
          have b1 : wb.cell? ⟨q, 1, none⟩ = some (.int .i64 ev.f1) := (blk_cell hbox 1).trans rfl
          clear hBb hbox hwf y1 y2
          rw [hwb, hq]
          clear hwb hq
          obtain ⟨V, hV⟩ : ∃ V, at_ f (ki ev.f1) = V := ⟨_, rfl⟩
          have hlk : ∀ W, Below wb.heap.size wb W → (Instr.lookup 32 (.map (some b)) (.int .i64 ev.f1) false).run Try.prog W = .ok V W := fun W hB => by
            obtain ⟨mm, hm⟩ := HQ.out.2.2.2.2.1.left.map
            rw [← hV]
            exact (hm.below hB).get intKeyed Try.underlying32 (zeroRow W) (ki_key HQ.out.2.2.2.2.2.2.2)
          have lk1 := hlk wb.drew (pw_below_drewN (Below.refl _ _) 1)
          have lk2 := hlk (wb.drew.alloc (.cells #[.int .i64 ev.f0] 3)) ((pw_below_drewN (Below.refl _ _) 1).alloc (Nat.le_refl _) _)
          have lk3 : (Instr.lookup 32 (.map (some b)) (.int .i64 ev.f1) false).run Try.prog (wb.alloc (.cells #[.int .i64 ev.f0] 3)).drew = .ok V (wb.alloc (.cells #[.int .i64 ev.f0] 3)).drew := lk2
          have hfull := (HQ.out.2.2.2.2.1.at ev.f1).below ((pw_below_drewN (Below.refl wb.heap.size wb) 1).alloc (Nat.le_refl _) (.cells #[.int .i64 ev.f0] 3))
          obtain ⟨A7, c7, w7, r7, s7, g7, o7⟩ := run_append_ints (wb.drew.alloc (.cells #[.int .i64 ev.f0] 3)) (at_ f (ki ev.f1)) (rowk (l.take i) ev.f1) [ev.f0] ⟨wb.heap.size, 0, none⟩ 1 27 hfull (fun j u hu => by
            rcases j with _ | j
            · cases hu
              exact (blk_cell (heap_alloc_new wb.drew (.cells #[.int .i64 ev.f0] 3)) 0).trans rfl
            · simp at hu) (by have := rowk_len (l.take i) ev.f1; have : (l.take i).length ≤ i := by rw [List.length_take]; omega
                              simp; omega)
          have hbox7 : w7.heap[q]? = some (.cells #[.int .i64 ev.f0, .int .i64 ev.f1] 23 (0, 0)) := (g7.block q (Mv.lt_heap hbox2) (fun e => by
            have h1 := ((HJ.out.2.2.1.at ev.f1).lt q e.symm).1
            rw [HQ.out.2.1] at h1
            exact Nat.lt_irrefl _ h1)).trans hbox2
          have b5 : w7.cell? ⟨q, 0, none⟩ = some (.int .i64 ev.f0) := (blk_cell hbox7 0).trans rfl
          have b6 : w7.cell? ⟨q, 1, none⟩ = some (.int .i64 ev.f1) := (blk_cell hbox7 1).trans rfl
          clear hbox2
          obtain ⟨w8, f8, p8, r8, t8, g8⟩ := (HQ.out.2.2.2.2.1.below ((pw_below_drewN (Below.refl wb.heap.size wb) 1).alloc (Nat.le_refl _) (.cells #[.int .i64 ev.f0] 3))).put ev HQ.out.2.2.2.2.2.2.2 g7 s7 o7 (by have := HQ.out.2.2.2.2.2.2.1; unfold maxLen; omega)
          rw [hV] at r7 g7 o7
          obtain ⟨V7, hV7⟩ : ∃ x, Value.slice A7 (rowk (l.take i) ev.f1 ++ [ev.f0]).length c7 = x := ⟨_, rfl⟩
          rw [hV7] at r7 r8 o7
          have HC : Hid (∃ f' p', ESl w8 (.slice (some ⟨g, o, none⟩) m c1) l ∧ Tm w w8 b (n + 1) f' p' (l.take (i + 1)) ∧ w8.heap[q]? = some (.cells #[.int .i64 ev.f0, .int .i64 ev.f1] 23 (0, 0))) := by
            obtain ⟨mm, hm⟩ := HQ.out.2.2.2.2.1.left.map
            obtain ⟨hgl, curg, hgc⟩ := HQ.out.2.2.2.1.lt g rfl
            have hBB := ((pw_below_drewN (Below.refl wb.heap.size wb) 1).alloc (Nat.le_refl _) (.cells #[.int .i64 ev.f0] 3))
            have hgV : (at_ f (ki ev.f1)).ownBlock ≠ some g := fun e => by
              obtain ⟨_, cv, hcv⟩ := (HQ.out.2.2.2.2.1.at ev.f1).lt g e
              rw [hgc] at hcv
              injection hcv with hcv
              injection hcv with _ hcv _
              exact absurd hcv (by decide)
            have hgz : w8.heap[g]? = wb.heap[g]? := by
              have h1 : (wb.drew.alloc (.cells #[.int .i64 ev.f0] 3)).heap[g]? = wb.heap[g]? := hBB.block g hgl
              have h2 := hBB.size
              rw [g8.block g (Nat.lt_of_lt_of_le hgl (Nat.le_trans h2 g7.size)) (fun e => hm.ne hgc (Option.some.inj e).symm), g7.block g (Nat.lt_of_lt_of_le hgl h2) (fun e => hgV (by rw [hV]; exact e.symm)), h1]
            refine Lib.hid ⟨f8, p8, Sl.move HQ.out.2.2.2.1 (fun k hk => by cases hk; exact hgz), ?_, ?_⟩
            · rw [take_next HQ.out.2.2.2.2.2.1]; exact t8
            · rw [g8.block q (Mv.lt_heap hbox7) (fun e => hm.ne HQ.out.2.2.1 (Option.some.inj e).symm)]; exact hbox7
          have HV2 := Lib.hid (And.intro hV (And.intro t8 (And.intro g7 (And.intro g8 (And.intro o7 (And.intro s7 hbox7))))))
          clear hV hlk hfull t8 g7 g8 o7 s7 hV7 hbox7
          go_cut [] (fun wc => Hid (∃ f' p', ESl wc (.slice (some ⟨g, o, none⟩) m c1) l ∧ Tm w wc b (n + 1) f' p' (l.take (i + 1)) ∧ wc.heap[q]? = some (.cells #[.int .i64 ev.f0, .int .i64 ev.f1] 23 (0, 0))))
          case first =>
            -- DEV<
            go_region_law (refine step_append_run rfl _ _ _ rfl _ _ rfl rfl r7 ?_)
            all_goals
              go_wp2_with fail
              go_meet
              exact HC
          -- DEV>
          case rest =>
          clear r7 r8 lk1 lk2 lk3 b0 b1 b3 b4 b5 b6 HC HV2
          obtain ⟨f9, p9, HGx⟩ := hcut.out
          have HG := Lib.hid HGx
          clear hcut HGx
          have b0 : wc.cell? ⟨q, 0, none⟩ = some (.int .i64 ev.f0) := (blk_cell HG.out.2.2 0).trans rfl
          have b1 : wc.cell? ⟨q, 1, none⟩ = some (.int .i64 ev.f1) := (blk_cell HG.out.2.2 1).trans rfl
          have HK : Hid (∀ (R' : Bool) (top' : Int), (R' = true ↔ R = true ∧ 1 ≤ ev.f1 ∧ (ev.f0 = 1 → top < ev.f1)) → (top' = if ev.f0 = 1 then (if top < ev.f1 then ev.f1 else top) else top) → ∃ (R : Bool) (top : Int), Value.bool R' = .bool R ∧ Value.int .i64 top' = .int .i64 top ∧ Hid (∃ n f p, n ≤ i + 1 ∧ ESl wc (.slice (some ⟨g, o, none⟩) m c1) l ∧ Tm w wc b n f p (l.take (i + 1)) ∧ (R = true ↔ (∀ e ∈ l.take (i + 1), 1 ≤ e.f1) ∧ rising (l.take (i + 1)) 0 = true) ∧ (R = true → top = lastM (l.take (i + 1)) 0))) := Lib.hid fun R' top' h1 h2 => by
            have hs := step_R (l.take i) ev R top HJ.out.2.2.2.1 HJ.out.2.2.2.2 R' top' h1 h2
            rw [← take_next HQ.out.2.2.2.2.2.1] at hs
            exact ⟨R', top', rfl, rfl, Lib.hid ⟨n + 1, f9, p9, by have := HJ.out.1; omega, HG.out.1, HG.out.2.1, hs⟩⟩
          clear HJ HQ HV HG HW HA
          obtain ⟨x, hx⟩ : ∃ x, ev.f1 = x := ⟨_, rfl⟩
          obtain ⟨y, hy⟩ : ∃ y, ev.f0 = y := ⟨_, rfl⟩
          rw [hx, hy] at HK
          rw [hx] at b1
          rw [hy] at b0
          clear hx hy
          cases R
          all_goals
            by_cases c0 : (1 : Int) ≤ x
            all_goals
              by_cases c1 : y = 1
              · have c1b : (y == 1) = true := by simpa using c1
                subst c1
                by_cases c2 : top < x
                all_goals
                  go_wp2_with fail
                  go_meet
                  refine HK.out _ _ (by simp <;> omega) (by simp <;> omega)
              · have c1b : (y == 1) = false := by simpa using c1
                go_wp2_with fail
                go_meet
                refine HK.out _ _ (by simp <;> omega) (by simp <;> omega)
        case rest =>
        clear HJ HV y1 y2
        obtain ⟨R, top, rfl, rfl, HI⟩ := hcut
        go_wp2_with fail
        go_roundw
        case rel => exact ⟨i + 1, R, top, rfl, rfl, by go_num, by omega, HI⟩
        case measure => simp; omega
      · have d1i : ¬ (i : Int) < (m : Int) := by omega
        obtain rfl : i = m := by omega
        go_wp2_with fail
        go_meet
        obtain ⟨n, f, p, h1, h2, h3, h4, h5⟩ := HI.out
        have hl : l.take i = l := List.take_of_length_le (by have := HW.out.1; omega)
        rw [hl] at h3 h4
        exact ⟨R, top, rfl, rfl, Lib.hid ⟨n, f, p, by omega, h2, h3, h4⟩⟩
-- DEV2>
  case rest =>
  obtain ⟨wd, rfl⟩ : ∃ x, x = wc := ⟨_, rfl⟩
  obtain ⟨R, top, rfl, rfl, HI⟩ := hcut
  obtain ⟨n, f, p, HIx⟩ := HI.out
  clear H2 HI
  obtain ⟨mm, hm⟩ := HIx.2.2.1.left.map
  obtain ⟨D, hown, hsz, hD⟩ := hm.out
  have HO := Lib.hid (And.intro hown (And.intro hsz hD))
  have HM := Lib.hid (And.intro HIx.2.1 (And.intro HIx.2.2.1 (And.intro HIx.2.2.2 HIx.1)))
  clear hown hsz hD HIx hm
  go_upto_block 4 with (first | (at_range; refine wpList_range_own _ rfl _ 32 rfl 3 27 intKeyed Try.underlying32 RV b n D rfl HO.out.1 ?_; intro w0 hrg0 hg0 hs0) | fail)
  go_frame
  obtain ⟨r, hr⟩ : ∃ r, wd.heap.size = r := ⟨_, rfl⟩
  have H0 : Hid (w0.ranges Try.prog 3 RV b r n D (Maps.has D) (Maps.size D) ∧ Below wd.heap.size wd w0 ∧ r = wd.heap.size) := Lib.hid ⟨by rw [← hr]; exact hrg0, below_only (Below.refl _ _) (hg0.but wd.heap.size) (Nat.le_refl _) (Nat.le_refl _), hr.symm⟩
  rw [hr] at hrg0 ⊢
  clear hrg0 hg0 hs0 hr
  go_cut [8] (fun t8 wf => ∃ R' : Bool, t8 = .bool R' ∧ Hid (R' = (readP l).2 ∧ Below wd.heap.size wd wf))
  case first =>
-- DEV<
    go_wp2_with fail
    go_loopw [8] (fun t8 wr => ∃ (left : Lit → Bool) (cnt : Nat) (R' : Bool), t8 = .bool R' ∧ Hid (Wd l left R R' ∧ wr.ranges Try.prog 3 RV b r n D left cnt ∧ Below wd.heap.size wd wr)) (fun _ wr => wr.rangeLeft b r)
    case atStart =>
      exact ⟨Maps.has D, Maps.size D, R, rfl, Lib.hid ⟨⟨fun h => ⟨h, fun x hx hl => by
        exfalso
        rw [(HO.out.2.2 (ki x)).1, HM.out.2.1.has x] at hl
        simp [hx] at hl⟩, fun h => h.1⟩, H0.out.1, H0.out.2.1⟩⟩
    case round =>
      obtain ⟨left, cnt, R', rfl, HI⟩ := hrel
      go_wp2_with (first | (at_next; refine wpl_next_rows rfl _ rfl b r n D left cnt f rfl HI.out.2.1 HO.out.2.2 ?_ ?_) | fail)
      · intro hc0 hl0
        go_wp2_with fail
        go_meet
        exact ⟨R', rfl, Lib.hid ⟨HI.out.1.done hl0 HM.out.2.2.1, HI.out.2.2⟩⟩
      · intro x v w2 cnt2 HE hen
        have hrow : IRow w2 v (rowk l x) ∧ rowk l x ≠ [] ∧ (rowk l x).length ≤ 1000 ∧ Below wd.heap.size wd w2 := by
          have hB := below_only HI.out.2.2 HE.out.2.2.2.2.1 (by rw [H0.out.2.2]; exact Nat.le_refl _) HI.out.2.2.size
          have h1 := HM.out.2.1.at x
          rw [at_, HE.out.1] at h1
          have h2 := HM.out.2.1.has x
          rw [HE.out.1] at h2
          have h3 := rowk_len l x
          have h4 := HW.out.1
          exact ⟨IRow.below h1 hB, by simpa using h2.symm, by omega, hB⟩
        obtain ⟨A5, c5, rfl, hc5⟩ := hrow.1.form
        have HV := Lib.hid (And.intro hrow hc5)
        have HE5 := Lib.hid (And.intro (HI.out.1.step x HE.out.2.1 hrow.2.1) (And.intro HE.out.2.2.1 (show cnt2 < wr.rangeLeft b r by rw [HI.out.2.1.left_eq]; exact HE.out.2.2.2.1)))
        clear hrow hc5 HI HE H0
        obtain ⟨K, hK⟩ : ∃ K, (ch (rowk l x) 0).isSome = K := ⟨_, rfl⟩
        rw [hK] at HE5
        have HQ : Hid (∀ wz, Below w2.heap.size w2 wz → ∀ T : Bool, T = (R' && K) → ∃ (left : Lit → Bool) (cnt : Nat) (R'' : Bool), Value.bool T = .bool R'' ∧ Hid (Wd l left R R'' ∧ wz.ranges Try.prog 3 RV b r n D left cnt ∧ Below wd.heap.size wd wz)) := Lib.hid fun wz hz T hT => ⟨_, cnt2, _, rfl, Lib.hid ⟨by rw [hT]; exact HE5.out.1, ranges_below HE5.out.2.1 hz, HV.out.1.2.2.2.trans (hz.mono HV.out.1.2.2.2.size)⟩⟩
        have HZ : Hid (∀ wz, Below w2.heap.size w2 wz → wz.rangeLeft b r < wr.rangeLeft b r) := Lib.hid fun wz hz => by rw [(ranges_below HE5.out.2.1 hz).left_eq]; exact HE5.out.2.2
        have HKK := Lib.hid hK
        clear hK HE5
        cases R'
        · go_wp2_with fail
          refine (Of_any2 A1 m c1 l x _ (Sl.below HM.out.1 HV.out.1.2.2.2 (Nat.le_refl _)) (by have := HW.out.1; omega)).mono ?_
          rintro e9 w9 ⟨A9, c9, rfl, HR9, hB9⟩
          have H9 := Lib.hid hB9
          clear hB9
          go_wp2_with fail
          refine (Same_any A9 A5 c9 c5 (rowk l x) w9 HR9.out.1 HR9.out.2 (IRow.below HV.out.1.1 H9.out) HV.out.1.2.2.1).mono ?_
          rintro e8 w8 ⟨rfl, hB8⟩
          have H8 := Lib.hid (H9.out.trans (hB8.mono H9.out.size))
          clear hB8 H9
          go_wp2_with fail
          go_roundw
          case rel => exact HQ.out w8 H8.out _ (by simp)
          case measure => exact HZ.out w8 H8.out
        · go_wp2_with fail
          refine (word_any A5 c5 (rowk l x) w2 HV.out.1.1 HV.out.1.2.2.1).mono ?_
          rintro e7 w7 ⟨rfl, hB7⟩
          have H7 := Lib.hid hB7
          rw [HKK.out]
          clear hB7
          go_wp2_with fail
          refine (Of_any2 A1 m c1 l x w7 (Sl.below HM.out.1 (HV.out.1.2.2.2.trans (H7.out.mono HV.out.1.2.2.2.size)) (Nat.le_refl _)) (by have := HW.out.1; omega)).mono ?_
          rintro e9 w9 ⟨A9, c9, rfl, HR9, hB9⟩
          have H9 := Lib.hid (H7.out.trans (hB9.mono H7.out.size))
          clear hB9 H7
          go_wp2_with fail
          refine (Same_any A9 A5 c9 c5 (rowk l x) w9 HR9.out.1 HR9.out.2 (IRow.below HV.out.1.1 H9.out) HV.out.1.2.2.1).mono ?_
          rintro e8 w8 ⟨rfl, hB8⟩
          have H8 := Lib.hid (H9.out.trans (hB8.mono H9.out.size))
          clear hB8 H9
          go_wp2_with fail
          go_roundw
          case rel => exact HQ.out w8 H8.out _ (by simp)
          case measure => exact HZ.out w8 H8.out
-- DEV>
  case rest =>
  obtain ⟨R', rfl, HR⟩ := hcut
  clear H0
  obtain ⟨A7, c7, hV7, hc7⟩ := (HM.out.2.1.at (-7)).form
  have HL : Hid (∀ W, Below wd.heap.size wd W → (Instr.lookup 32 (.map (some b)) (.int .i64 (-7)) false).run Try.prog W = .ok (.slice A7 (rowk l (-7)).length c7) W) := Lib.hid fun W hB => by
    obtain ⟨mm, hm⟩ := HM.out.2.1.left.map
    rw [← hV7]
    exact (hm.below hB).get intKeyed Try.underlying32 (zeroRow W) (ki_key (by decide))
  have HS : Hid (∀ W, Below wd.heap.size wd W → ESl W (.slice A1 m c1) l) := Lib.hid fun W hB => Sl.below HM.out.1 hB (Nat.le_refl _)
  clear hV7 hc7
  obtain ⟨T, hT⟩ : ∃ T, (readP l).2 = T := ⟨_, rfl⟩
  obtain ⟨q7, hq7⟩ : ∃ q, (rowk l (-7)).length = q := ⟨_, rfl⟩
  rw [hT] at HR
  rw [hq7] at HL
  obtain rfl := HR.out.1
  have HT := Lib.hid (And.intro hT hq7)
  clear hT hq7
  have hll : l.length ≤ 1000 := by have := HW.out.1; omega
  have hTT : (R' != R') = false := by cases R' <;> rfl
  have hqq : ((q7 : Int) != (q7 : Int)) = false := by simp
  go_upto_region 25 with fail
  go_cut [122] (fun t122 wx => t122 = .bool false ∧ Hid (Below wd.heap.size wd wx))
  case first =>
-- DEV2<
    go_region_with (first
      | (go_at_call 8; refine (Right_any2 A1 m c1 l _ (HS.out _ (pw_below_drewN HR.out.2 1)) HW.out.2 hll).mono ?_; rintro e9 w9 ⟨rfl, hB9⟩; rw [HT.out.1]; have hb9 := Lib.hid ((pw_below_drewN HR.out.2 1).trans (hB9.mono (pw_below_drewN HR.out.2 1).size)); clear hB9; have lk9 := HL.out w9 hb9.out)
      | (go_at_call 11; refine (Of_any2 A1 m c1 l (-7) _ (HS.out _ hb9.out) hll).mono ?_; rintro e8 w8 ⟨A8, c8, rfl, H8, hB8⟩; rw [HT.out.2]; have hb8 := Lib.hid (hb9.out.trans (hB8.mono hb9.out.size)); clear hB8; have lk8 := HL.out w8 hb8.out))
    all_goals
      go_wp2_with fail
      go_meet
      exact ⟨rfl, hb8⟩
-- DEV2>
  case rest =>
  obtain ⟨wx, rfl⟩ : ∃ x, x = wc := ⟨_, rfl⟩
  obtain ⟨rfl, HX⟩ := hcut
  clear HR HL hTT hqq HO
  have HEND : Hid (∀ W W', Below wd.heap.size wd W → Below W.heap.size W W' → Below w.heap.size w W') := Lib.hid fun W W' h1 h2 => by
    have h0 := HM.out.2.1.left.low
    have h3 := h0.trans (h1.mono h0.size)
    exact h3.trans (h2.mono h3.size)
  cases R'
  · go_wp2_with fail
    refine (porticolaw19_LifeRuns.calls 60 true wx runs).mono ?_
    rintro e9 wf ⟨rfl, hBf⟩
    have HF := Lib.hid (HEND.out wx wf HX.out hBf)
    clear hBf
    go_wp2_with fail
    go_ret
    exact ⟨rfl, HF.out⟩
  · obtain ⟨mm, hm⟩ := (HM.out.2.1.below HX.out).left.map
    obtain ⟨D, hown, hsz, hD⟩ := hm.out
    have HO := Lib.hid (And.intro hown (And.intro hsz (And.intro hD (show mm ≤ 40 by have := hm.le; have := HM.out.2.2.2; omega))))
    clear hown hsz hD hm
    go_upto_block 6 with (first | (at_range; refine wpList_range_own _ rfl _ 32 rfl 3 27 intKeyed Try.underlying32 RV b n D rfl HO.out.1 ?_; intro w0 hrg0 hg0 hs0) | fail)
    go_frame
    obtain ⟨r, hr⟩ : ∃ r, wx.heap.size = r := ⟨_, rfl⟩
    have H0 : Hid (w0.ranges Try.prog 3 RV b r n D (Maps.has D) (Maps.size D) ∧ Below wd.heap.size wd w0 ∧ wd.heap.size ≤ r) := Lib.hid ⟨by rw [← hr]; exact hrg0, HX.out.trans (below_only (Below.refl _ _) (hg0.but wx.heap.size) HX.out.size HX.out.size), by rw [← hr]; exact HX.out.size⟩
    rw [hr] at hrg0 ⊢
    clear hrg0 hg0 hs0 hr HX
    go_cut [14] (fun t14 wf => t14 = .int .i64 ((aliveL l).length : Int) ∧ Hid (Shown (readP l).1 (aliveL l) ∧ (aliveL l).length ≤ 40 ∧ Below wd.heap.size wd wf))
    case first =>
      go_wp2_with fail
      go_loopw [14] (fun t14 wr => ∃ (left : Lit → Bool) (cnt q : Nat), t14 = .int .i64 (q : Int) ∧ Hid (∃ L : List Int, L.length = q ∧ Gath (readP l).1 left L ∧ q + cnt ≤ mm ∧ wr.ranges Try.prog 3 RV b r n D left cnt ∧ Below wd.heap.size wd wr)) (fun _ wr => wr.rangeLeft b r)
      case atStart =>
        exact ⟨Maps.has D, Maps.size D, 0, rfl, Lib.hid ⟨[], rfl, ⟨List.nodup_nil, fun x => ⟨fun h => (by cases h), fun h => by
          exfalso
          have h1 := h.2
          rw [(HO.out.2.2.1 (ki x)).1, HM.out.2.1.has x] at h1
          have h2 := shown_has HT.out.1 h.1
          simp [h2] at h1⟩⟩, by rw [HO.out.2.1]; omega, H0.out.1, H0.out.2.1⟩⟩
      case round =>
        obtain ⟨left, cnt, q, rfl, HI⟩ := hrel
        obtain ⟨L, HIx⟩ := HI.out
        have HJ := Lib.hid HIx
        clear HI HIx
        have hq9 : (q : Int) ≤ 1000 := by have := HJ.out.2.2.1; have := HO.out.2.2.2; omega
        have hq8 : (0 : Int) ≤ (q : Int) := by omega
        go_wp2_with (first | (at_next; refine wpl_next_rows rfl _ rfl b r n D left cnt f rfl HJ.out.2.2.2.1 HO.out.2.2.1 ?_ ?_) | fail)
        · intro hc0 hl0
          have ha := alive_len HJ.out.2.1 hl0
          have hq : (aliveL l).length = q := ha.1.trans HJ.out.1
          have HA3 := Lib.hid ha
          have HQ3 := Lib.hid hq
          clear ha hq
          go_wp2_with fail
          go_meet
          exact ⟨by rw [HQ3.out], Lib.hid ⟨HA3.out.2, by have := HQ3.out; have := HJ.out.2.2.1; have := HO.out.2.2.2; omega, HJ.out.2.2.2.2⟩⟩
        · intro x v w2 cnt2 HE hen
          have hrow : IRow w2 v (rowk l x) ∧ rowk l x ≠ [] ∧ Below wd.heap.size wd w2 := by
            have hB := below_only HJ.out.2.2.2.2 HE.out.2.2.2.2.1 H0.out.2.2 HJ.out.2.2.2.2.size
            have h1 := HM.out.2.1.at x
            rw [at_, HE.out.1] at h1
            have h2 := HM.out.2.1.has x
            rw [HE.out.1] at h2
            exact ⟨IRow.below h1 hB, by simpa using h2.symm, hB⟩
          obtain ⟨row, k, hrk⟩ : ∃ row k, rowk l x = row ++ [k] := ⟨_, _, (List.dropLast_concat_getLast hrow.2.1).symm⟩
          obtain ⟨h1, _, hB2⟩ := hrow
          rw [hrk] at h1
          obtain ⟨z, hz⟩ : ∃ z, row.length = z := ⟨_, rfl⟩
          have hz9 : (row ++ [k]).length = z + 1 := by rw [← hz]; simp
          have h2 : Sl w2 3 1 v (z + 1) ((row ++ [k]).map (.int .i64 ·)) := by rw [← hz9]; exact h1
          obtain ⟨g, o, c5, rfl, hc5⟩ := Sl.form1 h2 (by omega)
          have y1 : w2.cell? ⟨g, o + z, none⟩ = some (.int .i64 k) := Sl.cell h2 z _ (by rw [← hz]; simp)
          have hzz : (z : Int) ≤ 1000 := by
            have h3 := rowk_len l x
            rw [hrk, hz9] at h3
            omega
          have hz0 : (0 : Int) ≤ (z : Int) := by omega
          have HM2 : Hid (cnt2 < wr.rangeLeft b r ∧ w2.rangeLeft b r < wr.rangeLeft b r) := Lib.hid (by rw [HE.out.2.2.1.left_eq, HJ.out.2.2.2.1.left_eq]; exact ⟨HE.out.2.2.2.1, HE.out.2.2.2.1⟩)
          have HB2 := Lib.hid hB2
          have hsl := shown_last HT.out.1 hrk
          by_cases hk : k = 1 ∨ k = 2
          · have HG := Lib.hid (HJ.out.2.1.yes HE.out.2.1 (hsl.2 hk))
            have HR2 : Hid (∃ L : List Int, L.length = q + 1 ∧ Gath (readP l).1 (fun z => left z && !z.sameKey (ki x)) L ∧ (q + 1) + cnt2 ≤ mm ∧ w2.ranges Try.prog 3 RV b r n D (fun z => left z && !z.sameKey (ki x)) cnt2 ∧ Below wd.heap.size wd w2) := Lib.hid ⟨L ++ [x], by rw [List.length_append, HJ.out.1]; rfl, HG.out, by have := HJ.out.2.2.1; have := HE.out.2.2.2.1; omega, HE.out.2.2.1, hB2⟩
            clear h1 h2 hz hrk hsl hB2 HE HJ HG hc5 hz9 H0
            by_cases k1 : k = 1
            · have k1b : (k == 1) = true := by simpa using k1
              clear k1 hk
              go_wp2_with fail
              go_roundw
              case rel => exact ⟨_, cnt2, q + 1, by go_num, HR2⟩
              case measure => exact HM2.out.2
            · have k1b : (k == 1) = false := by simpa using k1
              have k2b : (k == 2) = true := by rcases hk with h | h
                                               · exact absurd h k1
                                               · simpa using h
              clear k1 hk
              go_wp2_with fail
              go_roundw
              case rel => exact ⟨_, cnt2, q + 1, by go_num, HR2⟩
              case measure => exact HM2.out.2
          · have HG := Lib.hid (HJ.out.2.1.no (x := x) (fun e => hk (hsl.1 e)))
            have HR2 : Hid (∃ L : List Int, L.length = q ∧ Gath (readP l).1 (fun z => left z && !z.sameKey (ki x)) L ∧ q + cnt2 ≤ mm ∧ w2.ranges Try.prog 3 RV b r n D (fun z => left z && !z.sameKey (ki x)) cnt2 ∧ Below wd.heap.size wd w2) := Lib.hid ⟨L, HJ.out.1, HG.out, by have := HJ.out.2.2.1; have := HE.out.2.2.2.1; omega, HE.out.2.2.1, hB2⟩
            clear h1 h2 hz hrk hsl hB2 HE HJ HG hc5 hz9 H0
            have k1b : (k == 1) = false := by simpa using (fun h => hk (.inl h))
            have k2b : (k == 2) = false := by simpa using (fun h => hk (.inr h))
            clear hk
            go_wp2_with fail
            go_roundw
            case rel => exact ⟨_, cnt2, q, rfl, HR2⟩
            case measure => exact HM2.out.2
    case rest =>
    obtain ⟨wy, rfl⟩ : ∃ x, x = wc := ⟨_, rfl⟩
    obtain ⟨rfl, HS9⟩ := hcut
    clear H0 HO
    have HWF := Lib.hid HW.out.2
    go_upto_region 34 with fail
    go_wp2_with fail
    refine (Alive_any2 A1 m c1 l wy (HS.out wy HS9.out.2.2) HWF.out hll).mono ?_
    rintro e9 wz ⟨A9, c9, rfl, HR9, hB9⟩
    obtain ⟨K, hK⟩ : ∃ K, aliveL l = K := ⟨_, rfl⟩
    rw [hK] at HR9
    have HS8 : Hid (Shown (readP l).1 K ∧ Below wd.heap.size wd wz) := Lib.hid ⟨by rw [← hK]; exact HS9.out.1, HS9.out.2.2.trans (hB9.mono HS9.out.2.2.size)⟩
    have hk40 : (K.length : Int) ≤ 40 := by have := HS9.out.2.1; rw [hK] at this; omega
    have hkk : ((K.length : Int) != (K.length : Int)) = false := by simp
    rw [hK]
    clear hK HS9 hB9
    have hk0 : (0 : Int) ≤ (K.length : Int) := by omega
    have hkc := HR9.out.1
    go_upto_block 8 with fail
    go_cut [] (fun wf => Hid (Below wd.heap.size wd wf))
    case first =>
      go_wp2_with fail
      go_loopw [156] (fun t156 wr => ∃ i : Nat, t156 = .int .i64 (i : Int) ∧ i ≤ K.length ∧ wr = wz) (fun t _ => match t with | .int _ q => (K.length - q).toNat | _ => 0)
      case atStart => exact ⟨0, rfl, by omega, rfl⟩
      case round =>
        obtain ⟨i, rfl, hi, e⟩ := hrel
        subst e
        have i0 : (0 : Int) ≤ (i : Int) := by omega
        by_cases d1 : i < K.length
        · have d1i : (i : Int) < (K.length : Int) := by omega
          obtain ⟨ad, cs, e0, _, hK, hcl⟩ := Kd.C_get HR9.out.2 0 (i : Int) i0 (by omega)
          subst e0
          obtain ⟨x, hx⟩ : ∃ x, K[i]? = some x := ⟨K[i], List.getElem?_eq_getElem d1⟩
          have hxd : K.getD (i : Int).toNat 0 = x := by
            rw [show (i : Int).toNat = i from by omega, List.getD_eq_getElem?_getD, hx]; rfl
          rw [hxd] at hK
          have hK' : cs = [.int .i64 x] := hK
          subst hK'
          have y0 := hcl 0 _ rfl
          rw [show (i : Int).toNat * (Kd.int .i64).sz + 0 = i from by show (i : Int).toNat * 1 + 0 = i; omega] at y0
          have hsh : (readP l).1 x = some 1 := (HS8.out.1.2 x).1 (List.mem_of_getElem? hx)
          have hne := shown_has HT.out.1 hsh
          obtain ⟨row, k, hrk⟩ : ∃ row k, rowk l x = row ++ [k] := ⟨_, _, (List.dropLast_concat_getLast hne).symm⟩
          have hkk2 := (shown_last HT.out.1 hrk).1 hsh
          have h1 := HM.out.2.1.at x
          have hfx : ∃ v, f (ki x) = some v := by
            have h2 := HM.out.2.1.has x
            cases e : f (ki x) with
            | some v => exact ⟨v, rfl⟩
            | none => rw [e] at h2; simp [hne] at h2
          obtain ⟨v, hv⟩ := hfx
          rw [at_, hv] at h1
          obtain ⟨x', hx1, hx2⟩ := HM.out.2.1.keys (ki x) v hv
          obtain rfl := ki_inj.1 hx1
          rw [hrk] at h1
          obtain ⟨z, hz⟩ : ∃ z, row.length = z := ⟨_, rfl⟩
          have hz9 : (row ++ [k]).length = z + 1 := by rw [← hz]; simp
          have h2 : Sl wr 3 1 v (z + 1) ((row ++ [k]).map (.int .i64 ·)) := by rw [← hz9]; exact IRow.below h1 HS8.out.2
          obtain ⟨g, o, c5, rfl, hc5⟩ := Sl.form1 h2 (by omega)
          have y1 : wr.cell? ⟨g, o + z, none⟩ = some (.int .i64 k) := Sl.cell h2 z _ (by rw [← hz]; simp)
          have hzz : (z : Int) ≤ 1000 := by
            have h3 := rowk_len l x
            rw [hrk, hz9] at h3
            omega
          have hz0 : (0 : Int) ≤ (z : Int) := by omega
          have lk : (Instr.lookup 32 (.map (some b)) (.int .i64 x) false).run Try.prog wr = .ok (.slice (some ⟨g, o, none⟩) (z + 1) c5) wr := by
            obtain ⟨mm, hm⟩ := (HM.out.2.1.below HS8.out.2).left.map
            have h3 := hm.get intKeyed Try.underlying32 (zeroRow wr) (ki_key hx2)
            rw [hv] at h3
            exact h3
          have hzl : (((z + 1 : Nat) : Int) == 0) = false := by simp; omega
          have hXX := Lib.hid hx
          by_cases d0 : (0 : Int) < (i : Int)
          · obtain ⟨j, hj⟩ : ∃ j : Nat, (i : Int) - 1 = (j : Int) := ⟨i - 1, by omega⟩
            have hji : j + 1 = i := by omega
            obtain ⟨x2, hx2'⟩ : ∃ x2, K[j]? = some x2 := ⟨K[j], List.getElem?_eq_getElem (by omega)⟩
            have hlt : ¬ x ≤ x2 := by
              have hp := List.pairwise_iff_getElem.1 HS8.out.1.1 j i (by omega) d1 (by omega)
              have e1 : K[j] = x2 := by rw [List.getElem?_eq_getElem (by omega)] at hx2'; exact Option.some.inj hx2'
              have e2 : K[i] = x := by rw [List.getElem?_eq_getElem d1] at hx; exact Option.some.inj hx
              rw [e1, e2] at hp
              omega
            obtain ⟨ad2, cs2, e02, _, hK2, hcl2⟩ := Kd.C_get HR9.out.2 0 (j : Int) (by omega) (by omega)
            have e02' := Option.some.inj e02
            subst e02'
            have hxd2 : K.getD (j : Int).toNat 0 = x2 := by
              rw [show (j : Int).toNat = j from by omega, List.getD_eq_getElem?_getD, hx2']; rfl
            rw [hxd2] at hK2
            have hK2' : cs2 = [.int .i64 x2] := hK2
            subst hK2'
            have y2 := hcl2 0 _ rfl
            rw [show (j : Int).toNat * (Kd.int .i64).sz + 0 = j from by show (j : Int).toNat * 1 + 0 = j; omega] at y2
            have hj0 : (0 : Int) ≤ (j : Int) := by omega
            have hjk : (j : Int) < (K.length : Int) := by omega
            clear hx hxd hK hcl hsh hne hrk h1 hv hx1 hx2 hz hz9 h2 hc5 hx2' hcl2 hK2 hxd2 e02 hji
            rcases hkk2 with rfl | rfl
            all_goals
              go_wp2_with fail
              go_roundw
              case rel => exact ⟨i + 1, by go_num, by omega, trivial⟩
              case measure => simp; omega
          · clear hx hxd hK hcl hsh hne hrk h1 hv hx1 hx2 hz hz9 h2 hc5
            rcases hkk2 with rfl | rfl
            all_goals
              go_wp2_with fail
              go_roundw
              case rel => exact ⟨i + 1, by go_num, by omega, trivial⟩
              case measure => simp; omega
        · have d1i : ¬ (i : Int) < (K.length : Int) := by omega
          go_wp2_with fail
          go_meet
          exact Lib.hid HS8.out.2
    case rest =>
    go_wp2_with fail
    refine (porticolaw19_LifeRuns.calls 60 true wc runs).mono ?_
    rintro e9 wf ⟨rfl, hBf⟩
    have HF := Lib.hid (HEND.out wc wf hcut.out hBf)
    clear hBf
    go_wp2_with fail
    go_ret
    exact ⟨rfl, HF.out⟩
end Go.Proofs.Ytnpmmmgaghhndaa.Lf
