/- LifeMixed: the walk. -/
import Derived.Test.YtnpmmmgaghhndaaGrow
set_option linter.unusedSimpArgs false
set_option linter.unusedVariables false
namespace Go.Proofs.Ytnpmmmgaghhndaa.Lf
open Go.RowKit Go.Maps Go.Proofs.Ytnpmmmgaghhndaa.PLifeBegins Go.Proofs.YtnpmmmgaghhndaaW.PrintWords Go.Proofs.YtnpmmmgaghhndaaW.PrintLast Go.Proofs.YtnpmmmgaghhndaaW.PrintMore Go.Proofs.Ytnpmmmgaghhndaa.Given Go.Proofs.Ytnpmmmgaghhndaa.Mv

/-- The two logs, and what is mixed of them. -/
structure Mw (w wr : World) (B3 : Nat) (vx vy v : Value) (x y all : List Ev) : Prop where
  rx : RL wr w.heap.size vx x
  ry : RL wr w.heap.size vy y
  ra : RL wr B3 v all
  ox : ∀ q, vx.ownBlock = some q → q < B3
  oy : ∀ q, vy.ownBlock = some q → q < B3
  low : Below w.heap.size w wr
  b3 : B3 ≤ wr.heap.size
  b0 : w.heap.size ≤ B3
theorem Mw.below {w wr wq : World} {B3 : Nat} {vx vy v : Value} {x y all : List Ev} (h : Mw w wr B3 vx vy v x y all) (hB : Below wr.heap.size wr wq) : Mw w wq B3 vx vy v x y all :=
  ⟨Kd.R_below h.rx hB, Kd.R_below h.ry hB, Kd.R_below h.ra hB, h.ox, h.oy, h.low.trans (hB.mono h.low.size), Nat.le_trans h.b3 hB.size, h.b0⟩
theorem Mw.more {w wr w7 : World} {B3 : Nat} {vx vy v v7 : Value} {x y all all' : List Ev} (h : Mw w wr B3 vx vy v x y all) (hr : RL w7 B3 v7 all') (hg : wr.grownBy w7 v.ownBlock) : Mw w w7 B3 vx vy v7 x y all' := by
  have hown := (Kd.R_own h.ra).choose_spec.lt
  exact ⟨RL.kept h.rx hg (fun q hq e => by have := h.ox q hq; have := (hown q e).1; omega), RL.kept h.ry hg (fun q hq e => by have := h.oy q hq; have := (hown q e).1; omega), hr, h.ox, h.oy, below_grown h.low hg (fun q hq => by have := (hown q hq).1; have := h.b0; omega) h.low.size, Nat.le_trans h.b3 hg.size, h.b0⟩
theorem Right_of {wr : World} {B : Nat} {A : Option Addr} {c : Nat} {l : List Ev} (h : RL wr B (.slice A l.length c) l) (hw : ∀ e ∈ l, (Lit.int .i64 e.f1).wf = true) (hl : l.length ≤ 1000) (ht : (readP l).2 = true) : Calls Try.prog 8 #[.slice A l.length c] wr fun e w' => e = .returned (.bool true) ∧ Below wr.heap.size wr w' := by
  have hr := Kd.R_reads' h
  have := Right_any A c l wr hr.2.2 hr.2.1 hw hl
  rwa [ht] at this
theorem Alive_of {wr : World} {B : Nat} {A : Option Addr} {c : Nat} {l : List Ev} (h : RL wr B (.slice A l.length c) l) (hw : ∀ e ∈ l, (Lit.int .i64 e.f1).wf = true) (hl : l.length ≤ 1000) (n : Nat) (hn : (aliveL l).length = n) : Calls Try.prog 10 #[.slice A l.length c] wr fun e w' => ∃ (A' : Option Addr) (c' : Nat), e = .returned (.slice A' n c') ∧ Below wr.heap.size wr w' := by
  have hr := Kd.R_reads' h
  refine (Alive_any A c l wr hr.2.2 hr.2.1 hw hl).mono ?_
  rintro e w' ⟨v, rfl, hR, hB⟩
  obtain ⟨A', c', rfl⟩ := Kd.R_slice hR
  exact ⟨A', c', by rw [hn], hB⟩
theorem Of_of {wr : World} {B : Nat} {A : Option Addr} {c : Nat} {l : List Ev} (h : RL wr B (.slice A l.length c) l) (hl : l.length ≤ 1000) (num : Int) (n : Nat) (hn : (l.filter (fun e => e.f1 == num)).length = n) : Calls Try.prog 11 #[.slice A l.length c, .int .i64 num] wr fun e w' => ∃ (A' : Option Addr) (c' : Nat), e = .returned (.slice A' n c') ∧ Below wr.heap.size wr w' := by
  have hr := Kd.R_reads' h
  refine (life_Of.calls (l.length + 1) A c l num _ wr hr.2.2 hr.2.1 (of_eq l num hl)).mono ?_
  rintro e w' ⟨v, rfl, hR, hB⟩
  obtain ⟨A', c', rfl⟩ := Kd.R_slice hR
  exact ⟨A', c', by rw [List.length_map, hn], hB⟩
set_option maxHeartbeats 8000000 in
set_option maxRecDepth 100000 in
theorem LifeMixed_any (A : Option Addr) (c : Nat) (la : List Int) (B : Option Addr) (d : Nat) (lb : List Int) (T : Option Addr) (ct : Nat) (ts : List Bool) (w : World) (hr : Kd.C (Kd.int .i64) w A la.length la) (hc : la.length ≤ c) (hr2 : Kd.C (Kd.int .i64) w B lb.length lb) (hc2 : lb.length ≤ d) (hr3 : Kd.C Kd.bool w T ts.length ts) (hc3 : ts.length ≤ ct) : Calls Try.prog 7 #[.slice A la.length c, .slice B lb.length d, .slice T ts.length ct] w fun e w' => e = .returned (.bool true) ∧ Below w.heap.size w w' := by
  have HA := Lib.hid (And.intro (And.intro hr hc) (And.intro (And.intro hr2 hc2) (And.intro hr3 hc3)))
  clear hr hc hr2 hc2 hr3 hc3
  go_enter Try.func7, Try.ntmps7
  go_wp2_with fail
  refine (Grow_any A c la 1 w HA.out.1.1 HA.out.1.2 (by omega)).mono ?_
  rintro e9 w1 ⟨X, cx, x, sx, rfl, HX⟩
  go_wp2_with fail
  refine (Grow_any B d lb 2 w1 (Kd.C_below HA.out.2.1.1 HX.out.2.2.2) HA.out.2.1.2 (by omega)).mono ?_
  rintro e9 w2 ⟨Y, cy, y, sy, rfl, HY⟩
  have hx0 : 0 < x.length := by obtain ⟨t, ht, _⟩ := HX.out.2.1.first; rw [ht]; simp
  have hy0 : 0 < y.length := by obtain ⟨t, ht, _⟩ := HY.out.2.1.first; rw [ht]; simp
  have hx10 : x.length ≤ 10 := HX.out.2.2.1
  have hy10 : y.length ≤ 10 := HY.out.2.2.1
  have HG := Lib.hid (And.intro HX.out.2.1 HY.out.2.1)
  have HR := Lib.hid (show RL w2 w.heap.size (.slice X x.length cx) x ∧ RL w2 w.heap.size (.slice Y y.length cy) y ∧ Below w.heap.size w w2 from ⟨Kd.R_below HX.out.1 HY.out.2.2.2, Kd.R_lower HY.out.1 HX.out.2.2.2.size, HX.out.2.2.2.trans (HY.out.2.2.2.mono HX.out.2.2.2.size)⟩)
  clear HX HY
  have hrx := Kd.R_reads' HR.out.1
  obtain ⟨ad, e0, x0, x1⟩ := at_T23 hrx.2.2 0 (by omega) (by omega)
  have HCX := Lib.hid hrx.2.1
  have HCY := Lib.hid (Kd.R_reads' HR.out.2.1).2.1
  clear hrx
  subst e0
  have hget : rd_T23 x 0 = x[0] := by simp [rd_T23, List.getD_eq_getElem?_getD, hx0]
  have had : ad.add (Int.toNat 0 * 2) = ad := by
    show ad.add (0 * 2) = ad
    obtain ⟨b_, o_, f_⟩ := ad
    unfold Addr.add
    cases f_ <;> simp
  rw [hget, had] at x0 x1
  clear had
  obtain ⟨e, he⟩ : ∃ e, x[0] = e := ⟨_, rfl⟩
  rw [he] at x0 x1
  have hxi0 : (0 : Int) < (x.length : Int) := by omega
  have HM0 : Hid (Mx x y [e] 1 0) := Lib.hid (by rw [← he]; exact Mx.begin HG.out.1 hx0)
  clear he hget
  go_wp2_with fail
  have hBa : Below w2.heap.size w2 (w2.alloc (.cells #[.int .i64 e.f0, .int .i64 e.f1] 23)) := (Below.refl _ _).alloc (Nat.le_refl _) _
  obtain ⟨B3, hB3⟩ : ∃ B, w2.heap.size = B := ⟨_, rfl⟩
  have H3 : Hid (Mw w (w2.alloc (.cells #[.int .i64 e.f0, .int .i64 e.f1] 23)) B3 (.slice (some ad) x.length cx) (.slice Y y.length cy) (.slice (some ⟨B3, 0, none⟩) 1 1) x y [e]) := Lib.hid
    { rx := Kd.R_below HR.out.1 hBa, ry := Kd.R_below HR.out.2.1 hBa, ra := by rw [← hB3]; exact RL_one w2 _ e (Nat.le_refl _)
      ox := fun q hq => by rw [← hB3]; exact ((Kd.R_own HR.out.1).choose_spec.lt q hq).2, oy := fun q hq => by rw [← hB3]; exact ((Kd.R_own HR.out.2.1).choose_spec.lt q hq).2
      low := HR.out.2.2.trans (hBa.mono HR.out.2.2.size), b3 := by rw [← hB3]; exact hBa.size, b0 := by rw [← hB3]; exact HR.out.2.2.size }
  rw [hB3]
  clear hBa hB3 HR x0 x1
  generalize (w2.alloc (.cells #[.int .i64 e.f0, .int .i64 e.f1] 23)) = w3 at H3 ⊢
  obtain ⟨X, hX⟩ : ∃ X : Option Addr, some ad = X := ⟨_, rfl⟩
  rw [hX] at H3 ⊢
  clear hX
  go_loopw [10, 11, 12, 13] (fun t10 t11 t12 t13 wr => ∃ (i j n k c' : Nat) (A' : Option Addr) (all : List Ev), t10 = .slice A' k c' ∧ t11 = .int .i64 (i : Int) ∧ t12 = .int .i64 (j : Int) ∧ t13 = .int .i64 (n : Int) ∧ n ≤ 25 ∧ Hid (k = all.length ∧ i + j = n + 1 ∧ 1 ≤ i ∧ i ≤ x.length ∧ j ≤ y.length ∧ Mx x y all i j ∧ Mw w wr B3 (.slice X x.length cx) (.slice Y y.length cy) (.slice A' k c') x y all)) (fun _ _ _ t _ => match t with | .int _ q => (40 - q).toNat | _ => 0)
  case atStart => exact ⟨1, 0, 0, 1, 1, _, [e], rfl, rfl, rfl, rfl, by omega, Lib.hid ⟨rfl, rfl, Nat.le_refl _, by omega, by omega, HM0.out, H3.out⟩⟩
  case round =>
    obtain ⟨i, j, n, k, c', A', all, rfl, rfl, rfl, rfl, hn25, HI⟩ := hrel
    clear H3
    have hk := HI.out.1
    subst hk
    have hij := HI.out.2.1
    have hi1 := HI.out.2.2.1
    have hix := HI.out.2.2.2.1
    have hjy := HI.out.2.2.2.2.1
    have HJ := Lib.hid HI.out.2.2.2.2.2.2
    have n30 : (n : Int) < 30 := by omega
    have n0 : (0 : Int) ≤ (n : Int) := by omega
    have i0 : (0 : Int) ≤ (i : Int) := by omega
    have j0 : (0 : Int) ≤ (j : Int) := by omega
    have i20 : (i : Int) ≤ 10 := by omega
    have j20 : (j : Int) ≤ 10 := by omega
    by_cases d1 : i < x.length
    · have d1i : (i : Int) < (x.length : Int) := by omega
      have icx : (i : Int) < (cx : Int) := by have := HCX.out; omega
      go_upto_region 8 with fail
      go_cut [14] (fun t14 wc => ∃ F : Bool, t14 = .bool F ∧ Hid (wc = wr))
      case first =>
        by_cases d3 : n < ts.length
        · have d3i : (n : Int) < (ts.length : Int) := by omega
          obtain ⟨ad, cs, e0, _, hK, hcl⟩ := Kd.C_get (Kd.C_below HA.out.2.2.1 HJ.out.low) false (n : Int) n0 (by omega)
          subst e0
          obtain ⟨tb, htb⟩ : ∃ x, ts.getD (n : Int).toNat false = x := ⟨_, rfl⟩
          rw [htb] at hK
          have hK' : cs = [.bool tb] := hK
          subst hK'
          have z0 := hcl 0 _ rfl
          rw [show (n : Int).toNat * Kd.bool.sz + 0 = n from by show (n : Int).toNat * 1 + 0 = n; omega] at z0
          have nct : (n : Int) < (ct : Int) := by have := HA.out.2.2.2; omega
          clear hK hcl htb
          go_wp2_with fail
          go_meet
          exact ⟨tb, rfl, Lib.hid rfl⟩
        · have d3i : ¬ (n : Int) < (ts.length : Int) := by omega
          go_wp2_with fail
          go_meet
          exact ⟨false, rfl, Lib.hid rfl⟩
      case rest =>
      obtain ⟨F, rfl, hwc⟩ := hcut
      have hwc := hwc.out.symm
      subst hwc
      by_cases d2 : j < y.length
      · have d2i : (j : Int) < (y.length : Int) := by omega
        have jcy : (j : Int) < (cy : Int) := by have := HCY.out; omega
        cases F with
        | true =>
          obtain ⟨ad, e0, z0, z1⟩ := at_T23 (Kd.R_reads' HJ.out.rx).2.2 (i : Int) (by omega) (by omega)
          subst e0
          have hget : rd_T23 x (i : Int) = x[i] := by simp [rd_T23, List.getD_eq_getElem?_getD, d1]
          rw [hget, Int.toNat_natCast] at z0 z1
          obtain ⟨e, he⟩ : ∃ e, x[i] = e := ⟨_, rfl⟩
          rw [he] at z0 z1
          have HM2 := HI.out.2.2.2.2.2.1.stepX HG.out.1 d1 HI.out.2.2.1
          rw [he] at HM2
          replace HM2 := Lib.hid HM2
          clear he hget
          go_wp2_with (at_builtin; refine Kd.R_append k23 (w0 := wr) B3 rfl (.tmp 64) (.tmp 69) 24 23 (.agg #[(.int .i64 0), (.int .i64 0)]) 16 rfl Try.underlying24 info23 rfl (by decide) (by omega) (.slice A' all.length c') all e [.int .i64 e.f0, .int .i64 e.f1] (fun _ => True) (fun _ => False) rfl rfl (k23_mkM _ _ _ e) (fun _ hk => hk.elim) (fun _ _ => trivial) HJ.out.ra (Below.refl _ _) HJ.out.b3 (by have := HI.out.2.2.2.2.2.1.len; omega) ?_; intro v7 w7 hr7 hb7 hg7 ho7; obtain ⟨A7, c7, rfl⟩ := Kd.R_slice hr7)
          have H7 : Hid (all.length + 1 = (all ++ [e]).length ∧ (i + 1) + j = n + 1 + 1 ∧ 1 ≤ (i + 1) ∧ (i + 1) ≤ x.length ∧ j ≤ y.length ∧ Mx x y (all ++ [e]) ((i + 1)) (j) ∧ Mw w w7 B3 (.slice (some ad) x.length cx) (.slice Y y.length cy) (.slice A7 (all.length + 1) c7) x y (all ++ [e])) := Lib.hid ⟨by simp, by omega, by omega, by omega, by omega, HM2.out, by have h8 := HJ.out.more hr7 hg7; rw [List.length_append] at h8; exact h8⟩
          clear hr7 hb7 hg7 ho7
          go_roundw
          case rel => exact ⟨(i + 1), j, n + 1, all.length + 1, c7, A7, all ++ [e], rfl, by go_num, by go_num, by go_num, by omega, H7⟩
          case measure => simp; omega
        | false =>
          obtain ⟨ad, e0, z0, z1⟩ := at_T23 (Kd.R_reads' HJ.out.ry).2.2 (j : Int) (by omega) (by omega)
          subst e0
          have hget : rd_T23 y (j : Int) = y[j] := by simp [rd_T23, List.getD_eq_getElem?_getD, d2]
          rw [hget, Int.toNat_natCast] at z0 z1
          obtain ⟨e, he⟩ : ∃ e, y[j] = e := ⟨_, rfl⟩
          rw [he] at z0 z1
          have HM2 := HI.out.2.2.2.2.2.1.stepY HG.out.2 d2
          rw [he] at HM2
          replace HM2 := Lib.hid HM2
          clear he hget
          go_wp2_with (at_builtin; refine Kd.R_append k23 (w0 := wr) B3 rfl (.tmp 77) (.tmp 82) 24 23 (.agg #[(.int .i64 0), (.int .i64 0)]) 16 rfl Try.underlying24 info23 rfl (by decide) (by omega) (.slice A' all.length c') all e [.int .i64 e.f0, .int .i64 e.f1] (fun _ => True) (fun _ => False) rfl rfl (k23_mkM _ _ _ e) (fun _ hk => hk.elim) (fun _ _ => trivial) HJ.out.ra (Below.refl _ _) HJ.out.b3 (by have := HI.out.2.2.2.2.2.1.len; omega) ?_; intro v7 w7 hr7 hb7 hg7 ho7; obtain ⟨A7, c7, rfl⟩ := Kd.R_slice hr7)
          have H7 : Hid (all.length + 1 = (all ++ [e]).length ∧ i + (j + 1) = n + 1 + 1 ∧ 1 ≤ i ∧ i ≤ x.length ∧ (j + 1) ≤ y.length ∧ Mx x y (all ++ [e]) (i) ((j + 1)) ∧ Mw w w7 B3 (.slice X x.length cx) (.slice (some ad) y.length cy) (.slice A7 (all.length + 1) c7) x y (all ++ [e])) := Lib.hid ⟨by simp, by omega, by omega, by omega, by omega, HM2.out, by have h8 := HJ.out.more hr7 hg7; rw [List.length_append] at h8; exact h8⟩
          clear hr7 hb7 hg7 ho7
          go_roundw
          case rel => exact ⟨i, (j + 1), n + 1, all.length + 1, c7, A7, all ++ [e], rfl, by go_num, by go_num, by go_num, by omega, H7⟩
          case measure => simp; omega
      · have d2i : ¬ (j : Int) < (y.length : Int) := by omega
        cases F with
        | true =>
          obtain ⟨ad, e0, z0, z1⟩ := at_T23 (Kd.R_reads' HJ.out.rx).2.2 (i : Int) (by omega) (by omega)
          subst e0
          have hget : rd_T23 x (i : Int) = x[i] := by simp [rd_T23, List.getD_eq_getElem?_getD, d1]
          rw [hget, Int.toNat_natCast] at z0 z1
          obtain ⟨e, he⟩ : ∃ e, x[i] = e := ⟨_, rfl⟩
          rw [he] at z0 z1
          have HM2 := HI.out.2.2.2.2.2.1.stepX HG.out.1 d1 HI.out.2.2.1
          rw [he] at HM2
          replace HM2 := Lib.hid HM2
          clear he hget
          go_wp2_with (at_builtin; refine Kd.R_append k23 (w0 := wr) B3 rfl (.tmp 64) (.tmp 69) 24 23 (.agg #[(.int .i64 0), (.int .i64 0)]) 16 rfl Try.underlying24 info23 rfl (by decide) (by omega) (.slice A' all.length c') all e [.int .i64 e.f0, .int .i64 e.f1] (fun _ => True) (fun _ => False) rfl rfl (k23_mkM _ _ _ e) (fun _ hk => hk.elim) (fun _ _ => trivial) HJ.out.ra (Below.refl _ _) HJ.out.b3 (by have := HI.out.2.2.2.2.2.1.len; omega) ?_; intro v7 w7 hr7 hb7 hg7 ho7; obtain ⟨A7, c7, rfl⟩ := Kd.R_slice hr7)
          have H7 : Hid (all.length + 1 = (all ++ [e]).length ∧ (i + 1) + j = n + 1 + 1 ∧ 1 ≤ (i + 1) ∧ (i + 1) ≤ x.length ∧ j ≤ y.length ∧ Mx x y (all ++ [e]) ((i + 1)) (j) ∧ Mw w w7 B3 (.slice (some ad) x.length cx) (.slice Y y.length cy) (.slice A7 (all.length + 1) c7) x y (all ++ [e])) := Lib.hid ⟨by simp, by omega, by omega, by omega, by omega, HM2.out, by have h8 := HJ.out.more hr7 hg7; rw [List.length_append] at h8; exact h8⟩
          clear hr7 hb7 hg7 ho7
          go_roundw
          case rel => exact ⟨(i + 1), j, n + 1, all.length + 1, c7, A7, all ++ [e], rfl, by go_num, by go_num, by go_num, by omega, H7⟩
          case measure => simp; omega
        | false =>
          obtain ⟨ad, e0, z0, z1⟩ := at_T23 (Kd.R_reads' HJ.out.rx).2.2 (i : Int) (by omega) (by omega)
          subst e0
          have hget : rd_T23 x (i : Int) = x[i] := by simp [rd_T23, List.getD_eq_getElem?_getD, d1]
          rw [hget, Int.toNat_natCast] at z0 z1
          obtain ⟨e, he⟩ : ∃ e, x[i] = e := ⟨_, rfl⟩
          rw [he] at z0 z1
          have HM2 := HI.out.2.2.2.2.2.1.stepX HG.out.1 d1 HI.out.2.2.1
          rw [he] at HM2
          replace HM2 := Lib.hid HM2
          clear he hget
          go_wp2_with (at_builtin; refine Kd.R_append k23 (w0 := wr) B3 rfl (.tmp 64) (.tmp 69) 24 23 (.agg #[(.int .i64 0), (.int .i64 0)]) 16 rfl Try.underlying24 info23 rfl (by decide) (by omega) (.slice A' all.length c') all e [.int .i64 e.f0, .int .i64 e.f1] (fun _ => True) (fun _ => False) rfl rfl (k23_mkM _ _ _ e) (fun _ hk => hk.elim) (fun _ _ => trivial) HJ.out.ra (Below.refl _ _) HJ.out.b3 (by have := HI.out.2.2.2.2.2.1.len; omega) ?_; intro v7 w7 hr7 hb7 hg7 ho7; obtain ⟨A7, c7, rfl⟩ := Kd.R_slice hr7)
          have H7 : Hid (all.length + 1 = (all ++ [e]).length ∧ (i + 1) + j = n + 1 + 1 ∧ 1 ≤ (i + 1) ∧ (i + 1) ≤ x.length ∧ j ≤ y.length ∧ Mx x y (all ++ [e]) ((i + 1)) (j) ∧ Mw w w7 B3 (.slice (some ad) x.length cx) (.slice Y y.length cy) (.slice A7 (all.length + 1) c7) x y (all ++ [e])) := Lib.hid ⟨by simp, by omega, by omega, by omega, by omega, HM2.out, by have h8 := HJ.out.more hr7 hg7; rw [List.length_append] at h8; exact h8⟩
          clear hr7 hb7 hg7 ho7
          go_roundw
          case rel => exact ⟨(i + 1), j, n + 1, all.length + 1, c7, A7, all ++ [e], rfl, by go_num, by go_num, by go_num, by omega, H7⟩
          case measure => simp; omega
    · have d1i : ¬ (i : Int) < (x.length : Int) := by omega
      by_cases d2 : j < y.length
      · have d2i : (j : Int) < (y.length : Int) := by omega
        have jcy : (j : Int) < (cy : Int) := by have := HCY.out; omega
        go_upto_region 8 with fail
        go_cut [14] (fun t14 wc => ∃ F : Bool, t14 = .bool F ∧ Hid (wc = wr))
        case first =>
          by_cases d3 : n < ts.length
          · have d3i : (n : Int) < (ts.length : Int) := by omega
            obtain ⟨ad, cs, e0, _, hK, hcl⟩ := Kd.C_get (Kd.C_below HA.out.2.2.1 HJ.out.low) false (n : Int) n0 (by omega)
            subst e0
            obtain ⟨tb, htb⟩ : ∃ x, ts.getD (n : Int).toNat false = x := ⟨_, rfl⟩
            rw [htb] at hK
            have hK' : cs = [.bool tb] := hK
            subst hK'
            have z0 := hcl 0 _ rfl
            rw [show (n : Int).toNat * Kd.bool.sz + 0 = n from by show (n : Int).toNat * 1 + 0 = n; omega] at z0
            have nct : (n : Int) < (ct : Int) := by have := HA.out.2.2.2; omega
            clear hK hcl htb
            go_wp2_with fail
            go_meet
            exact ⟨tb, rfl, Lib.hid rfl⟩
          · have d3i : ¬ (n : Int) < (ts.length : Int) := by omega
            go_wp2_with fail
            go_meet
            exact ⟨false, rfl, Lib.hid rfl⟩
        case rest =>
        obtain ⟨F, rfl, hwc⟩ := hcut
        have hwc := hwc.out.symm
        subst hwc
        cases F with
        | true =>
          obtain ⟨ad, e0, z0, z1⟩ := at_T23 (Kd.R_reads' HJ.out.ry).2.2 (j : Int) (by omega) (by omega)
          subst e0
          have hget : rd_T23 y (j : Int) = y[j] := by simp [rd_T23, List.getD_eq_getElem?_getD, d2]
          rw [hget, Int.toNat_natCast] at z0 z1
          obtain ⟨e, he⟩ : ∃ e, y[j] = e := ⟨_, rfl⟩
          rw [he] at z0 z1
          have HM2 := HI.out.2.2.2.2.2.1.stepY HG.out.2 d2
          rw [he] at HM2
          replace HM2 := Lib.hid HM2
          clear he hget
          go_wp2_with (at_builtin; refine Kd.R_append k23 (w0 := wr) B3 rfl (.tmp 77) (.tmp 82) 24 23 (.agg #[(.int .i64 0), (.int .i64 0)]) 16 rfl Try.underlying24 info23 rfl (by decide) (by omega) (.slice A' all.length c') all e [.int .i64 e.f0, .int .i64 e.f1] (fun _ => True) (fun _ => False) rfl rfl (k23_mkM _ _ _ e) (fun _ hk => hk.elim) (fun _ _ => trivial) HJ.out.ra (Below.refl _ _) HJ.out.b3 (by have := HI.out.2.2.2.2.2.1.len; omega) ?_; intro v7 w7 hr7 hb7 hg7 ho7; obtain ⟨A7, c7, rfl⟩ := Kd.R_slice hr7)
          have H7 : Hid (all.length + 1 = (all ++ [e]).length ∧ i + (j + 1) = n + 1 + 1 ∧ 1 ≤ i ∧ i ≤ x.length ∧ (j + 1) ≤ y.length ∧ Mx x y (all ++ [e]) (i) ((j + 1)) ∧ Mw w w7 B3 (.slice X x.length cx) (.slice (some ad) y.length cy) (.slice A7 (all.length + 1) c7) x y (all ++ [e])) := Lib.hid ⟨by simp, by omega, by omega, by omega, by omega, HM2.out, by have h8 := HJ.out.more hr7 hg7; rw [List.length_append] at h8; exact h8⟩
          clear hr7 hb7 hg7 ho7
          go_roundw
          case rel => exact ⟨i, (j + 1), n + 1, all.length + 1, c7, A7, all ++ [e], rfl, by go_num, by go_num, by go_num, by omega, H7⟩
          case measure => simp; omega
        | false =>
          obtain ⟨ad, e0, z0, z1⟩ := at_T23 (Kd.R_reads' HJ.out.ry).2.2 (j : Int) (by omega) (by omega)
          subst e0
          have hget : rd_T23 y (j : Int) = y[j] := by simp [rd_T23, List.getD_eq_getElem?_getD, d2]
          rw [hget, Int.toNat_natCast] at z0 z1
          obtain ⟨e, he⟩ : ∃ e, y[j] = e := ⟨_, rfl⟩
          rw [he] at z0 z1
          have HM2 := HI.out.2.2.2.2.2.1.stepY HG.out.2 d2
          rw [he] at HM2
          replace HM2 := Lib.hid HM2
          clear he hget
          go_wp2_with (at_builtin; refine Kd.R_append k23 (w0 := wr) B3 rfl (.tmp 77) (.tmp 82) 24 23 (.agg #[(.int .i64 0), (.int .i64 0)]) 16 rfl Try.underlying24 info23 rfl (by decide) (by omega) (.slice A' all.length c') all e [.int .i64 e.f0, .int .i64 e.f1] (fun _ => True) (fun _ => False) rfl rfl (k23_mkM _ _ _ e) (fun _ hk => hk.elim) (fun _ _ => trivial) HJ.out.ra (Below.refl _ _) HJ.out.b3 (by have := HI.out.2.2.2.2.2.1.len; omega) ?_; intro v7 w7 hr7 hb7 hg7 ho7; obtain ⟨A7, c7, rfl⟩ := Kd.R_slice hr7)
          have H7 : Hid (all.length + 1 = (all ++ [e]).length ∧ i + (j + 1) = n + 1 + 1 ∧ 1 ≤ i ∧ i ≤ x.length ∧ (j + 1) ≤ y.length ∧ Mx x y (all ++ [e]) (i) ((j + 1)) ∧ Mw w w7 B3 (.slice X x.length cx) (.slice (some ad) y.length cy) (.slice A7 (all.length + 1) c7) x y (all ++ [e])) := Lib.hid ⟨by simp, by omega, by omega, by omega, by omega, HM2.out, by have h8 := HJ.out.more hr7 hg7; rw [List.length_append] at h8; exact h8⟩
          clear hr7 hb7 hg7 ho7
          go_roundw
          case rel => exact ⟨i, (j + 1), n + 1, all.length + 1, c7, A7, all ++ [e], rfl, by go_num, by go_num, by go_num, by omega, H7⟩
          case measure => simp; omega
      · have d2i : ¬ (j : Int) < (y.length : Int) := by omega
        obtain rfl : i = x.length := by omega
        obtain rfl : j = y.length := by omega
        have hD := HI.out.2.2.2.2.2.1.done HG.out.1 HG.out.2 hy0
        have HT := Lib.hid (show (readP x).2 = true ∧ (readP y).2 = true ∧ (readP all).2 = true ∧ (all.filter (fun e => e.f1 == 2)).length = y.length from ⟨by obtain ⟨m, r1, _⟩ := HG.out.1.rs; rw [r1.read], by obtain ⟨m, r1, _⟩ := HG.out.2.rs; rw [r1.read], hD.1, by rw [hD.2.2.1]⟩)
        have HW := Lib.hid (show (∀ e ∈ x, (Lit.int .i64 e.f1).wf = true) ∧ (∀ e ∈ y, (Lit.int .i64 e.f1).wf = true) ∧ (∀ e ∈ all, (Lit.int .i64 e.f1).wf = true) from ⟨fun e he => by rw [HG.out.1.nums e he]; rfl, fun e he => by rw [HG.out.2.nums e he]; rfl, fun e he => wf_of (by have := HI.out.2.2.2.2.2.1.nums e he; omega)⟩)
        have hal := hD.2.2.2
        have hav := hD.2.1
        have hnx : (aliveL x).length ≤ 1 := by rw [HG.out.1.alive]; split <;> simp
        have hny : (aliveL y).length ≤ 1 := by rw [HG.out.2.alive]; split <;> simp
        obtain ⟨na, hna⟩ : ∃ n, (aliveL all).length = n := ⟨_, rfl⟩
        obtain ⟨nx, hnx2⟩ : ∃ n, (aliveL x).length = n := ⟨_, rfl⟩
        obtain ⟨ny, hny2⟩ : ∃ n, (aliveL y).length = n := ⟨_, rfl⟩
        rw [hna, hnx2, hny2] at hav
        rw [hnx2] at hnx
        rw [hny2] at hny
        have HN := Lib.hid (And.intro hna (And.intro hnx2 hny2))
        have H1 := Lib.hid HJ.out
        clear hD hna hnx2 hny2 HI HJ
        have hx10i : (x.length : Int) ≤ 10 := by omega
        have hy10i : (y.length : Int) ≤ 10 := by omega
        have hnxi : (nx : Int) ≤ 1 := by omega
        have hnyi : (ny : Int) ≤ 1 := by omega
        have hEa : ((all.length : Int) == (x.length : Int) + (y.length : Int)) = true := by simp; omega
        have hEn : ((na : Int) == (nx : Int) + (ny : Int)) = true := by simp; omega
        have hal2 : all.length ≤ 20 := by omega
        clear hal hav
        go_wp2_with fail
        refine (Right_of H1.out.rx HW.out.1 (by omega) HT.out.1).mono ?_
        rintro e9 v1 ⟨rfl, hB⟩
        have H2 := Lib.hid (H1.out.below hB)
        clear H1 hB
        go_wp2_with fail
        refine (Right_of H2.out.ry HW.out.2.1 (by omega) HT.out.2.1).mono ?_
        rintro e9 v2 ⟨rfl, hB⟩
        have H3 := Lib.hid (H2.out.below hB)
        clear H2 hB
        go_wp2_with fail
        refine (Right_of H3.out.ra HW.out.2.2 (by omega) HT.out.2.2.1).mono ?_
        rintro e9 v3 ⟨rfl, hB⟩
        have H4 := Lib.hid (H3.out.below hB)
        clear H3 hB
        go_wp2_with fail
        refine (Alive_of H4.out.ra HW.out.2.2 (by omega) na HN.out.1).mono ?_
        rintro e9 v4 ⟨P1, p1, rfl, hB⟩
        have H5 := Lib.hid (H4.out.below hB)
        clear H4 hB
        go_wp2_with fail
        refine (Alive_of H5.out.rx HW.out.1 (by omega) nx HN.out.2.1).mono ?_
        rintro e9 v5 ⟨P2, p2, rfl, hB⟩
        have H6 := Lib.hid (H5.out.below hB)
        clear H5 hB
        go_wp2_with fail
        refine (Alive_of H6.out.ry HW.out.2.1 (by omega) ny HN.out.2.2).mono ?_
        rintro e9 v6 ⟨P3, p3, rfl, hB⟩
        have H7 := Lib.hid (H6.out.below hB)
        clear H6 hB
        go_wp2_with fail
        refine (Of_of H7.out.ra (by omega) 2 y.length HT.out.2.2.2).mono ?_
        rintro e9 v7 ⟨P4, p4, rfl, hB⟩
        have H8 := Lib.hid (H7.out.below hB)
        clear H7 hB
        go_wp2_with fail
        refine (porticolaw19_LifeRuns.calls 60 true _ runs).mono ?_
        rintro e9 v9 ⟨rfl, hB⟩
        have H9 := Lib.hid (H8.out.low.trans (hB.mono H8.out.low.size))
        clear H8 hB
        go_wp2_with fail
        go_ret
        exact ⟨rfl, H9.out⟩
end Go.Proofs.Ytnpmmmgaghhndaa.Lf
