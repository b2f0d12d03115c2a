/- DiskRoom: the walk. -/
import Derived.Test.YtcndhemociajjaaDiskRuns
set_option linter.unusedVariables false
set_option linter.unusedSimpArgs false
namespace Go.Proofs.Ytcndhemociajjaa.Dk
open Go.RowKit Go.Maps Go.WideMaps Go.Proofs.YtcndhemociajjaaW.PrintWords Go.Proofs.YtcndhemociajjaaW.PrintLast Go.Proofs.Ytcndhemociajjaa.Sl Go.Proofs.Ytcndhemociajjaa.Mv Go.Proofs.Ytcndhemociajjaa.PDiskRoom

abbrev nb : ByteArray := ⟨#[98]⟩
abbrev nc : ByteArray := ⟨#[99]⟩
abbrev ne_ : ByteArray := ⟨#[101]⟩
theorem lk_dl_other (fs : FS) (s t : ByteArray) (h : t ≠ s) : lk (dl fs s) t = lk fs t := by
  unfold lk dl
  rw [List.find?_filter]
  congr 2
  funext p
  by_cases e : p.1 = t
  · have : ¬ p.1 = s := fun e2 => h (by rw [← e, e2])
    simp [e, this, h]
  · simp [e]
theorem lk_pt_other (fs : FS) (s t : ByteArray) (x : Fl) (h : t ≠ s) : lk (pt fs s x) t = lk fs t := by
  rw [← lk_dl_other fs s t h]
  unfold lk pt
  rw [List.find?_cons_of_neg (by simpa using Ne.symm h)]
theorem lk_pt_same (fs : FS) (s : ByteArray) (x : Fl) : lk (pt fs s x) s = some x := lk_same _ _ _
theorem dl_dl (fs : FS) (s : ByteArray) : dl (dl fs s) s = dl fs s := by simp [dl]
theorem dl_pt (fs : FS) (s : ByteArray) (x : Fl) : dl (pt fs s x) s = dl fs s := by
  unfold pt
  have : dl ((s, x) :: dl fs s) s = dl (dl fs s) s := by unfold dl; rw [List.filter_cons_of_neg (by simp)]
  rw [this, dl_dl]
theorem tot_none (fs : FS) (s : ByteArray) (h : lk fs s = none) : tot (dl fs s) = tot fs := by rw [dl_none fs s h]
theorem dl_comm (fs : FS) (s t : ByteArray) : dl (dl fs s) t = dl (dl fs t) s := by unfold dl; rw [List.filter_filter, List.filter_filter]; congr 1; funext p; exact Bool.and_comm _ _
theorem dl_pt_other (fs : FS) (s t : ByteArray) (x : Fl) (h : t ≠ s) : dl (pt fs s x) t = pt (dl fs t) s x := by
  unfold pt
  have : dl ((s, x) :: dl fs s) t = (s, x) :: dl (dl fs s) t := by
    conv => lhs; unfold dl
    rw [List.filter_cons_of_pos (by simpa using Ne.symm h)]
    rfl
  rw [this, dl_comm]
theorem within (a lo hi : Int) (h : lo ≤ hi) (h0 : -1000000 ≤ lo) (h1 : hi ≤ 1000000) : ∃ r : Int, porticobook_Within.f a lo hi = some r ∧ lo ≤ r ∧ r ≤ hi := by
  have e1 : wrap64 ((wrap64 (hi - lo)) + 1) = hi - lo + 1 := by unfold wrap64; omega
  unfold porticobook_Within.f
  rw [e1, if_neg (by omega)]
  have hl := Int.tmod_lt_of_pos a (show (0 : Int) < hi - lo + 1 by omega)
  have hg := Int.lt_tmod_of_pos a (show (0 : Int) < hi - lo + 1 by omega)
  generalize Int.tmod a (hi - lo + 1) = q at *
  by_cases c : q < 0
  · rw [if_pos c]
    refine ⟨lo + (q + hi - lo + 1), ?_, by omega, by omega⟩
    congr 1
    unfold wrap64
    omega
  · rw [if_neg c]
    refine ⟨lo + q, ?_, by omega, by omega⟩
    congr 1
    unfold wrap64
    omega
theorem withinN (a : Int) : ∃ r : Nat, porticobook_Within.f a 0 4000 = some (r : Int) ∧ r ≤ 4000 := by
  obtain ⟨r, h2, h3, h4⟩ := within a 0 4000 (by omega) (by omega) (by omega)
  obtain ⟨n, rfl⟩ : ∃ n : Nat, r = (n : Int) := ⟨r.toNat, by omega⟩
  exact ⟨n, h2, by omega⟩
def zs (n : Nat) : List Int := List.replicate n 0
theorem zs_len (n : Nat) : (zs n).length = n := by simp [zs]
def zrow (n : Nat) : Array Value := ((zs n).map (Value.int .u8 ·)).toArray
theorem made_bytes (n : Nat) : madeCells #[.int .u8 0] n = zrow n := by
  apply Array.toList_inj.1
  rw [toList_madeCells_one]
  simp [zs, zrow]
theorem brow_zs (w : World) (n : Nat) (hl : n ≤ 4000) : BRow (w.alloc (.cells (zrow n) 5)) (.slice (some ⟨w.heap.size, 0, none⟩) n n) (zs n) := by
  have h := Sl.of_own (World.ownsRow_lit (base := 0) (e := 5) (size := 1) w ((zs n).map (Value.int .u8 ·)).toArray n (Nat.zero_le _) (by unfold maxLen; omega) (by simp [zs]))
  have h2 : (zs n).length = n := by simp [zs]
  unfold BRow
  rw [h2]
  exact h
theorem make_zs (n : Nat) (hl : n ≤ 4000) (W : World) : (Instr.makeSlice 26 (.int .i64 (n : Int)) (.int .i64 (n : Int))).run Try.prog W = .ok (.slice (some ⟨W.heap.size, 0, none⟩) n n) (W.alloc (.cells (zrow n) 5)) := by
  obtain ⟨i0, hi, hzz⟩ := Option.map_eq_some_iff.1 infoU8
  simp only [Prod.mk.injEq] at hzz
  obtain ⟨hz0, hz1, hz2⟩ := hzz
  have := run_make (P := Try.prog) W 26 5 i0 _ Try.underlying26 hi hz0 .i64 .i64 (n : Int) (n : Int) (by omega) (by omega) (by rw [hz2]; omega) (by omega)
  rw [hz1, Nat.mul_one, Int.toNat_natCast] at this
  rw [← made_bytes]
  exact this
/-- Write, both ways in one. -/
theorem Write_uni (d bf bn n1 n2 : Nat) (firm now : FS) (wait : List Tk) (vw : Value) (w0 w : World) (h : DA w0 w d bf bn n1 n2 firm now wait vw) (hn : n2 < 1000) (hw : wait.length < 1000) (ht : tot now ≤ 1000000) (s : ByteArray) (hs : s.size ≤ 16) (hs0 : s ≠ ⟨#[]⟩) (v : Value) (l : List Int) (hv : Src w v l) (hl : l.length ≤ 5000) :
    Calls Try.prog 7 #[.pointer (some ⟨d, 0, none⟩), .string s, v] w fun e w' => ∃ (ev : Int) (F : FS) (n2' : Nat) (wt : List Tk) (vw' : Value), e = .returned (.int .i64 ev) ∧ DA w0 w' d bf bn n1 n2' firm F wt vw' ∧ n2' ≤ n2 + 1 ∧ wt.length ≤ wait.length + 1 ∧ ((tot (dl now s) + l.length ≤ 4000 ∧ ev = 0 ∧ ∃ x : Fl, x.l = l ∧ F = pt now s x) ∨ (¬ tot (dl now s) + l.length ≤ 4000 ∧ ev = 9 ∧ F = now)) := by
  refine (Write_any d bf bn n1 n2 firm now wait vw w0 w h (by omega) (by omega) ht s hs hs0 v l hv hl).mono ?_
  rintro e w' (⟨h1, rfl, vw', A', c', h2⟩ | ⟨h1, rfl, h2⟩)
  · exact ⟨0, _, _, _, _, rfl, h2, Nat.le_refl _, by simp, .inl ⟨h1, rfl, _, rfl, rfl⟩⟩
  · exact ⟨9, _, _, _, _, rfl, h2, Nat.le_succ _, Nat.le_succ _, .inr ⟨h1, rfl, rfl⟩⟩
set_option maxHeartbeats 8000000 in
set_option maxRecDepth 1000000 in
theorem DiskRoom_any (a b c : Int) (w : World) : Calls Try.prog 5 #[.int .i64 a, .int .i64 b, .int .i64 c] w fun e w' => e = .returned (.bool true) ∧ Below w.heap.size w w' := by
  have hp : ∀ (g : Nat) (w : World), (binOp .eql 22 (.pointer (some ⟨g, 0, none⟩)) (.pointer none)).run Try.prog w = .ok (.bool false) w := fun g w => rfl
  obtain ⟨x, hx, hx4⟩ := withinN a
  obtain ⟨y, hy, hy4⟩ := withinN b
  obtain ⟨z, hz, hz4⟩ := withinN c
  have HW := Lib.hid (And.intro hx (And.intro hy hz))
  have HX := Lib.hid (And.intro hx4 (And.intro hy4 hz4))
  have x0 : (0 : Int) ≤ (x : Int) := by omega
  have x4 : (x : Int) ≤ 4000 := by omega
  have y0 : (0 : Int) ≤ (y : Int) := by omega
  have y4 : (y : Int) ≤ 4000 := by omega
  have z0 : (0 : Int) ≤ (z : Int) := by omega
  have z4 : (z : Int) ≤ 4000 := by omega
  have hmx := make_zs x hx4
  have hmy := make_zs y hy4
  have hmz := make_zs z hz4
  clear hx hy hz hx4 hy4 hz4
  go_enter Try.func5, Try.ntmps5
  go_wp2_with fail
  refine (porticobook_Within.calls a 0 4000 _ w HW.out.1).mono ?_
  rintro e w1 ⟨rfl, ⟨q1, rfl⟩⟩
  have H1 : Hid (Below w.heap.size w (w.drewN q1)) := Lib.hid (pw_below_drewN (Below.refl _ _) q1)
  generalize w.drewN q1 = w1 at H1 ⊢
  go_wp2_with fail
  refine (porticobook_Within.calls b 0 4000 _ w1 HW.out.2.1).mono ?_
  rintro e w2 ⟨rfl, ⟨q2, rfl⟩⟩
  have H2 : Hid (Below w.heap.size w (w1.drewN q2)) := Lib.hid (pw_below_drewN H1.out q2)
  clear H1
  generalize w1.drewN q2 = w2 at H2 ⊢
  go_wp2_with fail
  refine (porticobook_Within.calls c 0 4000 _ w2 HW.out.2.2).mono ?_
  rintro e w3 ⟨rfl, ⟨q3, rfl⟩⟩
  have H3 : Hid (Below w.heap.size w (w2.drewN q3)) := Lib.hid (pw_below_drewN H2.out q3)
  clear H2
  generalize w2.drewN q3 = w3 at H3 ⊢
  go_wp2_with fail
  refine (New_any w3).mono ?_
  rintro e w4 ⟨d, bf, bn, rfl, h4⟩
  have H4 := Lib.hid (And.intro (h4.below ((Below.refl _ _).alloc (Nat.le_refl _) (.cells (zrow x) 5))) H3.out)
  clear h4 H3
  go_wp2_with fail
  refine (Write_uni d bf bn 0 0 [] [] [] _ w3 _ H4.out.1 (by omega) (by decide) (by decide) na (by decide) (by decide) _ (zs x) (src_brow (brow_zs w4 x HX.out.1)) (by simp [zs]; have := HX.out; omega)).mono ?_
  rintro e w5 ⟨ev, F, n5, wt5, vw5, rfl, h5, hn5, hw5, (⟨_, rfl, fx, hfx, hF⟩ | ⟨hno, _⟩)⟩
  case inr => exact absurd (by show 0 + (zs x).length ≤ 4000; simp [zs]; have := HX.out; omega) hno
  have hF : F = [(na, fx)] := hF
  subst hF
  have hlx : fx.l.length = x := by rw [hfx]; simp [zs]
  have H5 := Lib.hid (And.intro (h5.below ((Below.refl _ _).alloc (Nat.le_refl _) (.cells (zrow y) 5))) (And.intro H4.out.2 (And.intro hn5 (And.intro hw5 hlx))))
  clear h5 hn5 hw5 hfx hlx H4
  go_wp2_with fail
  refine (Write_uni d bf bn 0 n5 [] _ _ _ w3 _ H5.out.1 (by have := H5.out.2.2.1; omega) (by have := H5.out.2.2.2.1; simp at this; omega) (by rw [tot_one, H5.out.2.2.2.2]; have := HX.out; omega) nb (by decide) (by decide) _ (zs y) (src_brow (brow_zs w5 y HX.out.2.1)) (by simp [zs]; have := HX.out; omega)).mono ?_
  rintro e w6 ⟨ev6, F6, n6, wt6, vw6, rfl, h6, hn6, hw6, hc6⟩
  have hzy : (zs y).length = y := by simp [zs]
  have hd1 : dl [(na, fx)] nb = [(na, fx)] := by simp [dl]
  rw [hd1, tot_one, H5.out.2.2.2.2, hzy] at hc6
  obtain ⟨oth, hoth⟩ : ∃ oth : Nat, oth = if x + y ≤ 4000 then y else 0 := ⟨_, rfl⟩
  have HC : Hid ((x + y ≤ 4000 ∧ ev6 = 0 ∧ oth = y ∨ ¬ x + y ≤ 4000 ∧ ev6 = 9 ∧ oth = 0) ∧ x + oth ≤ 4000 ∧ tot F6 = x + oth ∧ tot (dl F6 na) = oth ∧ (∃ f, lk F6 na = some f) ∧ lk F6 nc = none ∧ lk F6 ne_ = none) := Lib.hid (by
    have hx4 := HX.out.1
    rcases hc6 with ⟨h1, h2, f, hf, rfl⟩ | ⟨h1, h2, rfl⟩
    · rw [if_pos h1] at hoth
      subst hoth
      have e1 : pt [(na, fx)] nb f = [(nb, f), (na, fx)] := by simp [pt, dl]
      have e2 : f.l.length = oth := by rw [hf]; exact hzy
      rw [e1]
      refine ⟨.inl ⟨h1, h2, rfl⟩, h1, by simp [tot, H5.out.2.2.2.2, e2]; omega, ?_, ⟨fx, by simp [lk]⟩, by simp [lk], by simp [lk]⟩
      have e3 : dl [(nb, f), (na, fx)] na = [(nb, f)] := by simp [dl]
      rw [e3, tot_one, e2]
    · rw [if_neg h1] at hoth
      subst hoth
      refine ⟨.inr ⟨h1, h2, rfl⟩, by omega, by rw [tot_one, H5.out.2.2.2.2]; omega, by rw [dl_same]; rfl, ⟨fx, lk_same _ _ _⟩, by simp [lk], by simp [lk]⟩)
  have H6 := Lib.hid (And.intro h6 (And.intro H5.out.2.1 (And.intro (show n6 ≤ 2 by have := H5.out.2.2.1; omega) (show wt6.length ≤ 2 by have := H5.out.2.2.2.1; simp at this; omega))))
  clear h6 hn6 hw6 hc6 hoth H5 hd1 hzy hmx hmy
  have o0 : (0 : Int) ≤ (oth : Int) := by omega
  have ox : (x : Int) + (oth : Int) ≤ 4000 := by have := HC.out.2.1; omega
  go_upto_if 39 with fail
  go_cut [12] from 36 to 42 (fun t12 wc => t12 = .int .i64 ((x : Int) + (oth : Int)) ∧ Hid (wc = w6))
  case first =>
    rcases HC.out.1 with ⟨h1, hev, ho⟩ | ⟨h1, hev, ho⟩
    · have q1 : (x : Int) + (y : Int) ≤ 4000 := by omega
      have HO := Lib.hid ho
      clear ho hev
      go_wp2_with fail
      go_meet
      case rel => exact ⟨by rw [HO.out], Lib.hid rfl⟩
    · have q1 : ¬ (x : Int) + (y : Int) ≤ 4000 := by omega
      have HO := Lib.hid ho
      clear ho hev
      go_wp2_with fail
      go_meet
      case rel => exact ⟨by rw [HO.out]; simp, Lib.hid rfl⟩
  case rest =>
    obtain ⟨rfl, hc⟩ := hcut
    obtain rfl := hc.out
    clear hc
    go_upto_region 9 with fail
    go_cut [63] from 43 to 63 (fun t63 wq => t63 = .bool false ∧ Hid (Below wc.heap.size wc wq))
    case first =>
      rcases HC.out.1 with ⟨h1, hev, ho⟩ | ⟨h1, hev, ho⟩
      · have q1 : (x : Int) + (y : Int) ≤ 4000 := by omega
        subst hev
        clear ho h1
        go_wp2_with fail
        refine (Used_any d bn n6 _ wc H6.out.1.c.2.1 H6.out.1.nowM (by rw [HC.out.2.2.1]; have := HC.out.2.1; omega)).mono ?_
        rintro e w7 ⟨rfl, hB7⟩
        have HU := Lib.hid (And.intro HC.out.2.2.1 hB7)
        have hcast : ((tot F6 : Nat) : Int) = (x : Int) + (oth : Int) := by rw [HU.out.1]; omega
        rw [hcast]
        clear hcast hB7
        go_wp2_with fail
        go_meet
        case rel => exact ⟨rfl, Lib.hid HU.out.2⟩
      · have q1 : ¬ (x : Int) + (y : Int) ≤ 4000 := by omega
        subst hev
        clear ho h1
        go_wp2_with fail
        refine (Used_any d bn n6 _ wc H6.out.1.c.2.1 H6.out.1.nowM (by rw [HC.out.2.2.1]; have := HC.out.2.1; omega)).mono ?_
        rintro e w7 ⟨rfl, hB7⟩
        have HU := Lib.hid (And.intro HC.out.2.2.1 hB7)
        have hcast : ((tot F6 : Nat) : Int) = (x : Int) + (oth : Int) := by rw [HU.out.1]; omega
        rw [hcast]
        clear hcast hB7
        go_wp2_with fail
        go_meet
        case rel => exact ⟨rfl, Lib.hid HU.out.2⟩
    case rest =>
      obtain ⟨rfl, HB⟩ := hcut
      have H7 := Lib.hid (And.intro ((H6.out.1.below HB.out).below ((Below.refl _ _).alloc (Nat.le_refl _) (.cells (zrow z) 5))) H6.out.2)
      clear H6 HB
      go_wp2_with fail
      refine (Write_uni d bf bn 0 n6 [] _ _ _ w3 _ H7.out.1 (by have := H7.out.2; omega) (by have := H7.out.2; omega) (by rw [HC.out.2.2.1]; have := HC.out.2.1; omega) na (by decide) (by decide) _ (zs z) (src_brow (brow_zs _ z HX.out.2.2)) (by rw [zs_len]; have := HX.out; omega)).mono ?_
      rintro e w8 ⟨ev8, F8, n8, wt8, vw8, rfl, h8, hn8, hw8, hc8⟩
      rw [HC.out.2.2.2.1, zs_len] at hc8
      have HD : Hid ((oth + z ≤ 4000 ∧ ev8 = 0 ∨ ¬ oth + z ≤ 4000 ∧ ev8 = 9) ∧ tot (dl F8 na) = oth ∧ (∃ f, lk F8 na = some f) ∧ lk F8 nc = none ∧ lk F8 ne_ = none) := Lib.hid (by
        obtain ⟨_, _, _, h1, h2, h3, h4⟩ := HC.out
        rcases hc8 with ⟨a1, a2, f, _, rfl⟩ | ⟨a1, a2, rfl⟩
        · exact ⟨.inl ⟨a1, a2⟩, by rw [dl_pt]; exact h1, ⟨f, lk_pt_same _ _ _⟩, by rw [lk_pt_other _ _ _ _ (by decide)]; exact h3, by rw [lk_pt_other _ _ _ _ (by decide)]; exact h4⟩
        · exact ⟨.inr ⟨a1, a2⟩, h1, h2, h3, h4⟩)
      have H8 := Lib.hid (And.intro h8 (And.intro H7.out.2.1 (And.intro (show n8 ≤ 3 by have := H7.out.2; omega) (show wt8.length ≤ 3 by have := H7.out.2; omega))))
      have o4 : (oth : Int) ≤ 4000 := by omega
      clear h8 hn8 hw8 hc8 H7 HC hmz ox
      have hs14 : (x : Int) + (oth : Int) - (x : Int) = (oth : Int) := by omega
      go_upto_region 13 with fail
      go_cut [77] from 71 to 77 (fun t77 wq => t77 = .bool false ∧ Hid (wq = w8))
      case first =>
        rcases HD.out.1 with ⟨h1, hev⟩ | ⟨h1, hev⟩
        · have q1 : (oth : Int) + (z : Int) ≤ 4000 := by omega
          subst hev
          clear h1
          go_wp2_with fail
          go_meet
          case rel => exact ⟨rfl, Lib.hid rfl⟩
        · have q1 : ¬ (oth : Int) + (z : Int) ≤ 4000 := by omega
          subst hev
          clear h1
          go_wp2_with fail
          go_meet
          case rel => exact ⟨rfl, Lib.hid rfl⟩
      case rest =>
        obtain ⟨rfl, hc⟩ := hcut
        obtain rfl := hc.out
        clear hc
        obtain ⟨fa, hfa⟩ := HD.out.2.2.1
        go_wp2_with fail
        refine (Remove_any d bf bn 0 n8 [] _ _ _ w3 wc H8.out.1 (by have := H8.out.2; omega) (by have := H8.out.2; omega) na (by decide) fa hfa).mono ?_
        rintro e w9 ⟨rfl, vw9, h9⟩
        have H9 := Lib.hid (And.intro h9 (And.intro H8.out.2.1 (And.intro (show n8 + 1 ≤ 4 by have := H8.out.2; omega) (show (wt8 ++ [(⟨na, ⟨#[]⟩, nilF, false⟩ : Tk)]).length ≤ 4 by have := H8.out.2; simp; omega))))
        clear h9 H8 hfa
        obtain ⟨F9, hF9⟩ : ∃ F9, dl F8 na = F9 := ⟨_, rfl⟩
        have HE : Hid (tot F9 = oth ∧ lk F9 nc = none ∧ lk F9 ne_ = none) := Lib.hid (by
          obtain ⟨_, h1, _, h2, h3⟩ := HD.out
          rw [← hF9]
          exact ⟨h1, by rw [lk_dl_other _ _ _ (by decide)]; exact h2, by rw [lk_dl_other _ _ _ (by decide)]; exact h3⟩)
        obtain ⟨wt9, hwt9⟩ : ∃ wt9, wt8 ++ [(⟨na, ⟨#[]⟩, nilF, false⟩ : Tk)] = wt9 := ⟨_, rfl⟩
        rw [hF9, hwt9] at H9
        clear hF9 HD hwt9
        go_wp2_with fail
        refine (Used_any d bn (n8 + 1) _ w9 H9.out.1.c.2.1 H9.out.1.nowM (by rw [HE.out.1]; omega)).mono ?_
        rintro e w10 ⟨rfl, hB10⟩
        have hcast : ((tot F9 : Nat) : Int) = (oth : Int) := by rw [HE.out.1]
        rw [hcast]
        obtain ⟨v, hv⟩ : ∃ v : Nat, v + oth = 4000 := ⟨4000 - oth, by omega⟩
        have hv2 : (4000 : Int) - (oth : Int) = (v : Int) := by omega
        have hmv := make_zs v (by omega)
        have H10 := Lib.hid (And.intro ((H9.out.1.below hB10).below ((Below.refl _ _).alloc (Nat.le_refl _) (.cells (zrow v) 5))) H9.out.2)
        have HV := Lib.hid hv
        clear hcast hB10 H9 hv
        go_wp2_with fail
        refine (Write_uni d bf bn 0 (n8 + 1) [] _ _ _ w3 _ H10.out.1 (by have := H10.out.2; omega) (by have := H10.out.2; omega) (by rw [HE.out.1]; omega) nc (by decide) (by decide) _ (zs v) (src_brow (brow_zs _ v (by omega))) (by rw [zs_len]; omega)).mono ?_
        rintro e w11 ⟨ev, F11, n11, wt11, vw11, rfl, h11, hn11, hw11, hc11⟩
        rw [tot_none _ _ HE.out.2.1, HE.out.1, zs_len] at hc11
        rcases hc11 with ⟨_, rfl, f11, hf11, hF11⟩ | ⟨hno, _⟩
        case inr => exact absurd (by have := HV.out; omega) hno
        have HG : Hid (tot F11 = 4000 ∧ lk F11 ne_ = none) := Lib.hid (by
          subst hF11
          refine ⟨?_, by rw [lk_pt_other _ _ _ _ (by decide)]; exact HE.out.2.2⟩
          rw [tot_pt, tot_none _ _ HE.out.2.1, HE.out.1, hf11, zs_len]
          exact HV.out)
        have H11 := Lib.hid (And.intro (h11.below ((Below.refl _ _).alloc (Nat.le_refl _) (.cells #[.int .u8 1] 5))) (And.intro H10.out.2.1 (And.intro (show n11 ≤ 5 by have := H10.out.2; omega) (show wt11.length ≤ 5 by have := H10.out.2; omega))))
        clear h11 hn11 hw11 hf11 hF11 H10 HE hmv HV
        go_wp2_with fail
        refine (Write_uni d bf bn 0 n11 [] _ _ _ w3 _ H11.out.1 (by have := H11.out.2; omega) (by have := H11.out.2; omega) (by rw [HG.out.1]; omega) ne_ (by decide) (by decide) _ [1] (src_brow (brow_lit w11 [1] 1 rfl (by omega))) (by decide)).mono ?_
        rintro e w12 ⟨ev, F12, n12, wt12, vw12, rfl, h12, hn12, hw12, hc12⟩
        rw [tot_none _ _ HG.out.2, HG.out.1] at hc12
        rcases hc12 with ⟨hno, _⟩ | ⟨_, rfl, hF12⟩
        case inl => exact absurd hno (by decide)
        subst hF12
        have H12 := Lib.hid (And.intro h12 (And.intro H11.out.2.1 (And.intro (show n12 ≤ 6 by have := H11.out.2; omega) (show wt12.length ≤ 6 by have := H11.out.2; omega))))
        clear h12 hn12 hw12 H11
        go_wp2_with fail
        refine (Write_uni d bf bn 0 n12 [] _ _ _ w3 _ H12.out.1 (by have := H12.out.2; omega) (by have := H12.out.2; omega) (by rw [HG.out.1]; omega) ne_ (by decide) (by decide) (.slice none 0 0) [] (src_brow (Sl.nil _ _ _)) (by decide)).mono ?_
        rintro e w13 ⟨ev, F13, n13, wt13, vw13, rfl, h13, hn13, hw13, hc13⟩
        rw [tot_none _ _ HG.out.2, HG.out.1] at hc13
        rcases hc13 with ⟨_, rfl, f13, hf13, hF13⟩ | ⟨hno, _⟩
        case inr => exact absurd (by decide) hno
        have HG3 : Hid (tot F13 = 4000) := Lib.hid (by rw [hF13, tot_pt, hf13, tot_none _ _ HG.out.2, HG.out.1]; rfl)
        have H13 := Lib.hid (And.intro h13 H12.out.2.1)
        clear h13 hn13 hw13 hf13 hF13 H12 HG
        go_wp2_with fail
        refine (Used_any d bn n13 _ w13 H13.out.1.c.2.1 H13.out.1.nowM (by rw [HG3.out]; omega)).mono ?_
        rintro e w14 ⟨rfl, hB14⟩
        have hcast : ((tot F13 : Nat) : Int) = 4000 := by rw [HG3.out]; rfl
        rw [hcast]
        have H14 := Lib.hid (H13.out.2.trans ((H13.out.1.low.trans (hB14.mono H13.out.1.low.size)).mono H13.out.2.size))
        clear H13 hB14 hcast
        go_wp2_with fail
        refine (DiskRuns_any w14).mono ?_
        rintro e w15 ⟨rfl, hB15⟩
        have H15 := Lib.hid (H14.out.trans (hB15.mono H14.out.size))
        clear H14 hB15
        go_wp2_with fail
        go_ret
        exact ⟨rfl, H15.out⟩
end Go.Proofs.Ytcndhemociajjaa.Dk
