/- Package life: read. -/
import Derived.Test.YtnpmmmgaghhndaaPLifeBeginsx0
import Derived.Lib.Hide
import Derived.Deep.LoopGhost
set_option linter.unusedVariables false
set_option linter.unusedSimpArgs false
namespace Go.Proofs.Ytnpmmmgaghhndaa.Lf
open Go.RowKit Go.Maps Go.Proofs.YtnpmmmgaghhndaaW.PrintWords Go.Proofs.YtnpmmmgaghhndaaW.PrintLast Go.Proofs.Ytnpmmmgaghhndaa.Sl Go.Proofs.Ytnpmmmgaghhndaa.Mv Go.Proofs.Ytnpmmmgaghhndaa.Given Go.Proofs.Ytnpmmmgaghhndaa.PLifeBegins

def getS (m : Int → Option Int) (n : Int) : Int := (m n).getD 0
def updI (m : Int → Option Int) (n v : Int) : Int → Option Int := fun x => if x = n then some v else m x
/-- What read comes to: the states, and whether the log is right. -/
def readGo : List S23 → (Int → Option Int) → Int → (Int → Option Int) × Bool
  | [], m, _ => (m, true)
  | e :: t, m, last => if (nextP (getS m e.f1) e.f0).2 = false then (m, false) else if e.f1 < 1 then (m, false) else if e.f0 = 1 then (if e.f1 ≤ last then (updI m e.f1 (nextP (getS m e.f1) e.f0).1, false) else readGo t (updI m e.f1 (nextP (getS m e.f1) e.f0).1) e.f1) else readGo t (updI m e.f1 (nextP (getS m e.f1) e.f0).1) last
def readP (l : List S23) : (Int → Option Int) × Bool := readGo l (fun _ => none) 0
/-- The map holds just these states. -/
def RM (f : Lit → Option Value) (m : Int → Option Int) : Prop := (∀ n, f (ki n) = (m n).map (Value.int .i64 ·)) ∧ (∀ kl v, f kl = some v → ∃ n s, kl = ki n ∧ v = .int .i64 s ∧ (Lit.int .i64 n).wf = true)
theorem RM.get {f : Lit → Option Value} {m : Int → Option Int} (h : RM f m) (n : Int) : (f (ki n)).getD (.int .i64 0) = .int .i64 (getS m n) := by
  rw [h.1 n]
  unfold getS
  cases m n <;> rfl
theorem RM.put {f : Lit → Option Value} {m : Int → Option Int} (h : RM f m) (n v : Int) (hn : (Lit.int .i64 n).wf = true) : RM (upd f (ki n) (some (.int .i64 v))) (updI m n v) := by
  refine ⟨fun x => ?_, fun kl u hu => ?_⟩
  · unfold updI
    by_cases e : x = n
    · subst e; rw [upd_same, if_pos rfl]; rfl
    · rw [upd_other _ _ (fun h => e (by injection h)), if_neg e]; exact h.1 x
  · by_cases e : kl = ki n
    · subst e; rw [upd_same] at hu; cases hu; exact ⟨n, v, rfl, rfl, hn⟩
    · rw [upd_other _ _ e] at hu; exact h.2 kl u hu
def ReadOut (l : List S23) (w : World) (e : Ending) (w' : World) : Prop := ∃ b n mm f, e = .returned (.tuple #[.map (some b), .bool (readP l).2]) ∧ Hid (MapV 3 w' b n mm f ∧ RM f (readP l).1 ∧ Below w.heap.size w w' ∧ w.heap.size ≤ b ∧ n ≤ l.length)
set_option maxHeartbeats 2000000 in
theorem read_any (A : Option Addr) (c : Nat) (l : List S23) (w : World) (h : Kd.C k23 w A l.length l) (hc : l.length ≤ c) (hw : ∀ e ∈ l, (Lit.int .i64 e.f1).wf = true) (hl : l.length ≤ 1000000) : Calls Try.prog 16 #[.slice A l.length c] w (ReadOut l w) := by
  have H := Lib.hid (And.intro h (And.intro hc hw))
  have q0 : (l.length : Int) ≤ 1000000 := by omega
  clear h hc hw
  have hmm := @Go.RowKit.run_makeMap Try.prog
  go_enter Try.func16, Try.ntmps16
  go_wp2_with fail
  clear hmm
  obtain ⟨b, hb⟩ : ∃ b, w.heap.size = b := ⟨_, rfl⟩
  have H1 : Hid (Below w.heap.size w (w.alloc (.map #[] 0)) ∧ w.heap.size ≤ b ∧ ∃ mm f, MapV 3 (w.alloc (.map #[] 0)) b 0 mm f ∧ RM f (fun _ => none)) := Lib.hid ⟨(Below.refl _ _).alloc (Nat.le_refl _) _, by omega, _, _, by rw [← hb]; exact MapV.made w _, fun n => rfl, fun kl v hv => by cases hv⟩
  rw [hb]
  clear hb
  generalize w.alloc (.map #[] 0) = w1 at H1 ⊢
  go_loopw [5, 13] (fun t5 t13 wr => ∃ (i : Nat) (last : Int) (m : Int → Option Int), t5 = .int .i64 last ∧ t13 = .int .i64 (i : Int) ∧ i ≤ l.length ∧ Hid (readGo (l.drop i) m last = readP l ∧ Below w.heap.size w wr ∧ w.heap.size ≤ b ∧ ∃ n mm f, n ≤ i ∧ MapV 3 wr b n mm f ∧ RM f m)) (fun _ t _ => match t with | .int _ q => (l.length - q).toNat | _ => 0)
  case atStart =>
    obtain ⟨h1, h2, mm, f, h3, h4⟩ := H1.out
    exact ⟨0, 0, _, rfl, rfl, Nat.zero_le _, Lib.hid ⟨rfl, h1, h2, 0, mm, f, Nat.le_refl _, h3, h4⟩⟩
  case round =>
    obtain ⟨i, last, m, rfl, rfl, hi, HI⟩ := hrel
    clear H1
    have i0 : (0 : Int) ≤ (i : Int) := by omega
    by_cases d1 : i < l.length
    · have i1 : (i : Int) < (l.length : Int) := by omega
      obtain ⟨ad, e0, x0, x1⟩ := at_T23 (Kd.C_below H.out.1 HI.out.2.1) (i : Int) i0 i1
      subst e0
      have hget : rd_T23 l (i : Int) = l[i] := by simp [rd_T23, List.getD_eq_getElem?_getD, d1]
      rw [hget, Int.toNat_natCast] at x0 x1
      obtain ⟨e, he⟩ : ∃ e, l[i] = e := ⟨_, rfl⟩
      rw [he] at x0 x1
      have hdrop : l.drop i = e :: l.drop (i + 1) := by rw [List.drop_eq_getElem_cons d1, he]
      have hew := H.out.2.2 e (by rw [← he]; exact List.getElem_mem d1)
      clear hget he
      go_upto_region 6 with fail
      have hbx := heap_alloc_new wr (.cells #[.int .i64 e.f0, .int .i64 e.f1] 23)
      have hBa : Below wr.heap.size wr (wr.alloc (.cells #[.int .i64 e.f0, .int .i64 e.f1] 23)) := (Below.refl _ _).alloc (Nat.le_refl _) _
      have HI2 : Hid (readGo (l.drop i) m last = readP l ∧ Below w.heap.size w (wr.alloc (.cells #[.int .i64 e.f0, .int .i64 e.f1] 23)) ∧ w.heap.size ≤ b ∧ ∃ n mm f, n ≤ i ∧ MapV 3 (wr.alloc (.cells #[.int .i64 e.f0, .int .i64 e.f1] 23)) b n mm f ∧ RM f m) := Lib.hid (by
        obtain ⟨g1, g2, g3, n, mm, f, g4, g5, g6⟩ := HI.out
        exact ⟨g1, g2.trans (hBa.mono g2.size), g3, n, mm, f, g4, g5.below hBa, g6⟩)
      clear HI hBa x0 x1
      generalize (wr.alloc (.cells #[.int .i64 e.f0, .int .i64 e.f1] 23)) = w2 at hbx HI2 ⊢
      generalize wr.heap.size = G at hbx ⊢
      have y0 : w2.cell? ⟨G, 0, none⟩ = some (.int .i64 e.f0) := (blk_cell hbx 0).trans rfl
      have y1 : w2.cell? ⟨G, 1, none⟩ = some (.int .i64 e.f1) := (blk_cell hbx 1).trans rfl
      obtain ⟨g1, g2, g3, n, mm, f, g4, g5, g6⟩ := HI2.out
      have hlk := g5.get intKeyed Try.underlying35 (zeroState w2) (ki_key hew)
      rw [g6.get e.f1] at hlk
      obtain ⟨w3, hr3, hm3, hg3⟩ := g5.put intKeyed Try.underlying35 (by unfold maxLen; omega) (ki_key hew) (.int .i64 (nextP (getS m e.f1) e.f0).1) (upd f (ki e.f1) _) (upd_same _ _ _) (fun y hy => upd_other _ _ hy)
      have hrm := g6.put e.f1 (nextP (getS m e.f1) e.f0).1 hew
      have z0 : w3.cell? ⟨G, 0, none⟩ = some (.int .i64 e.f0) := (hg3.cell y0 (by intro he; cases he; obtain ⟨es, cc, hb1⟩ := g5.obj; rw [hb1] at hbx; cases hbx)).trans rfl
      have z1 : w3.cell? ⟨G, 1, none⟩ = some (.int .i64 e.f1) := (hg3.cell y1 (by intro he; cases he; obtain ⟨es, cc, hb1⟩ := g5.obj; rw [hb1] at hbx; cases hbx)).trans rfl
      have g7 : n ≤ l.length := by omega
      have H3 : Hid (readGo (l.drop i) m last = readP l ∧ (Below w.heap.size w w2 ∧ MapV 3 w2 b n mm f ∧ RM f m ∧ n ≤ l.length) ∧ w.heap.size ≤ b ∧ Below w.heap.size w w3 ∧ (∃ mm', MapV 3 w3 b (n + 1) mm' (upd f (ki e.f1) (some (.int .i64 (nextP (getS m e.f1) e.f0).1)))) ∧ RM (upd f (ki e.f1) (some (.int .i64 (nextP (getS m e.f1) e.f0).1))) (updI m e.f1 (nextP (getS m e.f1) e.f0).1) ∧ n ≤ i ∧ l.drop i = e :: l.drop (i + 1)) := Lib.hid ⟨g1, ⟨g2, g5, g6, g7⟩, g3, g2.grown hg3 (by have := g2.size; omega) (fun k hk => by cases hk; exact g3), ⟨_, hm3⟩, hrm, g4, hdrop⟩
      clear HI2 g1 g2 g3 g4 g5 g6 g7 hm3 hg3 hrm hdrop hbx
      obtain ⟨s, hs⟩ : ∃ s, getS m e.f1 = s := ⟨_, rfl⟩
      rw [hs] at hlk hr3 H3
      obtain ⟨nx, hnx⟩ : ∃ nx, nextP s e.f0 = nx := ⟨_, rfl⟩
      have c14 := Next_any s e.f0 w2
      rw [hnx] at hr3 H3 c14
      have HS := Lib.hid (And.intro hs hnx)
      clear hs hnx
      obtain ⟨n1, ok⟩ := nx
      simp only at hr3 H3 c14
      have c14 := Lib.hid c14
      have H4 : Hid (readP l = if ok = false then (m, false) else if e.f1 < 1 then (m, false) else if e.f0 = 1 then (if e.f1 ≤ last then (updI m e.f1 n1, false) else readGo (l.drop (i + 1)) (updI m e.f1 n1) e.f1) else readGo (l.drop (i + 1)) (updI m e.f1 n1) last) := Lib.hid (by
        rw [← H3.out.1, H3.out.2.2.2.2.2.2.2]
        show (if (nextP (getS m e.f1) e.f0).2 = false then _ else _) = _
        rw [HS.out.1, HS.out.2])
      cases ok with
      | false =>
        have H5 : Hid (readP l = (m, false)) := Lib.hid (by rw [H4.out, if_pos rfl])
        go_wp2_with (refine c14.out.mono ?_; rintro e9 w9 ⟨rfl, rfl⟩)
        go_ret2
        obtain ⟨_, ⟨a1, a2, a3, a4⟩, a5, _⟩ := H3.out
        exact ⟨b, n, mm, f, by rw [H5.out]; rfl, Lib.hid ⟨a2, by rw [H5.out]; exact a3, a1, a5, a4⟩⟩
      | true =>
        by_cases c1 : e.f1 < 1
        · have H5 : Hid (readP l = (m, false)) := Lib.hid (by rw [H4.out, if_neg (by decide), if_pos c1])
          go_wp2_with (refine c14.out.mono ?_; rintro e9 w9 ⟨rfl, rfl⟩)
          go_ret2
          obtain ⟨_, ⟨a1, a2, a3, a4⟩, a5, _⟩ := H3.out
          exact ⟨b, n, mm, f, by rw [H5.out]; rfl, Lib.hid ⟨a2, by rw [H5.out]; exact a3, a1, a5, a4⟩⟩
        · by_cases c2 : e.f0 = 1
          · have c2b : (e.f0 == 1) = true := by rw [c2]; rfl
            by_cases c3 : e.f1 ≤ last
            · have H5 : Hid (readP l = (updI m e.f1 n1, false)) := Lib.hid (by rw [H4.out, if_neg (by decide), if_neg c1, if_pos c2, if_pos c3])
              replace c2 := Lib.hid c2
              go_wp2_with (refine c14.out.mono ?_; rintro e9 w9 ⟨rfl, rfl⟩)
              go_ret2
              obtain ⟨_, ⟨a1, a2, a3, a4⟩, a5, a6, ⟨mm', a7⟩, a8, a9, _⟩ := H3.out
              exact ⟨b, n + 1, mm', _, by rw [H5.out]; rfl, Lib.hid ⟨a7, by rw [H5.out]; exact a8, a6, a5, by omega⟩⟩
            · have H5 : Hid (readGo (l.drop (i + 1)) (updI m e.f1 n1) e.f1 = readP l) := Lib.hid (by rw [H4.out, if_neg (by decide), if_neg c1, if_pos c2, if_neg c3])
              replace c2 := Lib.hid c2
              go_wp2_with (refine c14.out.mono ?_; rintro e9 w9 ⟨rfl, rfl⟩)
              go_roundw
              case rel =>
                obtain ⟨_, ⟨a1, a2, a3, a4⟩, a5, a6, ⟨mm', a7⟩, a8, a9, _⟩ := H3.out
                exact ⟨i + 1, e.f1, _, rfl, by go_num, by omega, Lib.hid ⟨H5.out, a6, a5, n + 1, mm', _, by omega, a7, a8⟩⟩
              case measure => simp; omega
          · have c2b : (e.f0 == 1) = false := by simpa using c2
            have H5 : Hid (readGo (l.drop (i + 1)) (updI m e.f1 n1) last = readP l) := Lib.hid (by rw [H4.out, if_neg (by decide), if_neg c1, if_neg c2])
            replace c2 := Lib.hid c2
            go_wp2_with (refine c14.out.mono ?_; rintro e9 w9 ⟨rfl, rfl⟩)
            go_roundw
            case rel =>
              obtain ⟨_, ⟨a1, a2, a3, a4⟩, a5, a6, ⟨mm', a7⟩, a8, a9, _⟩ := H3.out
              exact ⟨i + 1, last, _, rfl, by go_num, by omega, Lib.hid ⟨H5.out, a6, a5, n + 1, mm', _, by omega, a7, a8⟩⟩
            case measure => simp; omega
    · have i1 : ¬ (i : Int) < (l.length : Int) := by omega
      obtain rfl : i = l.length := by omega
      go_wp2_with fail
      go_ret2
      obtain ⟨a1, a2, a3, n, mm, f, a4, a5, a6⟩ := HI.out
      rw [List.drop_length] at a1
      have a1 : (m, true) = readP l := a1
      exact ⟨b, n, mm, f, by rw [← a1]; rfl, Lib.hid ⟨a5, by rw [← a1]; exact a6, a2, a3, a4⟩⟩
end Go.Proofs.Ytnpmmmgaghhndaa.Lf
