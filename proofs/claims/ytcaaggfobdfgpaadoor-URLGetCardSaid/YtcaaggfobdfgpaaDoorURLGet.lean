/- URLGet: the walk. -/
import Derived.Test.YtcaaggfobdfgpaaDoorCellsURLGet
import Derived.IntWalk
import Derived.Test.YtcaaggfobdfgpaaDoorGetURLGet
set_option linter.unusedVariables false
set_option linter.unusedSimpArgs false
namespace Go.Proofs.YtcaaggfobdfgpaaDoor.UURLGet
open Go.RowKit Go.Proofs.YtcaaggfobdfgpaaDoor.PURLGet Go.Proofs.YtcaaggfobdfgpaaDoorW.PrintWords Go.Proofs.YtcaaggfobdfgpaaDoorW.PrintLast Go.Proofs.YtcaaggfobdfgpaaDoorW.PrintMore Go.Proofs.YtcaaggfobdfgpaaDoor.Pct Go.Proofs.YtcaaggfobdfgpaaDoor.UP Go.Proofs.YtcaaggfobdfgpaaDoor.Given Go.Proofs.YtcaaggfobdfgpaaDoor

/-- Both URLs, each in a box. -/
def TwoU (w w' : World) (p : List ByteArray) (q : List Pr) (A : Option Addr) (c : Nat) (B : Option Addr) (d : Nat) (A' : Option Addr) (c' : Nat) (B' : Option Addr) (d' : Nat) (g g2 : Nat) : Prop :=
  MadeU w w' p q A c B d ∧ MadeU w w' p q A' c' B' d' ∧ w'.heap[g]? = some (.cells #[.slice A p.length c, .slice B q.length d] 25 (0, 0)) ∧ w'.heap[g2]? = some (.cells #[.slice A' p.length c', .slice B' q.length d'] 25 (0, 0))
theorem TwoU.below {w w' w'' : World} {p : List ByteArray} {q : List Pr} {A : Option Addr} {c : Nat} {B : Option Addr} {d : Nat} {A' : Option Addr} {c' : Nat} {B' : Option Addr} {d' : Nat} {g g2 : Nat} (h : TwoU w w' p q A c B d A' c' B' d' g g2) (hB : Below w'.heap.size w' w'') : TwoU w w'' p q A c B d A' c' B' d' g g2 :=
  ⟨h.1.below hB, h.2.1.below hB, (hB.block g (Array.getElem?_eq_some_iff.1 h.2.2.1).1).trans h.2.2.1, (hB.block g2 (Array.getElem?_eq_some_iff.1 h.2.2.2).1).trans h.2.2.2⟩
theorem Int_w (n : Int) (h : -1000000 ≤ n) (h' : n ≤ 1000000) : IntKind.i64.wrap n = n := IntWalk.i64_in _ (by omega)
theorem getV_app {name : ByteArray} {q r : List Pr} (h : ∀ x ∈ q, x.f0 ≠ name) : getV name (q ++ r) = getV name r := by
  induction q with
  | nil => rfl
  | cons x q ih =>
    rw [List.cons_append]
    show (if x.f0 = name then _ else getV name (q ++ r)) = _
    rw [if_neg (h x List.mem_cons_self), ih (fun y hy => h y (List.mem_cons_of_mem _ hy))]
theorem getV_none {name : ByteArray} {q : List Pr} (h : ∀ x ∈ q, x.f0 ≠ name) : getV name q = (⟨#[]⟩, false) := by
  have := getV_app (r := []) h
  rw [List.append_nil] at this
  exact this
theorem getV_some {name : ByteArray} {q : List Pr} {x : Pr} (h : x ∈ q) (he : x.f0 = name) : (getV name q).2 = true := by
  induction q with
  | nil => cases h
  | cons y q ih =>
    unfold getV
    by_cases e : y.f0 = name
    · rw [if_pos e]
    · rw [if_neg e]
      rcases List.mem_cons.1 h with rfl | h
      · exact absurd he e
      · exact ih h
theorem no_new : ∀ x ∈ wordsL, x ≠ ⟨#[110, 101, 119]⟩ := by
  have h : wordsL.all (fun x => decide (x ≠ ⟨#[110, 101, 119]⟩)) = true := by decide +kernel
  intro x hx
  simpa using List.all_eq_true.1 h x hx
theorem set_two {w : World} {b t : Nat} {x y : Value} (h : w.heap[b]? = some (.cells #[x, y] t (0, 0))) (u v : Value) : ((w.setCell ⟨b, 0, none⟩ u).setCell ⟨b, 1, none⟩ v).heap[b]? = some (.cells #[u, v] t (0, 0)) := by
  simp [World.setCell, Array.getElem?_modify, h]
def newP : List Pr := [⟨⟨#[110, 101, 119]⟩, ⟨#[49]⟩⟩, ⟨⟨#[110, 101, 119]⟩, ⟨#[50]⟩⟩]
def LawTrue (w : World) (e : Ending) (w' : World) : Prop := e = .returned (.bool true) ∧ Below w.heap.size w w'
set_option maxHeartbeats 16000000 in
set_option maxRecDepth 100000 in
theorem URLGet_any (A0 : Option Addr) (c0 : Nat) (a : List Int) (A1 : Option Addr) (c1 : Nat) (b : List Int) (A2 : Option Addr) (c2 : Nat) (c : List Int) (name : ByteArray) (at_ : Int) (w : World) (h0 : Kd.C (Kd.int .i64) w A0 a.length a) (hc0 : a.length ≤ c0) (h1 : Kd.C (Kd.int .i64) w A1 b.length b) (hc1 : b.length ≤ c1) (h2 : Kd.C (Kd.int .i64) w A2 c.length c) (hc2 : c.length ≤ c2)
    (la : a.length ≤ 1000000000000000000) (lb : b.length ≤ 1000000000000000000) :
    Calls Tryd.prog 7 #[.agg #[.slice A0 a.length c0, .slice A1 b.length c1, .slice A2 c.length c2], .string name, .int .i64 at_] w (LawTrue w) := by
  have HU : Hid (∀ W, Below w.heap.size w W → Calls Tryd.prog 16 #[.agg #[.slice A0 a.length c0, .slice A1 b.length c1, .slice A2 c.length c2]] W (MadeE a b W)) := Lib.hid fun W hB => keep_any A0 c0 a A1 c1 b A2 c2 c W (Kd.C_below h0 hB) hc0 (Kd.C_below h1 hB) hc1 (Kd.C_below h2 hB) hc2 la lb
  clear h0 h1 h2
  go_enter Tryd.func7, Tryd.ntmps7
  go_wp2_with fail
  refine (HU.out _ ((Below.refl _ _).alloc (Nat.le_refl _) _)).mono ?_
  rintro e w2 ⟨p, q, A, c, B, d, rfl, hm⟩
  have HM := Lib.hid (And.intro (MadeU.from ((Below.refl _ _).alloc (Nat.le_refl _) _) hm.1) hm.2)
  clear hm HU
  go_upto_region 2 with fail
  obtain ⟨w3, hw3⟩ : ∃ x, w2.alloc (.cells #[.slice A p.length c, .slice B q.length d] 25) = x := ⟨_, rfl⟩
  obtain ⟨g, hg⟩ : ∃ g, w2.heap.size = g := ⟨_, rfl⟩
  have H3 := Lib.hid (show MadeU w w3 p q A c B d ∧ w3.heap[g]? = some (.cells #[.slice A p.length c, .slice B q.length d] 25 (0, 0)) ∧ Below w2.heap.size w2 w3 from by
    rw [← hw3, ← hg]
    exact ⟨HM.out.1.below ((Below.refl _ _).alloc (Nat.le_refl _) _), heap_alloc_new _ _, (Below.refl _ _).alloc (Nat.le_refl _) _⟩)
  rw [hw3, hg]
  have HP := Lib.hid HM.out.2
  clear hw3 hg HM
  have b0 : w3.cell? ⟨g, 0, none⟩ = some (.slice A p.length c) := (blk_cell H3.out.2.1 0).trans rfl
  have b1 : w3.cell? ⟨g, 1, none⟩ = some (.slice B q.length d) := (blk_cell H3.out.2.1 1).trans rfl
  go_wp2_with fail
  clear b0 b1
  refine (print_read H3.out.1.reads).mono ?_
  rintro e w4 ⟨rfl, hb4⟩
  have H4 := Lib.hid (And.intro (H3.out.1.below hb4) (And.intro ((hb4.block g (Array.getElem?_eq_some_iff.1 H3.out.2.1).1).trans H3.out.2.1) hb4))
  clear hb4 H3
  go_wp2_with fail
  refine (parse_any p q HP.out.1.right w4).mono ?_
  rintro e w5 ⟨A', c', B', d', rfl, hm5⟩
  have H5 := Lib.hid hm5
  clear hm5
  go_upto_region 3 with fail
  obtain ⟨w6, hw6⟩ : ∃ x, w5.alloc (.cells #[.slice A' p.length c', .slice B' q.length d'] 25) = x := ⟨_, rfl⟩
  obtain ⟨g2, hg2⟩ : ∃ g, w5.heap.size = g := ⟨_, rfl⟩
  have H6 : Hid (TwoU w w6 p q A c B d A' c' B' d' g g2) := Lib.hid (by
    rw [← hw6, ← hg2]
    have hb : Below w5.heap.size w5 (w5.alloc (.cells #[.slice A' p.length c', .slice B' q.length d'] 25)) := (Below.refl _ _).alloc (Nat.le_refl _) _
    have h1 := (H4.out.1.below H5.out.2.2).below hb
    have h2 := (MadeU.from H4.out.1.2.2 H5.out).below hb
    have h3 := (H5.out.2.2.block g (Array.getElem?_eq_some_iff.1 H4.out.2.1).1).trans H4.out.2.1
    exact ⟨h1, h2, (hb.block g (Array.getElem?_eq_some_iff.1 h3).1).trans h3, heap_alloc_new _ _⟩)
  rw [hw6, hg2]
  clear hw6 hg2 H4 H5
  have b1 : w6.cell? ⟨g, 1, none⟩ = some (.slice B q.length d) := (blk_cell H6.out.2.2.1 1).trans rfl
  go_upto_if 38 with (fail)
  go_cut [10] (fun v wc => ∃ s, v = .string s ∧ Hid ((q.length = 0 ∨ ∃ x ∈ q, x.f0 = s) ∧ TwoU w wc p q A c B d A' c' B' d' g g2))
  case first =>
    by_cases hq0 : q.length = 0
    · have hz : decide (0 < q.length) = false := by simp [hq0]
      have HQ0 := Lib.hid hq0
      rw [hz]
      clear hq0 hz
      go_wp2_with fail
      go_meet
      exact ⟨_, rfl, Lib.hid ⟨.inl HQ0.out, H6.out⟩⟩
    · have hz : decide (0 < q.length) = true := decide_eq_true (by omega)
      rw [hz]
      clear hz
      have hq1 : 1 ≤ (q.length : Int) := by omega
      clear hq0
      have hqn : q.length ≤ 3 := by have := HP.out.1.2.2.1; omega
      obtain ⟨r, e1, r0, r1⟩ := within_ok at_ 0 ((q.length : Int) - 1) (by omega) (by omega) (by omega) (by omega)
      obtain ⟨m, rfl⟩ : ∃ m : Nat, r = (m : Int) := ⟨r.toNat, by omega⟩
      have hm : m < q.length := by omega
      obtain ⟨ad, hB, hcell, _⟩ := pair_at H6.out.1.reads.2.2.1 m hm
      subst hB
      obtain ⟨s, hs⟩ : ∃ s, q[m].f0 = s := ⟨_, rfl⟩
      rw [hs] at hcell
      have HS := Lib.hid (show ∃ x ∈ q, x.f0 = s from ⟨_, List.getElem_mem hm, hs⟩)
      have HWi : Hid (∀ W, Calls Tryd.prog 17 #[.int .i64 at_, .int .i64 0, .int .i64 ((q.length : Int) - 1)] W fun e w' => e = .returned (.int .i64 (m : Int)) ∧ ∃ n, w' = W.drewN n) := Lib.hid fun W => (porticobook_Within.calls at_ 0 ((q.length : Int) - 1) m W e1).mono fun _ _ ⟨h1, h2⟩ => ⟨h1, h2.out⟩
      have hw := Int_w ((q.length : Int) - 1) (by omega) (by omega)
      have m0 : (0 : Int) ≤ (m : Int) := by omega
      have m1 : (m : Int) < (q.length : Int) := by omega
      clear hs e1 r0 r1
      go_upto_region 7 with fail
      go_quiet ((go_at_call 17; exact Calls.quiet_of (HWi.out _)))
      go_wp2_with fail
      go_meet
      exact ⟨s, rfl, Lib.hid ⟨.inr HS.out, H6.out.below (pw_below_drewN (Below.refl _ _) _)⟩⟩
  case rest =>
    obtain ⟨wx, rfl⟩ : ∃ x, x = wc := ⟨_, rfl⟩
    clear H6 b1
    obtain ⟨s, rfl, HC⟩ := hcut
    have hqn : q.length ≤ 3 := by have := HP.out.1.2.2.1; omega
    have b0 : wx.cell? ⟨g, 0, none⟩ = some (.slice A p.length c) := (blk_cell HC.out.2.2.2.1 0).trans rfl
    have b1 : wx.cell? ⟨g, 1, none⟩ = some (.slice B q.length d) := (blk_cell HC.out.2.2.2.1 1).trans rfl
    go_wp2_with fail
    clear b0 b1
    refine (get_any A c p B d q s wx HC.out.2.1.reads (by omega)).mono ?_
    rintro e w7 ⟨rfl, hb7⟩
    have H7 := Lib.hid (And.intro HC.out.1 (HC.out.2.below hb7))
    clear hb7 HC
    have b2 : w7.cell? ⟨g2, 0, none⟩ = some (.slice A' p.length c') := (blk_cell H7.out.2.2.2.2 0).trans rfl
    have b3 : w7.cell? ⟨g2, 1, none⟩ = some (.slice B' q.length d') := (blk_cell H7.out.2.2.2.2 1).trans rfl
    go_wp2_with fail
    clear b2 b3
    refine (get_any A' c' p B' d' q s w7 H7.out.2.2.1.reads (by omega)).mono ?_
    rintro e w8 ⟨rfl, hb8⟩
    have H8 := Lib.hid (And.intro H7.out.1 (H7.out.2.below hb8))
    clear hb8 H7
    have HX : Hid (∀ W, Below w8.heap.size w8 W → W.cell? ⟨g, 0, none⟩ = some (.slice A p.length c) ∧ W.cell? ⟨g, 1, none⟩ = some (.slice B q.length d)) := Lib.hid fun W hB => ⟨cell_below hB ((blk_cell H8.out.2.2.2.1 0).trans rfl), cell_below hB ((blk_cell H8.out.2.2.2.1 1).trans rfl)⟩
    have HA1 : Hid (∀ (W : World) (b : Nat), Below w8.heap.size w8 W → w8.heap.size ≤ b → ∃ v w', (Builtin.append_ #[23, 23] 23 #[.slice (some ⟨b, 0, none⟩) 0 0, .slice B q.length d]).run Tryd.prog W = .ok v w' ∧ Sl.App w' w8.heap.size 32 2 v q.length (cellsP q) ∧ Below W.heap.size W w') := Lib.hid fun W b hB hb => appP1 w8 W b B d q hB hb (Kd.C_below H8.out.2.1.reads.2.2.1 hB) (by omega)
    have HA2 : Hid (∀ (W : World) (v : Value) (nb : Nat), Below w8.heap.size w8 W → Sl.App W w8.heap.size 32 2 v q.length (cellsP q) → W.heap[nb]? = some (.cells #[.string ⟨#[110, 101, 119]⟩, .string ⟨#[49]⟩, .string ⟨#[110, 101, 119]⟩, .string ⟨#[50]⟩] 32 (0, 0)) → ∃ v' w', (Builtin.append_ #[23, 23] 23 #[v, .slice (some ⟨nb, 0, none⟩) 2 2]).run Tryd.prog W = .ok v' w' ∧ Sl.Sl w' 32 2 v' (q.length + 2) (cellsP q ++ cellsP newP) ∧ Below w8.heap.size w8 w' ∧ ∀ (g : Nat) (cs : Array Value) (t : TypeId), W.heap[g]? = some (Obj.cells cs t (0, 0)) → t ≠ 32 → w'.heap[g]? = W.heap[g]?) := Lib.hid fun W v nb hB hv hb => appP2 w8 W v q newP nb 2 2 rfl (by omega) (by omega) hB hv hb (by omega)
    go_upto_region 10 with fail
    have S0 : Below w8.heap.size w8 w8.drew := (Below.refl _ _).drew
    refine start_ (n := 13) (S := fun w' => Below w8.heap.size w8 w' ∧ w'.cell? ⟨g, 0, none⟩ = some (.slice A p.length c) ∧ w'.cell? ⟨g, 1, none⟩ = some (.slice B q.length d)) (ds := [12]) #[false, false, false, false, false, false, false, false, false, false, false, false, false] (by kernel_rfl) rfl rfl ⟨S0, (HX.out _ S0).1, (HX.out _ S0).2⟩ (fun hHeld => ?_)
    clear S0
    generalize w8.drew = W1 at hHeld ⊢
    refine pure_ (i := 0) (N := some 62) (v := ?_) (a' := ?_) #[true, false, false, false, false, false, false, false, false, false, false, false, false] rfl rfl (by kernel_rfl) (fun _ _ _ h => h) (Or.inl ⟨by rfl, ?_⟩) ?_ ?_
    rotate_left
    · intro w'
      go_simp
      with_reducible rfl
    rotate_left
    · simp only [Act.put, List.setIfInBounds_toArray, List.set_cons_zero, List.set_cons_succ, i64_w, i32_w]
      rfl
    refine pure_ (i := 3) (N := some 65) (v := ?_) (a' := ?_) #[true, false, false, true, false, false, false, false, false, false, false, false, false] rfl rfl (by kernel_rfl) (fun _ _ _ h => h) (Or.inl ⟨by rfl, ?_⟩) ?_ ?_
    rotate_left
    · intro w'
      go_simp
      with_reducible rfl
    rotate_left
    · simp only [Act.put, List.setIfInBounds_toArray, List.set_cons_zero, List.set_cons_succ, i64_w, i32_w]
      rfl
    refine pure_ (i := 6) (N := some 68) (v := ?_) (a' := ?_) #[true, false, false, true, false, false, true, false, false, false, false, false, false] rfl rfl (by kernel_rfl) (fun _ _ _ h => h) (Or.inl ⟨by rfl, ?_⟩) ?_ ?_
    rotate_left
    · intro w'
      go_simp
      with_reducible rfl
    rotate_left
    · simp only [Act.put, List.setIfInBounds_toArray, List.set_cons_zero, List.set_cons_succ, i64_w, i32_w]
      rfl
    refine pure_ (i := 7) (N := some 69) (v := ?_) (a' := ?_) #[true, false, false, true, false, false, true, true, false, false, false, false, false] rfl rfl (by kernel_rfl) (fun _ _ _ h => h) (Or.inl ⟨by rfl, ?_⟩) ?_ ?_
    rotate_left
    · intro w'
      go_simp
      with_reducible rfl
    rotate_left
    · simp only [Act.put, List.setIfInBounds_toArray, List.set_cons_zero, List.set_cons_succ, i64_w, i32_w]
      rfl
    refine take_ (i := 1) (N := some 63) (v := ?_) (a' := ?_) #[true, true, false, true, false, false, true, true, false, false, false, false, false] rfl rfl (by kernel_rfl) (fun _ _ _ h => h) (Or.inl ⟨by rfl, ?_⟩) hHeld ?_ ?_
    rotate_left
    · rintro w' ⟨s0, s1, s2⟩
      go_simp
      with_reducible rfl
    rotate_left
    · simp only [Act.put, List.setIfInBounds_toArray, List.set_cons_zero, List.set_cons_succ, i64_w, i32_w]
      rfl
    refine take_ (i := 4) (N := some 66) (v := ?_) (a' := ?_) #[true, true, false, true, true, false, true, true, false, false, false, false, false] rfl rfl (by kernel_rfl) (fun _ _ _ h => h) (Or.inl ⟨by rfl, ?_⟩) hHeld ?_ ?_
    rotate_left
    · rintro w' ⟨s0, s1, s2⟩
      go_simp
      with_reducible rfl
    rotate_left
    · simp only [Act.put, List.setIfInBounds_toArray, List.set_cons_zero, List.set_cons_succ, i64_w, i32_w]
      rfl
    refine join_ (σ := Nat × Value × Nat × Option Addr × Nat × Nat) 1 #[true, true, true, true, true, true, true, true, true, true, true, true, false] (fun s => [(64, .slice (some ⟨s.1, 0, none⟩) 0 0), (67, s.2.1), (70, .slice (some ⟨s.2.2.1, 0, none⟩) 2 2), (71, .slice s.2.2.2.1 (q.length + 2) s.2.2.2.2.1), (72, .agg #[.slice A p.length c, .slice s.2.2.2.1 (q.length + 2) s.2.2.2.2.1]), (15, .pointer (some ⟨s.2.2.2.2.2, 0, none⟩))]) (fun s w' => Sl.Sl w' 32 2 (.slice s.2.2.2.1 (q.length + 2) s.2.2.2.2.1) (q.length + 2) (cellsP q ++ cellsP newP) ∧ w'.heap[s.2.2.2.2.2]? = some (.cells #[.slice none 0 0, .slice none 0 0] 25 (0, 0)) ∧ w8.heap.size ≤ s.2.2.2.2.2 ∧ (Below w8.heap.size w8 w' ∧ w'.cell? ⟨g, 0, none⟩ = some (.slice A p.length c) ∧ w'.cell? ⟨g, 1, none⟩ = some (.slice B q.length d))) ?_ ?_
    rotate_left
    · intro hJ2_5_8_9_11
      refine join_ (σ := Nat × Value × Nat × Option Addr × Nat) 2 #[true, true, true, true, true, true, true, true, true, true, true, false, false] (fun s => [(64, .slice (some ⟨s.1, 0, none⟩) 0 0), (67, s.2.1), (70, .slice (some ⟨s.2.2.1, 0, none⟩) 2 2), (71, .slice s.2.2.2.1 (q.length + 2) s.2.2.2.2), (72, .agg #[.slice A p.length c, .slice s.2.2.2.1 (q.length + 2) s.2.2.2.2])]) (fun s w' => Sl.Sl w' 32 2 (.slice s.2.2.2.1 (q.length + 2) s.2.2.2.2) (q.length + 2) (cellsP q ++ cellsP newP) ∧ (Below w8.heap.size w8 w' ∧ w'.cell? ⟨g, 0, none⟩ = some (.slice A p.length c) ∧ w'.cell? ⟨g, 1, none⟩ = some (.slice B q.length d))) ?_ ?_
      rotate_left
      · intro hJ2_5_8_9
        refine join_ (σ := Nat × Value × Nat × Nat) 3 #[true, true, true, true, true, true, true, true, true, false, false, true, false] (fun s => [(64, .slice (some ⟨s.1, 0, none⟩) 0 0), (67, s.2.1), (70, .slice (some ⟨s.2.2.1, 0, none⟩) 2 2), (15, .pointer (some ⟨s.2.2.2, 0, none⟩))]) (fun s w' => Sl.App w' w8.heap.size 32 2 s.2.1 q.length (cellsP q) ∧ w'.heap[s.2.2.1]? = some (.cells #[.string ⟨#[110, 101, 119]⟩, .string ⟨#[49]⟩, .string ⟨#[110, 101, 119]⟩, .string ⟨#[50]⟩] 32 (0, 0)) ∧ w'.heap[s.2.2.2]? = some (.cells #[.slice none 0 0, .slice none 0 0] 25 (0, 0)) ∧ w8.heap.size ≤ s.2.2.2 ∧ (Below w8.heap.size w8 w' ∧ w'.cell? ⟨g, 0, none⟩ = some (.slice A p.length c) ∧ w'.cell? ⟨g, 1, none⟩ = some (.slice B q.length d))) ?_ ?_
        rotate_left
        · intro hJ2_5_8_11
          refine join_ (σ := Nat × Value × Nat) 4 #[true, true, true, true, true, true, true, true, true, false, false, false, false] (fun s => [(64, .slice (some ⟨s.1, 0, none⟩) 0 0), (67, s.2.1), (70, .slice (some ⟨s.2.2, 0, none⟩) 2 2)]) (fun s w' => Sl.App w' w8.heap.size 32 2 s.2.1 q.length (cellsP q) ∧ w'.heap[s.2.2]? = some (.cells #[.string ⟨#[110, 101, 119]⟩, .string ⟨#[49]⟩, .string ⟨#[110, 101, 119]⟩, .string ⟨#[50]⟩] 32 (0, 0)) ∧ (Below w8.heap.size w8 w' ∧ w'.cell? ⟨g, 0, none⟩ = some (.slice A p.length c) ∧ w'.cell? ⟨g, 1, none⟩ = some (.slice B q.length d))) ?_ ?_
          rotate_left
          · intro hJ2_5_8
            refine join_ (σ := Nat × Value × Nat) 4 #[true, true, true, true, true, true, true, true, false, false, false, true, false] (fun s => [(64, .slice (some ⟨s.1, 0, none⟩) 0 0), (67, s.2.1), (15, .pointer (some ⟨s.2.2, 0, none⟩))]) (fun s w' => Sl.App w' w8.heap.size 32 2 s.2.1 q.length (cellsP q) ∧ w'.heap[s.2.2]? = some (.cells #[.slice none 0 0, .slice none 0 0] 25 (0, 0)) ∧ w8.heap.size ≤ s.2.2 ∧ (Below w8.heap.size w8 w' ∧ w'.cell? ⟨g, 0, none⟩ = some (.slice A p.length c) ∧ w'.cell? ⟨g, 1, none⟩ = some (.slice B q.length d))) ?_ ?_
            rotate_left
            · intro hJ2_5_11
              refine join_ (σ := Nat × Nat × Nat) 4 #[true, true, true, true, true, false, true, true, true, false, false, true, false] (fun s => [(64, .slice (some ⟨s.1, 0, none⟩) 0 0), (70, .slice (some ⟨s.2.1, 0, none⟩) 2 2), (15, .pointer (some ⟨s.2.2, 0, none⟩))]) (fun s w' => w8.heap.size ≤ s.1 ∧ w'.heap[s.2.1]? = some (.cells #[.string ⟨#[110, 101, 119]⟩, .string ⟨#[49]⟩, .string ⟨#[110, 101, 119]⟩, .string ⟨#[50]⟩] 32 (0, 0)) ∧ w'.heap[s.2.2]? = some (.cells #[.slice none 0 0, .slice none 0 0] 25 (0, 0)) ∧ w8.heap.size ≤ s.2.2 ∧ (Below w8.heap.size w8 w' ∧ w'.cell? ⟨g, 0, none⟩ = some (.slice A p.length c) ∧ w'.cell? ⟨g, 1, none⟩ = some (.slice B q.length d))) ?_ ?_
              rotate_left
              · intro hJ2_8_11
                refine join_ (σ := Nat × Value) 5 #[true, true, true, true, true, true, true, true, false, false, false, false, false] (fun s => [(64, .slice (some ⟨s.1, 0, none⟩) 0 0), (67, s.2)]) (fun s w' => Sl.App w' w8.heap.size 32 2 s.2 q.length (cellsP q) ∧ (Below w8.heap.size w8 w' ∧ w'.cell? ⟨g, 0, none⟩ = some (.slice A p.length c) ∧ w'.cell? ⟨g, 1, none⟩ = some (.slice B q.length d))) ?_ ?_
                rotate_left
                · intro hJ2_5
                  refine join_ (σ := Nat × Nat) 5 #[true, true, true, true, true, false, true, true, true, false, false, false, false] (fun s => [(64, .slice (some ⟨s.1, 0, none⟩) 0 0), (70, .slice (some ⟨s.2, 0, none⟩) 2 2)]) (fun s w' => w8.heap.size ≤ s.1 ∧ w'.heap[s.2]? = some (.cells #[.string ⟨#[110, 101, 119]⟩, .string ⟨#[49]⟩, .string ⟨#[110, 101, 119]⟩, .string ⟨#[50]⟩] 32 (0, 0)) ∧ (Below w8.heap.size w8 w' ∧ w'.cell? ⟨g, 0, none⟩ = some (.slice A p.length c) ∧ w'.cell? ⟨g, 1, none⟩ = some (.slice B q.length d))) ?_ ?_
                  rotate_left
                  · intro hJ2_8
                    refine join_ (σ := Nat × Nat) 5 #[true, true, true, true, true, false, true, true, false, false, false, true, false] (fun s => [(64, .slice (some ⟨s.1, 0, none⟩) 0 0), (15, .pointer (some ⟨s.2, 0, none⟩))]) (fun s w' => w8.heap.size ≤ s.1 ∧ w'.heap[s.2]? = some (.cells #[.slice none 0 0, .slice none 0 0] 25 (0, 0)) ∧ w8.heap.size ≤ s.2 ∧ (Below w8.heap.size w8 w' ∧ w'.cell? ⟨g, 0, none⟩ = some (.slice A p.length c) ∧ w'.cell? ⟨g, 1, none⟩ = some (.slice B q.length d))) ?_ ?_
                    rotate_left
                    · intro hJ2_11
                      refine join_ (σ := Nat × Nat) 5 #[true, true, false, true, true, false, true, true, true, false, false, true, false] (fun s => [(70, .slice (some ⟨s.1, 0, none⟩) 2 2), (15, .pointer (some ⟨s.2, 0, none⟩))]) (fun s w' => w'.heap[s.1]? = some (.cells #[.string ⟨#[110, 101, 119]⟩, .string ⟨#[49]⟩, .string ⟨#[110, 101, 119]⟩, .string ⟨#[50]⟩] 32 (0, 0)) ∧ w'.heap[s.2]? = some (.cells #[.slice none 0 0, .slice none 0 0] 25 (0, 0)) ∧ w8.heap.size ≤ s.2 ∧ (Below w8.heap.size w8 w' ∧ w'.cell? ⟨g, 0, none⟩ = some (.slice A p.length c) ∧ w'.cell? ⟨g, 1, none⟩ = some (.slice B q.length d))) ?_ ?_
                      rotate_left
                      · intro hJ8_11
                        refine join_ (σ := Nat) 6 #[true, true, true, true, true, false, true, true, false, false, false, false, false] (fun s => [(64, .slice (some ⟨s, 0, none⟩) 0 0)]) (fun s w' => w8.heap.size ≤ s ∧ (Below w8.heap.size w8 w' ∧ w'.cell? ⟨g, 0, none⟩ = some (.slice A p.length c) ∧ w'.cell? ⟨g, 1, none⟩ = some (.slice B q.length d))) ?_ ?_
                        rotate_left
                        · intro hJ2
                          refine join_ (σ := Nat) 6 #[true, true, false, true, true, false, true, true, true, false, false, false, false] (fun s => [(70, .slice (some ⟨s, 0, none⟩) 2 2)]) (fun s w' => w'.heap[s]? = some (.cells #[.string ⟨#[110, 101, 119]⟩, .string ⟨#[49]⟩, .string ⟨#[110, 101, 119]⟩, .string ⟨#[50]⟩] 32 (0, 0)) ∧ (Below w8.heap.size w8 w' ∧ w'.cell? ⟨g, 0, none⟩ = some (.slice A p.length c) ∧ w'.cell? ⟨g, 1, none⟩ = some (.slice B q.length d))) ?_ ?_
                          rotate_left
                          · intro hJ8
                            refine join_ (σ := Nat) 6 #[true, true, false, true, true, false, true, true, false, false, false, true, false] (fun s => [(15, .pointer (some ⟨s, 0, none⟩))]) (fun s w' => w'.heap[s]? = some (.cells #[.slice none 0 0, .slice none 0 0] 25 (0, 0)) ∧ w8.heap.size ≤ s ∧ (Below w8.heap.size w8 w' ∧ w'.cell? ⟨g, 0, none⟩ = some (.slice A p.length c) ∧ w'.cell? ⟨g, 1, none⟩ = some (.slice B q.length d))) ?_ ?_
                            rotate_left
                            · intro hJ11
                              refine three_ (i := 2) (j := 8) (k := 11) (Ni := some 64) (Nj := some 70) (Nk := some 15) #[true, true, true, true, true, false, true, true, false, false, false, false, false] #[true, true, false, true, true, false, true, true, true, false, false, false, false] #[true, true, false, true, true, false, true, true, false, false, false, true, false] rfl rfl rfl rfl rfl rfl (by kernel_rfl) (by decide) (by decide) (by decide) (fun K hK => ?_) (fun K hK => ?_) (fun K hK => ?_)
                              · skip
                                have hz := hHeld.1.size
                                refine value_ (w1 := ?_) (v := ?_) (by rfl) rfl ?_ ?_
                                rotate_left 2
                                · go_simp
                                  constructor
                                  · rfl
                                  · rfl
                                refine hK.out _ _ ⟨(hHeld.1.alloc hHeld.1.size _), (HX.out _ (hHeld.1.alloc hHeld.1.size _)).1, (HX.out _ (hHeld.1.alloc hHeld.1.size _)).2⟩ (fun hHeld => ?_)
                                clear hK K
                                refine norm_ (a' := ?_) ?_ ?_
                                rotate_left
                                · show Act.put _ (some 64) _ = _
                                  simp only [Act.put, List.setIfInBounds_toArray, List.set_cons_zero, List.set_cons_succ, i64_w, i32_w]
                                  rfl
                                exact norm_ (by first | (simp only [putAll, Act.put, List.setIfInBounds_toArray, List.set_cons_zero, List.set_cons_succ]; done) | (simp only [putAll, Act.put, List.setIfInBounds_toArray, List.set_cons_zero, List.set_cons_succ]; rfl)) (hJ2 (W1.heap.size) _ ⟨hz, hHeld⟩)
                              · skip
                                have hz := hHeld.1.size
                                refine value_ (w1 := ?_) (v := ?_) (by rfl) rfl ?_ ?_
                                rotate_left 2
                                · go_simp
                                  constructor
                                  · rfl
                                  · rfl
                                refine hK.out _ _ ⟨(hHeld.1.alloc hHeld.1.size _), (HX.out _ (hHeld.1.alloc hHeld.1.size _)).1, (HX.out _ (hHeld.1.alloc hHeld.1.size _)).2⟩ (fun hHeld => ?_)
                                clear hK K
                                refine norm_ (a' := ?_) ?_ ?_
                                rotate_left
                                · show Act.put _ (some 70) _ = _
                                  simp only [Act.put, List.setIfInBounds_toArray, List.set_cons_zero, List.set_cons_succ, i64_w, i32_w]
                                  rfl
                                exact norm_ (by first | (simp only [putAll, Act.put, List.setIfInBounds_toArray, List.set_cons_zero, List.set_cons_succ]; done) | (simp only [putAll, Act.put, List.setIfInBounds_toArray, List.set_cons_zero, List.set_cons_succ]; rfl)) (hJ8 (W1.heap.size) _ ⟨(heap_alloc_new _ _), hHeld⟩)
                              · skip
                                have hz := hHeld.1.size
                                refine value_ (w1 := ?_) (v := ?_) (by rfl) rfl ?_ ?_
                                rotate_left 2
                                · go_simp
                                  constructor
                                  · rfl
                                  · rfl
                                refine hK.out _ _ ⟨(hHeld.1.alloc hHeld.1.size _), (HX.out _ (hHeld.1.alloc hHeld.1.size _)).1, (HX.out _ (hHeld.1.alloc hHeld.1.size _)).2⟩ (fun hHeld => ?_)
                                clear hK K
                                refine norm_ (a' := ?_) ?_ ?_
                                rotate_left
                                · show Act.put _ (some 15) _ = _
                                  simp only [Act.put, List.setIfInBounds_toArray, List.set_cons_zero, List.set_cons_succ, i64_w, i32_w]
                                  rfl
                                exact norm_ (by first | (simp only [putAll, Act.put, List.setIfInBounds_toArray, List.set_cons_zero, List.set_cons_succ]; done) | (simp only [putAll, Act.put, List.setIfInBounds_toArray, List.set_cons_zero, List.set_cons_succ]; rfl)) (hJ11 (W1.heap.size) _ ⟨(heap_alloc_new _ _), hz, hHeld⟩)
                            · skip
                              rintro b15 wn ⟨f15, g15, hHeld⟩
                              skip
                              refine norm_ (a' := ?_) ?_ ?_
                              rotate_left
                              · simp only [putAll, Act.put, List.setIfInBounds_toArray, List.set_cons_zero, List.set_cons_succ]
                                rfl
                              refine two_ (i := 2) (j := 8) (Ni := some 64) (Nj := some 70) #[true, true, true, true, true, false, true, true, false, false, false, true, false] #[true, true, false, true, true, false, true, true, true, false, false, true, false] rfl rfl rfl rfl (by kernel_rfl) (by decide) (by decide) (fun K hK => ?_) (fun K hK => ?_)
                              · skip
                                have hz := hHeld.1.size
                                refine value_ (w1 := ?_) (v := ?_) (by rfl) rfl ?_ ?_
                                rotate_left 2
                                · go_simp
                                  constructor
                                  · rfl
                                  · rfl
                                refine hK.out _ _ ⟨(hHeld.1.alloc hHeld.1.size _), (HX.out _ (hHeld.1.alloc hHeld.1.size _)).1, (HX.out _ (hHeld.1.alloc hHeld.1.size _)).2⟩ (fun hHeld => ?_)
                                clear hK K
                                refine norm_ (a' := ?_) ?_ ?_
                                rotate_left
                                · show Act.put _ (some 64) _ = _
                                  simp only [Act.put, List.setIfInBounds_toArray, List.set_cons_zero, List.set_cons_succ, i64_w, i32_w]
                                  rfl
                                exact norm_ (by first | (simp only [putAll, Act.put, List.setIfInBounds_toArray, List.set_cons_zero, List.set_cons_succ]; done) | (simp only [putAll, Act.put, List.setIfInBounds_toArray, List.set_cons_zero, List.set_cons_succ]; rfl)) (hJ2_11 ((wn.heap.size, b15)) _ ⟨hz, (blk_alloc f15 _), g15, hHeld⟩)
                              · skip
                                have hz := hHeld.1.size
                                refine value_ (w1 := ?_) (v := ?_) (by rfl) rfl ?_ ?_
                                rotate_left 2
                                · go_simp
                                  constructor
                                  · rfl
                                  · rfl
                                refine hK.out _ _ ⟨(hHeld.1.alloc hHeld.1.size _), (HX.out _ (hHeld.1.alloc hHeld.1.size _)).1, (HX.out _ (hHeld.1.alloc hHeld.1.size _)).2⟩ (fun hHeld => ?_)
                                clear hK K
                                refine norm_ (a' := ?_) ?_ ?_
                                rotate_left
                                · show Act.put _ (some 70) _ = _
                                  simp only [Act.put, List.setIfInBounds_toArray, List.set_cons_zero, List.set_cons_succ, i64_w, i32_w]
                                  rfl
                                exact norm_ (by first | (simp only [putAll, Act.put, List.setIfInBounds_toArray, List.set_cons_zero, List.set_cons_succ]; done) | (simp only [putAll, Act.put, List.setIfInBounds_toArray, List.set_cons_zero, List.set_cons_succ]; rfl)) (hJ8_11 ((wn.heap.size, b15)) _ ⟨(heap_alloc_new _ _), (blk_alloc f15 _), g15, hHeld⟩)
                          · skip
                            rintro n70 wn ⟨f70, hHeld⟩
                            skip
                            refine norm_ (a' := ?_) ?_ ?_
                            rotate_left
                            · simp only [putAll, Act.put, List.setIfInBounds_toArray, List.set_cons_zero, List.set_cons_succ]
                              rfl
                            refine two_ (i := 2) (j := 11) (Ni := some 64) (Nj := some 15) #[true, true, true, true, true, false, true, true, true, false, false, false, false] #[true, true, false, true, true, false, true, true, true, false, false, true, false] rfl rfl rfl rfl (by kernel_rfl) (by decide) (by decide) (fun K hK => ?_) (fun K hK => ?_)
                            · skip
                              have hz := hHeld.1.size
                              refine value_ (w1 := ?_) (v := ?_) (by rfl) rfl ?_ ?_
                              rotate_left 2
                              · go_simp
                                constructor
                                · rfl
                                · rfl
                              refine hK.out _ _ ⟨(hHeld.1.alloc hHeld.1.size _), (HX.out _ (hHeld.1.alloc hHeld.1.size _)).1, (HX.out _ (hHeld.1.alloc hHeld.1.size _)).2⟩ (fun hHeld => ?_)
                              clear hK K
                              refine norm_ (a' := ?_) ?_ ?_
                              rotate_left
                              · show Act.put _ (some 64) _ = _
                                simp only [Act.put, List.setIfInBounds_toArray, List.set_cons_zero, List.set_cons_succ, i64_w, i32_w]
                                rfl
                              exact norm_ (by first | (simp only [putAll, Act.put, List.setIfInBounds_toArray, List.set_cons_zero, List.set_cons_succ]; done) | (simp only [putAll, Act.put, List.setIfInBounds_toArray, List.set_cons_zero, List.set_cons_succ]; rfl)) (hJ2_8 ((wn.heap.size, n70)) _ ⟨hz, (blk_alloc f70 _), hHeld⟩)
                            · skip
                              have hz := hHeld.1.size
                              refine value_ (w1 := ?_) (v := ?_) (by rfl) rfl ?_ ?_
                              rotate_left 2
                              · go_simp
                                constructor
                                · rfl
                                · rfl
                              refine hK.out _ _ ⟨(hHeld.1.alloc hHeld.1.size _), (HX.out _ (hHeld.1.alloc hHeld.1.size _)).1, (HX.out _ (hHeld.1.alloc hHeld.1.size _)).2⟩ (fun hHeld => ?_)
                              clear hK K
                              refine norm_ (a' := ?_) ?_ ?_
                              rotate_left
                              · show Act.put _ (some 15) _ = _
                                simp only [Act.put, List.setIfInBounds_toArray, List.set_cons_zero, List.set_cons_succ, i64_w, i32_w]
                                rfl
                              exact norm_ (by first | (simp only [putAll, Act.put, List.setIfInBounds_toArray, List.set_cons_zero, List.set_cons_succ]; done) | (simp only [putAll, Act.put, List.setIfInBounds_toArray, List.set_cons_zero, List.set_cons_succ]; rfl)) (hJ8_11 ((n70, wn.heap.size)) _ ⟨(blk_alloc f70 _), (heap_alloc_new _ _), hz, hHeld⟩)
                        · skip
                          rintro b64 wn ⟨f64, hHeld⟩
                          skip
                          refine norm_ (a' := ?_) ?_ ?_
                          rotate_left
                          · simp only [putAll, Act.put, List.setIfInBounds_toArray, List.set_cons_zero, List.set_cons_succ]
                            rfl
                          refine three_ (i := 5) (j := 8) (k := 11) (Ni := some 67) (Nj := some 70) (Nk := some 15) #[true, true, true, true, true, true, true, true, false, false, false, false, false] #[true, true, true, true, true, false, true, true, true, false, false, false, false] #[true, true, true, true, true, false, true, true, false, false, false, true, false] rfl rfl rfl rfl rfl rfl (by kernel_rfl) (by decide) (by decide) (by decide) (fun K hK => ?_) (fun K hK => ?_) (fun K hK => ?_)
                          · skip
                            have hz := hHeld.1.size
                            obtain ⟨v67, w9, hrun, hA, hbb⟩ := HA1.out wn b64 hHeld.1 f64
                            refine value_ (w1 := w9) (v := v67) (by rfl) rfl ?_ ?_
                            · exact Sl.exec_app (.tmp 64) (.tmp 66) 23 rfl _ _ rfl rfl hrun
                            refine hK.out _ _ ⟨(hHeld.1.trans (hbb.mono hHeld.1.size)), (HX.out _ (hHeld.1.trans (hbb.mono hHeld.1.size))).1, (HX.out _ (hHeld.1.trans (hbb.mono hHeld.1.size))).2⟩ (fun hHeld => ?_)
                            clear hK K
                            refine norm_ (a' := ?_) ?_ ?_
                            rotate_left
                            · show Act.put _ (some 67) _ = _
                              simp only [Act.put, List.setIfInBounds_toArray, List.set_cons_zero, List.set_cons_succ, i64_w, i32_w]
                              rfl
                            exact norm_ (by first | (simp only [putAll, Act.put, List.setIfInBounds_toArray, List.set_cons_zero, List.set_cons_succ]; done) | (simp only [putAll, Act.put, List.setIfInBounds_toArray, List.set_cons_zero, List.set_cons_succ]; rfl)) (hJ2_5 ((b64, v67)) _ ⟨hA, hHeld⟩)
                          · skip
                            have hz := hHeld.1.size
                            refine value_ (w1 := ?_) (v := ?_) (by rfl) rfl ?_ ?_
                            rotate_left 2
                            · go_simp
                              constructor
                              · rfl
                              · rfl
                            refine hK.out _ _ ⟨(hHeld.1.alloc hHeld.1.size _), (HX.out _ (hHeld.1.alloc hHeld.1.size _)).1, (HX.out _ (hHeld.1.alloc hHeld.1.size _)).2⟩ (fun hHeld => ?_)
                            clear hK K
                            refine norm_ (a' := ?_) ?_ ?_
                            rotate_left
                            · show Act.put _ (some 70) _ = _
                              simp only [Act.put, List.setIfInBounds_toArray, List.set_cons_zero, List.set_cons_succ, i64_w, i32_w]
                              rfl
                            exact norm_ (by first | (simp only [putAll, Act.put, List.setIfInBounds_toArray, List.set_cons_zero, List.set_cons_succ]; done) | (simp only [putAll, Act.put, List.setIfInBounds_toArray, List.set_cons_zero, List.set_cons_succ]; rfl)) (hJ2_8 ((b64, wn.heap.size)) _ ⟨f64, (heap_alloc_new _ _), hHeld⟩)
                          · skip
                            have hz := hHeld.1.size
                            refine value_ (w1 := ?_) (v := ?_) (by rfl) rfl ?_ ?_
                            rotate_left 2
                            · go_simp
                              constructor
                              · rfl
                              · rfl
                            refine hK.out _ _ ⟨(hHeld.1.alloc hHeld.1.size _), (HX.out _ (hHeld.1.alloc hHeld.1.size _)).1, (HX.out _ (hHeld.1.alloc hHeld.1.size _)).2⟩ (fun hHeld => ?_)
                            clear hK K
                            refine norm_ (a' := ?_) ?_ ?_
                            rotate_left
                            · show Act.put _ (some 15) _ = _
                              simp only [Act.put, List.setIfInBounds_toArray, List.set_cons_zero, List.set_cons_succ, i64_w, i32_w]
                              rfl
                            exact norm_ (by first | (simp only [putAll, Act.put, List.setIfInBounds_toArray, List.set_cons_zero, List.set_cons_succ]; done) | (simp only [putAll, Act.put, List.setIfInBounds_toArray, List.set_cons_zero, List.set_cons_succ]; rfl)) (hJ2_11 ((b64, wn.heap.size)) _ ⟨f64, (heap_alloc_new _ _), hz, hHeld⟩)
                      · skip
                        rintro ⟨n70, b15⟩ wn ⟨f70, f15, g15, hHeld⟩
                        skip
                        refine norm_ (a' := ?_) ?_ ?_
                        rotate_left
                        · simp only [putAll, Act.put, List.setIfInBounds_toArray, List.set_cons_zero, List.set_cons_succ]
                          rfl
                        refine one_ (i := 2) (N := some 64) #[true, true, true, true, true, false, true, true, true, false, false, true, false] rfl rfl (by kernel_rfl) (by decide) (fun K hK => ?_)
                        have hz := hHeld.1.size
                        refine value_ (w1 := ?_) (v := ?_) (by rfl) rfl ?_ ?_
                        rotate_left 2
                        · go_simp
                          constructor
                          · rfl
                          · rfl
                        refine hK.out _ _ ⟨(hHeld.1.alloc hHeld.1.size _), (HX.out _ (hHeld.1.alloc hHeld.1.size _)).1, (HX.out _ (hHeld.1.alloc hHeld.1.size _)).2⟩ (fun hHeld => ?_)
                        clear hK K
                        refine norm_ (a' := ?_) ?_ ?_
                        rotate_left
                        · show Act.put _ (some 64) _ = _
                          simp only [Act.put, List.setIfInBounds_toArray, List.set_cons_zero, List.set_cons_succ, i64_w, i32_w]
                          rfl
                        exact norm_ (by first | (simp only [putAll, Act.put, List.setIfInBounds_toArray, List.set_cons_zero, List.set_cons_succ]; done) | (simp only [putAll, Act.put, List.setIfInBounds_toArray, List.set_cons_zero, List.set_cons_succ]; rfl)) (hJ2_8_11 ((wn.heap.size, n70, b15)) _ ⟨hz, (blk_alloc f70 _), (blk_alloc f15 _), g15, hHeld⟩)
                    · skip
                      rintro ⟨b64, b15⟩ wn ⟨f64, f15, g15, hHeld⟩
                      skip
                      refine norm_ (a' := ?_) ?_ ?_
                      rotate_left
                      · simp only [putAll, Act.put, List.setIfInBounds_toArray, List.set_cons_zero, List.set_cons_succ]
                        rfl
                      refine two_ (i := 5) (j := 8) (Ni := some 67) (Nj := some 70) #[true, true, true, true, true, true, true, true, false, false, false, true, false] #[true, true, true, true, true, false, true, true, true, false, false, true, false] rfl rfl rfl rfl (by kernel_rfl) (by decide) (by decide) (fun K hK => ?_) (fun K hK => ?_)
                      · skip
                        have hz := hHeld.1.size
                        obtain ⟨v67, w9, hrun, hA, hbb⟩ := HA1.out wn b64 hHeld.1 f64
                        refine value_ (w1 := w9) (v := v67) (by rfl) rfl ?_ ?_
                        · exact Sl.exec_app (.tmp 64) (.tmp 66) 23 rfl _ _ rfl rfl hrun
                        refine hK.out _ _ ⟨(hHeld.1.trans (hbb.mono hHeld.1.size)), (HX.out _ (hHeld.1.trans (hbb.mono hHeld.1.size))).1, (HX.out _ (hHeld.1.trans (hbb.mono hHeld.1.size))).2⟩ (fun hHeld => ?_)
                        clear hK K
                        refine norm_ (a' := ?_) ?_ ?_
                        rotate_left
                        · show Act.put _ (some 67) _ = _
                          simp only [Act.put, List.setIfInBounds_toArray, List.set_cons_zero, List.set_cons_succ, i64_w, i32_w]
                          rfl
                        exact norm_ (by first | (simp only [putAll, Act.put, List.setIfInBounds_toArray, List.set_cons_zero, List.set_cons_succ]; done) | (simp only [putAll, Act.put, List.setIfInBounds_toArray, List.set_cons_zero, List.set_cons_succ]; rfl)) (hJ2_5_11 ((b64, v67, b15)) _ ⟨hA, ((hbb.block _ (Array.getElem?_eq_some_iff.1 f15).1).trans f15), g15, hHeld⟩)
                      · skip
                        have hz := hHeld.1.size
                        refine value_ (w1 := ?_) (v := ?_) (by rfl) rfl ?_ ?_
                        rotate_left 2
                        · go_simp
                          constructor
                          · rfl
                          · rfl
                        refine hK.out _ _ ⟨(hHeld.1.alloc hHeld.1.size _), (HX.out _ (hHeld.1.alloc hHeld.1.size _)).1, (HX.out _ (hHeld.1.alloc hHeld.1.size _)).2⟩ (fun hHeld => ?_)
                        clear hK K
                        refine norm_ (a' := ?_) ?_ ?_
                        rotate_left
                        · show Act.put _ (some 70) _ = _
                          simp only [Act.put, List.setIfInBounds_toArray, List.set_cons_zero, List.set_cons_succ, i64_w, i32_w]
                          rfl
                        exact norm_ (by first | (simp only [putAll, Act.put, List.setIfInBounds_toArray, List.set_cons_zero, List.set_cons_succ]; done) | (simp only [putAll, Act.put, List.setIfInBounds_toArray, List.set_cons_zero, List.set_cons_succ]; rfl)) (hJ2_8_11 ((b64, wn.heap.size, b15)) _ ⟨f64, (heap_alloc_new _ _), (blk_alloc f15 _), g15, hHeld⟩)
                  · skip
                    rintro ⟨b64, n70⟩ wn ⟨f64, f70, hHeld⟩
                    skip
                    refine norm_ (a' := ?_) ?_ ?_
                    rotate_left
                    · simp only [putAll, Act.put, List.setIfInBounds_toArray, List.set_cons_zero, List.set_cons_succ]
                      rfl
                    refine two_ (i := 5) (j := 11) (Ni := some 67) (Nj := some 15) #[true, true, true, true, true, true, true, true, true, false, false, false, false] #[true, true, true, true, true, false, true, true, true, false, false, true, false] rfl rfl rfl rfl (by kernel_rfl) (by decide) (by decide) (fun K hK => ?_) (fun K hK => ?_)
                    · skip
                      have hz := hHeld.1.size
                      obtain ⟨v67, w9, hrun, hA, hbb⟩ := HA1.out wn b64 hHeld.1 f64
                      refine value_ (w1 := w9) (v := v67) (by rfl) rfl ?_ ?_
                      · exact Sl.exec_app (.tmp 64) (.tmp 66) 23 rfl _ _ rfl rfl hrun
                      refine hK.out _ _ ⟨(hHeld.1.trans (hbb.mono hHeld.1.size)), (HX.out _ (hHeld.1.trans (hbb.mono hHeld.1.size))).1, (HX.out _ (hHeld.1.trans (hbb.mono hHeld.1.size))).2⟩ (fun hHeld => ?_)
                      clear hK K
                      refine norm_ (a' := ?_) ?_ ?_
                      rotate_left
                      · show Act.put _ (some 67) _ = _
                        simp only [Act.put, List.setIfInBounds_toArray, List.set_cons_zero, List.set_cons_succ, i64_w, i32_w]
                        rfl
                      exact norm_ (by first | (simp only [putAll, Act.put, List.setIfInBounds_toArray, List.set_cons_zero, List.set_cons_succ]; done) | (simp only [putAll, Act.put, List.setIfInBounds_toArray, List.set_cons_zero, List.set_cons_succ]; rfl)) (hJ2_5_8 ((b64, v67, n70)) _ ⟨hA, ((hbb.block _ (Array.getElem?_eq_some_iff.1 f70).1).trans f70), hHeld⟩)
                    · skip
                      have hz := hHeld.1.size
                      refine value_ (w1 := ?_) (v := ?_) (by rfl) rfl ?_ ?_
                      rotate_left 2
                      · go_simp
                        constructor
                        · rfl
                        · rfl
                      refine hK.out _ _ ⟨(hHeld.1.alloc hHeld.1.size _), (HX.out _ (hHeld.1.alloc hHeld.1.size _)).1, (HX.out _ (hHeld.1.alloc hHeld.1.size _)).2⟩ (fun hHeld => ?_)
                      clear hK K
                      refine norm_ (a' := ?_) ?_ ?_
                      rotate_left
                      · show Act.put _ (some 15) _ = _
                        simp only [Act.put, List.setIfInBounds_toArray, List.set_cons_zero, List.set_cons_succ, i64_w, i32_w]
                        rfl
                      exact norm_ (by first | (simp only [putAll, Act.put, List.setIfInBounds_toArray, List.set_cons_zero, List.set_cons_succ]; done) | (simp only [putAll, Act.put, List.setIfInBounds_toArray, List.set_cons_zero, List.set_cons_succ]; rfl)) (hJ2_8_11 ((b64, n70, wn.heap.size)) _ ⟨f64, (blk_alloc f70 _), (heap_alloc_new _ _), hz, hHeld⟩)
                · skip
                  rintro ⟨b64, v67⟩ wn ⟨f67, hHeld⟩
                  skip
                  refine norm_ (a' := ?_) ?_ ?_
                  rotate_left
                  · simp only [putAll, Act.put, List.setIfInBounds_toArray, List.set_cons_zero, List.set_cons_succ]
                    rfl
                  refine two_ (i := 8) (j := 11) (Ni := some 70) (Nj := some 15) #[true, true, true, true, true, true, true, true, true, false, false, false, false] #[true, true, true, true, true, true, true, true, false, false, false, true, false] rfl rfl rfl rfl (by kernel_rfl) (by decide) (by decide) (fun K hK => ?_) (fun K hK => ?_)
                  · skip
                    have hz := hHeld.1.size
                    refine value_ (w1 := ?_) (v := ?_) (by rfl) rfl ?_ ?_
                    rotate_left 2
                    · go_simp
                      constructor
                      · rfl
                      · rfl
                    refine hK.out _ _ ⟨(hHeld.1.alloc hHeld.1.size _), (HX.out _ (hHeld.1.alloc hHeld.1.size _)).1, (HX.out _ (hHeld.1.alloc hHeld.1.size _)).2⟩ (fun hHeld => ?_)
                    clear hK K
                    refine norm_ (a' := ?_) ?_ ?_
                    rotate_left
                    · show Act.put _ (some 70) _ = _
                      simp only [Act.put, List.setIfInBounds_toArray, List.set_cons_zero, List.set_cons_succ, i64_w, i32_w]
                      rfl
                    exact norm_ (by first | (simp only [putAll, Act.put, List.setIfInBounds_toArray, List.set_cons_zero, List.set_cons_succ]; done) | (simp only [putAll, Act.put, List.setIfInBounds_toArray, List.set_cons_zero, List.set_cons_succ]; rfl)) (hJ2_5_8 ((b64, v67, wn.heap.size)) _ ⟨(f67.below ((Below.refl _ _).alloc (Nat.le_refl _) _)), (heap_alloc_new _ _), hHeld⟩)
                  · skip
                    have hz := hHeld.1.size
                    refine value_ (w1 := ?_) (v := ?_) (by rfl) rfl ?_ ?_
                    rotate_left 2
                    · go_simp
                      constructor
                      · rfl
                      · rfl
                    refine hK.out _ _ ⟨(hHeld.1.alloc hHeld.1.size _), (HX.out _ (hHeld.1.alloc hHeld.1.size _)).1, (HX.out _ (hHeld.1.alloc hHeld.1.size _)).2⟩ (fun hHeld => ?_)
                    clear hK K
                    refine norm_ (a' := ?_) ?_ ?_
                    rotate_left
                    · show Act.put _ (some 15) _ = _
                      simp only [Act.put, List.setIfInBounds_toArray, List.set_cons_zero, List.set_cons_succ, i64_w, i32_w]
                      rfl
                    exact norm_ (by first | (simp only [putAll, Act.put, List.setIfInBounds_toArray, List.set_cons_zero, List.set_cons_succ]; done) | (simp only [putAll, Act.put, List.setIfInBounds_toArray, List.set_cons_zero, List.set_cons_succ]; rfl)) (hJ2_5_11 ((b64, v67, wn.heap.size)) _ ⟨(f67.below ((Below.refl _ _).alloc (Nat.le_refl _) _)), (heap_alloc_new _ _), hz, hHeld⟩)
              · skip
                rintro ⟨b64, n70, b15⟩ wn ⟨f64, f70, f15, g15, hHeld⟩
                skip
                refine norm_ (a' := ?_) ?_ ?_
                rotate_left
                · simp only [putAll, Act.put, List.setIfInBounds_toArray, List.set_cons_zero, List.set_cons_succ]
                  rfl
                refine one_ (i := 5) (N := some 67) #[true, true, true, true, true, true, true, true, true, false, false, true, false] rfl rfl (by kernel_rfl) (by decide) (fun K hK => ?_)
                have hz := hHeld.1.size
                obtain ⟨v67, w9, hrun, hA, hbb⟩ := HA1.out wn b64 hHeld.1 f64
                refine value_ (w1 := w9) (v := v67) (by rfl) rfl ?_ ?_
                · exact Sl.exec_app (.tmp 64) (.tmp 66) 23 rfl _ _ rfl rfl hrun
                refine hK.out _ _ ⟨(hHeld.1.trans (hbb.mono hHeld.1.size)), (HX.out _ (hHeld.1.trans (hbb.mono hHeld.1.size))).1, (HX.out _ (hHeld.1.trans (hbb.mono hHeld.1.size))).2⟩ (fun hHeld => ?_)
                clear hK K
                refine norm_ (a' := ?_) ?_ ?_
                rotate_left
                · show Act.put _ (some 67) _ = _
                  simp only [Act.put, List.setIfInBounds_toArray, List.set_cons_zero, List.set_cons_succ, i64_w, i32_w]
                  rfl
                exact norm_ (by first | (simp only [putAll, Act.put, List.setIfInBounds_toArray, List.set_cons_zero, List.set_cons_succ]; done) | (simp only [putAll, Act.put, List.setIfInBounds_toArray, List.set_cons_zero, List.set_cons_succ]; rfl)) (hJ2_5_8_11 ((b64, v67, n70, b15)) _ ⟨hA, ((hbb.block _ (Array.getElem?_eq_some_iff.1 f70).1).trans f70), ((hbb.block _ (Array.getElem?_eq_some_iff.1 f15).1).trans f15), g15, hHeld⟩)
            · skip
              rintro ⟨b64, v67, b15⟩ wn ⟨f67, f15, g15, hHeld⟩
              skip
              refine norm_ (a' := ?_) ?_ ?_
              rotate_left
              · simp only [putAll, Act.put, List.setIfInBounds_toArray, List.set_cons_zero, List.set_cons_succ]
                rfl
              refine one_ (i := 8) (N := some 70) #[true, true, true, true, true, true, true, true, true, false, false, true, false] rfl rfl (by kernel_rfl) (by decide) (fun K hK => ?_)
              have hz := hHeld.1.size
              refine value_ (w1 := ?_) (v := ?_) (by rfl) rfl ?_ ?_
              rotate_left 2
              · go_simp
                constructor
                · rfl
                · rfl
              refine hK.out _ _ ⟨(hHeld.1.alloc hHeld.1.size _), (HX.out _ (hHeld.1.alloc hHeld.1.size _)).1, (HX.out _ (hHeld.1.alloc hHeld.1.size _)).2⟩ (fun hHeld => ?_)
              clear hK K
              refine norm_ (a' := ?_) ?_ ?_
              rotate_left
              · show Act.put _ (some 70) _ = _
                simp only [Act.put, List.setIfInBounds_toArray, List.set_cons_zero, List.set_cons_succ, i64_w, i32_w]
                rfl
              exact norm_ (by first | (simp only [putAll, Act.put, List.setIfInBounds_toArray, List.set_cons_zero, List.set_cons_succ]; done) | (simp only [putAll, Act.put, List.setIfInBounds_toArray, List.set_cons_zero, List.set_cons_succ]; rfl)) (hJ2_5_8_11 ((b64, v67, wn.heap.size, b15)) _ ⟨(f67.below ((Below.refl _ _).alloc (Nat.le_refl _) _)), (heap_alloc_new _ _), (blk_alloc f15 _), g15, hHeld⟩)
          · skip
            rintro ⟨b64, v67, n70⟩ wn ⟨f67, f70, hHeld⟩
            skip
            refine norm_ (a' := ?_) ?_ ?_
            rotate_left
            · simp only [putAll, Act.put, List.setIfInBounds_toArray, List.set_cons_zero, List.set_cons_succ]
              rfl
            refine two_ (i := 9) (j := 11) (Ni := some 71) (Nj := some 15) #[true, true, true, true, true, true, true, true, true, true, false, false, false] #[true, true, true, true, true, true, true, true, true, false, false, true, false] rfl rfl rfl rfl (by kernel_rfl) (by decide) (by decide) (fun K hK => ?_) (fun K hK => ?_)
            · skip
              have hz := hHeld.1.size
              obtain ⟨v71, w9, hrun, hS, hB9, hbx⟩ := HA2.out wn v67 n70 hHeld.1 f67 f70
              obtain ⟨a71, c71, rfl, hc71⟩ := hS.form
              refine value_ (w1 := w9) (v := .slice a71 (q.length + 2) c71) (by rfl) rfl ?_ ?_
              · exact Sl.exec_app (.tmp 67) (.tmp 70) 23 rfl _ _ rfl rfl hrun
              refine hK.out _ _ ⟨hB9, (HX.out _ hB9).1, (HX.out _ hB9).2⟩ (fun hHeld => ?_)
              clear hK K
              refine norm_ (a' := ?_) ?_ ?_
              rotate_left
              · show Act.put _ (some 71) _ = _
                simp only [Act.put, List.setIfInBounds_toArray, List.set_cons_zero, List.set_cons_succ, i64_w, i32_w]
                rfl
              refine pure_ (i := 10) (N := some 72) (v := ?_) (a' := ?_) #[true, true, true, true, true, true, true, true, true, true, true, false, false] rfl rfl (by kernel_rfl) (fun _ _ _ h => h) (Or.inl ⟨by rfl, ?_⟩) ?_ ?_
              rotate_left
              · intro w'
                go_simp
                with_reducible rfl
              rotate_left
              · simp only [Act.put, List.setIfInBounds_toArray, List.set_cons_zero, List.set_cons_succ, i64_w, i32_w]
                rfl
              exact norm_ (by first | (simp only [putAll, Act.put, List.setIfInBounds_toArray, List.set_cons_zero, List.set_cons_succ]; done) | (simp only [putAll, Act.put, List.setIfInBounds_toArray, List.set_cons_zero, List.set_cons_succ]; rfl)) (hJ2_5_8_9 ((b64, v67, n70, a71, c71)) _ ⟨hS, hHeld⟩)
            · skip
              have hz := hHeld.1.size
              refine value_ (w1 := ?_) (v := ?_) (by rfl) rfl ?_ ?_
              rotate_left 2
              · go_simp
                constructor
                · rfl
                · rfl
              refine hK.out _ _ ⟨(hHeld.1.alloc hHeld.1.size _), (HX.out _ (hHeld.1.alloc hHeld.1.size _)).1, (HX.out _ (hHeld.1.alloc hHeld.1.size _)).2⟩ (fun hHeld => ?_)
              clear hK K
              refine norm_ (a' := ?_) ?_ ?_
              rotate_left
              · show Act.put _ (some 15) _ = _
                simp only [Act.put, List.setIfInBounds_toArray, List.set_cons_zero, List.set_cons_succ, i64_w, i32_w]
                rfl
              exact norm_ (by first | (simp only [putAll, Act.put, List.setIfInBounds_toArray, List.set_cons_zero, List.set_cons_succ]; done) | (simp only [putAll, Act.put, List.setIfInBounds_toArray, List.set_cons_zero, List.set_cons_succ]; rfl)) (hJ2_5_8_11 ((b64, v67, n70, wn.heap.size)) _ ⟨(f67.below ((Below.refl _ _).alloc (Nat.le_refl _) _)), (blk_alloc f70 _), (heap_alloc_new _ _), hz, hHeld⟩)
        · skip
          rintro ⟨b64, v67, n70, b15⟩ wn ⟨f67, f70, f15, g15, hHeld⟩
          skip
          refine norm_ (a' := ?_) ?_ ?_
          rotate_left
          · simp only [putAll, Act.put, List.setIfInBounds_toArray, List.set_cons_zero, List.set_cons_succ]
            rfl
          refine one_ (i := 9) (N := some 71) #[true, true, true, true, true, true, true, true, true, true, false, true, false] rfl rfl (by kernel_rfl) (by decide) (fun K hK => ?_)
          have hz := hHeld.1.size
          obtain ⟨v71, w9, hrun, hS, hB9, hbx⟩ := HA2.out wn v67 n70 hHeld.1 f67 f70
          obtain ⟨a71, c71, rfl, hc71⟩ := hS.form
          refine value_ (w1 := w9) (v := .slice a71 (q.length + 2) c71) (by rfl) rfl ?_ ?_
          · exact Sl.exec_app (.tmp 67) (.tmp 70) 23 rfl _ _ rfl rfl hrun
          refine hK.out _ _ ⟨hB9, (HX.out _ hB9).1, (HX.out _ hB9).2⟩ (fun hHeld => ?_)
          clear hK K
          refine norm_ (a' := ?_) ?_ ?_
          rotate_left
          · show Act.put _ (some 71) _ = _
            simp only [Act.put, List.setIfInBounds_toArray, List.set_cons_zero, List.set_cons_succ, i64_w, i32_w]
            rfl
          refine pure_ (i := 10) (N := some 72) (v := ?_) (a' := ?_) #[true, true, true, true, true, true, true, true, true, true, true, true, false] rfl rfl (by kernel_rfl) (fun _ _ _ h => h) (Or.inl ⟨by rfl, ?_⟩) ?_ ?_
          rotate_left
          · intro w'
            go_simp
            with_reducible rfl
          rotate_left
          · simp only [Act.put, List.setIfInBounds_toArray, List.set_cons_zero, List.set_cons_succ, i64_w, i32_w]
            rfl
          exact norm_ (by first | (simp only [putAll, Act.put, List.setIfInBounds_toArray, List.set_cons_zero, List.set_cons_succ]; done) | (simp only [putAll, Act.put, List.setIfInBounds_toArray, List.set_cons_zero, List.set_cons_succ]; rfl)) (hJ2_5_8_9_11 ((b64, v67, n70, a71, c71, b15)) _ ⟨hS, ((hbx _ _ _ f15 (by decide)).trans f15), g15, hHeld⟩)
      · skip
        rintro ⟨b64, v67, n70, a71, c71⟩ wn ⟨f71, hHeld⟩
        skip
        refine norm_ (a' := ?_) ?_ ?_
        rotate_left
        · simp only [putAll, Act.put, List.setIfInBounds_toArray, List.set_cons_zero, List.set_cons_succ]
          rfl
        refine one_ (i := 11) (N := some 15) #[true, true, true, true, true, true, true, true, true, true, true, true, false] rfl rfl (by kernel_rfl) (by decide) (fun K hK => ?_)
        have hz := hHeld.1.size
        refine value_ (w1 := ?_) (v := ?_) (by rfl) rfl ?_ ?_
        rotate_left 2
        · go_simp
          constructor
          · rfl
          · rfl
        refine hK.out _ _ ⟨(hHeld.1.alloc hHeld.1.size _), (HX.out _ (hHeld.1.alloc hHeld.1.size _)).1, (HX.out _ (hHeld.1.alloc hHeld.1.size _)).2⟩ (fun hHeld => ?_)
        clear hK K
        refine norm_ (a' := ?_) ?_ ?_
        rotate_left
        · show Act.put _ (some 15) _ = _
          simp only [Act.put, List.setIfInBounds_toArray, List.set_cons_zero, List.set_cons_succ, i64_w, i32_w]
          rfl
        exact norm_ (by first | (simp only [putAll, Act.put, List.setIfInBounds_toArray, List.set_cons_zero, List.set_cons_succ]; done) | (simp only [putAll, Act.put, List.setIfInBounds_toArray, List.set_cons_zero, List.set_cons_succ]; rfl)) (hJ2_5_8_9_11 ((b64, v67, n70, a71, c71, wn.heap.size)) _ ⟨(f71.below ((Below.refl _ _).alloc (Nat.le_refl _) _) (Nat.le_refl _)), (heap_alloc_new _ _), hz, hHeld⟩)
    rintro ⟨b64, v67, n70, a71, c71, b15⟩ wn ⟨f71, f15, g15, hHeld⟩
    skip
    refine norm_ (a' := ?_) ?_ ?_
    rotate_left
    · simp only [putAll, Act.put, List.setIfInBounds_toArray, List.set_cons_zero, List.set_cons_succ]
      rfl
    refine last_ (i := 12) (N := none) #[true, true, true, true, true, true, true, true, true, true, true, true, true] rfl rfl (by kernel_rfl) (by decide) (fun K hK => ?_)
    have c0 : wn.cell? ⟨b15, 0, none⟩ = some (.slice none 0 0) := (blk_cell f15 0).trans rfl
    have c1 : wn.cell? ⟨b15, 1, none⟩ = some (.slice none 0 0) := (blk_cell f15 1).trans rfl
    have z0 := blk_frozen f15 0
    have z1 := blk_frozen f15 1
    refine skip_ (w1 := ?_) (by rfl) rfl ?_ ?_
    rotate_left
    · go_simp
      rfl
    refine hK.out _ _ ?_
    clear hK K
    refine done_ (by kernel_rfl) ?_
    have HL := Lib.hid (And.intro f71 (And.intro f15 (And.intro g15 hHeld.1)))
    clear f71 f15 g15 hHeld HX HA1 HA2
    go_upto_region 11 with fail
    obtain ⟨w9, hw9⟩ : ∃ x, (wn.setCell ⟨b15, 0, none⟩ (.slice A p.length c)).setCell ⟨b15, 1, none⟩ (.slice a71 (q.length + 2) c71) = x := ⟨_, rfl⟩
    have hnew : (q ++ newP).length = q.length + 2 := by simp [newP]
    have H9 : Hid (TwoU w w9 p q A c B d A' c' B' d' g g2 ∧ w9.heap[b15]? = some (.cells #[.slice A p.length c, .slice a71 (q.length + 2) c71] 25 (0, 0)) ∧ Kd.C k32 w9 a71 (q ++ newP).length (q ++ newP) ∧ q.length + 2 ≤ c71) := Lib.hid (by
      have h1 := HL.out
      have hb : Below w8.heap.size w8 w9 := by rw [← hw9]; exact (h1.2.2.2.setCell (p := ⟨b15, 0, none⟩) h1.2.2.1 _).setCell (p := ⟨b15, 1, none⟩) h1.2.2.1 _
      have hbk : w9.heap[b15]? = some (.cells #[.slice A p.length c, .slice a71 (q.length + 2) c71] 25 (0, 0)) := by rw [← hw9]; exact set_two h1.2.1 _ _
      have hs : Sl.Sl w9 32 2 (.slice a71 (q.length + 2) c71) (q.length + 2) ((q ++ newP).flatMap cellP) := by
        rw [List.flatMap_append]
        refine h1.1.move (fun k hk => ?_)
        obtain ⟨cur, hcur⟩ := (h1.1.lt k hk).2
        have hne : k ≠ b15 := by
          rintro rfl
          rw [h1.2.1] at hcur
          injection hcur with hcur
          injection hcur with _ hcur
          exact absurd hcur (by decide)
        rw [← hw9, Below.heap_setCell _ ⟨b15, 1, none⟩ _ k hne, Below.heap_setCell _ ⟨b15, 0, none⟩ _ k hne]
      obtain ⟨A5, c5, e5, h6, h7⟩ := Sl_C flatP rfl hs hnew (by omega)
      rw [hnew] at e5 h6
      cases e5
      exact ⟨H8.out.2.below hb, hbk, h7, h6⟩)
    rw [hw9]
    clear hw9 HL
    have hgn : getV ⟨#[110, 101, 119]⟩ (q ++ newP) = (⟨#[49]⟩, true) ∧ getV ⟨#[110, 101, 119]⟩ q = (⟨#[]⟩, false) := by
      have hno : ∀ x ∈ q, x.f0 ≠ ⟨#[110, 101, 119]⟩ := fun x hx => no_new _ (HP.out.1.2.2.2 x hx).1
      rw [getV_app hno, getV_none hno]
      exact ⟨rfl, rfl⟩
    have HG1 : Hid (∀ W, Below w9.heap.size w9 W → Calls Tryd.prog 18 #[.agg #[.slice A p.length c, .slice a71 (q.length + 2) c71], .string ⟨#[110, 101, 119]⟩] W fun e w' => e = .returned (.tuple #[.string ⟨#[49]⟩, .bool true]) ∧ Below W.heap.size W w') := Lib.hid (fun W hB => by
      have h := get_any A c p a71 c71 (q ++ newP) ⟨#[110, 101, 119]⟩ W ⟨Kd.C_below H9.out.1.1.reads.1 hB, H9.out.1.1.reads.2.1, Kd.C_below H9.out.2.2.1 hB, by rw [hnew]; exact H9.out.2.2.2⟩ (by omega)
      rw [hgn.1, hnew] at h
      exact h)
    have HG2 : Hid (∀ W, Below w9.heap.size w9 W → Calls Tryd.prog 18 #[.agg #[.slice A p.length c, .slice B q.length d], .string ⟨#[110, 101, 119]⟩] W fun e w' => e = .returned (.tuple #[.string ⟨#[]⟩, .bool false]) ∧ Below W.heap.size W w') := Lib.hid (fun W hB => by
      have h := get_any A c p B d q ⟨#[110, 101, 119]⟩ W ⟨Kd.C_below H9.out.1.1.reads.1 hB, H9.out.1.1.reads.2.1, Kd.C_below H9.out.1.1.reads.2.2.1 hB, H9.out.1.1.reads.2.2.2⟩ (by omega)
      rw [hgn.2] at h
      exact h)
    have HV : Hid (q.length = 0 ∨ (getV s q).2 = true) := Lib.hid (by
      rcases H8.out.1 with h | ⟨x, h1, h2⟩
      · exact .inl h
      · exact .inr (getV_some h1 h2))
    obtain ⟨V, hV⟩ : ∃ V, (getV s q).1 = V := ⟨_, rfl⟩
    obtain ⟨O, hO⟩ : ∃ O, (getV s q).2 = O := ⟨_, rfl⟩
    rw [hV, hO]
    rw [hO] at HV
    clear hV hO hnew hgn H8
    have b0 : w9.cell? ⟨b15, 0, none⟩ = some (.slice A p.length c) := (blk_cell H9.out.2.1 0).trans rfl
    have b1 : w9.cell? ⟨b15, 1, none⟩ = some (.slice a71 (q.length + 2) c71) := (blk_cell H9.out.2.1 1).trans rfl
    go_wp2_with fail
    clear b0 b1
    refine (HG1.out _ (Below.refl _ _)).mono ?_
    rintro e w10 ⟨rfl, hb10⟩
    have H10 := Lib.hid (And.intro hb10 (H9.out.1.below hb10))
    clear hb10 HG1
    have b0 : w10.cell? ⟨g, 0, none⟩ = some (.slice A p.length c) := (blk_cell H10.out.2.2.2.1 0).trans rfl
    have b1 : w10.cell? ⟨g, 1, none⟩ = some (.slice B q.length d) := (blk_cell H10.out.2.2.2.1 1).trans rfl
    go_wp2_with fail
    clear b0 b1
    refine (HG2.out _ H10.out.1).mono ?_
    rintro e w11 ⟨rfl, hb11⟩
    have H11 := Lib.hid (H10.out.2.below hb11)
    clear hb11 HG2 H10
    have b1 : w11.cell? ⟨g, 1, none⟩ = some (.slice B q.length d) := (blk_cell H11.out.2.2.1 1).trans rfl
    go_upto_region 13 with fail
    have HF : Hid (∀ e w', e = .returned (.bool true) ∧ Below w11.heap.size w11 w' → LawTrue w e w') := Lib.hid fun e w' h => ⟨h.1, (H11.out.1.2.2).trans (h.2.mono H11.out.1.2.2.size)⟩
    have HQ : ((q.length : Int) == 0) = true ∨ ((q.length : Int) == 0) = false := by cases ((q.length : Int) == 0) <;> simp
    have HOk : O = true ∨ ((q.length : Int) == 0) = true := by
      rcases HV.out with h | h
      · exact .inr (by simp [h])
      · exact .inl h
    clear HV
    rcases HQ with hz | hz
    · go_wp2_with fail
      all_goals
        refine (runs_any _).mono ?_
        rintro e w12 ⟨rfl, hb12⟩
        have H12 := Lib.hid hb12
        clear hb12
        go_wp2_with fail
        go_ret
        exact HF.out _ _ ⟨rfl, H12.out⟩
    · obtain rfl : O = true := HOk.resolve_right (by rw [hz]; decide)
      clear HOk
      go_wp2_with fail
      all_goals
        refine (runs_any _).mono ?_
        rintro e w12 ⟨rfl, hb12⟩
        have H12 := Lib.hid hb12
        clear hb12
        go_wp2_with fail
        go_ret
        exact HF.out _ _ ⟨rfl, H12.out⟩
end Go.Proofs.YtcaaggfobdfgpaaDoor.UURLGet
