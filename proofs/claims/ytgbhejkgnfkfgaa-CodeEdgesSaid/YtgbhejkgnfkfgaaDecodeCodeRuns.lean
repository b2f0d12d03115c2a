/- code.Decode. -/
import Derived.Test.YtgbhejkgnfkfgaaPCodeRunsx5
import Derived.Test.YtgbhejkgnfkfgaaPCodeRunsx6
import Derived.Lib.Hide
set_option linter.unusedVariables false
set_option linter.unusedSimpArgs false
namespace Go.Proofs.Ytgbhejkgnfkfgaa.Cd
open Go.RowKit Go.Proofs.Ytgbhejkgnfkfgaa.Given Go.Proofs.YtgbhejkgnfkfgaaW.PrintWords Go.Proofs.YtgbhejkgnfkfgaaW.PrintLast Go.Proofs.YtgbhejkgnfkfgaaW.PrintMore Go.Proofs.Ytgbhejkgnfkfgaa.PCodeRuns

abbrev Ses := List S24 × Int × List Bool × List (List Int)
def dec (k : Nat) (l : List Int) : Option (Ses × Int) :=
  (reader_take.f [] (l, false) 8).bind fun o => if o.2.2 = true then some (([], 0, [], []), 8) else
    (code_reader_session.f k [] o.2).bind fun s => if s.2.2.2.2.2 = true then some (([], 0, [], []), 8) else
      (code_Encode.f k s.1 s.2.1 s.2.2.1 s.2.2.2.1).bind fun e => (slices_Equal_byte_byte.f k e l).bind fun b => if b = true then some ((s.1, s.2.1, s.2.2.1, s.2.2.2.1), 0) else some (([], 0, [], []), 8)
/-- A session that is read. -/
def SesV (w : World) (v : Value) (s : Ses) : Prop := ∃ (A0 : Option Addr) (c0 : Nat) (A2 : Option Addr) (c2 : Nat) (A3 : Option Addr) (c3 : Nat), v = .agg #[.slice A0 s.1.length c0, .int .i64 s.2.1, .slice A2 s.2.2.1.length c2, .slice A3 s.2.2.2.length c3] ∧ (s.1.length ≤ c0 ∧ s.2.2.1.length ≤ c2 ∧ s.2.2.2.length ≤ c3) ∧ Kd.C k24 w A0 s.1.length s.1 ∧ Kd.C Kd.bool w A2 s.2.2.1.length s.2.2.1 ∧ Kd.C (Kd.slice 3 (Kd.int .i64)) w A3 s.2.2.2.length s.2.2.2
theorem SesV.below {w w' : World} {v : Value} {s : Ses} (h : SesV w v s) (hB : Below w.heap.size w w') : SesV w' v s := by
  obtain ⟨A0, c0, A2, c2, A3, c3, e, hc, h0, h2, h3⟩ := h
  exact ⟨A0, c0, A2, c2, A3, c3, e, hc, Kd.C_below h0 hB, Kd.C_below h2 hB, Kd.C_below h3 hB⟩
theorem SesV.zero (w : World) : SesV w (.agg #[.slice none 0 0, .int .i64 0, .slice none 0 0, .slice none 0 0]) ([], 0, [], []) := ⟨none, 0, none, 0, none, 0, rfl, ⟨Nat.le_refl _, Nat.le_refl _, Nat.le_refl _⟩, Kd.C_nil _ _, Kd.C_nil _ _, Kd.C_nil _ _⟩
theorem Encode_any (k : Nat) (s : Ses) (v : Value) (w : World) (h : SesV w v s) (r : List Int) (hf : code_Encode.f k s.1 s.2.1 s.2.2.1 s.2.2.2 = some r) : Calls Try.prog 7 #[v] w fun e w' => ∃ (A : Option Addr) (c : Nat), e = .returned (.slice A r.length c) ∧ r.length ≤ c ∧ Kd.C (Kd.int .u8) w' A r.length r ∧ Below w.heap.size w w' := by
  obtain ⟨A0, c0, A2, c2, A3, c3, rfl, hc, h0, h2, h3⟩ := h
  refine (code_Encode.calls k A0 c0 s.1 s.2.1 A2 c2 s.2.2.1 A3 c3 s.2.2.2 r w h0 hc.1 h2 hc.2.1 h3 hc.2.2 hf).mono ?_
  rintro e w' ⟨v0, rfl, hr, hB⟩
  obtain ⟨A, c, rfl, hl, hC⟩ := Kd.R_reads hr
  exact ⟨A, c, rfl, hl, hC, hB⟩
theorem set4 {w0 w : World} {K : Nat} {x0 x1 x2 x3 : Value} {T : TypeId} (h : w.heap[K]? = some (.cells #[x0, x1, x2, x3] T (0, 0))) (hB : Below w0.heap.size w0 w) (hK : w0.heap.size ≤ K) (v0 v1 v2 v3 : Value) : ((((w.setCell ⟨K, 0, none⟩ v0).setCell ⟨K, 1, none⟩ v1).setCell ⟨K, 2, none⟩ v2).setCell ⟨K, 3, none⟩ v3).heap[K]? = some (.cells #[v0, v1, v2, v3] T (0, 0)) ∧ Below w0.heap.size w0 ((((w.setCell ⟨K, 0, none⟩ v0).setCell ⟨K, 1, none⟩ v1).setCell ⟨K, 2, none⟩ v2).setCell ⟨K, 3, none⟩ v3) := by
  refine ⟨by simp [World.setCell, Array.getElem?_modify, h], (((hB.setCell hK _).setCell hK _).setCell hK _).setCell hK _⟩
theorem R_set4 {α : Type} {d : Kd α} {e base : Nat} {ok : Nat → Prop} {v : Value} {xs : List α} {w : World} {K : Nat} {x0 x1 x2 x3 : Value} {T : TypeId} (h : d.R e w base ok v xs) (hb : w.heap[K]? = some (.cells #[x0, x1, x2, x3] T (0, 0))) (ht : ∀ q, q ∈ e :: d.E → q ≠ T) (v0 v1 v2 v3 : Value) : d.R e ((((w.setCell ⟨K, 0, none⟩ v0).setCell ⟨K, 1, none⟩ v1).setCell ⟨K, 2, none⟩ v2).setCell ⟨K, 3, none⟩ v3) base ok v xs := by
  have b1 : (w.setCell ⟨K, 0, none⟩ v0).heap[K]? = some (.cells #[v0, x1, x2, x3] T (0, 0)) := by simp [World.setCell, Array.getElem?_modify, hb]
  have b2 : ((w.setCell ⟨K, 0, none⟩ v0).setCell ⟨K, 1, none⟩ v1).heap[K]? = some (.cells #[v0, v1, x2, x3] T (0, 0)) := by simp [World.setCell, Array.getElem?_modify, hb]
  have b3 : (((w.setCell ⟨K, 0, none⟩ v0).setCell ⟨K, 1, none⟩ v1).setCell ⟨K, 2, none⟩ v2).heap[K]? = some (.cells #[v0, v1, v2, x3] T (0, 0)) := by simp [World.setCell, Array.getElem?_modify, hb]
  exact Kd.R_set (Kd.R_set (Kd.R_set (Kd.R_set h hb ht 0 v0) b1 ht 1 v1) b2 ht 2 v2) b3 ht 3 v3
/-- A session of rows of the call's own. -/
def SesR (w : World) (B : Nat) (A0 : Option Addr) (c0 : Nat) (A2 : Option Addr) (c2 : Nat) (A3 : Option Addr) (c3 : Nat) (s : Ses) : Prop := Kd.R k24 24 w B (fun _ => True) (.slice A0 s.1.length c0) s.1 ∧ Kd.R Kd.bool 4 w B (fun _ => True) (.slice A2 s.2.2.1.length c2) s.2.2.1 ∧ Kd.R (Kd.slice 3 (Kd.int .i64)) 45 w B (fun _ => True) (.slice A3 s.2.2.2.length c3) s.2.2.2
theorem SesR.below {w w' : World} {B : Nat} {A0 A2 A3 : Option Addr} {c0 c2 c3 : Nat} {s : Ses} (h : SesR w B A0 c0 A2 c2 A3 c3 s) (hB : Below w.heap.size w w') : SesR w' B A0 c0 A2 c2 A3 c3 s := ⟨Kd.R_below h.1 hB, Kd.R_below h.2.1 hB, Kd.R_below h.2.2 hB⟩
theorem SesR.v {w : World} {B : Nat} {A0 A2 A3 : Option Addr} {c0 c2 c3 : Nat} {s : Ses} (h : SesR w B A0 c0 A2 c2 A3 c3 s) : SesV w (.agg #[.slice A0 s.1.length c0, .int .i64 s.2.1, .slice A2 s.2.2.1.length c2, .slice A3 s.2.2.2.length c3]) s := by
  obtain ⟨_, a0, b0⟩ := Kd.R_reads' h.1
  obtain ⟨_, a2, b2⟩ := Kd.R_reads' h.2.1
  obtain ⟨_, a3, b3⟩ := Kd.R_reads' h.2.2
  exact ⟨A0, c0, A2, c2, A3, c3, rfl, ⟨a0, a2, a3⟩, b0, b2, b3⟩
theorem SesR.set4 {w : World} {B : Nat} {A0 A2 A3 : Option Addr} {c0 c2 c3 : Nat} {s : Ses} (h : SesR w B A0 c0 A2 c2 A3 c3 s) {K : Nat} {x0 x1 x2 x3 : Value} (hb : w.heap[K]? = some (.cells #[x0, x1, x2, x3] 29 (0, 0))) (v0 v1 v2 v3 : Value) : SesR ((((w.setCell ⟨K, 0, none⟩ v0).setCell ⟨K, 1, none⟩ v1).setCell ⟨K, 2, none⟩ v2).setCell ⟨K, 3, none⟩ v3) B A0 c0 A2 c2 A3 c3 s :=
  ⟨R_set4 h.1 hb (by decide) v0 v1 v2 v3, R_set4 h.2.1 hb (by decide) v0 v1 v2 v3, R_set4 h.2.2 hb (by decide) v0 v1 v2 v3⟩
theorem blk5 {w w' : World} {K : Nat} {o : Obj} (h : w.heap[K]? = some o) (hB : Below w.heap.size w w') : w'.heap[K]? = some o := (hB.block K (Array.getElem?_eq_some_iff.1 h).1).trans h
set_option maxHeartbeats 8000000 in
set_option maxRecDepth 100000 in
theorem Decode_any (k : Nat) (A : Option Addr) (n c : Nat) (l : List Int) (w : World) (hr : Kd.C (Kd.int .u8) w A n l) (hc : n ≤ c) (r : Ses × Int) (hf : dec k l = some r) : Calls Try.prog 8 #[.slice A n c] w fun e w' => ∃ v, e = .returned (.tuple #[v, .int .i64 r.2]) ∧ SesV w' v r.1 ∧ Below w.heap.size w w' := by
  obtain rfl : l.length = n := hr.1
  unfold dec at hf
  obtain ⟨⟨o1, o2⟩, ht, hf⟩ := Option.bind_eq_some_iff.1 hf
  have HA := Lib.hid (And.intro hr hc)
  have HT := Lib.hid ht
  have HF := Lib.hid hf
  clear hr hc hf ht
  go_enter Try.func8, Try.ntmps8
  go_wp2_with fail
  have hB1 : Below w.heap.size w (w.alloc (.cells #[.slice none 0 0, .int .i64 0, .slice none 0 0, .slice none 0 0] 29)) := (Below.refl _ _).alloc (Nat.le_refl _) _
  have hI := IsS51.new w (w.alloc (.cells #[.slice none 0 0, .int .i64 0, .slice none 0 0, .slice none 0 0] 29)) A c [] (l, false) hB1 HA.out
  have hk := heap_alloc_new w (.cells #[.slice none 0 0, .int .i64 0, .slice none 0 0, .slice none 0 0] 29)
  have hsz : (w.alloc (.cells #[.slice none 0 0, .int .i64 0, .slice none 0 0, .slice none 0 0] 29)).heap.size = w.heap.size + 1 := by simp
  rw [hsz] at hI
  have hB2 : Below w.heap.size w ((w.alloc (.cells #[.slice none 0 0, .int .i64 0, .slice none 0 0, .slice none 0 0] 29)).alloc (.cells #[.slice A l.length c, .bool false] 51)) := hB1.alloc hB1.size _
  have hk2 := blk5 hk ((Below.refl _ _).alloc (Nat.le_refl _) (.cells #[.slice A l.length c, .bool false] 51))
  obtain ⟨K, hKe⟩ : ∃ K, w.heap.size = K := ⟨_, rfl⟩
  obtain ⟨g, hge⟩ : ∃ g, w.heap.size + 1 = g := ⟨_, rfl⟩
  have H2 : Hid (IsS51 w ((w.alloc (.cells #[.slice none 0 0, .int .i64 0, .slice none 0 0, .slice none 0 0] 29)).alloc (.cells #[.slice A l.length c, .bool false] 51)) g [] (l, false) ∧ Below w.heap.size w ((w.alloc (.cells #[.slice none 0 0, .int .i64 0, .slice none 0 0, .slice none 0 0] 29)).alloc (.cells #[.slice A l.length c, .bool false] 51)) ∧ ((w.alloc (.cells #[.slice none 0 0, .int .i64 0, .slice none 0 0, .slice none 0 0] 29)).alloc (.cells #[.slice A l.length c, .bool false] 51)).heap[K]? = some (.cells #[.slice none 0 0, .int .i64 0, .slice none 0 0, .slice none 0 0] 29 (0, 0)) ∧ K ≠ g ∧ w.heap.size ≤ K) := Lib.hid ⟨by rw [← hge]; exact hI, hB2, by rw [← hKe]; exact hk2, by omega, by omega⟩
  clear hI hk hk2 hB1 hB2 hsz
  rw [hge]
  rw [hKe]
  clear hKe hge
  generalize (w.alloc (.cells #[.slice none 0 0, .int .i64 0, .slice none 0 0, .slice none 0 0] 29)).alloc (.cells #[.slice A l.length c, .bool false] 51) = w2 at H2 ⊢
  refine (reader_take.calls g [] (l, false) 8 o1 o2 w w2 H2.out.1 H2.out.2.1 HT.out).mono ?_
  rintro e w3 ⟨v3, rfl, _, hI3, hB3, hK3⟩
  have H3 := Lib.hid (And.intro hI3 (And.intro hB3 (And.intro (KeepBut.blk hK3 H2.out.2.2.1 H2.out.2.2.2.1 (by simp)) H2.out.2.2.2)))
  clear H2 hI3 hB3 hK3 HT
  obtain ⟨A3, c3, hb3, hg3, _⟩ := H3.out.1
  have y1 : w3.cell? ⟨g, 1, none⟩ = some (.bool o2.2) := (blk_cell hb3 1).trans rfl
  have k0 : w3.cell? ⟨K, 0, none⟩ = some (.slice none 0 0) := (blk_cell H3.out.2.2.1 0).trans rfl
  have k1 : w3.cell? ⟨K, 1, none⟩ = some (.int .i64 0) := (blk_cell H3.out.2.2.1 1).trans rfl
  have k2 : w3.cell? ⟨K, 2, none⟩ = some (.slice none 0 0) := (blk_cell H3.out.2.2.1 2).trans rfl
  have k3 : w3.cell? ⟨K, 3, none⟩ = some (.slice none 0 0) := (blk_cell H3.out.2.2.1 3).trans rfl
  have z0 := blk_frozen H3.out.2.2.1 0
  have z1 := blk_frozen H3.out.2.2.1 1
  have z2 := blk_frozen H3.out.2.2.1 2
  have z3 := blk_frozen H3.out.2.2.1 3
  clear hb3 hg3
  cases ho : o2.2 with
  | true =>
    rw [ho] at y1
    have hf := HF.out
    rw [if_pos ho] at hf
    obtain rfl := Option.some.inj hf
    clear hf HF ho
    go_wp2_with fail
    have hW := set4 H3.out.2.2.1 H3.out.2.1 H3.out.2.2.2.2 (.slice none 0 0) (.int .i64 0) (.slice none 0 0) (.slice none 0 0)
    clear k0 k1 k2 k3
    generalize ((((w3.setCell ⟨K, 0, none⟩ (.slice none 0 0)).setCell ⟨K, 1, none⟩ (.int .i64 0)).setCell ⟨K, 2, none⟩ (.slice none 0 0)).setCell ⟨K, 3, none⟩ (.slice none 0 0)) = W at hW ⊢
    have k0 : W.cell? ⟨K, 0, none⟩ = some (.slice none 0 0) := (blk_cell hW.1 0).trans rfl
    have k1 : W.cell? ⟨K, 1, none⟩ = some (.int .i64 0) := (blk_cell hW.1 1).trans rfl
    have k2 : W.cell? ⟨K, 2, none⟩ = some (.slice none 0 0) := (blk_cell hW.1 2).trans rfl
    have k3 : W.cell? ⟨K, 3, none⟩ = some (.slice none 0 0) := (blk_cell hW.1 3).trans rfl
    simp [bodyPost, results, Try.results8, go_sem, k0, k1, k2, k3]
    exact ⟨SesV.zero W, hW.2⟩
  | false =>
    rw [ho] at y1
    have hf := HF.out
    rw [if_neg (by rw [ho]; decide)] at hf
    obtain ⟨⟨r1, r2, r3, r4, o5⟩, hs, hf⟩ := Option.bind_eq_some_iff.1 hf
    have HS := Lib.hid hs
    have HF2 := Lib.hid hf
    clear hf hs HF ho k0 k1 k2 k3 z0 z1 z2 z3
    go_wp2_with fail
    refine (code_reader_session.calls k g [] o2 r1 r2 r3 r4 o5 w w3 H3.out.1 H3.out.2.1 HS.out).mono ?_
    rintro e w4 ⟨v0, v2, v3', rfl, hR0, hR2, hR3, hI4, hB4, hK4⟩
    obtain ⟨A0, c0, rfl⟩ := Kd.R_slice hR0
    obtain ⟨A2, c2, rfl⟩ := Kd.R_slice hR2
    have hR3 := Kd.S_R hR3
    obtain ⟨A4, c4, rfl⟩ := Kd.R_slice hR3
    have H4 := Lib.hid (And.intro hI4 (And.intro hB4 (And.intro (KeepBut.blk hK4 H3.out.2.2.1 H3.out.2.2.2.1 (by simp)) H3.out.2.2.2)))
    have HV := Lib.hid (show SesR w4 w3.heap.size A0 c0 A2 c2 A4 c4 (r1, r2, r3, r4) from ⟨hR0, hR2, hR3⟩)
    clear hR0 hR2 hR3 hI4 hB4 hK4 H3 y1
    go_upto_region 6 with fail
    have hBa : Below w4.heap.size w4 (w4.alloc (.cells #[.slice A0 r1.length c0, .int .i64 r2, .slice A2 r3.length c2, .slice A4 r4.length c4] 29)) := (Below.refl _ _).alloc (Nat.le_refl _) _
    have h5 := heap_alloc_new w4 (.cells #[.slice A0 r1.length c0, .int .i64 r2, .slice A2 r3.length c2, .slice A4 r4.length c4] 29)
    obtain ⟨A3, c3, hb3, hg3, _⟩ := (H4.out.1.alloc (.cells #[.slice A0 r1.length c0, .int .i64 r2, .slice A2 r3.length c2, .slice A4 r4.length c4] 29))
    have H5 := Lib.hid (And.intro (HV.out.below hBa) (And.intro (H4.out.2.1.trans (hBa.mono H4.out.2.1.size)) (And.intro (blk5 H4.out.2.2.1 hBa) (And.intro h5 H4.out.2.2.2.2))))
    clear HV H4 hBa
    generalize w4.alloc (.cells #[.slice A0 r1.length c0, .int .i64 r2, .slice A2 r3.length c2, .slice A4 r4.length c4] 29) = w5 at h5 hb3 H5 ⊢
    generalize w4.heap.size = K5 at h5 H5 ⊢
    have y1 : w5.cell? ⟨g, 1, none⟩ = some (.bool o5.2) := (blk_cell hb3 1).trans rfl
    have s0 : w5.cell? ⟨K5, 0, none⟩ = some (.slice A0 r1.length c0) := (blk_cell h5 0).trans rfl
    have s1 : w5.cell? ⟨K5, 1, none⟩ = some (.int .i64 r2) := (blk_cell h5 1).trans rfl
    have s2 : w5.cell? ⟨K5, 2, none⟩ = some (.slice A2 r3.length c2) := (blk_cell h5 2).trans rfl
    have s3 : w5.cell? ⟨K5, 3, none⟩ = some (.slice A4 r4.length c4) := (blk_cell h5 3).trans rfl
    clear hb3 hg3 h5
    cases ho : o5.2 with
    | true =>
      rw [ho] at y1
      have hf := HF2.out
      rw [if_pos ho] at hf
      obtain rfl := Option.some.inj hf
      clear hf HF2 ho
      have k0 : w5.cell? ⟨K, 0, none⟩ = some (.slice none 0 0) := (blk_cell H5.out.2.2.1 0).trans rfl
      have k1 : w5.cell? ⟨K, 1, none⟩ = some (.int .i64 0) := (blk_cell H5.out.2.2.1 1).trans rfl
      have k2 : w5.cell? ⟨K, 2, none⟩ = some (.slice none 0 0) := (blk_cell H5.out.2.2.1 2).trans rfl
      have k3 : w5.cell? ⟨K, 3, none⟩ = some (.slice none 0 0) := (blk_cell H5.out.2.2.1 3).trans rfl
      have z0 := blk_frozen H5.out.2.2.1 0
      have z1 := blk_frozen H5.out.2.2.1 1
      have z2 := blk_frozen H5.out.2.2.1 2
      have z3 := blk_frozen H5.out.2.2.1 3
      go_wp2_with fail
      have hW := set4 H5.out.2.2.1 H5.out.2.1 H5.out.2.2.2.2 (.slice none 0 0) (.int .i64 0) (.slice none 0 0) (.slice none 0 0)
      clear k0 k1 k2 k3
      generalize ((((w5.setCell ⟨K, 0, none⟩ (.slice none 0 0)).setCell ⟨K, 1, none⟩ (.int .i64 0)).setCell ⟨K, 2, none⟩ (.slice none 0 0)).setCell ⟨K, 3, none⟩ (.slice none 0 0)) = W at hW ⊢
      have k0 : W.cell? ⟨K, 0, none⟩ = some (.slice none 0 0) := (blk_cell hW.1 0).trans rfl
      have k1 : W.cell? ⟨K, 1, none⟩ = some (.int .i64 0) := (blk_cell hW.1 1).trans rfl
      have k2 : W.cell? ⟨K, 2, none⟩ = some (.slice none 0 0) := (blk_cell hW.1 2).trans rfl
      have k3 : W.cell? ⟨K, 3, none⟩ = some (.slice none 0 0) := (blk_cell hW.1 3).trans rfl
      simp [bodyPost, results, Try.results8, go_sem, k0, k1, k2, k3]
      exact ⟨SesV.zero W, hW.2⟩
    | false =>
      rw [ho] at y1
      have hf := HF2.out
      rw [if_neg (by rw [ho]; decide)] at hf
      obtain ⟨en, he, hf⟩ := Option.bind_eq_some_iff.1 hf
      obtain ⟨b, heq, hf⟩ := Option.bind_eq_some_iff.1 hf
      have HE := Lib.hid (And.intro he (And.intro heq hf))
      clear he heq hf HF2 ho
      go_wp2_with fail
      refine (Encode_any k (r1, r2, r3, r4) _ w5 H5.out.1.v en HE.out.1).mono ?_
      rintro e w6 ⟨A6, c6, rfl, hl6, hC6, hB6⟩
      have H6 := Lib.hid (And.intro (H5.out.1.below hB6) (And.intro (H5.out.2.1.trans (hB6.mono H5.out.2.1.size)) (And.intro (blk5 H5.out.2.2.1 hB6) (And.intro (blk5 H5.out.2.2.2.1 hB6) (And.intro H5.out.2.2.2.2 (And.intro hl6 hC6))))))
      clear H5 hl6 hC6 hB6 y1 s0 s1 s2 s3
      go_wp2_with fail
      refine (slices_Equal_byte_byte.calls k A6 c6 en A c l b w6 H6.out.2.2.2.2.2.2 H6.out.2.2.2.2.2.1 (Kd.C_below HA.out.1 H6.out.2.1) HA.out.2 HE.out.2.1).mono ?_
      rintro e w7 ⟨rfl, hd⟩
      obtain ⟨q7, rfl⟩ := hd.out
      have hB7 : Below w6.heap.size w6 (w6.drewN q7) := pw_below_drewN (Below.refl _ _) q7
      have H7 := Lib.hid (And.intro (H6.out.1.below hB7) (And.intro (H6.out.2.1.trans (hB7.mono H6.out.2.1.size)) (And.intro (blk5 H6.out.2.2.1 hB7) (And.intro (blk5 H6.out.2.2.2.1 hB7) H6.out.2.2.2.2.1))))
      clear H6 hB7 hd
      generalize w6.drewN q7 = w7 at H7 ⊢
      have s0 : w7.cell? ⟨K5, 0, none⟩ = some (.slice A0 r1.length c0) := (blk_cell H7.out.2.2.2.1 0).trans rfl
      have s1 : w7.cell? ⟨K5, 1, none⟩ = some (.int .i64 r2) := (blk_cell H7.out.2.2.2.1 1).trans rfl
      have s2 : w7.cell? ⟨K5, 2, none⟩ = some (.slice A2 r3.length c2) := (blk_cell H7.out.2.2.2.1 2).trans rfl
      have s3 : w7.cell? ⟨K5, 3, none⟩ = some (.slice A4 r4.length c4) := (blk_cell H7.out.2.2.2.1 3).trans rfl
      have k0 : w7.cell? ⟨K, 0, none⟩ = some (.slice none 0 0) := (blk_cell H7.out.2.2.1 0).trans rfl
      have k1 : w7.cell? ⟨K, 1, none⟩ = some (.int .i64 0) := (blk_cell H7.out.2.2.1 1).trans rfl
      have k2 : w7.cell? ⟨K, 2, none⟩ = some (.slice none 0 0) := (blk_cell H7.out.2.2.1 2).trans rfl
      have k3 : w7.cell? ⟨K, 3, none⟩ = some (.slice none 0 0) := (blk_cell H7.out.2.2.1 3).trans rfl
      have z0 := blk_frozen H7.out.2.2.1 0
      have z1 := blk_frozen H7.out.2.2.1 1
      have z2 := blk_frozen H7.out.2.2.1 2
      have z3 := blk_frozen H7.out.2.2.1 3
      have hf := HE.out.2.2
      cases b with
      | true =>
        rw [if_pos rfl] at hf
        obtain rfl := Option.some.inj hf
        clear hf HE
        go_wp2_with fail
        have hW := set4 H7.out.2.2.1 H7.out.2.1 H7.out.2.2.2.2 (.slice A0 r1.length c0) (.int .i64 r2) (.slice A2 r3.length c2) (.slice A4 r4.length c4)
        have hS := H7.out.1.set4 H7.out.2.2.1 (.slice A0 r1.length c0) (.int .i64 r2) (.slice A2 r3.length c2) (.slice A4 r4.length c4)
        clear k0 k1 k2 k3 s0 s1 s2 s3
        generalize ((((w7.setCell ⟨K, 0, none⟩ (.slice A0 r1.length c0)).setCell ⟨K, 1, none⟩ (.int .i64 r2)).setCell ⟨K, 2, none⟩ (.slice A2 r3.length c2)).setCell ⟨K, 3, none⟩ (.slice A4 r4.length c4)) = W at hW hS ⊢
        have k0 : W.cell? ⟨K, 0, none⟩ = some (.slice A0 r1.length c0) := (blk_cell hW.1 0).trans rfl
        have k1 : W.cell? ⟨K, 1, none⟩ = some (.int .i64 r2) := (blk_cell hW.1 1).trans rfl
        have k2 : W.cell? ⟨K, 2, none⟩ = some (.slice A2 r3.length c2) := (blk_cell hW.1 2).trans rfl
        have k3 : W.cell? ⟨K, 3, none⟩ = some (.slice A4 r4.length c4) := (blk_cell hW.1 3).trans rfl
        simp [bodyPost, results, Try.results8, go_sem, k0, k1, k2, k3]
        exact ⟨hS.v, hW.2⟩
      | false =>
        rw [if_neg (by decide)] at hf
        obtain rfl := Option.some.inj hf
        clear hf HE
        go_wp2_with fail
        have hW := set4 H7.out.2.2.1 H7.out.2.1 H7.out.2.2.2.2 (.slice none 0 0) (.int .i64 0) (.slice none 0 0) (.slice none 0 0)
        clear k0 k1 k2 k3 s0 s1 s2 s3
        generalize ((((w7.setCell ⟨K, 0, none⟩ (.slice none 0 0)).setCell ⟨K, 1, none⟩ (.int .i64 0)).setCell ⟨K, 2, none⟩ (.slice none 0 0)).setCell ⟨K, 3, none⟩ (.slice none 0 0)) = W at hW ⊢
        have k0 : W.cell? ⟨K, 0, none⟩ = some (.slice none 0 0) := (blk_cell hW.1 0).trans rfl
        have k1 : W.cell? ⟨K, 1, none⟩ = some (.int .i64 0) := (blk_cell hW.1 1).trans rfl
        have k2 : W.cell? ⟨K, 2, none⟩ = some (.slice none 0 0) := (blk_cell hW.1 2).trans rfl
        have k3 : W.cell? ⟨K, 3, none⟩ = some (.slice none 0 0) := (blk_cell hW.1 3).trans rfl
        simp [bodyPost, results, Try.results8, go_sem, k0, k1, k2, k3]
        exact ⟨SesV.zero W, hW.2⟩
end Go.Proofs.Ytgbhejkgnfkfgaa.Cd
