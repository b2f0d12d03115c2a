/- TrapNests: First over the row of closures; what is known behind it. -/
import Derived.Test.YtcpinjdkgponnaaTrapNests3
set_option linter.unusedVariables false
set_option linter.unusedSimpArgs false
namespace Go.Proofs.Ytcpinjdkgponnaa.Trap
open Go.RowKit Go.Proofs.YtcpinjdkgponnaaW.PrintWords Go.Proofs.Ytcpinjdkgponnaa.PTrapCatches

theorem First_row (b B0 : Nat) (ad : Addr) (c : Nat) (l : List Bool) (inner : Int) (r : Nat) (w0 wr : World) (vl : Value) (i bi : Nat) (A' : Option Addr) (cf : Nat) (bs : Nat → Nat) (h : Ns b B0 (B0 + 1) ad c l inner w0 wr vl i bi (.slice A' i cf) bs) (hb : b = B0 + 3) (hi : i ≤ l.length) (hi12 : i ≤ 12) (hr : porticobook_Within.f inner 0 99 = some (r : Int)) (hr2 : r ≤ 99)
    (hct : w0.cell? ⟨B0, 0, none⟩ = some (.slice (some ad) l.length c) ∨ l = []) (hcn : w0.cell? ⟨B0 + 1, 0, none⟩ = some (.int .i64 inner)) (hca : ∀ k (hk : k < l.length), w0.cell? (ad.add k) = some (.bool l[k]) ∧ (ad.add k).block < B0) :
    Calls Try.prog 20 #[.slice A' i cf] wr fun en w' => en = .returned (firstV (firstT l i) r) ∧ ∃ v', LogAt (b - 1) b w' v' (pairs (firstN (firstT l i) i)) ∧ Logged b vl v' wr w' := by
  rcases h.row.2 with ⟨e, h0⟩ | ⟨g, cap, cur, e, hg, hh, hc, _⟩
  · injection e with e1 e2 e3
    subst e1; subst e3; subst h0
    rw [firstT_zero]
    refine (First_none wr).mono ?_
    rintro en w' ⟨rfl, hB⟩
    exact ⟨rfl, vl, h.log.kept (B := 0) hB, Logged.of_below hB⟩
  · injection e with e1 e2 e3
    subst e1; subst e3
    have hvl : ∀ k, some k = vl.ownBlock → k = b - 1 := fun k hk => by rw [h.vlb] at hk; exact Option.some.inj hk
    refine First_any (b - 1) b B0 (B0 + 1) ad c l inner r i ⟨g, 0, none⟩ cf bs vl wr h.log hi12 hi hr hr2 (fun k hk => ?_) (fun k hkl hk => ?_)
    · have hcell := h.row.cells (g := g) rfl k _ (clos_get b B0 (B0 + 1) bs i k hk)
      refine ⟨hcell, ?_, ?_⟩
      · rw [add_plain]; show g ≠ b; omega
      · rw [add_plain]; intro e; have := hvl _ e; have : g = b - 1 := this; omega
    · have hl : l ≠ [] := by rintro rfl; simp at hkl
      have hct' := hct.resolve_right hl
      obtain ⟨n1, n2, n3⟩ := h.nums k hk
      have hlo : ∀ a : Addr, a.block < b + 1 → wr.cell? a = w0.cell? a := fun a ha => h.low.cell ha
      obtain ⟨k1, k2⟩ := hca k hkl
      refine ⟨n1, (hlo ⟨B0, 0, none⟩ (by show B0 < _; omega)).trans hct', (hlo _ (by omega)).trans k1, (hlo ⟨B0 + 1, 0, none⟩ (by show B0 + 1 < _; omega)).trans hcn, ⟨by omega, by omega, by omega, by omega⟩, ⟨fun e => ?_, fun e => ?_, fun e => ?_, fun e => ?_⟩⟩
      · have := hvl _ e; omega
      · have := hvl _ e; omega
      · have := hvl _ e; omega
      · have := hvl _ e; omega
theorem firstT_lt {l : List Bool} {n k : Nat} (h : firstT l n = some k) : k < n ∧ k < l.length := by
  unfold firstT at h
  rw [List.findIdx?_eq_some_iff_getElem] at h
  obtain ⟨h1, _⟩ := h
  rw [List.length_take] at h1
  omega
/-- Two appended to the row 'seen'. -/
theorem reads_two (W : World) (j : Int) : ReadsInt (W.alloc (.cells #[.int .i64 j, .int .i64 j] 3)) .i64 (some ⟨W.heap.size, 0, none⟩) 2 [j, j] :=
  own_reads' (own_lit W 0 3 .i64 [j, j] (Nat.zero_le _) (by simp))
/-- The worlds behind First: the log; f and fault; the row 'seen'. -/
structure Fin (w : World) (b K1 K2 : Nat) (E : Int) (N : ByteArray) (P : Int) (vl : Value) (xs : List Int) (W : World) : Prop where
  log : LogAt (b - 1) b W vl xs
  x0 : W.cell? ⟨K1, 0, none⟩ = some (.int .i64 E)
  x1 : W.cell? ⟨K1, 1, none⟩ = some (.string N)
  x2 : W.cell? ⟨K1, 2, none⟩ = some (.int .i64 P)
  y0 : W.cell? ⟨K2, 0, none⟩ = some (.int .i64 E)
  y1 : W.cell? ⟨K2, 1, none⟩ = some (.string N)
  y2 : W.cell? ⟨K2, 2, none⟩ = some (.int .i64 P)
  low : Below w.heap.size w W
theorem Fin.kept {w : World} {b K1 K2 : Nat} {E : Int} {N : ByteArray} {P : Int} {vl : Value} {xs : List Int} {W W' : World} (h : Fin w b K1 K2 E N P vl xs W) (hB : Below W.heap.size W W') : Fin w b K1 K2 E N P vl xs W' :=
  ⟨h.log.kept (B := 0) hB, (hB.cell (lt_of_cell h.x0)).trans h.x0, (hB.cell (lt_of_cell h.x1)).trans h.x1, (hB.cell (lt_of_cell h.x2)).trans h.x2, (hB.cell (lt_of_cell h.y0)).trans h.y0, (hB.cell (lt_of_cell h.y1)).trans h.y1, (hB.cell (lt_of_cell h.y2)).trans h.y2, h.low.trans (hB.mono h.low.size)⟩
theorem Fin.keptK {w : World} {b K1 K2 KS : Nat} {E : Int} {N : ByteArray} {P : Int} {vl : Value} {xs : List Int} {W W' : World} (h : Fin w b K1 K2 E N P vl xs W) (hB : Below KS W W') (h1 : K1 < KS) (h2 : K2 < KS) (h3 : b < KS) (h4 : ∀ j, vl.ownBlock = some j → j < KS) (h5 : w.heap.size ≤ KS) : Fin w b K1 K2 E N P vl xs W' :=
  ⟨h.log.move hB.size (hB.block b h3) (fun j hj => hB.block j (h4 j hj)), (hB.cell h1).trans h.x0, (hB.cell h1).trans h.x1, (hB.cell h1).trans h.x2, (hB.cell h2).trans h.y0, (hB.cell h2).trans h.y1, (hB.cell h2).trans h.y2, h.low.trans (hB.mono h5)⟩
/-- The log and the row 'seen' are read. -/
theorem Fin.reads {w : World} {b K1 K2 : Nat} {E : Int} {N : ByteArray} {P : Int} {vl : Value} {xs : List Int} {W : World} (h : Fin w b K1 K2 E N P vl xs W) : ∃ A c, vl = .slice A xs.length c ∧ xs.length ≤ c ∧ Kd.C (Kd.int .i64) W A xs.length xs := by
  have hR : Kd.R (Kd.int .i64) 3 W (b - 1) (fun _ => True) vl xs := Kd.R_of_own h.log.row (fun _ _ => trivial)
  obtain ⟨A, c, e, hl, hC⟩ := Kd.R_reads hR
  exact ⟨A, c, e, hl, hC⟩
theorem three_cells {W : World} {K : Nat} {a b c x y z : Value} {t : TypeId} (h : W.heap[K]? = some (.cells #[a, b, c] t (0, 0))) : (((W.setCell ⟨K, 0, none⟩ x).setCell ⟨K, 1, none⟩ y).setCell ⟨K, 2, none⟩ z).heap[K]? = some (.cells #[x, y, z] t (0, 0)) := by
  simp [World.setCell, Array.getElem?_modify, h]
/-- What the walk makes of the worlds where one threw. -/
theorem fin_some {w w2 : World} {b : Nat} {v2 : Value} {xs : List Int} {P : Int} {N : ByteArray} {q : Nat} {t : TypeId} (hL : LogAt (b - 1) b w2 v2 xs) (hlow : Below w.heap.size w w2) :
    ∃ wC, ((w2.alloc (.cells #[.int .i64 3, .string N, .int .i64 P] t)).alloc (.cells #[.int .i64 0, .string ⟨#[]⟩, .int .i64 0] t)).drewN q = wC ∧ wC.heap.size = w2.heap.size + 1 + 1 ∧ wC.heap[w2.heap.size + 1]? = some (.cells #[.int .i64 0, .string ⟨#[]⟩, .int .i64 0] t (0, 0)) ∧
      Fin w b w2.heap.size (w2.heap.size + 1) 3 N P v2 xs ((((wC.setCell ⟨w2.heap.size + 1, 0, none⟩ (.int .i64 3)).setCell ⟨w2.heap.size + 1, 1, none⟩ (.string N)).setCell ⟨w2.heap.size + 1, 2, none⟩ (.int .i64 P)).alloc (.cells #[] 3)) := by
  obtain ⟨wC, hwC⟩ : ∃ wC, ((w2.alloc (.cells #[.int .i64 3, .string N, .int .i64 P] t)).alloc (.cells #[.int .i64 0, .string ⟨#[]⟩, .int .i64 0] t)).drewN q = wC := ⟨_, rfl⟩
  have hB : Below w2.heap.size w2 wC := by
    rw [← hwC]
    exact pw_below_drewN (((Below.refl _ _).alloc (Nat.le_refl _) _).alloc (by simp) _) q
  have hs : wC.heap.size = w2.heap.size + 1 + 1 := by
    rw [← hwC]
    show ((w2.alloc (.cells #[.int .i64 3, .string N, .int .i64 P] t)).alloc (.cells #[.int .i64 0, .string ⟨#[]⟩, .int .i64 0] t)).heap.size = _
    simp
  have h1 : wC.heap[w2.heap.size]? = some (.cells #[.int .i64 3, .string N, .int .i64 P] t (0, 0)) := by
    rw [← hwC]
    show ((w2.alloc (.cells #[.int .i64 3, .string N, .int .i64 P] t)).alloc (.cells #[.int .i64 0, .string ⟨#[]⟩, .int .i64 0] t)).heap[w2.heap.size]? = _
    rw [heap_alloc_old _ _ (by simp), heap_alloc_new]
  have h2 : wC.heap[w2.heap.size + 1]? = some (.cells #[.int .i64 0, .string ⟨#[]⟩, .int .i64 0] t (0, 0)) := by
    rw [← hwC]
    have := heap_alloc_new (w2.alloc (.cells #[.int .i64 3, .string N, .int .i64 P] t)) (.cells #[.int .i64 0, .string ⟨#[]⟩, .int .i64 0] t)
    simpa using this
  obtain ⟨wD, hwD⟩ : ∃ wD, (((wC.setCell ⟨w2.heap.size + 1, 0, none⟩ (.int .i64 3)).setCell ⟨w2.heap.size + 1, 1, none⟩ (.string N)).setCell ⟨w2.heap.size + 1, 2, none⟩ (.int .i64 P)) = wD := ⟨_, rfl⟩
  have h3 : wD.heap[w2.heap.size + 1]? = some (.cells #[.int .i64 3, .string N, .int .i64 P] t (0, 0)) := by rw [← hwD]; exact three_cells h2
  have hB2 : Below (w2.heap.size + 1) wC wD := by rw [← hwD]; exact three_below _ _ _ _ _
  have h4 : wD.heap[w2.heap.size]? = some (.cells #[.int .i64 3, .string N, .int .i64 P] t (0, 0)) := (hB2.block _ (by omega)).trans h1
  have hB3 : Below wD.heap.size wD (wD.alloc (.cells #[] 3)) := (Below.refl _ _).alloc (Nat.le_refl _) _
  have hsD := hB2.size
  have hBall : Below w2.heap.size w2 (wD.alloc (.cells #[] 3)) := (hB.trans (hB2.mono (by omega))).trans (hB3.mono (by omega))
  have h5 := (hB3.block (w2.heap.size) (by omega)).trans h4
  have h6 := (hB3.block (w2.heap.size + 1) (by omega)).trans h3
  refine ⟨wC, hwC, hs, h2, ?_⟩
  rw [hwD]
  exact ⟨hL.kept (B := 0) hBall, by simp [World.cell?, h5], by simp [World.cell?, h5], by simp [World.cell?, h5], by simp [World.cell?, h6], by simp [World.cell?, h6], by simp [World.cell?, h6], hlow.trans (hBall.mono hlow.size)⟩
end Go.Proofs.Ytcpinjdkgponnaa.Trap
