/- TrapNests: the walk. -/
import Derived.Test.YtcpinjdkgponnaaTrapNests4
import Derived.Test.YtcpinjdkgponnaaTrapRuns
set_option linter.unusedVariables false
set_option linter.unusedSimpArgs false
namespace Go.Proofs.Ytcpinjdkgponnaa.Trap
open Go.RowKit Go.Proofs.YtcpinjdkgponnaaW.PrintWords Go.Proofs.Ytcpinjdkgponnaa.PTrapCatches

set_option maxHeartbeats 2000000 in
set_option maxRecDepth 100000 in
theorem TrapNests_any (A : Option Addr) (c : Nat) (l : List Bool) (inner : Int) (w : World) (hl : ∀ i (h : i < l.length), ∃ ad, A = some ad ∧ w.cell? (ad.add i) = some (.bool l[i])) :
    Calls Try.prog 6 #[.slice A l.length c, .int .i64 inner] w fun en w' => en = .returned (.bool true) ∧ Below w.heap.size w w' := by
  obtain ⟨r, hr, hr2⟩ := within inner 99 (by omega) (by omega)
  obtain ⟨ad, had⟩ : ∃ ad : Addr, ad = A.getD ⟨0, 0, none⟩ := ⟨_, rfl⟩
  have hl' : ∀ i (h : i < l.length), A = some ad ∧ w.cell? (ad.add i) = some (.bool l[i]) := fun i h => by
    obtain ⟨ad', e, hc⟩ := hl i h
    have : ad = ad' := by rw [had, e]; rfl
    rw [this]
    exact ⟨e, hc⟩
  have HL := Lib.hid hl'
  have HR := Lib.hid (And.intro hr hr2)
  clear hl hl' had hr hr2
  have hmf : ∀ (fn : Fn) (first cap : Array Value) (w : World), (Instr.makeFunc fn first cap).run Try.prog w = .ok (.func fn first cap) w := fun _ _ _ _ => rfl
  go_enter Try.func6, Try.ntmps6
  go_wp2_with fail
  have hI : ∃ w0 b vl, ((((w.alloc (.cells #[.slice A l.length c] 36)).alloc (.cells #[.int .i64 inner] 3)).alloc (.cells #[] 3)).alloc (.cells #[.slice (some ⟨w.heap.size + 1 + 1, 0, none⟩) 0 0] 31)) = w0 ∧ b = w.heap.size + 1 + 1 + 1 ∧ w0.heap.size = b + 1 ∧ vl = .slice (some ⟨w.heap.size + 1 + 1, 0, none⟩) 0 0 ∧
      LogAt (b - 1) b w0 vl [] ∧ Below w.heap.size w w0 ∧ w0.cell? ⟨w.heap.size, 0, none⟩ = some (.slice A l.length c) ∧ w0.cell? ⟨w.heap.size + 1, 0, none⟩ = some (.int .i64 inner) := by
    refine ⟨_, w.heap.size + 1 + 1 + 1, _, rfl, rfl, by simp, rfl, ⟨?_, ?_, by simp⟩, ?_, by simp [go_sem], by simp [go_sem]⟩
    · have hb := heap_alloc_new (((w.alloc (.cells #[.slice A l.length c] 36)).alloc (.cells #[.int .i64 inner] 3)).alloc (.cells #[] 3)) (.cells #[.slice (some ⟨w.heap.size + 1 + 1, 0, none⟩) 0 0] 31)
      simpa [go_sem] using hb
    · have ho := World.ownsRow_made (base := w.heap.size + 1 + 1) (e := 3) (size := 1) ((w.alloc (.cells #[.slice A l.length c] 36)).alloc (.cells #[.int .i64 inner] 3)) #[] 0 (by simp) (by decide) (by rfl)
      have := ho.alloc (.cells #[.slice (some ⟨w.heap.size + 1 + 1, 0, none⟩) 0 0] 31)
      simpa [go_sem, nums] using this
    · exact ((((Below.refl _ _).alloc (Nat.le_refl _) _).alloc (by simp) _).alloc (by simp; omega) _).alloc (by simp; omega) _
  obtain ⟨w0, b, vl, e0, eb, hsz, ev, hLog, hlow, hct, hcn⟩ := hI
  rw [e0, ← eb]
  have hbi : w.heap.size + 1 + 1 + 1 + 1 = w0.heap.size := by omega
  have hbi2 : b + 1 = w0.heap.size := by omega
  have hNs : Ns b w.heap.size (w.heap.size + 1) ad c l inner w0 (w0.alloc (.cells #[.int .i64 0] 3)) vl 0 w0.heap.size (.slice none 0 0) (fun _ => 0) := by
    have hB : Below w0.heap.size w0 (w0.alloc (.cells #[.int .i64 0] 3)) := (Below.refl _ _).alloc (Nat.le_refl _) _
    refine ⟨hLog.kept (B := 0) hB, by rw [ev, eb]; rfl, by rw [hbi2]; exact hB, World.ownsRow_nil _ _ _ _, fun k hk => by omega, heap_alloc_new w0 _, ⟨by omega, fun k hk => by omega, by simp [Value.ownBlock]⟩, by simp; omega⟩
  have HN := Lib.hid hNs
  have HW := Lib.hid (And.intro hlow (And.intro hct (And.intro hcn (And.intro hsz eb))))
  clear hNs hlow hct hcn e0 ev hLog
  rw [hbi2]
  generalize w0.alloc (.cells #[.int .i64 0] 3) = wA at HN ⊢
  clear hbi hbi2 hsz eb
  go_loopw [6, 7, 8] (fun t6 t7 t8 wr => ∃ (i bi : Nat) (A' : Option Addr) (cf : Nat) (bs : Nat → Nat), t6 = .slice A' i cf ∧ t7 = .int .i64 (wantI (firstT l i)) ∧ t8 = .pointer (some ⟨bi, 0, none⟩) ∧ i ≤ l.length ∧ i ≤ 12 ∧ Hid (Ns b w.heap.size (w.heap.size + 1) ad c l inner w0 wr vl i bi (.slice A' i cf) bs)) (fun t _ _ _ => match t with | .slice _ n _ => 12 - n | _ => 0)
  case atStart => exact ⟨0, _, none, 0, fun _ => 0, rfl, by rw [firstT_zero]; rfl, rfl, by omega, by omega, HN.out⟩
  case round =>
    obtain ⟨i, bi, A', cf, bs, rfl, rfl, rfl, hi, hi12, HS⟩ := hrel
    have hbt : wr.cell? ⟨w.heap.size, 0, none⟩ = some (.slice A l.length c) := by
      rw [HS.out.low.cell (p := ⟨w.heap.size, 0, none⟩) (by have := HW.out.2.2.2.2; show w.heap.size < _; omega)]
      exact HW.out.2.1
    have hbi : wr.cell? ⟨bi, 0, none⟩ = some (.int .i64 (i : Int)) := by simp [World.cell?, HS.out.cur]
    by_cases c1 : i < l.length
    · by_cases c2 : i < 12
      · obtain ⟨hA, hcell0⟩ := HL.out i c1
        subst hA
        have q1 : (i : Int) < (l.length : Int) := by omega
        have q2 : (i : Int) < 12 := by omega
        have q3 : (0 : Int) ≤ (i : Int) := by omega
        have hw : wrap64 ((i : Int) + 1) = (i : Int) + 1 := by unfold wrap64; omega
        go_wp2_with (at_builtin; refine print_append (w0 := wr) (b + 1) rfl (.tmp 28) (.tmp 30) 38 1 .nilFunc 8 rfl Try.underlying38 infoFunc rfl (by decide) (.slice A' i cf) (clos b w.heap.size (w.heap.size + 1) bs i) (clo b bi w.heap.size (w.heap.size + 1)) rfl rfl rfl (by rw [clos_length]; exact HS.out.row) (Below.refl _ _) HS.out.sz (by rw [clos_length]; omega) ?_)
        intro v1 w1 hO hB hG hR
        have hlen : (clos b w.heap.size (w.heap.size + 1) bs i).length + 1 = i + 1 := by simp [clos_length]
        have hnext := HS.out.next hO hG hR ((i : Int) + 1) (by simp) hlen (by have := HW.out; omega)
        obtain ⟨A1, c1', hv1⟩ := own_slice hO
        rw [hlen] at hv1
        subst hv1
        have hfs : ∀ k, (Value.slice A' i cf).ownBlock = some k → b + 1 ≤ k := fun k hk => (HS.out.row.lt k hk).1
        have hs1 := HS.out.sz
        have old : ∀ k, k < b + 1 → w1.heap[k]? = wr.heap[k]? := fun k hk => hG.block k (by omega) (fun e => by have := hfs k e.symm; omega)
        have hbi1 : w1.cell? ⟨bi, 0, none⟩ = some (.int .i64 (i : Int)) := (World.cell?_of_block (a := ⟨bi, 0, none⟩) (hG.block bi (lt_of_cell hbi) (fun e => HS.out.bib.2.2 e.symm))).trans hbi
        have hbt1 : w1.cell? ⟨w.heap.size, 0, none⟩ = some (.slice (some ad) l.length c) := (World.cell?_of_block (a := ⟨w.heap.size, 0, none⟩) (old w.heap.size (by have := HW.out; omega))).trans hbt
        have had := lt_of_cell hcell0
        have hcell1 : w1.cell? (ad.add i) = some (.bool l[i]) := by
          have hb := HW.out
          rw [World.cell?_of_block (a := ad.add i) (old _ (by omega)), HS.out.low.cell (p := ad.add i) (by omega), hb.1.cell (p := ad.add i) had]
          exact hcell0
        have HX := Lib.hid hnext
        have hft := firstT_succ_new l i
        clear hO hB hG hR hnext hbi hbt hcell0 old hfs hs1 had HS
        cases hft0 : firstT l i with
        | some k =>
          have hwant : Hid (wantI (some k) = wantI (firstT l (i + 1))) := Lib.hid (by rw [firstT_succ_old l i k hft0])
          have hk : ¬ (wantI (some k) < 0) := by show ¬ ((k : Int) < 0); omega
          generalize hW : wantI (some k) = W at *
          clear hft hW
          cases hb : l[i] with
          | true =>
            rw [hb] at hcell1
            go_wp2_with fail
            go_roundw
            case rel => exact ⟨i + 1, _, A1, c1', _, rfl, by rw [hwant.out], rfl, by omega, by omega, HX.out⟩
            case measure => simp; omega
          | false =>
            rw [hb] at hcell1
            go_wp2_with fail
            go_roundw
            case rel => exact ⟨i + 1, _, A1, c1', _, rfl, by rw [hwant.out], rfl, by omega, by omega, HX.out⟩
            case measure => simp; omega
        | none =>
          have hft1 := hft hft0 c1
          clear hft
          rw [show wantI none = -1 from rfl]
          cases hb : l[i] with
          | true =>
            rw [hb] at hcell1 hft1
            have hwant : Hid (wantI (firstT l (i + 1)) = (i : Int)) := Lib.hid (by rw [hft1]; rfl)
            clear hft1
            go_wp2_with fail
            go_roundw
            case rel => exact ⟨i + 1, _, A1, c1', _, rfl, by rw [hwant.out], rfl, by omega, by omega, HX.out⟩
            case measure => simp; omega
          | false =>
            rw [hb] at hcell1 hft1
            have hwant : Hid (wantI (firstT l (i + 1)) = -1) := Lib.hid (by rw [hft1]; rfl)
            clear hft1
            go_wp2_with fail
            go_roundw
            case rel => exact ⟨i + 1, _, A1, c1', _, rfl, by rw [hwant.out], rfl, by omega, by omega, HX.out⟩
            case measure => simp; omega
      · have q1 : (i : Int) < (l.length : Int) := by omega
        have q2 : ¬ (i : Int) < 12 := by omega
        go_wp2_with fail
        have hctA : w0.cell? ⟨w.heap.size, 0, none⟩ = some (.slice (some ad) l.length c) ∨ l = [] := by
          rcases Nat.eq_zero_or_pos l.length with h0 | h0
          · exact Or.inr (List.length_eq_zero_iff.1 h0)
          · left
            have := (HL.out 0 h0).1
            rw [← this]
            exact HW.out.2.1
        have hcaA : ∀ k (hk : k < l.length), w0.cell? (ad.add k) = some (.bool l[k]) ∧ (ad.add k).block < w.heap.size := fun k hk => by
          have h1 := (HL.out k hk).2
          exact ⟨(HW.out.1.cell (lt_of_cell h1)).trans h1, lt_of_cell h1⟩
        have hsz := HW.out.2.2.2.1
        have hlowr : Below w.heap.size w wr := HW.out.1.trans (HS.out.low.mono (by have := HW.out; omega))
        refine (First_row b w.heap.size ad c l inner r w0 wr vl i bi A' cf bs HS.out (by have := HW.out; omega) hi hi12 HR.out.1 (by have := HR.out.2; omega) hctA HW.out.2.2.1 hcaA).mono ?_
        rintro en w2 ⟨rfl, v2, hA, hG⟩
        have hlow2 : Below w.heap.size w w2 := by
          have hb := HW.out.2.2.2.2
          have h1 := hlowr.size
          exact ⟨hG.os.trans hlowr.os, hG.tape.trans hlowr.tape, hG.output.trans hlowr.output, Nat.le_trans h1 hG.size, fun j hj => (hG.block j (by omega) (by omega) (fun e => by rw [HS.out.vlb] at e; have := Option.some.inj e; omega)).trans (hlowr.block j hj)⟩
        have hcn2 : w2.cell? ⟨w.heap.size + 1, 0, none⟩ = some (.int .i64 inner) := by
          have hb := HW.out.2.2.2.2
          have h1 : wr.cell? ⟨w.heap.size + 1, 0, none⟩ = some (.int .i64 inner) := (HS.out.low.cell (p := ⟨w.heap.size + 1, 0, none⟩) (by show w.heap.size + 1 < _; omega)).trans HW.out.2.2.1
          exact (World.cell?_of_block (a := ⟨w.heap.size + 1, 0, none⟩) (hG.block _ (lt_of_cell h1) (by show w.heap.size + 1 ≠ b; omega) (fun e => by rw [HS.out.vlb] at e; have : w.heap.size + 1 = b - 1 := Option.some.inj e; omega))).trans h1
        have HA := Lib.hid (And.intro hA (And.intro hlow2 hcn2))
        have hio : Hid (i ≤ 12) := Lib.hid hi12
        clear hA hG hlow2 hcn2 hlowr hctA hcaA hsz HL HW HS hbt hbi
        cases ho : firstT l i with
        | none =>
          rw [ho] at HA
          have HA : Hid (LogAt (b - 1) b w2 v2 (pairs i) ∧ Below w.heap.size w w2 ∧ w2.cell? ⟨w.heap.size + 1, 0, none⟩ = some (.int .i64 inner)) := HA
          rw [show firstV none r = .tuple #[flt 0 ⟨#[]⟩ 0, .int .i64 (-1)] from rfl, show wantI none = -1 from rfl]
          go_wp2_with fail
          have hK : ∃ K1 K2 KS wB, K1 = w2.heap.size ∧ K2 = w2.heap.size + 1 ∧ KS = w2.heap.size + 1 + 1 ∧ ((w2.alloc (.cells #[.int .i64 0, .string ⟨#[]⟩, .int .i64 0] 24)).alloc (.cells #[.int .i64 0, .string ⟨#[]⟩, .int .i64 0] 24)).alloc (.cells #[] 3) = wB ∧ wB.heap.size = KS + 1 ∧ Fin w b K1 K2 0 ⟨#[]⟩ 0 v2 (pairs i) wB ∧ wB.ownsRow KS 3 1 (.slice (some ⟨KS, 0, none⟩) 0 0) 0 (nums .i64 []) := by
            refine ⟨_, _, _, _, rfl, rfl, rfl, rfl, by simp, ⟨?_, by simp [go_sem], by simp [go_sem], by simp [go_sem], by simp [go_sem], by simp [go_sem], by simp [go_sem], ?_⟩, ?_⟩
            · exact HA.out.1.kept (B := 0) ((((Below.refl _ _).alloc (Nat.le_refl _) _).alloc (by simp) _).alloc (by simp; omega) _)
            · exact HA.out.2.1.trans ((((Below.refl _ _).alloc HA.out.2.1.size _).alloc (by simp; have := HA.out.2.1.size; omega) _).alloc (by simp; have := HA.out.2.1.size; omega) _)
            · have ho := World.ownsRow_made (base := w2.heap.size + 1 + 1) (e := 3) (size := 1) ((w2.alloc (.cells #[.int .i64 0, .string ⟨#[]⟩, .int .i64 0] 24)).alloc (.cells #[.int .i64 0, .string ⟨#[]⟩, .int .i64 0] 24)) #[] 0 (by simp) (by decide) (by rfl)
              simpa [go_sem, nums] using ho
          obtain ⟨K1, K2, KS, wB, e1, e2, e3, e4, hsB, hFin, hown⟩ := hK
          rw [e4, ← e1]
          have hKs : Hid (K1 < KS ∧ K2 < KS ∧ b < KS ∧ (∀ j, v2.ownBlock = some j → j < KS) ∧ w.heap.size ≤ KS ∧ i ≤ 12) := Lib.hid ⟨by omega, by omega, by have := HA.out.1.lt; omega, fun j hj => by have := (HA.out.1.rowLt j hj).2; omega, by have := HA.out.2.1.size; omega, hio.out⟩
          have e5 : w2.heap.size + 1 + 1 = KS := e3.symm
          have e6 : K1 + 1 = K2 := by omega
          have e7 : K1 + 1 + 1 = KS := by omega
          try rw [e7]
          try rw [e6]
          have HF := Lib.hid (And.intro hFin (And.intro hown hsB))
          clear hFin hown hsB e1 e2 e3 e4 e5 e6 e7 HA
          go_loopw [13, 14] (fun t13 t14 wr => ∃ (j : Nat) (A2 : Option Addr) (c2 : Nat), t14 = .int .i64 (j : Int) ∧ t13 = .slice A2 (2 * j) c2 ∧ j ≤ i ∧ Hid (Fin w b K1 K2 0 ⟨#[]⟩ 0 v2 (pairs (i)) wr ∧ wr.ownsRow KS 3 1 (.slice A2 (2 * j) c2) (2 * j) (nums .i64 (pairs j)) ∧ KS ≤ wr.heap.size)) (fun _ t _ => (13 - intOf t).toNat)
          case atStart => exact ⟨0, _, _, rfl, rfl, by omega, HF.out.1, HF.out.2.1, by have := HF.out.2.2; omega⟩
          case round =>
            obtain ⟨j, A2, c2, rfl, rfl, hj, HI⟩ := hrel
            have hj12 : j ≤ 12 := by have := hKs.out; omega
            by_cases d1 : j < i
            · have r1 : (j : Int) < (i : Int) := by omega
              have hw2 : wrap64 ((j : Int) + 1) = (j : Int) + 1 := by unfold wrap64; omega
              have hrow : (wr.alloc (.cells #[.int .i64 (j : Int), .int .i64 (j : Int)] 3)).ownsRow KS 3 1 (.slice A2 (2 * j) c2) (pairs j).length (nums .i64 (pairs j)) := by rw [pairs_length]; exact HI.out.2.1.alloc _
              have HRow := Lib.hid hrow
              have hle : KS ≤ (wr.alloc (.cells #[.int .i64 (j : Int), .int .i64 (j : Int)] 3)).heap.size := by have := HI.out.2.2; simp; omega
              have HLe := Lib.hid hle
              clear hrow hle
              go_wp2_with (at_builtin; refine print_append_row (w0 := wr.alloc (.cells #[.int .i64 (j : Int), .int .i64 (j : Int)] 3)) KS rfl (.tmp 65) (.tmp 68) 31 3 .i64 8 rfl Try.underlying31 infoInt (by decide) (.slice A2 (2 * j) c2) (pairs j) [(j : Int), (j : Int)] (some ⟨wr.heap.size, 0, none⟩) 2 2 rfl rfl HRow.out (reads_two wr (j : Int)) (Below.refl _ _) HLe.out (by rw [pairs_length]; omega) ?_)
              intro v3 w3 hO hB hG hR
              have hlen3 : (pairs j ++ [(j : Int), (j : Int)]).length = 2 * (j + 1) := by simp [pairs_length]; omega
              have hO' : w3.ownsRow KS 3 1 v3 (2 * (j + 1)) (nums .i64 (pairs (j + 1))) := by rw [← hlen3]; simpa [pairs] using hO
              obtain ⟨A3, c3, hv3⟩ := own_slice hO'
              have hk := hKs.out
              have hB2 : Below KS wr w3 := (((Below.refl _ _).alloc HI.out.2.2 _).trans hB)
              have HN3 := Lib.hid (And.intro (HI.out.1.keptK hB2 hk.1 hk.2.1 hk.2.2.1 hk.2.2.2.1 hk.2.2.2.2.1) (And.intro hO' (Nat.le_trans HI.out.2.2 hB2.size)))
              rw [hv3] at HN3 ⊢
              clear hO hB hG hR hO' hv3 hB2 hk HI HRow HLe
              go_wp2_with fail
              go_roundw
              case rel => exact ⟨j + 1, A3, c3, by first | rfl | simp, rfl, by omega, HN3⟩
              case measure => simp [intOf]; omega
            · have r1 : ¬ (j : Int) < (i : Int) := by omega
              have hjn : Hid (j = i) := Lib.hid (by omega)
              go_wp2_with fail
              refine (First_none wr).mono ?_
              rintro en w4 ⟨rfl, hB4⟩
              have hF4 := HI.out.1.kept (hB4.alloc hB4.size (.cells #[.int .i64 0, .string ⟨#[]⟩, .int .i64 0] 24))
              have hrow4 : (w4.alloc (.cells #[.int .i64 0, .string ⟨#[]⟩, .int .i64 0] 24)).ownsRow KS 3 1 (.slice A2 (2 * j) c2) (2 * j) (nums .i64 (pairs j)) := (own_move HI.out.2.1 (fun q hq => hB4.block q (HI.out.2.1.lt q hq).2)).alloc _
              obtain ⟨Al, cl, hvl, hcl, hCl⟩ := hF4.reads
              have hCs : 2 * j ≤ c2 ∧ Kd.C (Kd.int .i64) (w4.alloc (.cells #[.int .i64 0, .string ⟨#[]⟩, .int .i64 0] 24)) A2 (pairs j).length (pairs j) := by
                have hR : Kd.R (Kd.int .i64) 3 (w4.alloc (.cells #[.int .i64 0, .string ⟨#[]⟩, .int .i64 0] 24)) KS (fun _ => True) (.slice A2 (2 * j) c2) (pairs j) := Kd.R_of_own (by rw [pairs_length]; exact hrow4) (fun _ _ => trivial)
                have h5 := Kd.R_reads' hR
                exact ⟨by have := h5.2.1; omega, h5.2.2⟩
              have k0 := hF4.x0
              have k1 := hF4.x1
              have k2 := hF4.x2
              have y0 := hF4.y0
              have y1 := hF4.y1
              have y2 := hF4.y2
              have kl := hF4.log.cell
              rw [hvl] at kl
              have HS := Lib.hid (And.intro hCl (And.intro hcl (And.intro hCs.2 (And.intro hCs.1 hF4.low))))
              have hz0 : (w4.alloc (.cells #[.int .i64 0, .string ⟨#[]⟩, .int .i64 0] 24)).cell? ⟨w4.heap.size, 0, none⟩ = some (.int .i64 0) := by simp [go_sem]
              have hz1 : (w4.alloc (.cells #[.int .i64 0, .string ⟨#[]⟩, .int .i64 0] 24)).cell? ⟨w4.heap.size, 1, none⟩ = some (.string ⟨#[]⟩) := by simp [go_sem]
              have hz2 : (w4.alloc (.cells #[.int .i64 0, .string ⟨#[]⟩, .int .i64 0] 24)).cell? ⟨w4.heap.size, 2, none⟩ = some (.int .i64 0) := by simp [go_sem]
              clear hF4 hrow4 hCl hcl hCs hvl hB4 HI HF
              have hll : Hid ((pairs (i)).length = 2 * j ∧ pairs (i) = pairs j) := Lib.hid (by rw [← hjn.out]; exact ⟨pairs_length j, rfl⟩)
              rw [hll.out.1] at kl
              go_wp2_with fail
              have hSame : Calls Try.prog 16 #[.slice Al (2 * j) cl, .slice A2 (2 * j) c2] (w4.alloc (.cells #[.int .i64 0, .string ⟨#[]⟩, .int .i64 0] 24)) fun e w' => e = .returned (.bool true) ∧ Drawn0 (w4.alloc (.cells #[.int .i64 0, .string ⟨#[]⟩, .int .i64 0] 24)) w' := by
                have h1 := HS.out.1
                have h2 := HS.out.2.1
                rw [hll.out.2] at h1 h2
                have := porticobook_Same_int.calls _ Al cl (pairs j) A2 c2 (pairs j) true _ h1 h2 HS.out.2.2.1 (by rw [pairs_length]; exact HS.out.2.2.2.1) (same_self (pairs j) (by rw [pairs_length]; omega))
                rwa [pairs_length] at this
              refine hSame.mono ?_
              rintro en w5 ⟨rfl, ⟨q5, rfl⟩⟩
              have hlow5 := Lib.hid (pw_below_drewN HS.out.2.2.2.2 q5)
              clear hSame HS
              go_wp2_with fail
              refine (TrapRuns_any _).mono ?_
              rintro en w6 ⟨rfl, hB6⟩
              have hlow6 := Lib.hid (hlow5.out.trans (hB6.mono hlow5.out.size))
              clear hB6
              go_wp2_with fail
              go_ret
              exact ⟨rfl, hlow6.out⟩
        | some k =>
          rw [ho] at HA
          have HA : Hid (LogAt (b - 1) b w2 v2 (pairs (k + 1)) ∧ Below w.heap.size w w2 ∧ w2.cell? ⟨w.heap.size + 1, 0, none⟩ = some (.int .i64 inner)) := HA
          have hk12 : k < i := (firstT_lt ho).1
          rw [show firstV (some k) r = .tuple #[flt 3 ⟨#[111, 117, 116]⟩ ((k : Int) + (r : Int)), .int .i64 (k : Int)] from rfl, show wantI (some k) = (k : Int) from rfl]
          have hcn3 : ∀ o1 o2, ((w2.alloc o1).alloc o2).cell? ⟨w.heap.size + 1, 0, none⟩ = some (.int .i64 inner) := fun o1 o2 => ((((Below.refl w2.heap.size w2).alloc (Nat.le_refl _) o1).alloc (by simp) o2).cell (lt_of_cell HA.out.2.2)).trans HA.out.2.2
          have hwk : wrap64 ((k : Int) + 1) = (k : Int) + 1 := by unfold wrap64; omega
          have hwr : wrap64 ((k : Int) + (r : Int)) = (k : Int) + (r : Int) := by have := HR.out.2; unfold wrap64; omega
          go_wp2_with fail
          refine (porticobook_Within.calls inner 0 99 _ _ HR.out.1).mono ?_
          rintro e w7 ⟨rfl, ⟨q, rfl⟩⟩
          obtain ⟨wC, eC, hsC, h2C, hFin⟩ := fin_some (q := q) (P := (k : Int) + (r : Int)) (N := ⟨#[111, 117, 116]⟩) (t := 24) HA.out.1 HA.out.2.1
          rw [eC]
          have hK : Hid (w2.heap.size < wC.heap.size ∧ w2.heap.size + 1 < wC.heap.size ∧ b < wC.heap.size ∧ (∀ j, v2.ownBlock = some j → j < wC.heap.size) ∧ w.heap.size ≤ wC.heap.size ∧ k + 1 ≤ 12) := Lib.hid ⟨by omega, by omega, by have := HA.out.1.lt; omega, fun j hj => by have := (HA.out.1.rowLt j hj).2; omega, by have := HA.out.2.1.size; omega, by have := hio.out; omega⟩
          obtain ⟨K1, e1⟩ : ∃ K1, w2.heap.size = K1 := ⟨_, rfl⟩
          obtain ⟨K2, e2⟩ : ∃ K2, K1 + 1 = K2 := ⟨_, rfl⟩
          rw [e1, e2] at hK hFin h2C
          rw [e1, e2]
          have z0 : wC.cell? ⟨K2, 0, none⟩ = some (.int .i64 0) := by simp [World.cell?, h2C]
          have z1 : wC.cell? ⟨K2, 1, none⟩ = some (.string ⟨#[]⟩) := by simp [World.cell?, h2C]
          have z2 : wC.cell? ⟨K2, 2, none⟩ = some (.int .i64 0) := by simp [World.cell?, h2C]
          have g0 : wC.frozen? ⟨K2, 0, none⟩ = false := by simp [World.frozen?, h2C]
          have g1 : wC.frozen? ⟨K2, 1, none⟩ = false := by simp [World.frozen?, h2C]
          have g2 : wC.frozen? ⟨K2, 2, none⟩ = false := by simp [World.frozen?, h2C]
          have HFin := Lib.hid hFin
          have HsC := Lib.hid hsC
          clear hFin hsC h2C eC e1 e2 hcn3 HA
          go_wp2_with fail
          have hown : ((((wC.setCell ⟨K2, 0, none⟩ (.int .i64 3)).setCell ⟨K2, 1, none⟩ (.string ⟨#[111, 117, 116]⟩)).setCell ⟨K2, 2, none⟩ (.int .i64 ((k : Int) + (r : Int)))).alloc (.cells #[] 3)).ownsRow wC.heap.size 3 1 (.slice (some ⟨wC.heap.size, 0, none⟩) 0 0) 0 (nums .i64 []) := by
            have ho := World.ownsRow_made (base := wC.heap.size) (e := 3) (size := 1) (((wC.setCell ⟨K2, 0, none⟩ (.int .i64 3)).setCell ⟨K2, 1, none⟩ (.string ⟨#[111, 117, 116]⟩)).setCell ⟨K2, 2, none⟩ (.int .i64 ((k : Int) + (r : Int)))) #[] 0 (by simp [World.setCell]) (by decide) (by rfl)
            have hs : (((wC.setCell ⟨K2, 0, none⟩ (.int .i64 3)).setCell ⟨K2, 1, none⟩ (.string ⟨#[111, 117, 116]⟩)).setCell ⟨K2, 2, none⟩ (.int .i64 ((k : Int) + (r : Int)))).heap.size = wC.heap.size := by simp [World.setCell]
            rw [hs] at ho
            exact ho
          have hsB : ((((wC.setCell ⟨K2, 0, none⟩ (.int .i64 3)).setCell ⟨K2, 1, none⟩ (.string ⟨#[111, 117, 116]⟩)).setCell ⟨K2, 2, none⟩ (.int .i64 ((k : Int) + (r : Int)))).alloc (.cells #[] 3)).heap.size = wC.heap.size + 1 := by simp [World.setCell]
          have HF := Lib.hid (And.intro HFin.out (And.intro hown hsB))
          have hKs : Hid (K1 < wC.heap.size ∧ K2 < wC.heap.size ∧ b < wC.heap.size ∧ (∀ j, v2.ownBlock = some j → j < wC.heap.size) ∧ w.heap.size ≤ wC.heap.size ∧ k + 1 ≤ 12) := hK
          clear hown hsB HFin HsC z0 z1 z2 g0 g1 g2 hK
          generalize (((wC.setCell ⟨K2, 0, none⟩ (.int .i64 3)).setCell ⟨K2, 1, none⟩ (.string ⟨#[111, 117, 116]⟩)).setCell ⟨K2, 2, none⟩ (.int .i64 ((k : Int) + (r : Int)))).alloc (.cells #[] 3) = wB at HF ⊢
          generalize wC.heap.size = KS at HF hKs ⊢
          obtain ⟨M, hM⟩ : ∃ M : Nat, k + 1 = M := ⟨_, rfl⟩
          have hM2 : (k : Int) + 1 = (M : Int) := by omega
          rw [hM] at HF hKs
          rw [hM2]
          try rw [hwr]
          clear hwk hwr
          go_loopw [13, 14] (fun t13 t14 wr => ∃ (j : Nat) (A2 : Option Addr) (c2 : Nat), t14 = .int .i64 (j : Int) ∧ t13 = .slice A2 (2 * j) c2 ∧ j ≤ M ∧ Hid (Fin w b K1 K2 3 ⟨#[111, 117, 116]⟩ ((k : Int) + (r : Int)) v2 (pairs (M)) wr ∧ wr.ownsRow KS 3 1 (.slice A2 (2 * j) c2) (2 * j) (nums .i64 (pairs j)) ∧ KS ≤ wr.heap.size)) (fun _ t _ => (13 - intOf t).toNat)
          case atStart => exact ⟨0, _, _, rfl, rfl, by omega, HF.out.1, HF.out.2.1, by have := HF.out.2.2; omega⟩
          case round =>
            obtain ⟨j, A2, c2, rfl, rfl, hj, HI⟩ := hrel
            have hj12 : j ≤ 12 := by have := hKs.out; omega
            by_cases d1 : j < M
            · have r1 : (j : Int) < (M : Int) := by omega
              have hw2 : wrap64 ((j : Int) + 1) = (j : Int) + 1 := by unfold wrap64; omega
              have hrow : (wr.alloc (.cells #[.int .i64 (j : Int), .int .i64 (j : Int)] 3)).ownsRow KS 3 1 (.slice A2 (2 * j) c2) (pairs j).length (nums .i64 (pairs j)) := by rw [pairs_length]; exact HI.out.2.1.alloc _
              have HRow := Lib.hid hrow
              have hle : KS ≤ (wr.alloc (.cells #[.int .i64 (j : Int), .int .i64 (j : Int)] 3)).heap.size := by have := HI.out.2.2; simp; omega
              have HLe := Lib.hid hle
              clear hrow hle
              go_wp2_with (at_builtin; refine print_append_row (w0 := wr.alloc (.cells #[.int .i64 (j : Int), .int .i64 (j : Int)] 3)) KS rfl (.tmp 65) (.tmp 68) 31 3 .i64 8 rfl Try.underlying31 infoInt (by decide) (.slice A2 (2 * j) c2) (pairs j) [(j : Int), (j : Int)] (some ⟨wr.heap.size, 0, none⟩) 2 2 rfl rfl HRow.out (reads_two wr (j : Int)) (Below.refl _ _) HLe.out (by rw [pairs_length]; omega) ?_)
              intro v3 w3 hO hB hG hR
              have hlen3 : (pairs j ++ [(j : Int), (j : Int)]).length = 2 * (j + 1) := by simp [pairs_length]; omega
              have hO' : w3.ownsRow KS 3 1 v3 (2 * (j + 1)) (nums .i64 (pairs (j + 1))) := by rw [← hlen3]; simpa [pairs] using hO
              obtain ⟨A3, c3, hv3⟩ := own_slice hO'
              have hk := hKs.out
              have hB2 : Below KS wr w3 := (((Below.refl _ _).alloc HI.out.2.2 _).trans hB)
              have HN3 := Lib.hid (And.intro (HI.out.1.keptK hB2 hk.1 hk.2.1 hk.2.2.1 hk.2.2.2.1 hk.2.2.2.2.1) (And.intro hO' (Nat.le_trans HI.out.2.2 hB2.size)))
              rw [hv3] at HN3 ⊢
              clear hO hB hG hR hO' hv3 hB2 hk HI HRow HLe
              go_wp2_with fail
              go_roundw
              case rel => exact ⟨j + 1, A3, c3, by first | rfl | simp, rfl, by omega, HN3⟩
              case measure => simp [intOf]; omega
            · have r1 : ¬ (j : Int) < (M : Int) := by omega
              have hjn : Hid (j = M) := Lib.hid (by omega)
              go_wp2_with fail
              refine (First_none wr).mono ?_
              rintro en w4 ⟨rfl, hB4⟩
              have hF4 := HI.out.1.kept (hB4.alloc hB4.size (.cells #[.int .i64 0, .string ⟨#[]⟩, .int .i64 0] 24))
              have hrow4 : (w4.alloc (.cells #[.int .i64 0, .string ⟨#[]⟩, .int .i64 0] 24)).ownsRow KS 3 1 (.slice A2 (2 * j) c2) (2 * j) (nums .i64 (pairs j)) := (own_move HI.out.2.1 (fun q hq => hB4.block q (HI.out.2.1.lt q hq).2)).alloc _
              obtain ⟨Al, cl, hvl, hcl, hCl⟩ := hF4.reads
              have hCs : 2 * j ≤ c2 ∧ Kd.C (Kd.int .i64) (w4.alloc (.cells #[.int .i64 0, .string ⟨#[]⟩, .int .i64 0] 24)) A2 (pairs j).length (pairs j) := by
                have hR : Kd.R (Kd.int .i64) 3 (w4.alloc (.cells #[.int .i64 0, .string ⟨#[]⟩, .int .i64 0] 24)) KS (fun _ => True) (.slice A2 (2 * j) c2) (pairs j) := Kd.R_of_own (by rw [pairs_length]; exact hrow4) (fun _ _ => trivial)
                have h5 := Kd.R_reads' hR
                exact ⟨by have := h5.2.1; omega, h5.2.2⟩
              have k0 := hF4.x0
              have k1 := hF4.x1
              have k2 := hF4.x2
              have y0 := hF4.y0
              have y1 := hF4.y1
              have y2 := hF4.y2
              have kl := hF4.log.cell
              rw [hvl] at kl
              have HS := Lib.hid (And.intro hCl (And.intro hcl (And.intro hCs.2 (And.intro hCs.1 hF4.low))))
              have hz0 : (w4.alloc (.cells #[.int .i64 0, .string ⟨#[]⟩, .int .i64 0] 24)).cell? ⟨w4.heap.size, 0, none⟩ = some (.int .i64 0) := by simp [go_sem]
              have hz1 : (w4.alloc (.cells #[.int .i64 0, .string ⟨#[]⟩, .int .i64 0] 24)).cell? ⟨w4.heap.size, 1, none⟩ = some (.string ⟨#[]⟩) := by simp [go_sem]
              have hz2 : (w4.alloc (.cells #[.int .i64 0, .string ⟨#[]⟩, .int .i64 0] 24)).cell? ⟨w4.heap.size, 2, none⟩ = some (.int .i64 0) := by simp [go_sem]
              clear hF4 hrow4 hCl hcl hCs hvl hB4 HI HF
              have hll : Hid ((pairs (M)).length = 2 * j ∧ pairs (M) = pairs j) := Lib.hid (by rw [← hjn.out]; exact ⟨pairs_length j, rfl⟩)
              rw [hll.out.1] at kl
              go_wp2_with fail
              have hSame : Calls Try.prog 16 #[.slice Al (2 * j) cl, .slice A2 (2 * j) c2] (w4.alloc (.cells #[.int .i64 0, .string ⟨#[]⟩, .int .i64 0] 24)) fun e w' => e = .returned (.bool true) ∧ Drawn0 (w4.alloc (.cells #[.int .i64 0, .string ⟨#[]⟩, .int .i64 0] 24)) w' := by
                have h1 := HS.out.1
                have h2 := HS.out.2.1
                rw [hll.out.2] at h1 h2
                have := porticobook_Same_int.calls _ Al cl (pairs j) A2 c2 (pairs j) true _ h1 h2 HS.out.2.2.1 (by rw [pairs_length]; exact HS.out.2.2.2.1) (same_self (pairs j) (by rw [pairs_length]; omega))
                rwa [pairs_length] at this
              refine hSame.mono ?_
              rintro en w5 ⟨rfl, ⟨q5, rfl⟩⟩
              have hlow5 := Lib.hid (pw_below_drewN HS.out.2.2.2.2 q5)
              clear hSame HS
              go_wp2_with fail
              refine (TrapRuns_any _).mono ?_
              rintro en w6 ⟨rfl, hB6⟩
              have hlow6 := Lib.hid (hlow5.out.trans (hB6.mono hlow5.out.size))
              clear hB6
              go_wp2_with fail
              go_ret
              exact ⟨rfl, hlow6.out⟩
    · have q1 : ¬ (i : Int) < (l.length : Int) := by omega
      go_wp2_with fail
      have hctA : w0.cell? ⟨w.heap.size, 0, none⟩ = some (.slice (some ad) l.length c) ∨ l = [] := by
        rcases Nat.eq_zero_or_pos l.length with h0 | h0
        · exact Or.inr (List.length_eq_zero_iff.1 h0)
        · left
          have := (HL.out 0 h0).1
          rw [← this]
          exact HW.out.2.1
      have hcaA : ∀ k (hk : k < l.length), w0.cell? (ad.add k) = some (.bool l[k]) ∧ (ad.add k).block < w.heap.size := fun k hk => by
        have h1 := (HL.out k hk).2
        exact ⟨(HW.out.1.cell (lt_of_cell h1)).trans h1, lt_of_cell h1⟩
      have hsz := HW.out.2.2.2.1
      have hlowr : Below w.heap.size w wr := HW.out.1.trans (HS.out.low.mono (by have := HW.out; omega))
      refine (First_row b w.heap.size ad c l inner r w0 wr vl i bi A' cf bs HS.out (by have := HW.out; omega) hi hi12 HR.out.1 (by have := HR.out.2; omega) hctA HW.out.2.2.1 hcaA).mono ?_
      rintro en w2 ⟨rfl, v2, hA, hG⟩
      have hlow2 : Below w.heap.size w w2 := by
        have hb := HW.out.2.2.2.2
        have h1 := hlowr.size
        exact ⟨hG.os.trans hlowr.os, hG.tape.trans hlowr.tape, hG.output.trans hlowr.output, Nat.le_trans h1 hG.size, fun j hj => (hG.block j (by omega) (by omega) (fun e => by rw [HS.out.vlb] at e; have := Option.some.inj e; omega)).trans (hlowr.block j hj)⟩
      have hcn2 : w2.cell? ⟨w.heap.size + 1, 0, none⟩ = some (.int .i64 inner) := by
        have hb := HW.out.2.2.2.2
        have h1 : wr.cell? ⟨w.heap.size + 1, 0, none⟩ = some (.int .i64 inner) := (HS.out.low.cell (p := ⟨w.heap.size + 1, 0, none⟩) (by show w.heap.size + 1 < _; omega)).trans HW.out.2.2.1
        exact (World.cell?_of_block (a := ⟨w.heap.size + 1, 0, none⟩) (hG.block _ (lt_of_cell h1) (by show w.heap.size + 1 ≠ b; omega) (fun e => by rw [HS.out.vlb] at e; have : w.heap.size + 1 = b - 1 := Option.some.inj e; omega))).trans h1
      have HA := Lib.hid (And.intro hA (And.intro hlow2 hcn2))
      have hio : Hid (i ≤ 12) := Lib.hid hi12
      clear hA hG hlow2 hcn2 hlowr hctA hcaA hsz HL HW HS hbt hbi
      cases ho : firstT l i with
      | none =>
        rw [ho] at HA
        have HA : Hid (LogAt (b - 1) b w2 v2 (pairs i) ∧ Below w.heap.size w w2 ∧ w2.cell? ⟨w.heap.size + 1, 0, none⟩ = some (.int .i64 inner)) := HA
        rw [show firstV none r = .tuple #[flt 0 ⟨#[]⟩ 0, .int .i64 (-1)] from rfl, show wantI none = -1 from rfl]
        go_wp2_with fail
        have hK : ∃ K1 K2 KS wB, K1 = w2.heap.size ∧ K2 = w2.heap.size + 1 ∧ KS = w2.heap.size + 1 + 1 ∧ ((w2.alloc (.cells #[.int .i64 0, .string ⟨#[]⟩, .int .i64 0] 24)).alloc (.cells #[.int .i64 0, .string ⟨#[]⟩, .int .i64 0] 24)).alloc (.cells #[] 3) = wB ∧ wB.heap.size = KS + 1 ∧ Fin w b K1 K2 0 ⟨#[]⟩ 0 v2 (pairs i) wB ∧ wB.ownsRow KS 3 1 (.slice (some ⟨KS, 0, none⟩) 0 0) 0 (nums .i64 []) := by
          refine ⟨_, _, _, _, rfl, rfl, rfl, rfl, by simp, ⟨?_, by simp [go_sem], by simp [go_sem], by simp [go_sem], by simp [go_sem], by simp [go_sem], by simp [go_sem], ?_⟩, ?_⟩
          · exact HA.out.1.kept (B := 0) ((((Below.refl _ _).alloc (Nat.le_refl _) _).alloc (by simp) _).alloc (by simp; omega) _)
          · exact HA.out.2.1.trans ((((Below.refl _ _).alloc HA.out.2.1.size _).alloc (by simp; have := HA.out.2.1.size; omega) _).alloc (by simp; have := HA.out.2.1.size; omega) _)
          · have ho := World.ownsRow_made (base := w2.heap.size + 1 + 1) (e := 3) (size := 1) ((w2.alloc (.cells #[.int .i64 0, .string ⟨#[]⟩, .int .i64 0] 24)).alloc (.cells #[.int .i64 0, .string ⟨#[]⟩, .int .i64 0] 24)) #[] 0 (by simp) (by decide) (by rfl)
            simpa [go_sem, nums] using ho
        obtain ⟨K1, K2, KS, wB, e1, e2, e3, e4, hsB, hFin, hown⟩ := hK
        rw [e4, ← e1]
        have hKs : Hid (K1 < KS ∧ K2 < KS ∧ b < KS ∧ (∀ j, v2.ownBlock = some j → j < KS) ∧ w.heap.size ≤ KS ∧ i ≤ 12) := Lib.hid ⟨by omega, by omega, by have := HA.out.1.lt; omega, fun j hj => by have := (HA.out.1.rowLt j hj).2; omega, by have := HA.out.2.1.size; omega, hio.out⟩
        have e5 : w2.heap.size + 1 + 1 = KS := e3.symm
        have e6 : K1 + 1 = K2 := by omega
        have e7 : K1 + 1 + 1 = KS := by omega
        try rw [e7]
        try rw [e6]
        have HF := Lib.hid (And.intro hFin (And.intro hown hsB))
        clear hFin hown hsB e1 e2 e3 e4 e5 e6 e7 HA
        go_loopw [13, 14] (fun t13 t14 wr => ∃ (j : Nat) (A2 : Option Addr) (c2 : Nat), t14 = .int .i64 (j : Int) ∧ t13 = .slice A2 (2 * j) c2 ∧ j ≤ i ∧ Hid (Fin w b K1 K2 0 ⟨#[]⟩ 0 v2 (pairs (i)) wr ∧ wr.ownsRow KS 3 1 (.slice A2 (2 * j) c2) (2 * j) (nums .i64 (pairs j)) ∧ KS ≤ wr.heap.size)) (fun _ t _ => (13 - intOf t).toNat)
        case atStart => exact ⟨0, _, _, rfl, rfl, by omega, HF.out.1, HF.out.2.1, by have := HF.out.2.2; omega⟩
        case round =>
          obtain ⟨j, A2, c2, rfl, rfl, hj, HI⟩ := hrel
          have hj12 : j ≤ 12 := by have := hKs.out; omega
          by_cases d1 : j < i
          · have r1 : (j : Int) < (i : Int) := by omega
            have hw2 : wrap64 ((j : Int) + 1) = (j : Int) + 1 := by unfold wrap64; omega
            have hrow : (wr.alloc (.cells #[.int .i64 (j : Int), .int .i64 (j : Int)] 3)).ownsRow KS 3 1 (.slice A2 (2 * j) c2) (pairs j).length (nums .i64 (pairs j)) := by rw [pairs_length]; exact HI.out.2.1.alloc _
            have HRow := Lib.hid hrow
            have hle : KS ≤ (wr.alloc (.cells #[.int .i64 (j : Int), .int .i64 (j : Int)] 3)).heap.size := by have := HI.out.2.2; simp; omega
            have HLe := Lib.hid hle
            clear hrow hle
            go_wp2_with (at_builtin; refine print_append_row (w0 := wr.alloc (.cells #[.int .i64 (j : Int), .int .i64 (j : Int)] 3)) KS rfl (.tmp 65) (.tmp 68) 31 3 .i64 8 rfl Try.underlying31 infoInt (by decide) (.slice A2 (2 * j) c2) (pairs j) [(j : Int), (j : Int)] (some ⟨wr.heap.size, 0, none⟩) 2 2 rfl rfl HRow.out (reads_two wr (j : Int)) (Below.refl _ _) HLe.out (by rw [pairs_length]; omega) ?_)
            intro v3 w3 hO hB hG hR
            have hlen3 : (pairs j ++ [(j : Int), (j : Int)]).length = 2 * (j + 1) := by simp [pairs_length]; omega
            have hO' : w3.ownsRow KS 3 1 v3 (2 * (j + 1)) (nums .i64 (pairs (j + 1))) := by rw [← hlen3]; simpa [pairs] using hO
            obtain ⟨A3, c3, hv3⟩ := own_slice hO'
            have hk := hKs.out
            have hB2 : Below KS wr w3 := (((Below.refl _ _).alloc HI.out.2.2 _).trans hB)
            have HN3 := Lib.hid (And.intro (HI.out.1.keptK hB2 hk.1 hk.2.1 hk.2.2.1 hk.2.2.2.1 hk.2.2.2.2.1) (And.intro hO' (Nat.le_trans HI.out.2.2 hB2.size)))
            rw [hv3] at HN3 ⊢
            clear hO hB hG hR hO' hv3 hB2 hk HI HRow HLe
            go_wp2_with fail
            go_roundw
            case rel => exact ⟨j + 1, A3, c3, by first | rfl | simp, rfl, by omega, HN3⟩
            case measure => simp [intOf]; omega
          · have r1 : ¬ (j : Int) < (i : Int) := by omega
            have hjn : Hid (j = i) := Lib.hid (by omega)
            go_wp2_with fail
            refine (First_none wr).mono ?_
            rintro en w4 ⟨rfl, hB4⟩
            have hF4 := HI.out.1.kept (hB4.alloc hB4.size (.cells #[.int .i64 0, .string ⟨#[]⟩, .int .i64 0] 24))
            have hrow4 : (w4.alloc (.cells #[.int .i64 0, .string ⟨#[]⟩, .int .i64 0] 24)).ownsRow KS 3 1 (.slice A2 (2 * j) c2) (2 * j) (nums .i64 (pairs j)) := (own_move HI.out.2.1 (fun q hq => hB4.block q (HI.out.2.1.lt q hq).2)).alloc _
            obtain ⟨Al, cl, hvl, hcl, hCl⟩ := hF4.reads
            have hCs : 2 * j ≤ c2 ∧ Kd.C (Kd.int .i64) (w4.alloc (.cells #[.int .i64 0, .string ⟨#[]⟩, .int .i64 0] 24)) A2 (pairs j).length (pairs j) := by
              have hR : Kd.R (Kd.int .i64) 3 (w4.alloc (.cells #[.int .i64 0, .string ⟨#[]⟩, .int .i64 0] 24)) KS (fun _ => True) (.slice A2 (2 * j) c2) (pairs j) := Kd.R_of_own (by rw [pairs_length]; exact hrow4) (fun _ _ => trivial)
              have h5 := Kd.R_reads' hR
              exact ⟨by have := h5.2.1; omega, h5.2.2⟩
            have k0 := hF4.x0
            have k1 := hF4.x1
            have k2 := hF4.x2
            have y0 := hF4.y0
            have y1 := hF4.y1
            have y2 := hF4.y2
            have kl := hF4.log.cell
            rw [hvl] at kl
            have HS := Lib.hid (And.intro hCl (And.intro hcl (And.intro hCs.2 (And.intro hCs.1 hF4.low))))
            have hz0 : (w4.alloc (.cells #[.int .i64 0, .string ⟨#[]⟩, .int .i64 0] 24)).cell? ⟨w4.heap.size, 0, none⟩ = some (.int .i64 0) := by simp [go_sem]
            have hz1 : (w4.alloc (.cells #[.int .i64 0, .string ⟨#[]⟩, .int .i64 0] 24)).cell? ⟨w4.heap.size, 1, none⟩ = some (.string ⟨#[]⟩) := by simp [go_sem]
            have hz2 : (w4.alloc (.cells #[.int .i64 0, .string ⟨#[]⟩, .int .i64 0] 24)).cell? ⟨w4.heap.size, 2, none⟩ = some (.int .i64 0) := by simp [go_sem]
            clear hF4 hrow4 hCl hcl hCs hvl hB4 HI HF
            have hll : Hid ((pairs (i)).length = 2 * j ∧ pairs (i) = pairs j) := Lib.hid (by rw [← hjn.out]; exact ⟨pairs_length j, rfl⟩)
            rw [hll.out.1] at kl
            go_wp2_with fail
            have hSame : Calls Try.prog 16 #[.slice Al (2 * j) cl, .slice A2 (2 * j) c2] (w4.alloc (.cells #[.int .i64 0, .string ⟨#[]⟩, .int .i64 0] 24)) fun e w' => e = .returned (.bool true) ∧ Drawn0 (w4.alloc (.cells #[.int .i64 0, .string ⟨#[]⟩, .int .i64 0] 24)) w' := by
              have h1 := HS.out.1
              have h2 := HS.out.2.1
              rw [hll.out.2] at h1 h2
              have := porticobook_Same_int.calls _ Al cl (pairs j) A2 c2 (pairs j) true _ h1 h2 HS.out.2.2.1 (by rw [pairs_length]; exact HS.out.2.2.2.1) (same_self (pairs j) (by rw [pairs_length]; omega))
              rwa [pairs_length] at this
            refine hSame.mono ?_
            rintro en w5 ⟨rfl, ⟨q5, rfl⟩⟩
            have hlow5 := Lib.hid (pw_below_drewN HS.out.2.2.2.2 q5)
            clear hSame HS
            go_wp2_with fail
            refine (TrapRuns_any _).mono ?_
            rintro en w6 ⟨rfl, hB6⟩
            have hlow6 := Lib.hid (hlow5.out.trans (hB6.mono hlow5.out.size))
            clear hB6
            go_wp2_with fail
            go_ret
            exact ⟨rfl, hlow6.out⟩
      | some k =>
        rw [ho] at HA
        have HA : Hid (LogAt (b - 1) b w2 v2 (pairs (k + 1)) ∧ Below w.heap.size w w2 ∧ w2.cell? ⟨w.heap.size + 1, 0, none⟩ = some (.int .i64 inner)) := HA
        have hk12 : k < i := (firstT_lt ho).1
        rw [show firstV (some k) r = .tuple #[flt 3 ⟨#[111, 117, 116]⟩ ((k : Int) + (r : Int)), .int .i64 (k : Int)] from rfl, show wantI (some k) = (k : Int) from rfl]
        have hcn3 : ∀ o1 o2, ((w2.alloc o1).alloc o2).cell? ⟨w.heap.size + 1, 0, none⟩ = some (.int .i64 inner) := fun o1 o2 => ((((Below.refl w2.heap.size w2).alloc (Nat.le_refl _) o1).alloc (by simp) o2).cell (lt_of_cell HA.out.2.2)).trans HA.out.2.2
        have hwk : wrap64 ((k : Int) + 1) = (k : Int) + 1 := by unfold wrap64; omega
        have hwr : wrap64 ((k : Int) + (r : Int)) = (k : Int) + (r : Int) := by have := HR.out.2; unfold wrap64; omega
        go_wp2_with fail
        refine (porticobook_Within.calls inner 0 99 _ _ HR.out.1).mono ?_
        rintro e w7 ⟨rfl, ⟨q, rfl⟩⟩
        obtain ⟨wC, eC, hsC, h2C, hFin⟩ := fin_some (q := q) (P := (k : Int) + (r : Int)) (N := ⟨#[111, 117, 116]⟩) (t := 24) HA.out.1 HA.out.2.1
        rw [eC]
        have hK : Hid (w2.heap.size < wC.heap.size ∧ w2.heap.size + 1 < wC.heap.size ∧ b < wC.heap.size ∧ (∀ j, v2.ownBlock = some j → j < wC.heap.size) ∧ w.heap.size ≤ wC.heap.size ∧ k + 1 ≤ 12) := Lib.hid ⟨by omega, by omega, by have := HA.out.1.lt; omega, fun j hj => by have := (HA.out.1.rowLt j hj).2; omega, by have := HA.out.2.1.size; omega, by have := hio.out; omega⟩
        obtain ⟨K1, e1⟩ : ∃ K1, w2.heap.size = K1 := ⟨_, rfl⟩
        obtain ⟨K2, e2⟩ : ∃ K2, K1 + 1 = K2 := ⟨_, rfl⟩
        rw [e1, e2] at hK hFin h2C
        rw [e1, e2]
        have z0 : wC.cell? ⟨K2, 0, none⟩ = some (.int .i64 0) := by simp [World.cell?, h2C]
        have z1 : wC.cell? ⟨K2, 1, none⟩ = some (.string ⟨#[]⟩) := by simp [World.cell?, h2C]
        have z2 : wC.cell? ⟨K2, 2, none⟩ = some (.int .i64 0) := by simp [World.cell?, h2C]
        have g0 : wC.frozen? ⟨K2, 0, none⟩ = false := by simp [World.frozen?, h2C]
        have g1 : wC.frozen? ⟨K2, 1, none⟩ = false := by simp [World.frozen?, h2C]
        have g2 : wC.frozen? ⟨K2, 2, none⟩ = false := by simp [World.frozen?, h2C]
        have HFin := Lib.hid hFin
        have HsC := Lib.hid hsC
        clear hFin hsC h2C eC e1 e2 hcn3 HA
        go_wp2_with fail
        have hown : ((((wC.setCell ⟨K2, 0, none⟩ (.int .i64 3)).setCell ⟨K2, 1, none⟩ (.string ⟨#[111, 117, 116]⟩)).setCell ⟨K2, 2, none⟩ (.int .i64 ((k : Int) + (r : Int)))).alloc (.cells #[] 3)).ownsRow wC.heap.size 3 1 (.slice (some ⟨wC.heap.size, 0, none⟩) 0 0) 0 (nums .i64 []) := by
          have ho := World.ownsRow_made (base := wC.heap.size) (e := 3) (size := 1) (((wC.setCell ⟨K2, 0, none⟩ (.int .i64 3)).setCell ⟨K2, 1, none⟩ (.string ⟨#[111, 117, 116]⟩)).setCell ⟨K2, 2, none⟩ (.int .i64 ((k : Int) + (r : Int)))) #[] 0 (by simp [World.setCell]) (by decide) (by rfl)
          have hs : (((wC.setCell ⟨K2, 0, none⟩ (.int .i64 3)).setCell ⟨K2, 1, none⟩ (.string ⟨#[111, 117, 116]⟩)).setCell ⟨K2, 2, none⟩ (.int .i64 ((k : Int) + (r : Int)))).heap.size = wC.heap.size := by simp [World.setCell]
          rw [hs] at ho
          exact ho
        have hsB : ((((wC.setCell ⟨K2, 0, none⟩ (.int .i64 3)).setCell ⟨K2, 1, none⟩ (.string ⟨#[111, 117, 116]⟩)).setCell ⟨K2, 2, none⟩ (.int .i64 ((k : Int) + (r : Int)))).alloc (.cells #[] 3)).heap.size = wC.heap.size + 1 := by simp [World.setCell]
        have HF := Lib.hid (And.intro HFin.out (And.intro hown hsB))
        have hKs : Hid (K1 < wC.heap.size ∧ K2 < wC.heap.size ∧ b < wC.heap.size ∧ (∀ j, v2.ownBlock = some j → j < wC.heap.size) ∧ w.heap.size ≤ wC.heap.size ∧ k + 1 ≤ 12) := hK
        clear hown hsB HFin HsC z0 z1 z2 g0 g1 g2 hK
        generalize (((wC.setCell ⟨K2, 0, none⟩ (.int .i64 3)).setCell ⟨K2, 1, none⟩ (.string ⟨#[111, 117, 116]⟩)).setCell ⟨K2, 2, none⟩ (.int .i64 ((k : Int) + (r : Int)))).alloc (.cells #[] 3) = wB at HF ⊢
        generalize wC.heap.size = KS at HF hKs ⊢
        obtain ⟨M, hM⟩ : ∃ M : Nat, k + 1 = M := ⟨_, rfl⟩
        have hM2 : (k : Int) + 1 = (M : Int) := by omega
        rw [hM] at HF hKs
        rw [hM2]
        try rw [hwr]
        clear hwk hwr
        go_loopw [13, 14] (fun t13 t14 wr => ∃ (j : Nat) (A2 : Option Addr) (c2 : Nat), t14 = .int .i64 (j : Int) ∧ t13 = .slice A2 (2 * j) c2 ∧ j ≤ M ∧ Hid (Fin w b K1 K2 3 ⟨#[111, 117, 116]⟩ ((k : Int) + (r : Int)) v2 (pairs (M)) wr ∧ wr.ownsRow KS 3 1 (.slice A2 (2 * j) c2) (2 * j) (nums .i64 (pairs j)) ∧ KS ≤ wr.heap.size)) (fun _ t _ => (13 - intOf t).toNat)
        case atStart => exact ⟨0, _, _, rfl, rfl, by omega, HF.out.1, HF.out.2.1, by have := HF.out.2.2; omega⟩
        case round =>
          obtain ⟨j, A2, c2, rfl, rfl, hj, HI⟩ := hrel
          have hj12 : j ≤ 12 := by have := hKs.out; omega
          by_cases d1 : j < M
          · have r1 : (j : Int) < (M : Int) := by omega
            have hw2 : wrap64 ((j : Int) + 1) = (j : Int) + 1 := by unfold wrap64; omega
            have hrow : (wr.alloc (.cells #[.int .i64 (j : Int), .int .i64 (j : Int)] 3)).ownsRow KS 3 1 (.slice A2 (2 * j) c2) (pairs j).length (nums .i64 (pairs j)) := by rw [pairs_length]; exact HI.out.2.1.alloc _
            have HRow := Lib.hid hrow
            have hle : KS ≤ (wr.alloc (.cells #[.int .i64 (j : Int), .int .i64 (j : Int)] 3)).heap.size := by have := HI.out.2.2; simp; omega
            have HLe := Lib.hid hle
            clear hrow hle
            go_wp2_with (at_builtin; refine print_append_row (w0 := wr.alloc (.cells #[.int .i64 (j : Int), .int .i64 (j : Int)] 3)) KS rfl (.tmp 65) (.tmp 68) 31 3 .i64 8 rfl Try.underlying31 infoInt (by decide) (.slice A2 (2 * j) c2) (pairs j) [(j : Int), (j : Int)] (some ⟨wr.heap.size, 0, none⟩) 2 2 rfl rfl HRow.out (reads_two wr (j : Int)) (Below.refl _ _) HLe.out (by rw [pairs_length]; omega) ?_)
            intro v3 w3 hO hB hG hR
            have hlen3 : (pairs j ++ [(j : Int), (j : Int)]).length = 2 * (j + 1) := by simp [pairs_length]; omega
            have hO' : w3.ownsRow KS 3 1 v3 (2 * (j + 1)) (nums .i64 (pairs (j + 1))) := by rw [← hlen3]; simpa [pairs] using hO
            obtain ⟨A3, c3, hv3⟩ := own_slice hO'
            have hk := hKs.out
            have hB2 : Below KS wr w3 := (((Below.refl _ _).alloc HI.out.2.2 _).trans hB)
            have HN3 := Lib.hid (And.intro (HI.out.1.keptK hB2 hk.1 hk.2.1 hk.2.2.1 hk.2.2.2.1 hk.2.2.2.2.1) (And.intro hO' (Nat.le_trans HI.out.2.2 hB2.size)))
            rw [hv3] at HN3 ⊢
            clear hO hB hG hR hO' hv3 hB2 hk HI HRow HLe
            go_wp2_with fail
            go_roundw
            case rel => exact ⟨j + 1, A3, c3, by first | rfl | simp, rfl, by omega, HN3⟩
            case measure => simp [intOf]; omega
          · have r1 : ¬ (j : Int) < (M : Int) := by omega
            have hjn : Hid (j = M) := Lib.hid (by omega)
            go_wp2_with fail
            refine (First_none wr).mono ?_
            rintro en w4 ⟨rfl, hB4⟩
            have hF4 := HI.out.1.kept (hB4.alloc hB4.size (.cells #[.int .i64 0, .string ⟨#[]⟩, .int .i64 0] 24))
            have hrow4 : (w4.alloc (.cells #[.int .i64 0, .string ⟨#[]⟩, .int .i64 0] 24)).ownsRow KS 3 1 (.slice A2 (2 * j) c2) (2 * j) (nums .i64 (pairs j)) := (own_move HI.out.2.1 (fun q hq => hB4.block q (HI.out.2.1.lt q hq).2)).alloc _
            obtain ⟨Al, cl, hvl, hcl, hCl⟩ := hF4.reads
            have hCs : 2 * j ≤ c2 ∧ Kd.C (Kd.int .i64) (w4.alloc (.cells #[.int .i64 0, .string ⟨#[]⟩, .int .i64 0] 24)) A2 (pairs j).length (pairs j) := by
              have hR : Kd.R (Kd.int .i64) 3 (w4.alloc (.cells #[.int .i64 0, .string ⟨#[]⟩, .int .i64 0] 24)) KS (fun _ => True) (.slice A2 (2 * j) c2) (pairs j) := Kd.R_of_own (by rw [pairs_length]; exact hrow4) (fun _ _ => trivial)
              have h5 := Kd.R_reads' hR
              exact ⟨by have := h5.2.1; omega, h5.2.2⟩
            have k0 := hF4.x0
            have k1 := hF4.x1
            have k2 := hF4.x2
            have y0 := hF4.y0
            have y1 := hF4.y1
            have y2 := hF4.y2
            have kl := hF4.log.cell
            rw [hvl] at kl
            have HS := Lib.hid (And.intro hCl (And.intro hcl (And.intro hCs.2 (And.intro hCs.1 hF4.low))))
            have hz0 : (w4.alloc (.cells #[.int .i64 0, .string ⟨#[]⟩, .int .i64 0] 24)).cell? ⟨w4.heap.size, 0, none⟩ = some (.int .i64 0) := by simp [go_sem]
            have hz1 : (w4.alloc (.cells #[.int .i64 0, .string ⟨#[]⟩, .int .i64 0] 24)).cell? ⟨w4.heap.size, 1, none⟩ = some (.string ⟨#[]⟩) := by simp [go_sem]
            have hz2 : (w4.alloc (.cells #[.int .i64 0, .string ⟨#[]⟩, .int .i64 0] 24)).cell? ⟨w4.heap.size, 2, none⟩ = some (.int .i64 0) := by simp [go_sem]
            clear hF4 hrow4 hCl hcl hCs hvl hB4 HI HF
            have hll : Hid ((pairs (M)).length = 2 * j ∧ pairs (M) = pairs j) := Lib.hid (by rw [← hjn.out]; exact ⟨pairs_length j, rfl⟩)
            rw [hll.out.1] at kl
            go_wp2_with fail
            have hSame : Calls Try.prog 16 #[.slice Al (2 * j) cl, .slice A2 (2 * j) c2] (w4.alloc (.cells #[.int .i64 0, .string ⟨#[]⟩, .int .i64 0] 24)) fun e w' => e = .returned (.bool true) ∧ Drawn0 (w4.alloc (.cells #[.int .i64 0, .string ⟨#[]⟩, .int .i64 0] 24)) w' := by
              have h1 := HS.out.1
              have h2 := HS.out.2.1
              rw [hll.out.2] at h1 h2
              have := porticobook_Same_int.calls _ Al cl (pairs j) A2 c2 (pairs j) true _ h1 h2 HS.out.2.2.1 (by rw [pairs_length]; exact HS.out.2.2.2.1) (same_self (pairs j) (by rw [pairs_length]; omega))
              rwa [pairs_length] at this
            refine hSame.mono ?_
            rintro en w5 ⟨rfl, ⟨q5, rfl⟩⟩
            have hlow5 := Lib.hid (pw_below_drewN HS.out.2.2.2.2 q5)
            clear hSame HS
            go_wp2_with fail
            refine (TrapRuns_any _).mono ?_
            rintro en w6 ⟨rfl, hB6⟩
            have hlow6 := Lib.hid (hlow5.out.trans (hB6.mono hlow5.out.size))
            clear hB6
            go_wp2_with fail
            go_ret
            exact ⟨rfl, hlow6.out⟩
end Go.Proofs.Ytcpinjdkgponnaa.Trap
