/- MatchTells: kids. -/
import Derived.Test.YtjpknhemnfokaaaMatchTurned
set_option linter.unusedVariables false
set_option linter.unusedSimpArgs false
namespace Go.Proofs.Ytjpknhemnfokaaa.Mt
open Go.RowKit Go.Maps Go.Proofs.YtjpknhemnfokaaaW.PrintWords Go.Proofs.YtjpknhemnfokaaaW.PrintLast Go.Proofs.Ytjpknhemnfokaaa.Sl Go.Proofs.Ytjpknhemnfokaaa.Mv Go.Proofs.Ytjpknhemnfokaaa.PMatchTells

def Small (l : List Tr) : Prop := ∀ t ∈ l, t.a.size ≤ 2 ∧ t.b.size ≤ 2
theorem letterN (W : World) (b : Nat) (i : Int) (h : 0 ≤ i) : (convert 35 9 (.slice (some ⟨W.heap.size, 0, none⟩) 1 1)).run Try.prog (W.alloc (.cells #[.int .u8 i] 5)) = .ok (.string (bs [UInt8.ofNat i.toNat])) (W.alloc (.cells #[.int .u8 i] 5)) := one_byte W i
/-- A tree variable in a block of its own, beside a row. -/
structure TB (w0 W : World) (K : Nat) (a b c : ByteArray) (v : Value) (L : List Tr) : Prop where
  box : W.heap[K]? = some (.cells #[.string a, .string b, .string c, .slice none 0 0, .slice none 0 0] 25 (0, 0))
  st : Stg w0 W v L
  ge : w0.heap.size ≤ K
  ne : ∀ q, v.ownBlock = some q → q ≠ K
theorem TB.c {w0 W : World} {K : Nat} {a b c : ByteArray} {v : Value} {L : List Tr} (h : TB w0 W K a b c v L) : W.cell? ⟨K, 0, none⟩ = some (.string a) ∧ W.cell? ⟨K, 1, none⟩ = some (.string b) ∧ W.cell? ⟨K, 2, none⟩ = some (.string c) ∧ W.cell? ⟨K, 3, none⟩ = some (.slice none 0 0) ∧ W.cell? ⟨K, 4, none⟩ = some (.slice none 0 0) := by
  have h1 := h.box
  refine ⟨?_, ?_, ?_, ?_, ?_⟩ <;> simp [World.cell?, h1]
theorem TB.z {w0 W : World} {K : Nat} {a b c : ByteArray} {v : Value} {L : List Tr} (h : TB w0 W K a b c v L) (j : Nat) : W.frozen? ⟨K, j, none⟩ = false := by
  have h1 := h.box
  simp [World.frozen?, h1]
theorem TB.set1 {w0 W : World} {K : Nat} {a b c : ByteArray} {v : Value} {L : List Tr} (h : TB w0 W K a b c v L) (b' : ByteArray) : TB w0 (W.setCell ⟨K, 1, none⟩ (.string b')) K a b' c v L := by
  have h1 := h.box
  refine ⟨by simp [World.setCell, Array.getElem?_modify, h1], ⟨h.st.low.setCell h.ge _, Sl.move h.st.row fun k hk => Below.heap_setCell _ _ _ _ (h.ne k hk), h.st.fresh⟩, h.ge, h.ne⟩
theorem TB.setAll {w0 W : World} {K : Nat} {a b c : ByteArray} {v : Value} {L : List Tr} (h : TB w0 W K a b c v L) (a' b' c' : ByteArray) : TB w0 (((((W.setCell ⟨K, 0, none⟩ (.string a')).setCell ⟨K, 1, none⟩ (.string b')).setCell ⟨K, 2, none⟩ (.string c')).setCell ⟨K, 3, none⟩ (.slice none 0 0)).setCell ⟨K, 4, none⟩ (.slice none 0 0)) K a' b' c' v L := by
  have h1 := h.box
  refine ⟨by simp [World.setCell, Array.getElem?_modify, h1], ⟨((((h.st.low.setCell h.ge _).setCell h.ge _).setCell h.ge _).setCell h.ge _).setCell h.ge _, Sl.move h.st.row fun k hk => ?_, h.st.fresh⟩, h.ge, h.ne⟩
  have hk' := h.ne k hk
  rw [Below.heap_setCell _ _ _ _ hk', Below.heap_setCell _ _ _ _ hk', Below.heap_setCell _ _ _ _ hk', Below.heap_setCell _ _ _ _ hk', Below.heap_setCell _ _ _ _ hk']
theorem TB.below {w0 W W' : World} {K : Nat} {a b c : ByteArray} {v : Value} {L : List Tr} (h : TB w0 W K a b c v L) (hB : Below W.heap.size W W') : TB w0 W' K a b c v L :=
  ⟨(hB.block K (Array.getElem?_eq_some_iff.1 h.box).1).trans h.box, h.st.below hB, h.ge, h.ne⟩
theorem TB.alloc {w0 W : World} {K : Nat} {a b c : ByteArray} {v : Value} {L : List Tr} (h : TB w0 W K a b c v L) (o : Obj) : TB w0 (W.alloc o) K a b c v L := h.below ((Below.refl _ _).alloc (Nat.le_refl _) o)
theorem bs1 (x : UInt8) : (bs [x]).size ≤ 2 := by show 1 ≤ 2; omega
set_option maxHeartbeats 8000000 in
set_option maxRecDepth 1000000 in
theorem kids_any (A : Option Addr) (cA : Nat) (ns : List Int) (w : World) (hr : Kd.C (Kd.int .i64) w A ns.length ns) : Calls Try.prog 11 #[.slice A ns.length cA] w fun en w' => ∃ (A1 : Option Addr) (c1 : Nat) (L : List Tr), en = .returned (.slice A1 L.length c1) ∧ TRow w' (.slice A1 L.length c1) L ∧ L.length ≤ 9 ∧ Small L ∧ Below w.heap.size w w' := by
  have HN := Lib.hid hr
  clear hr
  go_enter Try.func11, Try.ntmps11
  go_wp2_with fail
  go_loopw [3, 4] (fun t3 t4 wr => ∃ (i c' : Nat) (A' : Option Addr), t3 = .slice A' i c' ∧ t4 = .int .i64 (i : Int) ∧ i ≤ 9 ∧ Hid (∃ L : List Tr, L.length = i ∧ Small L ∧ Stg w wr (.slice A' i c') L)) (fun _ t _ => match t with | .int _ q => (9 - q).toNat | _ => 0)
  case atStart => exact ⟨0, 0, none, rfl, rfl, by omega, Lib.hid ⟨[], rfl, (fun t h => by cases h), Stg.nil (Below.refl _ _)⟩⟩
  case round =>
    obtain ⟨i, c', A', rfl, rfl, hi, HI⟩ := hrel
    have i0 : (0 : Int) ≤ (i : Int) := by omega
    by_cases d1 : i < ns.length
    · have i1 : (i : Int) < (ns.length : Int) := by omega
      by_cases d2 : i < 9
      · have i2 : (i : Int) < 9 := by omega
        obtain ⟨L, hL, hS, hG⟩ := HI.out
        obtain ⟨bA, oA, hA, hcell⟩ := ints_cell HN.out i d1
        subst hA
        have y1 : wr.cell? ⟨bA, oA + i, none⟩ = some (.int .i64 ns[i]) := (hG.low.cell (World.block_lt_of_cell? _ _ hcell)).trans hcell
        obtain ⟨x, hx, _, hxk⟩ := withinN ns[i] 0 11 (by omega) (by omega)
        have HX := Lib.hid (And.intro hx hxk)
        have HL := Lib.hid (And.intro hL (And.intro hS hG))
        clear hcell hx hxk hL hS hG HI
        go_wp2_with fail
        refine (porticobook_Within.calls ns[i] 0 11 _ wr HX.out.1).mono ?_
        rintro e w16 ⟨rfl, ⟨q16, rfl⟩⟩
        have H16 : Hid (L.length = i ∧ Small L ∧ Stg w (wr.drewN q16) (.slice A' i c') L) := Lib.hid ⟨HL.out.1, HL.out.2.1, HL.out.2.2.drewN q16⟩
        clear HL y1
        generalize wr.drewN q16 = w16 at H16 ⊢
        obtain ⟨d, hd, hd0, hd1⟩ : ∃ d : Int, Int.tmod (x : Int) 2 = d ∧ 0 ≤ d ∧ d ≤ 1 := ⟨_, rfl, Int.tmod_nonneg _ (by omega), by have := Int.tmod_lt_of_pos (x : Int) (show (0 : Int) < 2 by omega); omega⟩
        obtain ⟨e, he, he0, he1⟩ : ∃ e : Int, Int.tdiv (x : Int) 2 = e ∧ 0 ≤ e ∧ e ≤ 5 := ⟨_, rfl, by rw [Int.tdiv_eq_ediv_of_nonneg (by omega)]; omega, by have := HX.out.2; rw [Int.tdiv_eq_ediv_of_nonneg (by omega)]; omega⟩
        have hconv := letterN w16 0 (97 + d) (by omega)
        go_upto_region 7 with fail
        clear hconv
        obtain ⟨K, hK⟩ : ∃ K, w16.heap.size + 1 = K := ⟨_, rfl⟩
        have HB : Hid (TB w ((w16.alloc (.cells #[.int .u8 (97 + d)] 5)).alloc (.cells #[.string (bs [UInt8.ofNat (97 + d).toNat]), .string ⟨#[]⟩, .string ⟨#[]⟩, .slice none 0 0, .slice none 0 0] 25)) K (bs [UInt8.ofNat (97 + d).toNat]) ⟨#[]⟩ ⟨#[]⟩ (.slice A' i c') L) := Lib.hid ⟨by rw [← hK]; exact heap_new2 _ _ _, (H16.out.2.2.alloc _).alloc _, by have := H16.out.2.2.low.size; omega, fun q hq => by have := (H16.out.2.2.row.lt q hq).1; omega⟩
        have HLS := Lib.hid (And.intro H16.out.1 H16.out.2.1)
        clear H16
        rw [hK]
        clear hK
        generalize (w16.alloc (.cells #[.int .u8 (97 + d)] 5)).alloc (.cells #[.string (bs [UInt8.ofNat (97 + d).toNat]), .string ⟨#[]⟩, .string ⟨#[]⟩, .slice none 0 0, .slice none 0 0] 25) = w17 at HB ⊢
        obtain ⟨a, ha⟩ : ∃ a, bs [UInt8.ofNat (97 + d).toNat] = a := ⟨_, rfl⟩
        have hA : a.size ≤ 2 := by rw [← ha]; exact bs1 _
        have HA := Lib.hid hA
        rw [ha] at HB ⊢
        clear ha hA hd hd0 hd1
        go_upto_if 30 with fail
        go_cut [5] (fun t5 wc => t5 = .int .i64 (x : Int) ∧ ∃ b, Hid (b.size ≤ 2 ∧ TB w wc K a b ⟨#[]⟩ (.slice A' i c') L))
        case first =>
          by_cases c3 : 3 < (x : Int)
          · obtain ⟨w18, h18⟩ : ∃ w18, w17.alloc (.cells #[.int .u8 (48 + e)] 5) = w18 := ⟨_, rfl⟩
            have HB2 : Hid (TB w w18 K a ⟨#[]⟩ ⟨#[]⟩ (.slice A' i c') L) := Lib.hid (by rw [← h18]; exact HB.out.alloc _)
            have hconv := letterN w17 0 (48 + e) (by omega)
            rw [h18] at hconv
            have y1 := HB2.out.c.2.1
            have z1 := HB2.out.z 1
            go_wp2_with fail
            go_meet
            case rel => exact ⟨rfl, _, Lib.hid ⟨bs1 _, HB2.out.set1 _⟩⟩
          · go_wp2_with fail
            go_meet
            case rel => exact ⟨rfl, ⟨#[]⟩, Lib.hid ⟨by decide, HB.out⟩⟩
        case rest =>
          obtain ⟨rfl, b, HB2⟩ := hcut
          clear HB
          have y := HB2.out.2.c
          have z0 := HB2.out.2.z 0
          have z1 := HB2.out.2.z 1
          have z2 := HB2.out.2.z 2
          have z3 := HB2.out.2.z 3
          have z4 := HB2.out.2.z 4
          obtain ⟨y0, y1, y2, y3, y4⟩ := y
          go_upto_if 39 with fail
          go_cut [5] (fun t5 wc => t5 = .int .i64 (x : Int) ∧ ∃ a b c, Hid (a.size ≤ 2 ∧ b.size ≤ 2 ∧ TB w wc K a b c (.slice A' i c') L))
          case first =>
            by_cases c3 : (x : Int) = 11
            · go_wp2_with fail
              go_meet
              case rel =>
                exact ⟨rfl, ⟨#[]⟩, ⟨#[]⟩, ⟨#[116]⟩, Lib.hid ⟨by decide, by decide, HB2.out.2.setAll _ _ _⟩⟩
            · go_wp2_with fail
              go_meet
              case rel => exact ⟨rfl, a, b, _, Lib.hid ⟨HA.out, HB2.out.1, HB2.out.2⟩⟩
          case rest =>
            obtain ⟨rfl, a2, b2, c2, HB3⟩ := hcut
            clear HB2 HA y0 y1 y2 y3 y4 z0 z1 z2 z3 z4
            have y := HB3.out.2.2.c
            obtain ⟨y0, y1, y2, y3, y4⟩ := y
            go_wp2_with (at_builtin; refine wpl_append_tree rfl (.tmp 41) (.tmp 43) rfl (.slice A' i c') L ⟨a2, b2, c2⟩ wc.heap.size 1 rfl rfl (HB3.out.2.2.alloc (.cells #[.string a2, .string b2, .string c2, .slice none 0 0, .slice none 0 0] 25)).st.row ?_ (by have := HLS.out.1; omega) ?_)
            · exact (Array.getElem?_eq_some_iff.1 (heap_alloc_new wc (.cells #[.string a2, .string b2, .string c2, .slice none 0 0, .slice none 0 0] 25))).2
            rintro A7 c7 w7 hr7 hg7 ho7
            have hl7 : (L ++ [(⟨a2, b2, c2⟩ : Tr)]).length = i + 1 := by rw [List.length_append, HLS.out.1]; rfl
            have H7 : Hid (∃ L : List Tr, L.length = i + 1 ∧ Small L ∧ Stg w w7 (.slice A7 (i + 1) c7) L) := Lib.hid (by
              refine ⟨_, hl7, ?_, ?_⟩
              · intro t ht
                rcases List.mem_append.1 ht with h | h
                · exact HLS.out.2 t h
                · obtain rfl := List.mem_singleton.1 h
                  exact ⟨HB3.out.1, HB3.out.2.1⟩
              · have h1 := (HB3.out.2.2.alloc (.cells #[.string a2, .string b2, .string c2, .slice none 0 0, .slice none 0 0] 25)).st.app hr7 hg7 (by simpa using ho7)
                rwa [show L.length + 1 = i + 1 from by rw [HLS.out.1]] at h1)
            rw [show L.length + 1 = i + 1 from by rw [HLS.out.1]]
            clear hr7 hg7 ho7 HB3 y0 y1 y2 y3 y4 HLS hl7
            go_wp2_with fail
            go_roundw
            case rel => exact ⟨i + 1, c7, A7, rfl, by go_num, by omega, H7⟩
            case measure => first | (simp; omega) | simp
      · have i2 : ¬ (i : Int) < 9 := by omega
        go_wp2_with fail
        go_ret
        obtain ⟨L, hL, hS, hG⟩ := HI.out
        subst hL
        exact ⟨A', c', L, rfl, hG.row, by omega, hS, hG.low⟩
    · have i1 : ¬ (i : Int) < (ns.length : Int) := by omega
      go_wp2_with fail
      go_ret
      obtain ⟨L, hL, hS, hG⟩ := HI.out
      subst hL
      exact ⟨A', c', L, rfl, hG.row, by omega, hS, hG.low⟩
end Go.Proofs.Ytjpknhemnfokaaa.Mt
