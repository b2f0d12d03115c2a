/- MatchTells: the document's own matching (ref.Match): the walk. -/
import Derived.Test.YtjpknhemnfokaaaTellsPure2
set_option linter.unusedVariables false
set_option linter.unusedSimpArgs false
namespace Go.Proofs.Ytjpknhemnfokaaa.Mt
open Go.RowKit Go.Maps Go.Proofs.YtjpknhemnfokaaaW.PrintWords Go.Proofs.YtjpknhemnfokaaaW.PrintLast Go.Proofs.Ytjpknhemnfokaaa.Sl Go.Proofs.Ytjpknhemnfokaaa.Mv Go.Proofs.Ytjpknhemnfokaaa.PMatchTells

def bools (u : Nat → Bool) (n : Nat) : List Value := (List.range n).map (fun i => .bool (u i))
/-- The row of the used ones, and the row that is made. -/
structure RM (w0 w : World) (B n : Nat) (u : Nat → Bool) (v : Value) (l : List Int) : Prop where
  low : Below w0.heap.size w0 w
  used : w.heap[B]? = some (.cells (bools u n).toArray 4 (0, 0))
  ge : w0.heap.size ≤ B
  row : IRow w v l
  fresh : ∀ k, v.ownBlock = some k → w0.heap.size ≤ k
section
variable {w0 w w' : World} {B n : Nat} {u : Nat → Bool} {v v' : Value} {l l' : List Int}
theorem RM.ne (h : RM w0 w B n u v l) : v.ownBlock ≠ some B := fun e => by
  obtain ⟨_, c1, e1⟩ := h.row.lt B e
  rw [h.used] at e1
  injection e1 with e1
  injection e1 with _ e1
  exact absurd e1 (by decide)
theorem RM.below (h : RM w0 w B n u v l) (hB : Below w.heap.size w w') : RM w0 w' B n u v l :=
  ⟨h.low.trans (hB.mono h.low.size), (hB.block B (Array.getElem?_eq_some_iff.1 h.used).1).trans h.used, h.ge, h.row.below hB, h.fresh⟩
theorem RM.alloc (h : RM w0 w B n u v l) (o : Obj) : RM w0 (w.alloc o) B n u v l := h.below ((Below.refl _ _).alloc (Nat.le_refl _) o)
theorem RM.push (h : RM w0 w B n u v l) (hr : IRow w' v' l') (hg : w.grownBy w' v.ownBlock) (ho : v'.ownBlock = v.ownBlock ∨ v'.ownBlock = some w.heap.size) : RM w0 w' B n u v' l' :=
  ⟨below_grown h.low hg h.fresh h.low.size, (hg.block B (Array.getElem?_eq_some_iff.1 h.used).1 (fun e => h.ne e.symm)).trans h.used, h.ge, hr, fun k hk => by
    rcases ho with ho | ho
    · exact h.fresh k (by rw [← ho]; exact hk)
    · rw [ho] at hk; cases hk; exact h.low.size⟩
theorem RM.c (h : RM w0 w B n u v l) (i : Nat) (hi : i < n) : w.cell? ⟨B, i, none⟩ = some (.bool (u i)) := by
  have h1 := h.used
  simp [World.cell?, h1, bools, hi]
theorem RM.z (h : RM w0 w B n u v l) (i : Nat) : w.frozen? ⟨B, i, none⟩ = false := by
  have h1 := h.used
  simp [World.frozen?, h1]
theorem RM.mark (h : RM w0 w B n u v l) (x : Nat) (hx : x < n) : RM w0 (w.setCell ⟨B, x, none⟩ (.bool true)) B n (setU u (some x)) v l := by
  have h1 := h.used
  refine ⟨h.low.setCell h.ge _, ?_, h.ge, Sl.move h.row fun k hk => Below.heap_setCell _ _ _ _ (fun e => h.ne (by rw [hk, e])), h.fresh⟩
  simp only [World.setCell, Array.getElem?_modify, if_pos, h1, Option.map_some]
  congr 2
  refine Array.ext (by simp [bools]) fun i hi1 hi2 => ?_
  simp only [List.setIfInBounds_toArray, List.getElem_toArray, bools, List.getElem_set, List.getElem_map, List.getElem_range, setU]
  by_cases e : x = i
  · simp [e]
  · simp [e, Ne.symm e]
end
theorem str_beq (x y : ByteArray) : (x.toList == y.toList) = decide (x = y) := by
  rw [Bool.eq_iff_iff, decide_eq_true_iff, beq_iff_eq, ByteArray.toList_eq, ByteArray.toList_eq]
  constructor
  · intro h
    obtain ⟨⟨x⟩⟩ := x
    obtain ⟨⟨y⟩⟩ := y
    have h : x = y := h
    rw [h]
  · intro h
    rw [h]
theorem infoBool : (Try.prog.info? 4).map (fun i => (i.zero, i.size, i.bytes)) = some (some (.bool false), 1, 1) := by kernel_rfl
theorem made_bools (n : Nat) : madeCells #[.bool false] n = (bools (fun _ => false) n).toArray := by
  apply Array.toList_inj.1
  rw [toList_madeCells_one]
  unfold bools
  refine List.ext_getElem (by simp) fun i h1 h2 => ?_
  simp
set_option maxHeartbeats 8000000 in
set_option maxRecDepth 1000000 in
theorem Match_any (vo vn : Value) (lo ln : List Tr) (w : World) (ho : TRow w vo lo) (hlo : lo.length ≤ 1000) (hn : TRow w vn ln) (hln : ln.length ≤ 1000) : Calls Try.prog 12 #[vo, vn] w fun e w' => ∃ (A : Option Addr) (c : Nat), e = .returned (.slice A ln.length c) ∧ IRow w' (.slice A ln.length c) (refP lo ln ln.length) ∧ Below w.heap.size w w' := by
  obtain ⟨A1, c1, rfl, hc1⟩ := hn.form
  have HN := Lib.hid (And.intro hn hln)
  clear hn
  obtain ⟨A0, c0, rfl, hc0⟩ := ho.form
  have HO := Lib.hid (And.intro ho hlo)
  clear ho
  have hmk : ∀ W : World, (Instr.makeSlice 42 (.int .i64 (lo.length : Int)) (.int .i64 (lo.length : Int))).run Try.prog W = .ok (.slice (some ⟨W.heap.size, 0, none⟩) lo.length lo.length) (W.alloc (.cells (bools (fun _ => false) lo.length).toArray 4)) := fun W => by
    obtain ⟨i0, hi, hzz⟩ := Option.map_eq_some_iff.1 infoBool
    simp only [Prod.mk.injEq] at hzz
    obtain ⟨hz0, hz1, hz2⟩ := hzz
    have := run_make (P := Try.prog) W 42 4 i0 _ Try.underlying42 hi hz0 .i64 .i64 (lo.length : Int) (lo.length : Int) (by omega) (by omega) (by rw [hz2]; omega) (by omega)
    rw [hz1, Nat.mul_one, Int.toNat_natCast] at this
    rw [← made_bools]
    exact this
  clear hlo hln hc0 hc1
  go_enter Try.func12, Try.ntmps12
  go_wp2_with fail
  clear hmk
  obtain ⟨B, hB⟩ : ∃ B, w.heap.size = B := ⟨_, rfl⟩
  have H1 : Hid (RM w (w.alloc (.cells (bools (fun _ => false) lo.length).toArray 4)) B lo.length (us lo ln 0) (.slice none 0 0) (refP lo ln 0)) := Lib.hid ⟨(Below.refl _ _).alloc (Nat.le_refl _) _, by rw [← hB]; exact heap_alloc_new _ _, by omega, Sl.nil _ _ _, fun k h => by cases h⟩
  rw [hB]
  clear hB
  generalize w.alloc (.cells (bools (fun _ => false) lo.length).toArray 4) = w1 at H1 ⊢
  go_loopw [6, 17] (fun t6 t17 wr => ∃ (j c' : Nat) (A' : Option Addr), t6 = .slice A' j c' ∧ t17 = .int .i64 (j : Int) ∧ j ≤ ln.length ∧ Hid (RM w wr B lo.length (us lo ln j) (.slice A' j c') (refP lo ln j))) (fun _ t _ => match t with | .int _ q => (ln.length - q).toNat | _ => 0)
  case atStart => exact ⟨0, 0, none, rfl, rfl, by omega, H1⟩
  case round =>
    obtain ⟨j, c', A', rfl, rfl, hj, HJ⟩ := hrel
    clear H1
    have j0 : (0 : Int) ≤ (j : Int) := by omega
    by_cases d1 : j < ln.length
    · have j1 : (j : Int) < (ln.length : Int) := by omega
      obtain ⟨gn, on, c1', e0, _⟩ := HN.out.1.form1 (by omega)
      obtain ⟨rfl, rfl⟩ : A1 = some ⟨gn, on, none⟩ ∧ c1 = c1' := by
        injection e0 with e1 _ e3
        exact ⟨e1, e3⟩
      clear e0
      have hcs := TRow.cells HN.out.1 rfl j d1
      rw [← g_get ln j d1] at hcs
      obtain ⟨t, ht⟩ : ∃ t, g_ ln j = t := ⟨_, rfl⟩
      rw [ht] at hcs
      have hcell : ∀ {ad' : Addr} {u : Value}, w.cell? ad' = some u → wr.cell? ad' = some u := fun h => (HJ.out.low.cell (World.block_lt_of_cell? _ _ h)).trans h
      have a0 := hcell hcs.1
      have a1 := hcell hcs.2.1
      have a2 := hcell hcs.2.2.1
      have a3 := hcell hcs.2.2.2.1
      have a4 := hcell hcs.2.2.2.2
      have HT := Lib.hid ht
      clear hcs hcell ht
      go_upto_region 6 with fail
      have h8 : (wr.alloc (.cells #[.string t.a, .string t.b, .string t.c, .slice none 0 0, .slice none 0 0] 25)).heap[wr.heap.size]? = some (.cells #[.string t.a, .string t.b, .string t.c, .slice none 0 0, .slice none 0 0] 25 (0, 0)) := heap_alloc_new _ _
      have HJ2 : Hid (RM w (wr.alloc (.cells #[.string t.a, .string t.b, .string t.c, .slice none 0 0, .slice none 0 0] 25)) B lo.length (us lo ln j) (.slice A' j c') (refP lo ln j)) := Lib.hid (HJ.out.alloc _)
      clear HJ a0 a1 a2 a3 a4
      generalize wr.alloc (.cells #[.string t.a, .string t.b, .string t.c, .slice none 0 0, .slice none 0 0] 25) = w8 at h8 HJ2 ⊢
      generalize wr.heap.size = K8 at h8 ⊢
      have H8 := Lib.hid h8
      clear h8
      obtain ⟨u, hu⟩ : ∃ u, us lo ln j = u := ⟨_, rfl⟩
      rw [hu] at HJ2
      have HU := Lib.hid hu
      clear hu
      go_wp2_with fail
      go_loopw [9, 23] (fun t9 t23 wq => ∃ i : Nat, t9 = .int .i64 (oi (fu lo u t i)) ∧ t23 = .int .i64 (i : Int) ∧ i ≤ lo.length ∧ Hid (Below w8.heap.size w8 wq)) (fun _ t _ => match t with | .int _ q => (lo.length - q).toNat | _ => 0)
      case atStart => exact ⟨0, rfl, rfl, by omega, Lib.hid (Below.refl _ _)⟩
      case round =>
        obtain ⟨i, rfl, rfl, hi, HI⟩ := hrel
        have i0 : (0 : Int) ≤ (i : Int) := by omega
        by_cases d2 : i < lo.length
        · have i1 : (i : Int) < (lo.length : Int) := by omega
          have i2 : (i : Int) ≤ 1000 := by have := HO.out.2; omega
          obtain ⟨go, oo, c0', e0, _⟩ := HO.out.1.form1 (by omega)
          obtain ⟨rfl, rfl⟩ : A0 = some ⟨go, oo, none⟩ ∧ c0 = c0' := by
            injection e0 with e1 _ e3
            exact ⟨e1, e3⟩
          clear e0
          have hcs := TRow.cells HO.out.1 rfl i d2
          rw [← g_get lo i d2] at hcs
          have hsu := fu_succ lo u t i
          obtain ⟨s, hs⟩ : ∃ s, g_ lo i = s := ⟨_, rfl⟩
          rw [hs] at hcs hsu
          have hcell : ∀ {ad' : Addr} {u : Value}, w.cell? ad' = some u → wr.cell? ad' = some u := fun h => ((HJ2.out.low.trans (HI.out.mono HJ2.out.low.size)).cell (World.block_lt_of_cell? _ _ h)).trans h
          have a0 := hcell hcs.1
          have a1 := hcell hcs.2.1
          have a2 := hcell hcs.2.2.1
          have a3 := hcell hcs.2.2.2.1
          have a4 := hcell hcs.2.2.2.2
          have HS := Lib.hid hsu
          clear hcs hcell hs hsu
          go_upto_region 10 with fail
          have h11 : (wr.alloc (.cells #[.string s.a, .string s.b, .string s.c, .slice none 0 0, .slice none 0 0] 25)).heap[wr.heap.size]? = some (.cells #[.string s.a, .string s.b, .string s.c, .slice none 0 0, .slice none 0 0] 25 (0, 0)) := heap_alloc_new _ _
          have HI2 : Hid (Below w8.heap.size w8 (wr.alloc (.cells #[.string s.a, .string s.b, .string s.c, .slice none 0 0, .slice none 0 0] 25))) := Lib.hid (HI.out.alloc HI.out.size _)
          clear HI a0 a1 a2 a3 a4
          generalize wr.alloc (.cells #[.string s.a, .string s.b, .string s.c, .slice none 0 0, .slice none 0 0] 25) = w11 at h11 HI2 ⊢
          generalize wr.heap.size = K11 at h11 ⊢
          have h8 := (HI2.out.block K8 (Array.getElem?_eq_some_iff.1 H8.out).1).trans H8.out
          have x0 : w11.cell? ⟨K11, 0, none⟩ = some (.string s.a) := by simp [World.cell?, h11]
          have x1 : w11.cell? ⟨K11, 1, none⟩ = some (.string s.b) := by simp [World.cell?, h11]
          have n0 : w11.cell? ⟨K8, 0, none⟩ = some (.string t.a) := by simp [World.cell?, h8]
          have n1 : w11.cell? ⟨K8, 1, none⟩ = some (.string t.b) := by simp [World.cell?, h8]
          have ub : w11.cell? ⟨B, i, none⟩ = some (.bool (u i)) := (HJ2.out.below HI2.out).c i d2
          clear h11 h8
          have hbe := str_beq
          cases hfu : fu lo u t i with
          | some z =>
            have hst : fu lo u t (i + 1) = some z := by rw [HS.out, hfu]; rfl
            have z0 : ¬ (oi (some z) : Int) < 0 := by simp [oi]
            clear hbe hfu
            go_wp2_with fail
            go_roundw
            case rel => exact ⟨i + 1, by rw [hst], by go_num, by omega, HI2⟩
            case measure => first | (simp; omega) | simp
          | none =>
            have z0 : (oi none : Int) < 0 := by simp [oi]
            rw [hfu] at HS
            have hs0 := hbe s.a t.a
            have hs1 := hbe s.b t.b
            clear hbe hfu
            cases hui : u i with
            | true =>
              rw [hui] at ub
              have hst : fu lo u t (i + 1) = none := by rw [HS.out, hui]; simp
              clear hui
              go_wp2_with fail
              go_roundw
              case rel => exact ⟨i + 1, by rw [hst], by go_num, by omega, HI2⟩
              case measure => first | (simp; omega) | simp
            | false =>
              rw [hui] at ub
              by_cases ea : s.a = t.a
              · rw [decide_eq_true ea] at hs0
                by_cases eb : s.b = t.b
                · rw [decide_eq_true eb] at hs1
                  have hst : fu lo u t (i + 1) = some i := by rw [HS.out, hui]; simp [sm, ea, eb]
                  clear hui ea eb
                  go_wp2_with fail
                  go_roundw
                  case rel => exact ⟨i + 1, by rw [hst]; rfl, by go_num, by omega, HI2⟩
                  case measure => first | (simp; omega) | simp
                · rw [decide_eq_false eb] at hs1
                  have hst : fu lo u t (i + 1) = none := by rw [HS.out, hui]; simp [sm, eb]
                  clear hui ea eb
                  go_wp2_with fail
                  go_roundw
                  case rel => exact ⟨i + 1, by rw [hst], by go_num, by omega, HI2⟩
                  case measure => first | (simp; omega) | simp
              · rw [decide_eq_false ea] at hs0
                have hst : fu lo u t (i + 1) = none := by rw [HS.out, hui]; simp [sm, ea]
                clear hui ea
                go_wp2_with fail
                go_roundw
                case rel => exact ⟨i + 1, by rw [hst], by go_num, by omega, HI2⟩
                case measure => first | (simp; omega) | simp
        · have i1 : ¬ (i : Int) < (lo.length : Int) := by omega
          obtain rfl : i = lo.length := by omega
          clear i0 hi d2
          have HJ3 := Lib.hid (HJ2.out.below HI.out)
          clear HJ2 HI
          have hus : us lo ln (j + 1) = setU u (fst_ lo u t) := by simp only [us]; rw [HU.out, HT.out]
          have hel : el lo ln j = oi (fst_ lo u t) := by unfold el; rw [HU.out, HT.out]
          have HE := Lib.hid (And.intro hus hel)
          clear hus hel i1
          have j2 : (ln.length : Int) ≤ 1000 := by have := HN.out.2; omega
          go_upto_if 54 with fail
          go_cut [9] (fun t9 wc => t9 = .int .i64 (oi (fu lo u t lo.length)) ∧ Hid (RM w wc B lo.length (us lo ln (j + 1)) (.slice A' j c') (refP lo ln j)))
          case first =>
            cases hfu : fu lo u t lo.length with
            | none =>
              have z0 : ¬ (0 : Int) ≤ oi none := by simp [oi]
              have H5 : Hid (RM w wr B lo.length (us lo ln (j + 1)) (.slice A' j c') (refP lo ln j)) := Lib.hid (by rw [HE.out.1, show fst_ lo u t = none from hfu, setU_none]; exact HJ3.out)
              have HFU := Lib.hid hfu
              clear hfu HJ3
              go_wp2_with fail
              go_meet
              case rel => exact ⟨by rw [HFU.out], H5⟩
            | some x =>
              have hx := (fu_some hfu).1
              have x0 : (0 : Int) ≤ (x : Int) := by omega
              have x1 : (x : Int) < (lo.length : Int) := by omega
              have hy := HJ3.out.c x hx
              have hz := HJ3.out.z x
              have H5 : Hid (RM w (wr.setCell ⟨B, x, none⟩ (.bool true)) B lo.length (us lo ln (j + 1)) (.slice A' j c') (refP lo ln j)) := Lib.hid (by rw [HE.out.1, show fst_ lo u t = some x from hfu]; exact HJ3.out.mark x hx)
              have HFU := Lib.hid hfu
              clear hfu HJ3
              unfold oi
              go_wp2_with fail
              go_meet
              case rel => exact ⟨by rw [HFU.out]; rfl, H5⟩
          case rest =>
            obtain ⟨rfl, H5⟩ := hcut
            clear HJ3
            obtain ⟨x, hx⟩ : ∃ x, oi (fu lo u t lo.length) = x := ⟨_, rfl⟩
            have hel : el lo ln j = x := by rw [HE.out.2]; exact hx
            have HEL := Lib.hid hel
            rw [hx]
            clear hx hel
            go_wp2_with (at_builtin; refine wpl_append_int rfl (.tmp 58) (.tmp 60) rfl (.slice A' j c') (refP lo ln j) x wc.heap.size 1 rfl rfl (H5.out.alloc _).row ?_ (by rw [refP_len]; have := HN.out.2; omega) ?_)
            · exact heap_alloc_new _ _
            rintro A10 c10 w10 hr10 hg10 ho10
            have H10 : Hid (RM w w10 B lo.length (us lo ln (j + 1)) (.slice A10 (j + 1) c10) (refP lo ln (j + 1))) := Lib.hid (by
              rw [refP_len] at hr10 ho10
              rw [refP_succ, HEL.out]
              exact (H5.out.alloc (.cells #[.int .i64 x] 3)).push hr10 hg10 (by simpa using ho10))
            rw [refP_len]
            clear hr10 hg10 ho10 H5 HE HU HT H8
            go_wp2_with fail
            go_roundw
            case rel => exact ⟨j + 1, c10, A10, rfl, by go_num, by omega, H10⟩
            case measure => first | (simp; omega) | simp
    · have j1 : ¬ (j : Int) < (ln.length : Int) := by omega
      obtain rfl : j = ln.length := by omega
      go_wp2_with fail
      go_ret
      exact ⟨A', c', rfl, HJ.out.row, HJ.out.low⟩
end Go.Proofs.Ytjpknhemnfokaaa.Mt
