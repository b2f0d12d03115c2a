/- URLParts: url.Print's walk. Condition: none (a URL that isn't right has the text ""). -/
import Derived.Test.YtcaaggfobdfgpaaDoorPrintURLParts
set_option linter.unusedVariables false
set_option linter.unusedSimpArgs false
namespace Go.Proofs.YtcaaggfobdfgpaaDoor.UURLParts
open Go.RowKit Go.Proofs.YtcaaggfobdfgpaaDoor.PURLParts Go.Proofs.YtcaaggfobdfgpaaDoorW.PrintWords Go.Proofs.YtcaaggfobdfgpaaDoorW.PrintLast Go.Proofs.YtcaaggfobdfgpaaDoorW.PrintMore Go.Proofs.YtcaaggfobdfgpaaDoor.Pct

theorem ret_str {a b : ByteArray} (h : a = b) : Ending.returned (.string a) = .returned (.string b) := by rw [h]
theorem strCells_app (a b : ByteArray) : Lib.strCells (a ++ b) = Lib.strCells a ++ Lib.strCells b := by
  unfold Lib.strCells
  simp
theorem str_of (l : List UInt8) : Lib.strCells ⟨l.toArray⟩ = Lib.byteCells l := by
  unfold Lib.strCells Lib.byteCells
  simp
theorem byteCells_app (a b : List UInt8) : Lib.byteCells (a ++ b) = Lib.byteCells a ++ Lib.byteCells b := by
  unfold Lib.byteCells
  simp
theorem bat_below {T e : TypeId} {B b : Nat} {v : Value} {bs : List Value} {w w' : World} (h : Lib.BuilderAt T e B b v bs w) (hB : Below w.heap.size w w') : Lib.BuilderAt T e B b v bs w' := by
  obtain ⟨h1, u, h2, h3, h4⟩ := h
  exact ⟨h1, u, (hB.block _ (Array.getElem?_eq_some_iff.1 h2).1).trans h2, pw_own_below h3 hB, h4⟩
theorem isb_below {T e : TypeId} {B b : Nat} {bs : List Value} {w w' : World} (h : Lib.IsBuilder T e B b bs w) (hB : Below w.heap.size w w') : Lib.IsBuilder T e B b bs w' := by
  rcases h with h | h
  · exact .inl (bat_below h hB)
  · exact .inr (bat_below h hB)
def textOf (p : List ByteArray) (q : List Pr) : ByteArray := if rightB p q then ⟨(printL p q).toArray⟩ else ⟨#[]⟩
set_option maxHeartbeats 8000000 in
set_option maxRecDepth 100000 in
theorem Print_any (A0 : Option Addr) (c0 : Nat) (p : List ByteArray) (A1 : Option Addr) (c1 : Nat) (q : List Pr) (w : World) (hr0 : Kd.C Kd.string w A0 p.length p) (hc0 : p.length ≤ c0) (hr1 : Kd.C k32 w A1 q.length q) (hc1 : q.length ≤ c1) :
    Calls Tryd.prog 12 #[.agg #[.slice A0 p.length c0, .slice A1 q.length c1]] w fun e w' => e = .returned (.string (textOf p q)) ∧ Below w.heap.size w w' := by
  have HR : Hid (∀ W, Below w.heap.size w W → Calls Tryd.prog 14 #[.agg #[.slice A0 p.length c0, .slice A1 q.length c1]] W fun e w' => e = .returned (.bool (rightB p q)) ∧ Below W.heap.size W w') := Lib.hid fun W hB => url_Right.calls 40 A0 c0 p A1 c1 q (rightB p q) W (Kd.C_below hr0 hB) hc0 (Kd.C_below hr1 hB) hc1 (right_eq p q 40 (by omega))
  obtain ⟨R, hR⟩ : ∃ R, rightB p q = R := ⟨_, rfl⟩
  obtain ⟨T, hT⟩ : ∃ T, textOf p q = T := ⟨_, rfl⟩
  rw [hR] at HR
  rw [hT]
  have HRR := Lib.hid hR
  have HT := Lib.hid hT
  have HC := Lib.hid (And.intro hr0 hr1)
  clear hR hT hr0 hr1
  go_enter Tryd.func12, Tryd.ntmps12
  go_wp2_with fail
  refine (HR.out _ ((Below.refl _ _).alloc (Nat.le_refl _) _)).mono ?_
  rintro e w2 ⟨rfl, hb2⟩
  have HB2 := Lib.hid ((Below.refl w.heap.size w).alloc (Nat.le_refl _) (.cells #[.slice A0 p.length c0, .slice A1 q.length c1] 25) |>.trans (hb2.mono (by simp)))
  have hbx : w2.heap[w.heap.size]? = some (.cells #[.slice A0 p.length c0, .slice A1 q.length c1] 25 (0, 0)) := (hb2.block _ (by simp)).trans (heap_alloc_new _ _)
  have HBX := Lib.hid hbx
  clear hb2 hbx HR
  cases R
  · go_wp2_with fail
    go_ret
    exact ⟨ret_str (by rw [← HT.out]; unfold textOf; rw [HRR.out]; rfl), HB2.out⟩
  · obtain ⟨hp8, hq8, hpb, hqb⟩ := right_bd HRR.out
    have hple := pathL_le
    have HQB := Lib.hid (And.intro hpb hqb)
    clear hpb hqb hple
    go_upto_region 4 with fail
    obtain ⟨w3, hw3⟩ : ∃ x, w2.alloc (.cells #[.pointer none, .slice none 0 0] 59) = x := ⟨_, rfl⟩
    have H3 : Hid (Below w2.heap.size w2 w3 ∧ Lib.IsBuilder 59 5 w2.heap.size w2.heap.size (Lib.byteCells []) w3) := Lib.hid (by rw [← hw3]; exact ⟨(Below.refl _ _).alloc (Nat.le_refl _) _, Lib.fresh_isBuilder _ _ w2⟩)
    rw [hw3]
    clear hw3
    obtain ⟨g, hg⟩ : ∃ g, w2.heap.size = g := ⟨_, rfl⟩
    have HG := Lib.hid hg
    rw [hg]
    obtain ⟨bx, hbx0⟩ : ∃ b, w.heap.size = b := ⟨_, rfl⟩
    have HBX0 := Lib.hid hbx0
    rw [hbx0]
    clear hg hbx0
    have b0 : w3.cell? ⟨bx, 0, none⟩ = some (.slice A0 p.length c0) := by
      have := HBX.out
      rw [HBX0.out] at this
      exact cell_below H3.out.1 ((blk_cell this 0).trans rfl)
    go_wp2_with fail
    clear b0
    go_loopw [14] (fun i wr => ∃ k : Nat, k ≤ p.length ∧ i = .int .i64 k ∧ Hid (Lib.IsBuilder 59 5 g g (Lib.byteCells (pathL (p.take k))) wr ∧ Below g w2 wr)) (fun i _ => p.length - (intOf i).toNat)
    case atStart => exact ⟨0, Nat.zero_le _, rfl, Lib.hid ⟨by have := H3.out.2; rw [HG.out] at this; exact this, by have := H3.out.1; rw [HG.out] at this; exact this⟩⟩
    case round =>
      clear H3
      obtain ⟨k, hk, rfl, HK⟩ := hrel
      by_cases hlt : k < p.length
      · obtain ⟨ad, rfl, hcell⟩ := str_at HC.out.1 k hlt
        have hx : wr.cell? (ad.add k) = some (.string p[k]) := by
          have h1 := cell_below HB2.out hcell
          have h2 := HK.out.2
          rw [← HG.out] at h2
          exact cell_below h2 h1
        obtain ⟨s, hs⟩ : ∃ s, p[k] = s := ⟨_, rfl⟩
        rw [hs] at hx
        have hsz : s.size ≤ 64 := by rw [← hs]; exact (HQB.out.1 _ (List.getElem_mem hlt)).2
        have HS := Lib.hid hs
        clear hs hcell
        have hen := encL_le s.data.toList
        have hln : s.data.toList.length = s.size := by simp
        have hsum : ¬ 9223372036854775807 < (⟨#[47]⟩ : ByteArray).size + (⟨(encL s.data.toList).toArray⟩ : ByteArray).size := by
          have h1 : (⟨#[47]⟩ : ByteArray).size = 1 := rfl
          have h2 : (⟨(encL s.data.toList).toArray⟩ : ByteArray).size = (encL s.data.toList).length := rfl
          omega
        have hple := pathL_le (p.take k) (fun x hx => (HQB.out.1 x (List.mem_of_mem_take hx)).2)
        have hlt2 : (p.take k).length ≤ k := List.length_take_le _ _
        have hts : Hid (pathL (p.take (k + 1)) = pathL (p.take k) ++ segL s) := by
          have h1 := HS.out
          show _ = _
          rw [take_succ p k hlt, pathL_snoc, h1]
        have hgz : g ≤ wr.heap.size := by
          have h2 := HK.out.2.size
          have h3 := HG.out
          omega
        go_wp2_with fail
        refine (Encode_any s _ (by omega)).mono ?_
        rintro e w4 ⟨rfl, hb4⟩
        have HB4 := Lib.hid hb4
        have hz4 : g ≤ w4.heap.size := by have := hb4.size; omega
        clear hb4
        go_wp2_with fail
        refine (Bld.WriteString g g (Lib.byteCells (pathL (p.take k))) _ w4 ?hbl ?hln hz4).mono ?_
        case hbl => exact isb_below HK.out.1 HB4.out
        case hln =>
          have h1 : (⟨#[47]⟩ : ByteArray).size = 1 := rfl
          have h2 : (⟨(encL s.data.toList).toArray⟩ : ByteArray).size = (encL s.data.toList).length := rfl
          simp only [Lib.byteCells, List.length_map, ByteArray.size_append]
          omega
        rintro e w5 ⟨rfl, hB5, hb5⟩
        have H5 := Lib.hid (And.intro hB5 hb5)
        clear hB5 hb5
        go_wp2_with fail
        go_roundw
        case rel => exact ⟨k + 1, by omega, by go_num, Lib.hid ⟨by
            have h := H5.out.1
            rw [strCells_app, show Lib.strCells ⟨#[47]⟩ = Lib.byteCells [47] from rfl, str_of, ← byteCells_app, ← byteCells_app] at h
            rw [hts.out]
            exact .inr h, (HK.out.2.trans (HB4.out.mono hgz)).trans H5.out.2⟩⟩
        case measure => simp [intOf]; omega
      · obtain rfl : k = p.length := by omega
        have HK2 : Hid (Lib.IsBuilder 59 5 g g (Lib.byteCells (pathL p)) wr ∧ Below g w2 wr) := Lib.hid ⟨by have h := HK.out.1; rw [List.take_length] at h; exact h, HK.out.2⟩
        clear HK hlt hk
        have b0 : wr.cell? ⟨bx, 0, none⟩ = some (.slice A0 p.length c0) := by
          have h := HBX.out
          have h2 := HK2.out.2
          rw [HBX0.out] at h
          rw [← HG.out] at h2
          exact cell_below h2 ((blk_cell h 0).trans rfl)
        have hgz : g ≤ wr.heap.size := by
          have h2 := HK2.out.2.size
          have h3 := HG.out
          omega
        go_upto_if 26 with (fail)
        go_cut [] (fun wc => Hid (Lib.IsBuilder 59 5 g g (Lib.byteCells (headL p)) wc ∧ Below g w2 wc))
        case first =>
          clear b0
          by_cases h0 : p.length = 0
          · have hz : ((p.length : Int) == 0) = true := by simp [h0]
            have HHd : Hid (headL p = pathL p ++ [47]) := by
              show _ = _
              unfold headL
              rw [if_pos h0, List.eq_nil_of_length_eq_zero h0]
              rfl
            have HH0 := Lib.hid h0
            clear h0
            go_wp2_with fail
            refine (Bld.WriteByte g g _ 47 wr HK2.out.1 (by have := pathL_le p (fun x hx => (HQB.out.1 x hx).2); simp only [Lib.byteCells, List.length_map]; omega) hgz).mono ?_
            rintro e w5 ⟨rfl, hB5, hb5⟩
            have H5 := Lib.hid (And.intro hB5 hb5)
            clear hB5 hb5
            go_wp2_with fail
            go_meet
            exact Lib.hid ⟨by
              have h := H5.out.1
              rw [show ([Value.int .u8 47] : List Value) = Lib.byteCells [47] from rfl, ← byteCells_app, ← HHd.out] at h
              exact .inr h, HK2.out.2.trans H5.out.2⟩
          · have hz : ((p.length : Int) == 0) = false := by simp [h0]
            have HHd : Hid (headL p = pathL p) := by
              show _ = _
              unfold headL
              rw [if_neg h0]
            clear h0
            go_wp2_with fail
            go_meet
            exact Lib.hid ⟨by have h := HK2.out.1; rw [← HHd.out] at h; exact h, HK2.out.2⟩
        case rest =>
          obtain ⟨wd, rfl⟩ : ∃ x, x = wc := ⟨_, rfl⟩
          clear HK2 b0 hgz
          have b1 : wd.cell? ⟨bx, 1, none⟩ = some (.slice A1 q.length c1) := by
            have h := HBX.out
            have h2 := hcut.out.2
            rw [HBX0.out] at h
            rw [← HG.out] at h2
            exact cell_below h2 ((blk_cell h 1).trans rfl)
          go_wp2_with fail
          clear b1
          go_loopw [31] (fun i wr => ∃ k : Nat, k ≤ q.length ∧ i = .int .i64 k ∧ Hid (Lib.IsBuilder 59 5 g g (Lib.byteCells (headL p ++ queryL (q.take k))) wr ∧ Below g w2 wr)) (fun i _ => q.length - (intOf i).toNat)
          case atStart => exact ⟨0, Nat.zero_le _, rfl, Lib.hid ⟨by have h := hcut.out.1; simp only [List.take_zero, queryL, List.append_nil]; exact h, hcut.out.2⟩⟩
          case round =>
            clear hcut
            obtain ⟨k, hk, rfl, HK⟩ := hrel
            by_cases hlt : k < q.length
            · obtain ⟨ad, rfl, hcell, hcell2⟩ := pair_at HC.out.2 k hlt
              obtain ⟨s, hs⟩ : ∃ s, q[k].f0 = s := ⟨_, rfl⟩
              obtain ⟨v, hv⟩ : ∃ v, q[k].f1 = v := ⟨_, rfl⟩
              rw [hs] at hcell
              rw [hv] at hcell2
              have hx : wr.cell? (ad.add (k * 2)) = some (.string s) ∧ wr.cell? ⟨(ad.add (k * 2)).block, (ad.add (k * 2)).off + 1, none⟩ = some (.string v) := by
                have h1 := cell_below HB2.out hcell
                have h3 := cell_below HB2.out hcell2
                have h2 := HK.out.2
                rw [← HG.out] at h2
                exact ⟨cell_below h2 h1, cell_below h2 h3⟩
              obtain ⟨hx0, hx1⟩ := hx
              have hsz : s.size ≤ 64 ∧ v.size ≤ 64 := by rw [← hs, ← hv]; exact (HQB.out.2 _ (List.getElem_mem hlt)).2
              obtain ⟨hsz, hvz⟩ := hsz
              have hgz : g ≤ wr.heap.size := by
                have h2 := HK.out.2.size
                have h3 := HG.out
                omega
              have HS := Lib.hid (And.intro hs hv)
              clear hs hv hcell hcell2
              go_upto_region 14 with fail
              obtain ⟨P, hP⟩ : ∃ P, wr.heap.size = P := ⟨_, rfl⟩
              obtain ⟨wp, hwp⟩ : ∃ x, wr.alloc (.cells #[.string s, .string v] 32) = x := ⟨_, rfl⟩
              have HP : Hid (wp.heap[P]? = some (.cells #[.string s, .string v] 32 (0, 0)) ∧ Lib.IsBuilder 59 5 g g (Lib.byteCells (headL p ++ queryL (q.take k))) wp ∧ Below g w2 wp ∧ g ≤ wp.heap.size) := Lib.hid (by
                rw [← hwp, ← hP]
                exact ⟨heap_alloc_new _ _, isb_below HK.out.1 ((Below.refl _ _).alloc (Nat.le_refl _) _), HK.out.2.alloc (by omega) _, by simp; omega⟩)
              rw [hP, hwp]
              clear hP hwp HK hx0 hx1 hgz
              have hgz := HP.out.2.2.2
              have hql := queryL_le (q.take k) (fun x hx => (HQB.out.2 x (List.mem_of_mem_take hx)).2)
              have hqn : (q.take k).length ≤ k := List.length_take_le _ _
              have hpl : (headL p).length ≤ 2000 := by
                have := pathL_le p (fun x hx => (HQB.out.1 x hx).2)
                unfold headL
                split
                · simp
                · omega
              have HL : Hid ((Lib.byteCells (headL p ++ queryL (q.take k))).length ≤ 6000) := Lib.hid (by simp only [Lib.byteCells, List.length_map, List.length_append]; omega)
              clear hql hqn hpl
              go_upto_if 37 with (fail)
              go_cut [] (fun wc => Hid (Lib.IsBuilder 59 5 g g (Lib.byteCells (headL p ++ queryL (q.take k) ++ [if k = 0 then 63 else 38])) wc ∧ Below g w2 wc ∧ wc.heap[P]? = some (.cells #[.string s, .string v] 32 (0, 0))))
              case first =>
                have HPK : Hid (∀ w', Bld.Keeps wp w' → w'.heap[P]? = some (.cells #[.string s, .string v] 32 (0, 0))) := Lib.hid fun w' h => (h P _ _ _ HP.out.1 (by decide) (by decide)).trans HP.out.1
                by_cases h0 : k = 0
                · have hz : ((k : Int) == 0) = true := by simp [h0]
                  have hz2 : Hid ((if k = 0 then (63 : UInt8) else 38) = 63) := by show _ = _; rw [if_pos h0]
                  have HH0 := Lib.hid h0
                  clear h0
                  go_wp2_with fail
                  refine (Bld.WriteByteK g g _ 63 wp HP.out.2.1 (by have := HL.out; omega) hgz).mono ?_
                  rintro e w5 ⟨rfl, hB5, hb5, hk5⟩
                  have H5 := Lib.hid (And.intro hB5 (And.intro hb5 hk5))
                  clear hB5 hb5 hk5
                  go_wp2_with fail
                  go_meet
                  exact Lib.hid ⟨by
                    have h := H5.out.1
                    rw [show ([Value.int .u8 63] : List Value) = Lib.byteCells [63] from rfl, ← byteCells_app] at h
                    rw [hz2.out]
                    exact .inr h, HP.out.2.2.1.trans H5.out.2.1, HPK.out _ H5.out.2.2⟩
                · have hz : ((k : Int) == 0) = false := by simp [h0]
                  have hz2 : Hid ((if k = 0 then (63 : UInt8) else 38) = 38) := by show _ = _; rw [if_neg h0]
                  clear h0
                  go_wp2_with fail
                  refine (Bld.WriteByteK g g _ 38 wp HP.out.2.1 (by have := HL.out; omega) hgz).mono ?_
                  rintro e w5 ⟨rfl, hB5, hb5, hk5⟩
                  have H5 := Lib.hid (And.intro hB5 (And.intro hb5 hk5))
                  clear hB5 hb5 hk5
                  go_wp2_with fail
                  go_meet
                  exact Lib.hid ⟨by
                    have h := H5.out.1
                    rw [show ([Value.int .u8 38] : List Value) = Lib.byteCells [38] from rfl, ← byteCells_app] at h
                    rw [hz2.out]
                    exact .inr h, HP.out.2.2.1.trans H5.out.2.1, HPK.out _ H5.out.2.2⟩
              case rest =>
                obtain ⟨we, rfl⟩ : ∃ x, x = wc := ⟨_, rfl⟩
                clear HP hgz
                have hgz : g ≤ we.heap.size := by
                  have h2 := hcut.out.2.1.size
                  have h3 := HG.out
                  omega
                have y0 : we.cell? ⟨P, 0, none⟩ = some (.string s) := (blk_cell hcut.out.2.2 0).trans rfl
                have y1 : we.cell? ⟨P, 1, none⟩ = some (.string v) := (blk_cell hcut.out.2.2 1).trans rfl
                have hens := encL_le s.data.toList
                have hlns : s.data.toList.length = s.size := by simp
                have henv := encL_le v.data.toList
                have hlnv : v.data.toList.length = v.size := by simp
                have hsum1 : ¬ 9223372036854775807 < (⟨(encL s.data.toList).toArray⟩ : ByteArray).size + (⟨#[61]⟩ : ByteArray).size := by
                  have h1 : (⟨#[61]⟩ : ByteArray).size = 1 := rfl
                  have h2 : (⟨(encL s.data.toList).toArray⟩ : ByteArray).size = (encL s.data.toList).length := rfl
                  omega
                have hsum2 : ¬ 9223372036854775807 < ((⟨(encL s.data.toList).toArray⟩ : ByteArray) ++ (⟨#[61]⟩ : ByteArray)).size + (⟨(encL v.data.toList).toArray⟩ : ByteArray).size := by
                  have h1 : (⟨#[61]⟩ : ByteArray).size = 1 := rfl
                  have h2 : (⟨(encL s.data.toList).toArray⟩ : ByteArray).size = (encL s.data.toList).length := rfl
                  have h3 : (⟨(encL v.data.toList).toArray⟩ : ByteArray).size = (encL v.data.toList).length := rfl
                  rw [ByteArray.size_append]
                  omega
                have hsum3 : ¬ 9223372036854775807 < (⟨(encL s.data.toList).toArray⟩ : ByteArray).size + (⟨#[61]⟩ : ByteArray).size + (⟨(encL v.data.toList).toArray⟩ : ByteArray).size := by
                  rw [← ByteArray.size_append]
                  exact hsum2
                have HKEEP : Hid (∀ W', Below we.heap.size we W' → W'.cell? ⟨P, 0, none⟩ = some (.string s) ∧ W'.cell? ⟨P, 1, none⟩ = some (.string v) ∧ Below we.heap.size we W') := Lib.hid fun W' hB => ⟨cell_below hB y0, cell_below hB y1, hB⟩
                have HWB : Hid (∀ W', Below we.heap.size we W' → Lib.IsBuilder 59 5 g g (Lib.byteCells (headL p ++ queryL (q.take k) ++ [if k = 0 then 63 else 38])) W' ∧ Below g w2 W' ∧ g ≤ W'.heap.size) := Lib.hid fun W' hB => ⟨isb_below hcut.out.1 hB, hcut.out.2.1.trans (hB.mono hgz), by have := hB.size; omega⟩
                have HE1 : Hid (∀ W, Calls Tryd.prog 27 #[.string s] W fun e w' => e = .returned (.string ⟨(encL s.data.toList).toArray⟩) ∧ Below W.heap.size W w') := Lib.hid fun W => Encode_any s W (by omega)
                have HE2 : Hid (∀ W, Calls Tryd.prog 27 #[.string v] W fun e w' => e = .returned (.string ⟨(encL v.data.toList).toArray⟩) ∧ Below W.heap.size W w') := Lib.hid fun W => Encode_any v W (by omega)
                have HWS : Hid (∀ W', Below we.heap.size we W' → Calls Tryd.prog 26 #[.pointer (some ⟨g, 0, none⟩), .string (((⟨(encL s.data.toList).toArray⟩ : ByteArray) ++ (⟨#[61]⟩ : ByteArray)) ++ (⟨(encL v.data.toList).toArray⟩ : ByteArray))] W' fun e w' => (∃ u, e = .returned u) ∧ Hid (Lib.IsBuilder 59 5 g g (Lib.byteCells (headL p ++ queryL (q.take (k + 1)))) w' ∧ Below g w2 w') ∧ w'.cell? ⟨P, 0, none⟩ = some (.string s) ∧ w'.cell? ⟨P, 1, none⟩ = some (.string v)) := Lib.hid fun W' hB => by
                  obtain ⟨hi, hb, hz⟩ := HWB.out W' hB
                  refine (Bld.WriteStringK g g _ _ W' hi ?_ hz).mono ?_
                  · have h1 : (⟨#[61]⟩ : ByteArray).size = 1 := rfl
                    have h2 : (⟨(encL s.data.toList).toArray⟩ : ByteArray).size = (encL s.data.toList).length := rfl
                    have h3 : (⟨(encL v.data.toList).toArray⟩ : ByteArray).size = (encL v.data.toList).length := rfl
                    have h4 := HL.out
                    rw [byteCells_app, List.length_append, ByteArray.size_append, ByteArray.size_append, h1, h2, h3]
                    simp only [Lib.byteCells, List.length_map, List.length_cons, List.length_nil] at h4 ⊢
                    omega
                  · rintro e w' ⟨rfl, h1, h2, h3⟩
                    have hPb : W'.heap[P]? = some (.cells #[.string s, .string v] 32 (0, 0)) := (hB.block P (Array.getElem?_eq_some_iff.1 hcut.out.2.2).1).trans hcut.out.2.2
                    have hPc := (h3 P _ _ _ hPb (by decide) (by decide)).trans hPb
                    refine ⟨⟨_, rfl⟩, ⟨?_, hb.trans h2⟩, (blk_cell hPc 0).trans rfl, (blk_cell hPc 1).trans rfl⟩
                    rw [strCells_app, strCells_app, show Lib.strCells ⟨#[61]⟩ = Lib.byteCells [61] from rfl, str_of, str_of, ← byteCells_app, ← byteCells_app, ← byteCells_app] at h1
                    have hq : queryL (q.take (k + 1)) = queryL (q.take k) ++ ([if k = 0 then (63 : UInt8) else 38] ++ (encL s.data.toList ++ [61] ++ encL v.data.toList)) := by
                      have hl : (q.take k).length = k := by rw [List.length_take]; omega
                      have e1 := HS.out.1
                      have e2 := HS.out.2
                      rw [take_succ q k hlt, queryL_snoc, hl]
                      unfold pairL
                      rw [e1, e2]
                      simp
                    rw [hq, ← List.append_assoc, ← List.append_assoc]
                    exact .inr h1
                clear hcut hgz hens henv hlns hlnv
                go_upto_region 17 with fail
                go_region_held (fun w' => w'.cell? ⟨P, 0, none⟩ = some (.string s) ∧ w'.cell? ⟨P, 1, none⟩ = some (.string v)) (first | exact H10.out.2 | exact ⟨(HKEEP.out _ HBb.out).1, (HKEEP.out _ HBb.out).2.1⟩ | exact ⟨(HKEEP.out _ HBa.out).1, (HKEEP.out _ HBa.out).2.1⟩ | exact ⟨(HKEEP.out _ (pw_below_drewN (Below.refl _ _) 1)).1, (HKEEP.out _ (pw_below_drewN (Below.refl _ _) 1)).2.1⟩) ((first
                  | (go_at_call 27; (with_reducible refine (HE1.out _).mono ?_); rintro e w8 ⟨rfl, hB⟩; have HBa := Lib.hid ((pw_below_drewN (Below.refl we.heap.size we) 1).trans (hB.mono (pw_below_drewN (Below.refl we.heap.size we) 1).size)); clear hB)
                  | (go_at_call 27; (with_reducible refine (HE2.out _).mono ?_); rintro e w9 ⟨rfl, hB⟩; have HBb := Lib.hid (HBa.out.trans (hB.mono HBa.out.size)); clear hB)
                  | (go_at_call 26; (with_reducible refine (HWS.out _ HBb.out).mono ?_); rintro e w10 ⟨⟨u, rfl⟩, hB⟩; have H10 := Lib.hid hB; clear hB)))
                all_goals go_wp2_with fail
                all_goals first
                  | (refine ⟨⟨k + 1, by omega, by go_num, H10.out.1⟩, ?_⟩; simp [intOf]; omega)
                  | (go_roundw
                     case rel => exact ⟨k + 1, by omega, by go_num, H10.out.1⟩
                     case measure => simp [intOf]; omega)
            · obtain rfl : k = q.length := by omega
              have hgz : g ≤ wr.heap.size := by
                have h2 := HK.out.2.size
                have h3 := HG.out
                omega
              go_wp2_with fail
              refine (Tryd.Builder_String_any g g _ _ HK.out.1 hgz).mono ?_
              rintro e w1 ⟨rfl, hb1⟩
              have HB1 := Lib.hid hb1
              clear hb1
              go_wp2_with fail
              go_ret
              refine ⟨ret_str ?_, HB2.out.trans ?_⟩
              · rw [← HT.out]
                unfold textOf printL
                rw [HRR.out]
                rfl
              · have h1 := HK.out.2
                have h2 := HB1.out
                have h3 := HG.out
                have h4 := HBX0.out
                have h5 := HB2.out.size
                exact (h1.trans h2).mono (by omega)
end Go.Proofs.YtcaaggfobdfgpaaDoor.UURLParts
namespace Go.Proofs.YtcaaggfobdfgpaaDoor.Given
open Go.RowKit Go.Proofs.YtcaaggfobdfgpaaDoor.PURLParts Go.Proofs.YtcaaggfobdfgpaaDoorW.PrintWords Go.Proofs.YtcaaggfobdfgpaaDoor.UURLParts
def url_Print.f (p : List ByteArray) (q : List S32) : Option ByteArray := some (textOf p q)
theorem url_Print.calls (A0_0 : Option Addr) (c0_0 : Nat) (l0_0 : List ByteArray) (A0_1 : Option Addr) (c0_1 : Nat) (l0_1 : List S32) (r : ByteArray) (w : World) (hr0_0 : Kd.C Kd.string w A0_0 l0_0.length l0_0) (hc0_0 : l0_0.length ≤ c0_0) (hr0_1 : Kd.C k32 w A0_1 l0_1.length l0_1) (hc0_1 : l0_1.length ≤ c0_1) (h : url_Print.f l0_0 l0_1 = some r) :
    Calls Tryd.prog 12 #[.agg #[.slice A0_0 l0_0.length c0_0, .slice A0_1 l0_1.length c0_1]] w fun e w' => e = .returned (.string r) ∧ Below w.heap.size w w' := by
  obtain rfl := Option.some.inj h
  exact Print_any A0_0 c0_0 l0_0 A0_1 c0_1 l0_1 w hr0_0 hc0_0 hr0_1 hc0_1
end Go.Proofs.YtcaaggfobdfgpaaDoor.Given
