/- DiskRuns: the walk. -/
import Derived.Test.YtcndhemociajjaaDisk5
set_option linter.unusedVariables false
set_option linter.unusedSimpArgs false
namespace Go.Proofs.Ytcndhemociajjaa.Dk
open Go.RowKit Go.Maps Go.WideMaps Go.Proofs.YtcndhemociajjaaW.PrintWords Go.Proofs.YtcndhemociajjaaW.PrintLast Go.Proofs.Ytcndhemociajjaa.Sl Go.Proofs.Ytcndhemociajjaa.Mv Go.Proofs.Ytcndhemociajjaa.PDiskRoom

abbrev na : ByteArray := ⟨#[97]⟩
theorem tot_one (s : ByteArray) (x : Fl) : tot [(s, x)] = x.l.length := by simp [tot]
theorem pt_same (s : ByteArray) (x y : Fl) : pt [(s, x)] s y = [(s, y)] := by simp [pt, dl]
theorem dl_same (s : ByteArray) (x : Fl) : dl [(s, x)] s = [] := by simp [dl]
theorem lk_same (s : ByteArray) (x : Fl) (r : FS) : lk ((s, x) :: r) s = some x := by simp [lk]
set_option maxHeartbeats 8000000 in
set_option maxRecDepth 1000000 in
theorem DiskRuns_any (w : World) : Calls Try.prog 3 #[] w fun e w' => e = .returned (.bool true) ∧ Below w.heap.size w w' := by
  have hp : ∀ (g : Nat) (w : World), (binOp .eql 22 (.pointer (some ⟨g, 0, none⟩)) (.pointer none)).run Try.prog w = .ok (.bool false) w := fun g w => rfl
  go_enter Try.func3, Try.ntmps3
  go_wp2_with fail
  refine (New_any w).mono ?_
  rintro e w1 ⟨d, bf, bn, rfl, h1⟩
  have H1 := Lib.hid (h1.below ((Below.refl _ _).alloc (Nat.le_refl _) (.cells #[.int .u8 1, .int .u8 2] 5)))
  clear h1
  go_wp2_with fail
  refine (Write_any d bf bn 0 0 [] [] [] _ w _ H1.out (by omega) (by decide) (by decide) na (by decide) (by decide) _ [1, 2] (src_brow (brow_lit w1 [1, 2] 2 rfl (by omega))) (by decide)).mono ?_
  rintro e w2 (⟨_, rfl, vw2, A2, c2, h2⟩ | ⟨hno, _⟩)
  case inr => exact absurd (by decide) hno
  have H2 := Lib.hid h2
  clear h2 H1
  go_wp2_with fail
  refine (Sync_any d bf bn 0 1 _ _ _ _ w w2 H2.out).mono ?_
  rintro e w3 ⟨rfl, bf3, h3⟩
  have H3 := Lib.hid (h3.below ((Below.refl _ _).alloc (Nat.le_refl _) (.cells #[.int .u8 3, .int .u8 4, .int .u8 5] 5)))
  clear h3 H2
  go_wp2_with fail
  refine (Write_any d bf3 bn 1 1 _ _ _ _ w _ H3.out (by omega) (by decide) (by show 2 + 0 ≤ 1000000; omega) na (by decide) (by decide) _ [3, 4, 5] (src_brow (brow_lit w3 [3, 4, 5] 3 rfl (by omega))) (by decide)).mono ?_
  rintro e w4 (⟨_, rfl, vw4, A4, c4, h4⟩ | ⟨hno, _⟩)
  case inr =>
    refine absurd ?_ hno
    rw [show pt [] na ⟨.slice A2 ([1, 2] : List Int).length c2, [1, 2]⟩ = [(na, ⟨.slice A2 ([1, 2] : List Int).length c2, [1, 2]⟩)] from rfl, dl_same]
    decide
  have H4 := Lib.hid h4
  clear h4 H3
  go_wp2_with fail
  refine (Boot_any d bf3 bn 1 2 _ _ _ _ w w4 H4.out (by omega) (by show 1 < 1000; omega) (by show 0 < 1; omega) (fun t ht _ => by
    obtain rfl := List.mem_singleton.1 ht
    show 0 < 3
    omega) 0 2).mono ?_
  rintro e w5 ⟨rfl, bn5, n5, _, h5⟩
  have hb : bootL (pt [] na ⟨.slice A2 ([1, 2] : List Int).length c2, [1, 2]⟩) ([] ++ [⟨na, ⟨#[]⟩, ⟨.slice A4 ([3, 4, 5] : List Int).length c4, [3, 4, 5]⟩, true⟩]) 0 2 = [(na, ⟨.slice A4 2 c4, [3, 4]⟩)] := by
    have hk : bootK 0 ([] ++ [(⟨na, ⟨#[]⟩, ⟨.slice A4 ([3, 4, 5] : List Int).length c4, [3, 4, 5]⟩, true⟩ : Tk)]).length = 0 := by show bootK 0 1 = 0; decide
    have hc : cutF ⟨.slice A4 ([3, 4, 5] : List Int).length c4, [3, 4, 5]⟩ 2 = ⟨.slice A4 2 c4, [3, 4]⟩ := rfl
    unfold bootL
    rw [hk]
    simp only [List.nil_append, List.getElem?_cons_zero, List.take_zero, List.foldl_nil, if_pos, hc, doneL]
    exact pt_same _ _ _
  rw [hb] at h5
  have H5 := Lib.hid h5
  clear h5 H4 hb
  go_wp2_with fail
  refine (Read_any d bf3 bn5 n5 n5 _ _ _ _ w w5 H5.out na (by decide) ⟨.slice A4 2 c4, [3, 4]⟩ (lk_same _ _ _) (by show 2 ≤ 5000; omega)).mono ?_
  rintro e w6 ⟨A6, c6, rfl, hr6, hB6⟩
  have H6 := Lib.hid (And.intro ((H5.out.below hB6).below ((Below.refl _ _).alloc (Nat.le_refl _) (.cells #[.int .u8 3, .int .u8 4] 5))) (hr6.below ((Below.refl _ _).alloc (Nat.le_refl _) (.cells #[.int .u8 3, .int .u8 4] 5))))
  clear H5 hr6 hB6
  go_wp2_with fail
  refine (Same_any (C_of_brow H6.out.2 rfl) rfl (cap_le H6.out.2 rfl) (C_of_brow (brow_lit w6 [3, 4] 2 rfl (by omega)) rfl) rfl (by decide) (by decide)).mono ?_
  rintro e w7 ⟨rfl, hB7⟩
  have H7 := Lib.hid (H6.out.1.below hB7)
  clear H6 hB7
  go_wp2_with fail
  refine (Used_any d bn5 n5 _ w7 H7.out.c.2.1 H7.out.nowM (by show 2 + 0 ≤ 1000000; omega)).mono ?_
  rintro e w8 ⟨rfl, hB8⟩
  rw [show ((tot [(na, (⟨.slice A4 2 c4, [3, 4]⟩ : Fl))] : Nat) : Int) = 2 from rfl]
  have H8 := Lib.hid (H7.out.below hB8)
  clear H7 hB8
  go_wp2_with fail
  refine (Waiting_any d bf3 bn5 n5 n5 _ _ _ _ w w8 H8.out).mono ?_
  rintro e w9 ⟨rfl, rfl⟩
  rw [show ((([] : List Tk).length : Nat) : Int) = 0 from rfl]
  go_wp2_with fail
  go_ret
  exact ⟨rfl, H8.out.low⟩
end Go.Proofs.Ytcndhemociajjaa.Dk
