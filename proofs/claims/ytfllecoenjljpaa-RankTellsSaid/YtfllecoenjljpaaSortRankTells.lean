/- rank.Sorted: the contract. Over PRankTells's words. -/
import Derived.Test.YtfllecoenjljpaaSortCRankTells
set_option linter.unusedVariables false
set_option linter.unusedSimpArgs false
namespace Go.Proofs.Ytfllecoenjljpaa.SortRankTells
open Go.RowKit Go.Proofs.Ytfllecoenjljpaa.Given Go.Proofs.Ytfllecoenjljpaa.PRankTells Go.Proofs.YtfllecoenjljpaaW.PrintWords Go.Proofs.YtfllecoenjljpaaW.PrintLast Go.Proofs.YtfllecoenjljpaaW.PrintMore Go.Proofs.Ytfllecoenjljpaa.OrdRankTells Go.Proofs.Ytfllecoenjljpaa.Sl

attribute [local go_sem] max2_int min2_int max_two min_two
abbrev cmpV (bx : Nat) : Value := .func (.func 21) #[] #[.pointer (some ⟨bx, 0, none⟩)]
set_option maxHeartbeats 4000000 in
set_option maxRecDepth 100000 in
/-- No places: nothing is done. -/
theorem ins_none (W : World) (A : Option Addr) (c : Nat) (f : Value) : Calls Try.prog 26 #[.slice A 0 c, .int .i64 0, .int .i64 0, f] W fun e w' => e = .returned (.tuple #[]) ∧ w' = W := by
  go_enter Try.func26, Try.ntmps26
  go_wp2_with fail
  go_loopw [8] (fun t8 wr => t8 = .int .i64 1 ∧ wr = W) (fun _ _ => 0)
  case atStart => exact ⟨by go_num, rfl⟩
  case round =>
    obtain ⟨rfl, rfl⟩ := hrel
    go_wp2_with fail
    go_end0
    exact ⟨rfl, rfl⟩
abbrev RI (w : World) (B : Nat) (v : Value) (L : List Int) : Prop := Kd.R (Kd.int .i64) 3 w B (fun _ => True) v L
theorem one_C (w : World) (x : Int) : Kd.C (Kd.int .i64) (w.alloc (.cells #[.int .i64 x] 3)) (some ⟨w.heap.size, 0, none⟩) 1 [x] := by
  refine ⟨rfl, by decide, fun _ => ⟨⟨w.heap.size, 0, none⟩, rfl, fun j p hj => ⟨[.int .i64 p], rfl, rfl, fun i u hu => ?_⟩⟩⟩
  rcases j with _ | j
  · cases hj
    rcases i with _ | i
    · cases hu
      show (w.alloc _).cell? ((⟨w.heap.size, 0, none⟩ : Addr).add (0 * 1 + 0)) = _
      have hadd : (⟨w.heap.size, 0, none⟩ : Addr).add (0 * 1 + 0) = ⟨w.heap.size, 0, none⟩ := by unfold Addr.add; split <;> simp_all
      rw [hadd]
      exact (blk_cell (heap_alloc_new w (.cells #[.int .i64 x] 3)) 0).trans rfl
    · simp at hu
  · simp at hj
theorem infoInt2 : (Try.prog.info? 3).map (fun i => (i.zero, i.size, i.bytes)) = some (some (.int .i64 0), 1, 8) := by kernel_rfl
theorem RI.irow {w : World} {B : Nat} {v : Value} {L : List Int} (h : RI w B v L) : IRow w v L := Sl.of_own (Kd.own_of_R (enc := Value.int .i64) (h1 := fun _ => rfl) h)
theorem RI.form1 {w : World} {B : Nat} {A : Option Addr} {n c : Nat} {L : List Int} (h : RI w B (.slice A n c) L) (h0 : 0 < L.length) : ∃ g, A = some ⟨g, 0, none⟩ ∧ B ≤ g ∧ Sz w g c ∧ n = L.length := by
  have hown := Kd.own_of_R (enc := Value.int .i64) (h1 := fun _ => rfl) h
  obtain ⟨g, cap, cur, hv, hgb, hcur, hcap, hmax, hcs, htk⟩ := hown.2.resolve_left fun h => by have := h.2; omega
  injection hv with h1 h2 h3
  subst h1 h3
  exact ⟨g, rfl, hgb, ⟨cur, hcur, by rw [hcs, Nat.mul_one]⟩, h2⟩
theorem RI.back {w : World} {B g n c : Nat} {L : List Int} (h : IRow w (.slice (some ⟨g, 0, none⟩) n c) L) (hB : B ≤ g) (hz : Sz w g c) : RI w B (.slice (some ⟨g, 0, none⟩) n c) L := by
  refine Kd.R_of_own (enc := Value.int .i64) (h1 := fun _ => rfl) ?_ (fun _ _ => trivial)
  obtain ⟨cur0, z1, z2⟩ := hz
  refine ⟨h.1, ?_⟩
  rcases h.2 with ⟨h0, _⟩ | ⟨g', o', cap, cur, e1, h1, h2, h3, h4, h5⟩
  · cases h0
  · injection e1 with e1 e2 e3
    injection e1 with e1
    injection e1 with e1 e4
    subst e1 e3 e4
    rw [h1] at z1
    injection z1 with z1
    injection z1 with z1
    subst z1
    exact .inr ⟨g, c, cur, by rw [e2], hB, h1, h2, h3, by rw [z2, Nat.mul_one], by
      have h6 : cur.toList.take (L.length * 1) = L.map (Value.int .i64 ·) := by simpa using h5
      exact h6⟩
/-- What a sorting leaves. -/
def Srt (w : World) (bx : Nat) (A0 : Option Addr) (c0 : Nat) (ls : Ls) (v : Value) (w' : World) : Prop := ∃ d, At w w' bx A0 c0 ls ∧ RI w' w.heap.size v d ∧ InOrder ls d
theorem ins_all (w W : World) (bx : Nat) (A0 : Option Addr) (c0 : Nat) (ls : Ls) (hls : ∀ l ∈ ls, l.length ≤ 20) (hn : ls.length < 20) (A : Option Addr) (c : Nat) (h1 : At w W bx A0 c0 ls) (h2 : RI W w.heap.size (.slice A ls.length c) (places ls.length)) (h3 : ∀ q, (Value.slice A ls.length c).ownBlock = some q → w.heap.size ≤ q ∧ q ≠ bx) : Calls Try.prog 26 #[.slice A ls.length c, .int .i64 0, .int .i64 (ls.length : Int), cmpV bx] W fun e w' => e = .returned (.tuple #[]) ∧ Srt w bx A0 c0 ls (.slice A ls.length c) w' := by
  by_cases h0 : 0 < ls.length
  · obtain ⟨n, hn2⟩ : ∃ n, n = ls.length := ⟨_, rfl⟩
    rw [← hn2] at h2 h3 h0 ⊢
    obtain ⟨g, rfl, hgb, hgz, _⟩ := RI.form1 h2 (by rw [places_len]; exact h0)
    have hg := h3 g rfl
    refine (ins_any w W bx A0 c0 ls hls hn g 0 n c hn2 h0 ⟨h1, h2.irow, hg.1, hg.2, places_len n, hgz⟩).mono ?_
    rintro e w' ⟨rfl, d, hd, ho⟩
    refine ⟨rfl, d, hd.1, RI.back hd.2.1 hgb hd.2.2.2.2.2, ?_⟩
    rw [hn2] at ho
    exact ho.done
  · have hz : ls.length = 0 := by omega
    rw [hz] at h2 h3 ⊢
    refine (ins_none W A c _).mono ?_
    rintro e w' ⟨rfl, rfl⟩
    exact ⟨rfl, [], h1, h2, by rw [hz]; exact List.Perm.refl _, List.Pairwise.nil⟩
set_option maxHeartbeats 4000000 in
set_option maxRecDepth 100000 in
theorem stable_any (w W : World) (bx : Nat) (A0 : Option Addr) (c0 : Nat) (ls : Ls) (hls : ∀ l ∈ ls, l.length ≤ 20) (hn : ls.length < 20) (A : Option Addr) (c : Nat) (h1 : At w W bx A0 c0 ls) (h2 : RI W w.heap.size (.slice A ls.length c) (places ls.length)) (h3 : ∀ q, (Value.slice A ls.length c).ownBlock = some q → w.heap.size ≤ q ∧ q ≠ bx) : Calls Try.prog 20 #[.slice A ls.length c, cmpV bx] W fun e w' => e = .returned (.tuple #[]) ∧ Srt w bx A0 c0 ls (.slice A ls.length c) w' := by
  have H := Lib.hid (ins_all w W bx A0 c0 ls hls hn A c h1 h2 h3)
  clear h1 h2 h3
  obtain ⟨n, hn2⟩ : ∃ n, ls.length = n := ⟨_, rfl⟩
  rw [hn2] at H ⊢
  have nz : (0 : Int) ≤ (n : Int) := by omega
  have nq : (n : Int) < 20 := by omega
  have nq2 : ¬ (20 : Int) ≤ (n : Int) := by omega
  have nq3 : ¬ (20 : Int) < (n : Int) := by omega
  have HS : Hid (Calls Try.prog 25 #[.slice A n c, .int .i64 (n : Int), cmpV bx] W fun e w' => e = .returned (.tuple #[]) ∧ Srt w bx A0 c0 ls (.slice A n c) w') := Lib.hid (by
    go_enter Try.func25, Try.ntmps25
    go_wp2_with fail
    go_loopw [7, 8] (fun t7 t8 wr => t7 = .int .i64 0 ∧ t8 = .int .i64 20 ∧ wr = W) (fun _ _ _ => 0)
    case atStart => exact ⟨rfl, rfl, rfl⟩
    case round =>
      obtain ⟨rfl, rfl, rfl⟩ := hrel
      go_wp2_with fail
      refine H.out.mono ?_
      rintro e w9 ⟨rfl, h9⟩
      have H9 := Lib.hid h9
      clear h9
      go_wp2_with fail
      go_loopw [6] (fun t6 wr => t6 = .int .i64 20 ∧ wr = w9) (fun _ _ => 0)
      case atStart => exact ⟨rfl, rfl⟩
      case round =>
        obtain ⟨rfl, rfl⟩ := hrel
        go_wp2_with fail
        go_end0
        exact ⟨rfl, H9.out⟩)
  go_enter Try.func20, Try.ntmps20
  go_wp2_with fail
  refine HS.out.mono ?_
  rintro e w9 ⟨rfl, h9⟩
  have H9 := Lib.hid h9
  clear h9
  go_wp2_with fail
  go_end0
  exact ⟨rfl, H9.out⟩
set_option maxHeartbeats 4000000 in
set_option maxRecDepth 100000 in
theorem Sorted_any (A0 : Option Addr) (c0 : Nat) (ls : Ls) (w : World) (hr : Kd.C KL w A0 ls.length ls) (hc : ls.length ≤ c0) (hls : ∀ l ∈ ls, l.length ≤ 20) (hn : ls.length < 20) : Calls Try.prog 14 #[.slice A0 ls.length c0] w fun e w' => ∃ v : Value, e = .returned v ∧ RI w' w.heap.size v (sortL ls) ∧ Below w.heap.size w w' := by
  obtain ⟨bx, hbx⟩ : ∃ b, w.heap.size = b := ⟨_, rfl⟩
  have H0 : At w (w.alloc (.cells #[.slice A0 ls.length c0] 37)) bx A0 c0 ls := ⟨(Below.refl _ _).alloc (Nat.le_refl _) _, by omega, by rw [← hbx]; exact heap_alloc_new _ _, hr⟩
  have H := Lib.hid (And.intro H0 (And.intro hls (And.intro hn hbx)))
  clear H0 hls hr hc
  obtain ⟨n, hn2⟩ : ∃ n, ls.length = n := ⟨_, rfl⟩
  have hn9 := Lib.hid hn2
  have nz : (0 : Int) ≤ (n : Int) := by omega
  have nq : (n : Int) < 20 := by omega
  rw [hn2]
  rw [hn2] at H
  clear hn hn2
  go_enter Try.func14, Try.ntmps14
  go_upto_region 1 with fail
  clear hbx
  obtain ⟨w1, hw1⟩ : ∃ x, w.alloc (.cells #[.slice A0 n c0] 37) = x := ⟨_, rfl⟩
  have H1 : Hid (At w w1 bx A0 c0 ls) := Lib.hid (by rw [← hw1]; exact H.out.1)
  rw [hw1]
  clear hw1
  have b0 : w1.cell? ⟨bx, 0, none⟩ = some (.slice A0 n c0) := by rw [← hn9.out]; exact (blk_cell H1.out.box 0).trans rfl
  go_wp2_with fail
  clear b0
  go_loopw [3, 7] (fun t3 t7 wr => ∃ (i c : Nat) (A : Option Addr), t3 = .slice A i c ∧ t7 = .int .i64 (i : Int) ∧ i ≤ n ∧ Hid (At w wr bx A0 c0 ls ∧ RI wr w.heap.size (.slice A i c) (places i) ∧ ∀ q, (Value.slice A i c).ownBlock = some q → w.heap.size ≤ q ∧ q ≠ bx)) (fun _ t _ => match t with | .int _ q => (n - q).toNat | _ => 0)
  case atStart => exact ⟨0, 0, none, rfl, rfl, by omega, Lib.hid ⟨H1.out, Kd.R_nil _ _ _ _ _, fun q hq => by cases hq⟩⟩
  case round =>
    clear H1
    obtain ⟨i, c, A, rfl, rfl, hi, HI⟩ := hrel
    have i0 : (0 : Int) ≤ (i : Int) := by omega
    by_cases d1 : i < n
    · have d1i : (i : Int) < (n : Int) := by omega
      have HB : Hid (Below wr.heap.size wr (wr.alloc (.cells #[.int .i64 (i : Int)] 3))) := Lib.hid ((Below.refl _ _).alloc (Nat.le_refl _) _)
      have HX : Hid (At w (wr.alloc (.cells #[.int .i64 (i : Int)] 3)) bx A0 c0 ls ∧ RI (wr.alloc (.cells #[.int .i64 (i : Int)] 3)) w.heap.size (.slice A i c) (places i)) := Lib.hid ⟨HI.out.1.below HB.out, Kd.R_below HI.out.2.1 HB.out⟩
      go_wp2_with (at_builtin; refine Kd.R_append_row (Value.int .i64) 0 (w0 := w) (h1 := fun _ => rfl) w.heap.size rfl (.tmp 10) (.tmp 12) 29 3 (.int .i64 0) 8 rfl Try.underlying29 infoInt2 rfl (by decide) (.slice A i c) (places i) [(i : Int)] (some ⟨wr.heap.size, 0, none⟩) 1 1 (fun _ => True) rfl rfl (fun _ _ => trivial) HX.out.2 (one_C wr i) HX.out.1.low HX.out.1.low.size (by rw [places_len]; omega) ?_)
      rintro v7 w7 hr7 hb7 hg7 ho7
      obtain ⟨A7, c7, rfl⟩ := Kd.R_slice hr7
      rw [← places_succ] at hr7
      simp only [places_len, List.length_append, List.length_cons, List.length_nil, Nat.zero_add] at ho7 hr7 ⊢
      have H7 : Hid (At w w7 bx A0 c0 ls ∧ RI w7 w.heap.size (.slice A7 (i + 1) c7) (places (i + 1)) ∧ ∀ q, (Value.slice A7 (i + 1) c7).ownBlock = some q → w.heap.size ≤ q ∧ q ≠ bx) := Lib.hid (by
        have h1 := HX.out.1
        have hfr : ∀ q, (Value.slice A i c).ownBlock = some q → w.heap.size ≤ q ∧ q ≠ bx := HI.out.2.2
        have hs : (wr.alloc (.cells #[.int .i64 (i : Int)] 3)).heap.size = wr.heap.size + 1 := by simp
        have hbl := HI.out.1.lt
        have hsz := HI.out.1.low.size
        refine ⟨⟨hb7, h1.hbx, (hg7.block bx h1.lt (fun e => (hfr bx e.symm).2 rfl)).trans h1.box, h1.rd⟩, hr7, fun q hq => ?_⟩
        rcases ho7 with ho | ho
        · exact hfr q (by rw [← ho]; exact hq)
        · obtain ⟨q7, ho, hge⟩ := ho
          rw [ho] at hq
          have := Option.some.inj hq
          exact ⟨by omega, by omega⟩)
      clear hr7 hg7 hb7 ho7 HB HX HI
      go_wp2_with fail
      go_roundw
      case rel => exact ⟨i + 1, c7, A7, by simp, by go_num, by omega, H7⟩
      case measure => simp; omega
    · have d1i : ¬ (i : Int) < (n : Int) := by omega
      obtain rfl : i = n := by omega
      have HS : Hid (Calls Try.prog 20 #[.slice A i c, cmpV bx] wr fun e w' => e = .returned (.tuple #[]) ∧ Srt w bx A0 c0 ls (.slice A i c) w') := Lib.hid (by
        have e9 := hn9.out
        have h1 := HI.out.2.1
        have h2 := HI.out.2.2
        rw [← e9] at h1 h2 ⊢
        exact stable_any w wr bx A0 c0 ls H.out.2.1 (by rw [e9]; exact H.out.2.2.1) A c HI.out.1 h1 h2)
      clear HI
      go_wp2_with fail
      refine HS.out.mono ?_
      rintro e w9 ⟨rfl, d, h1, h2, h4⟩
      have H9 := Lib.hid (And.intro h1 (And.intro h2 (sortL_eq h4)))
      clear h1 h2 h4 HS
      go_wp2_with fail
      go_ret
      exact ⟨_, rfl, by rw [H9.out.2.2]; exact H9.out.2.1, H9.out.1.low⟩
end Go.Proofs.Ytfllecoenjljpaa.SortRankTells
namespace Go.Proofs.Ytfllecoenjljpaa.Given
open Go.RowKit Go.Proofs.Ytfllecoenjljpaa.PRankTells Go.Proofs.YtfllecoenjljpaaW.PrintWords Go.Proofs.Ytfllecoenjljpaa.SortRankTells
noncomputable def rank_Sorted.f (l : List (List S23)) : Option (List Int) := if l.length < 20 ∧ ∀ x ∈ l, x.length ≤ 20 then some (sortL l) else none
theorem rank_Sorted.calls (A0 : Option Addr) (c0 : Nat) (l0 : List (List S23)) (r : List Int) (w : World) (hr0 : Kd.C (Kd.slice 23 k23) w A0 l0.length l0) (hc0 : l0.length ≤ c0) (h : rank_Sorted.f l0 = some r) :
    Calls Try.prog 14 #[.slice A0 l0.length c0] w fun e w' => ∃ v0_ : Value, e = .returned (v0_) ∧ Kd.R (Kd.int .i64) 3 w' w.heap.size (fun _ => True) v0_ r ∧ Below w.heap.size w w' := by
  unfold rank_Sorted.f at h
  by_cases c : l0.length < 20 ∧ ∀ x ∈ l0, x.length ≤ 20
  · rw [if_pos c] at h
    obtain rfl := Option.some.inj h
    exact Sorted_any A0 c0 l0 w hr0 hc0 c.2 c.1
  · rw [if_neg c] at h
    cases h
end Go.Proofs.Ytfllecoenjljpaa.Given
