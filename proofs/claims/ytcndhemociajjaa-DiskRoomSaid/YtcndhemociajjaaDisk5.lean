/- Package disk: Rename, Remove, Boot (printed by wip/law23/gen_Disk5.py out of Disk5.body). -/
import Derived.Test.YtcndhemociajjaaDisk4
set_option linter.unusedVariables false
set_option linter.unusedSimpArgs false
namespace Go.Proofs.Ytcndhemociajjaa.Dk
open Go.RowKit Go.Maps Go.WideMaps Go.Proofs.YtcndhemociajjaaW.PrintWords Go.Proofs.YtcndhemociajjaaW.PrintLast Go.Proofs.Ytcndhemociajjaa.Sl Go.Proofs.Ytcndhemociajjaa.Mv Go.Proofs.Ytcndhemociajjaa.PDiskRoom

set_option maxHeartbeats 4000000 in
set_option maxRecDepth 100000 in
theorem Rename_any (d bf bn n1 n2 : Nat) (firm now : FS) (wait : List Tk) (vw : Value) (w0 w : World) (h : DA w0 w d bf bn n1 n2 firm now wait vw) (hn : n2 < 90000) (hw : wait.length < 90000) (s : ByteArray) (hs : s.size ≤ 16) (t : ByteArray) (ht : t.size ≤ 16) (ht0 : t ≠ ⟨#[]⟩) (f : Fl) (hf : lk now s = some f) :
    Calls Try.prog 14 #[.pointer (some ⟨d, 0, none⟩), .string s, .string t] w fun e w' => e = .returned (.int .i64 0) ∧ ∃ vw', DA w0 w' d bf bn n1 (n2 + 1) firm (doneL now ⟨s, t, nilF, false⟩) (wait ++ [⟨s, t, nilF, false⟩]) vw' := by
  have HZ := Lib.hid h
  have hlk := h.nowM.look s hs
  rw [hf] at hlk
  simp only [Option.map_some, Option.getD_some, Option.isSome_some] at hlk
  have y1 := h.c.2.1
  have HN := Lib.hid (And.intro hn (And.intro hw (And.intro hs ht)))
  clear h hf hn hw
  go_enter Try.func14, Try.ntmps14
  go_wp2_with fail
  refine (named_any t ht ht0 w).mono ?_
  rintro e w1 ⟨rfl, hB1⟩
  have HZ1 := Lib.hid (HZ.out.below hB1)
  have y3 := HZ1.out.c.2.2.2.1
  have y4 := HZ1.out.c.2.2.2.2.1
  clear HZ hB1 hlk y1
  go_wp2_with fail
  refine (goes_any d w1 y3 y4).mono ?_
  rintro e w2 ⟨rfl, rfl⟩
  clear y3 y4
  go_wp2_with fail
  refine (put_any d bf bn n1 n2 firm now wait vw ⟨s, t, nilF, false⟩ w0 w2 HZ1.out HN.out.1 HN.out.2.1 hs ht (Sl.nil _ _ _)).mono ?_
  rintro e w5 ⟨rfl, vw', h5⟩
  have H5 := Lib.hid h5
  clear HZ1 h5
  go_wp2_with fail
  go_ret
  exact ⟨rfl, vw', H5.out⟩
set_option maxHeartbeats 4000000 in
set_option maxRecDepth 100000 in
theorem Remove_any (d bf bn n1 n2 : Nat) (firm now : FS) (wait : List Tk) (vw : Value) (w0 w : World) (h : DA w0 w d bf bn n1 n2 firm now wait vw) (hn : n2 < 90000) (hw : wait.length < 90000) (s : ByteArray) (hs : s.size ≤ 16) (f : Fl) (hf : lk now s = some f) :
    Calls Try.prog 16 #[.pointer (some ⟨d, 0, none⟩), .string s] w fun e w' => e = .returned (.int .i64 0) ∧ ∃ vw', DA w0 w' d bf bn n1 (n2 + 1) firm (dl now s) (wait ++ [⟨s, ⟨#[]⟩, nilF, false⟩]) vw' := by
  have HZ := Lib.hid h
  have hlk := h.nowM.look s hs
  rw [hf] at hlk
  simp only [Option.map_some, Option.getD_some, Option.isSome_some] at hlk
  have y1 := h.c.2.1
  have y3 := h.c.2.2.2.1
  have y4 := h.c.2.2.2.2.1
  have HN := Lib.hid (And.intro hn (And.intro hw hs))
  clear h hf hn hw
  go_enter Try.func16, Try.ntmps16
  go_wp2_with fail
  refine (goes_any d w y3 y4).mono ?_
  rintro e w2 ⟨rfl, rfl⟩
  clear y3 y4 hlk y1
  go_wp2_with fail
  refine (put_any d bf bn n1 n2 firm now wait vw ⟨s, ⟨#[]⟩, nilF, false⟩ w0 w2 HZ.out HN.out.1 HN.out.2.1 hs (by show (0 : Nat) ≤ 16; omega) (Sl.nil _ _ _)).mono ?_
  rintro e w5 ⟨rfl, vw', h5⟩
  have H5 := Lib.hid h5
  clear HZ h5
  go_wp2_with fail
  go_ret
  exact ⟨rfl, vw', H5.out⟩
/-- How many of those that wait are done. -/
def bootK (keep : Int) (n : Nat) : Nat := (max 0 (min keep (n : Int))).toNat
theorem bootK_le (keep : Int) (n : Nat) : bootK keep n ≤ n := by unfold bootK; omega
def cutF (f : Fl) (part : Int) : Fl := match f.v with
  | .slice A _ c => ⟨.slice A (bootK part f.l.length) c, f.l.take (bootK part f.l.length)⟩
  | v => ⟨v, f.l⟩
/-- What is firm behind a boot. -/
def bootL (firm : FS) (wait : List Tk) (keep part : Int) : FS :=
  match wait[bootK keep wait.length]? with
  | none => (wait.take (bootK keep wait.length)).foldl doneL firm
  | some t => if t.wr = true then doneL ((wait.take (bootK keep wait.length)).foldl doneL firm) ⟨t.nm, t.tn, cutF t.f part, true⟩ else (wait.take (bootK keep wait.length)).foldl doneL firm
theorem brow_take {w : World} {g o n c m : Nat} {l : List Int} (h : BRow w (.slice (some ⟨g, o, none⟩) n c) l) (hn : n = l.length) (hm : m ≤ n) : BRow w (.slice (some ⟨g, o, none⟩) m c) (l.take m) := by
  subst hn
  have h1 := Sl.take h m hm
  unfold BRow
  rw [List.length_take, Nat.min_eq_left hm, List.map_take]
  simpa using h1
/-- A box of the walk's own is written. -/
theorem DA.box {w0 w : World} {d bf bn n1 n2 : Nat} {firm now : FS} {wait : List Tk} {vw : Value} (h : DA w0 w d bf bn n1 n2 firm now wait vw) {K : Nat} {cs : Array Value} (hk : w.heap[K]? = some (.cells cs 48 (0, 0))) (hK : w0.heap.size ≤ K) (hne : vw.ownBlock ≠ some K) (u : Value) (j : Nat) : DA w0 (w.setCell ⟨K, j, none⟩ u) d bf bn n1 n2 firm now wait vw := by
  have hs : ∀ k, k ≠ K → (w.setCell ⟨K, j, none⟩ u).heap[k]? = w.heap[k]? := fun k hk => Below.heap_setCell _ _ _ _ hk
  have hd : d ≠ K := fun e => by
    rw [← e, h.obj] at hk
    injection hk with hk
    injection hk with _ hk
    exact absurd hk (by decide)
  have hb : ∀ {v : Value} {l : List Int}, BRow w v l → BRow (w.setCell ⟨K, j, none⟩ u) v l := fun hv => Sl.move hv fun k e => hs k (fun e2 => by
    subst e2
    obtain ⟨_, cur, hc⟩ := hv.lt k e
    rw [hk] at hc
    injection hc with hc
    injection hc with _ hc
    exact absurd hc (by decide))
  have hm : ∀ {b n : Nat} {fs : FS}, FM w b n fs → FM (w.setCell ⟨K, j, none⟩ u) b n fs := fun {b n fs} hf => ⟨hf.nodup, hf.map.move (hs b (fun e => hf.map.ne hk e)), fun p hp => ⟨hb (hf.rows p hp).1, (hf.rows p hp).2⟩⟩
  exact ⟨h.low.setCell hK _, (hs d hd).trans h.obj, hm h.firmM, hm h.nowM, Sl.move h.wrow fun k e => hs k (fun e2 => hne (by rw [e, e2])), fun t ht => ⟨hb (h.wb t ht).1, (h.wb t ht).2⟩, h.ge, h.gw⟩
set_option maxHeartbeats 8000000 in
set_option maxRecDepth 100000 in
theorem Boot_any (d bf bn n1 n2 : Nat) (firm now : FS) (wait : List Tk) (vw : Value) (w0 w : World) (h : DA w0 w d bf bn n1 n2 firm now wait vw) (hn : n1 < 80000) (hw : wait.length < 1000) (hw0 : 0 < wait.length) (hwl : ∀ t ∈ wait, t.wr = true → 0 < t.f.l.length) (keep part : Int) :
    Calls Try.prog 9 #[.pointer (some ⟨d, 0, none⟩), .int .i64 keep, .int .i64 part] w fun e w' => e = .returned (.tuple #[]) ∧ ∃ bn' n', n' ≤ n1 + wait.length + 1 ∧ DA w0 w' d bf bn' n' n' (bootL firm wait keep part) (bootL firm wait keep part) [] (.slice none 0 0) := by
  have HN := Lib.hid (And.intro hn (And.intro hw hwl))
  obtain ⟨k, hk, hkn⟩ : ∃ k : Nat, max 0 (min keep (wait.length : Int)) = (k : Int) ∧ k = bootK keep wait.length := ⟨bootK keep wait.length, by unfold bootK; omega, rfl⟩
  have hkl : k ≤ wait.length := by rw [hkn]; exact bootK_le _ _
  have HK := Lib.hid (And.intro hkn hkl)
  obtain ⟨gw, ow, cw, hvw, hcw⟩ := h.wrow.form1 hw0
  subst hvw
  have HZ0 := Lib.hid (And.intro h hcw)
  have y2 := h.c.2.2.1
  have k0 : (0 : Int) ≤ (k : Int) := by omega
  have k1 : (k : Int) ≤ (wait.length : Int) := by omega
  have k2 : (k : Int) ≤ (cw : Int) := by omega
  have k3 : (wait.length : Int) ≤ 1000 := by omega
  clear h hn hw hwl hkn hkl hcw hw0
  go_enter Try.func9, Try.ntmps9
  go_wp2_with fail
  go_loopw [24] (fun t24 wr => ∃ i : Nat, t24 = .int .i64 (i : Int) ∧ i ≤ k ∧ Hid (DA w0 wr d bf bn (n1 + i) n2 ((wait.take i).foldl doneL firm) now wait (.slice (some ⟨gw, ow, none⟩) wait.length cw))) (fun t _ => match t with | .int _ q => (k - q).toNat | _ => 0)
  case atStart => exact ⟨0, rfl, by omega, Lib.hid (by simpa using HZ0.out.1)⟩
  case round =>
    obtain ⟨i, rfl, hi, HI⟩ := hrel
    have i0 : (0 : Int) ≤ (i : Int) := by omega
    by_cases d1 : i < k
    · have i1 : (i : Int) < (k : Int) := by omega
      have hil : i < wait.length := by have := HK.out.2; omega
      have hcs := TkRow.cells HI.out.wrow rfl i hil
      have hfold : (wait.take (i + 1)).foldl doneL firm = doneL ((wait.take i).foldl doneL firm) wait[i] := by rw [List.take_succ_eq_append_getElem hil, List.foldl_append]; rfl
      have hwb := HI.out.wb wait[i] (List.getElem_mem hil)
      have hmem := List.getElem_mem hil
      obtain ⟨t, ht⟩ : ∃ t, wait[i] = t := ⟨_, rfl⟩
      rw [ht] at hcs hfold hwb hmem
      obtain ⟨A, c, hv, _⟩ := hwb.1.form
      obtain ⟨q, hq⟩ : ∃ q, t.f.l.length = q := ⟨_, rfl⟩
      rw [hq] at hv
      rw [hv] at hcs
      have HV := Lib.hid (And.intro hv (And.intro hwb.2 (And.intro hfold hmem)))
      have a0 := hcs.1
      have a1 := hcs.2.1
      have a2 := hcs.2.2.1
      have a3 := hcs.2.2.2
      clear hcs hfold hwb ht hv hq hil hmem
      go_upto_region 4 with fail
      have hk : (wr.alloc (.cells #[.string t.nm, .string t.tn, .slice A q c, .bool t.wr] 48)).heap[wr.heap.size]? = some (.cells #[.string t.nm, .string t.tn, .slice A q c, .bool t.wr] 48 (0, 0)) := heap_alloc_new _ _
      have HJ : Hid (DA w0 (wr.alloc (.cells #[.string t.nm, .string t.tn, .slice A q c, .bool t.wr] 48)) d bf bn (n1 + i) n2 ((wait.take i).foldl doneL firm) now wait (.slice (some ⟨gw, ow, none⟩) wait.length cw)) := Lib.hid (HI.out.below ((Below.refl _ _).alloc (Nat.le_refl _) _))
      clear a0 a1 a2 a3 HI
      generalize wr.alloc (.cells #[.string t.nm, .string t.tn, .slice A q c, .bool t.wr] 48) = w1 at hk HJ ⊢
      generalize wr.heap.size = K at hk ⊢
      have HKK : Hid (w1.drew.heap[K]? = some (.cells #[.string t.nm, .string t.tn, .slice A q c, .bool t.wr] 48 (0, 0))) := Lib.hid hk
      have HZ : Hid (DA w0 w1.drew d bf bn (n1 + i) n2 ((wait.take i).foldl doneL firm) now wait (.slice (some ⟨gw, ow, none⟩) wait.length cw) ∧ t ∈ wait) := Lib.hid ⟨HJ.out.below (pw_below_drewN (Below.refl _ _) 1), HV.out.2.2.2⟩
      have S0 : w1.drew.cell? ⟨d, 0, none⟩ = some (.map (some bf)) := HZ.out.1.c.1
      have S1 : w1.drew.cell? ⟨K, 0, none⟩ = some (.string t.nm) := by simp [World.cell?, HKK.out]
      have S2 : w1.drew.cell? ⟨K, 1, none⟩ = some (.string t.tn) := by simp [World.cell?, HKK.out]
      have S3 : w1.drew.cell? ⟨K, 2, none⟩ = some (.slice A q c) := by simp [World.cell?, HKK.out]
      have S4 : w1.drew.cell? ⟨K, 3, none⟩ = some (.bool t.wr) := by simp [World.cell?, HKK.out]
      clear hk HJ
      refine start_ (n := 6) (S := fun w' => w'.cell? ⟨d, 0, none⟩ = some (.map (some bf)) ∧ w'.cell? ⟨K, 0, none⟩ = some (.string t.nm) ∧ w'.cell? ⟨K, 1, none⟩ = some (.string t.tn) ∧ w'.cell? ⟨K, 2, none⟩ = some (.slice A q c) ∧ w'.cell? ⟨K, 3, none⟩ = some (.bool t.wr)) (ds := [5]) #[false, false, false, false, false, false] (by kernel_rfl) rfl rfl ⟨S0, S1, S2, S3, S4⟩ (fun hHeld => ?_)
      clear S0 S1 S2 S3 S4
      generalize w1.drew = W1 at HZ HKK hHeld ⊢
      have hD := done_any bf (n1 + i) ((wait.take i).foldl doneL firm) t W1 HZ.out.1.firmM (by have := HN.out; have := HK.out; omega) HV.out.2.1.1 HV.out.2.1.2 (HZ.out.1.wb t HZ.out.2).1
      rw [HV.out.1] at hD
      refine pure_ (i := 0) (N := some 28) (v := ?_) (a' := ?_) #[true, false, false, false, false, false] rfl rfl (by kernel_rfl) (fun _ _ _ h => h) (Or.inl ⟨by rfl, ?_⟩) ?_ ?_
      rotate_left
      · intro w'
        go_simp
        with_reducible rfl
      rotate_left
      · simp only [Act.put, List.setIfInBounds_toArray, List.set_cons_zero, List.set_cons_succ, i64_w, i32_w]
        rfl
      refine pure_ (i := 1) (N := some 29) (v := ?_) (a' := ?_) #[true, true, false, false, false, false] rfl rfl (by kernel_rfl) (fun _ _ _ h => h) (Or.inl ⟨by rfl, ?_⟩) ?_ ?_
      rotate_left
      · intro w'
        go_simp
        with_reducible rfl
      rotate_left
      · simp only [Act.put, List.setIfInBounds_toArray, List.set_cons_zero, List.set_cons_succ, i64_w, i32_w]
        rfl
      refine pure_ (i := 2) (N := some 30) (v := ?_) (a' := ?_) #[true, true, true, false, false, false] rfl rfl (by kernel_rfl) (fun _ _ _ h => h) (Or.inl ⟨by rfl, ?_⟩) ?_ ?_
      rotate_left
      · intro w'
        go_simp
        with_reducible rfl
      rotate_left
      · simp only [Act.put, List.setIfInBounds_toArray, List.set_cons_zero, List.set_cons_succ, i64_w, i32_w]
        rfl
      refine take_ (i := 3) (N := some 31) (v := ?_) (a' := ?_) #[true, true, true, true, false, false] rfl rfl (by kernel_rfl) (fun _ _ _ h => h) (Or.inl ⟨by rfl, ?_⟩) hHeld ?_ ?_
      rotate_left
      · rintro w' ⟨s0, s1, s2, s3, s4⟩
        go_simp
        with_reducible rfl
      rotate_left
      · simp only [Act.put, List.setIfInBounds_toArray, List.set_cons_zero, List.set_cons_succ, i64_w, i32_w]
        rfl
      refine take_ (i := 4) (N := some 32) (v := ?_) (a' := ?_) #[true, true, true, true, true, false] rfl rfl (by kernel_rfl) (fun _ _ _ h => h) (Or.inl ⟨by rfl, ?_⟩) hHeld ?_ ?_
      rotate_left
      · rintro w' ⟨s0, s1, s2, s3, s4⟩
        go_simp
        with_reducible rfl
      rotate_left
      · simp only [Act.put, List.setIfInBounds_toArray, List.set_cons_zero, List.set_cons_succ, i64_w, i32_w]
        rfl
      refine last_ (i := 5) (N := some 33) #[true, true, true, true, true, true] rfl rfl (by kernel_rfl) (by decide) (fun K hK => ?_)
      refine goes_ Try.func22 (by kernel_rfl) rfl #[.map (some bf), .agg #[.string t.nm, .string t.tn, .slice A q c, .bool t.wr]] (by rfl) rfl rfl (by simp only [List.map_toArray, List.map_cons, List.map_nil]; rfl) ?_
      with_reducible refine (hD).mono ?_
      rintro e w3 ⟨rfl, hf3, hg3⟩
      refine ⟨_, rfl, ?_⟩
      refine hK.out _ _ ?_
      clear hK K
      refine norm_ (a' := ?_) ?_ ?_
      rotate_left
      · show Act.put _ (some 33) _ = _
        simp only [Act.put, List.setIfInBounds_toArray, List.set_cons_zero, List.set_cons_succ, i64_w, i32_w]
        rfl
      refine done_ (by kernel_rfl) ?_
      have H3 : Hid (DA w0 w3 d bf bn (n1 + (i + 1)) n2 ((wait.take (i + 1)).foldl doneL firm) now wait (.slice (some ⟨gw, ow, none⟩) wait.length cw)) := Lib.hid (by rw [HV.out.2.2.1]; exact HZ.out.1.turnF hf3 hg3)
      clear HZ HKK hf3 hg3 hD hHeld
      go_wp2_with fail
      go_roundw
      case rel => exact ⟨i + 1, by go_num, by omega, H3⟩
      case measure => first | (simp; omega) | simp
    · have i1 : ¬ (i : Int) < (k : Int) := by omega
      obtain rfl : i = k := by omega
      clear hi d1 HZ0 y2 i1
      have y2 := HI.out.c.2.2.1
      go_upto_region 6 with fail
      go_cut [51] (fun t51 wc => t51 = .bool ((wait[i]?.map (·.wr)).getD false) ∧ wc = wr)
      case first =>
        by_cases d2 : i < wait.length
        · have i2 : (i : Int) < (wait.length : Int) := by omega
          have hcs := (TkRow.cells HI.out.wrow rfl i d2).2.2.2
          have he : (wait[i]?.map (·.wr)).getD false = wait[i].wr := by rw [List.getElem?_eq_getElem d2]; rfl
          have HE := Lib.hid he
          clear he
          go_wp2_with fail
          go_meet
          case rel => exact ⟨by rw [HE.out], rfl⟩
        · have i2 : ¬ (i : Int) < (wait.length : Int) := by omega
          have he : (wait[i]?.map (·.wr)).getD false = false := by rw [List.getElem?_eq_none (by omega)]; rfl
          have HE := Lib.hid he
          clear he
          go_wp2_with fail
          go_meet
          case rel => exact ⟨by rw [HE.out], rfl⟩
      case rest =>
        obtain ⟨rfl, rfl⟩ := hcut
        go_upto_if 51 with fail
        go_cut [1] (fun t1 wc => t1 = .int .i64 (i : Int) ∧ ∃ n', n' ≤ n1 + wait.length + 1 ∧ Hid (DA w0 wc d bf bn n' n2 (bootL firm wait keep part) now wait (.slice (some ⟨gw, ow, none⟩) wait.length cw)))
        case first =>
          cases e : wait[i]? with
          | none =>
            have hbl : bootL firm wait keep part = (wait.take i).foldl doneL firm := by unfold bootL; rw [← HK.out.1, e]
            have H5 : Hid (DA w0 wc d bf bn (n1 + i) n2 (bootL firm wait keep part) now wait (.slice (some ⟨gw, ow, none⟩) wait.length cw)) := Lib.hid (by rw [hbl]; exact HI.out)
            simp only [Option.map_none, Option.getD_none]
            clear hbl e HI
            go_wp2_with fail
            go_meet
            case rel => exact ⟨rfl, n1 + i, by have := HK.out.2; omega, H5⟩
          | some t =>
            obtain ⟨hil, hti⟩ := List.getElem?_eq_some_iff.1 e
            simp only [Option.map_some, Option.getD_some]
            cases hwr : t.wr with
            | false =>
              have hbl : bootL firm wait keep part = (wait.take i).foldl doneL firm := by unfold bootL; rw [← HK.out.1, e]; simp [hwr]
              have H5 : Hid (DA w0 wc d bf bn (n1 + i) n2 (bootL firm wait keep part) now wait (.slice (some ⟨gw, ow, none⟩) wait.length cw)) := Lib.hid (by rw [hbl]; exact HI.out)
              clear hbl e HI hwr hti hil
              go_wp2_with fail
              go_meet
              case rel => exact ⟨rfl, n1 + i, by have := HK.out.2; omega, H5⟩
            | true =>
              have hmem : t ∈ wait := by rw [← hti]; exact List.getElem_mem hil
              have hwb := HI.out.wb t hmem
              have hpos := HN.out.2.2 t hmem hwr
              obtain ⟨rb, ob, c, hv, _⟩ := hwb.1.form1 hpos
              obtain ⟨q, hq⟩ : ∃ q, t.f.l.length = q := ⟨_, rfl⟩
              rw [hq] at hv
              obtain ⟨m, hm, hmq⟩ : ∃ m : Nat, max 0 (min part (q : Int)) = (m : Int) ∧ m = bootK part q := ⟨bootK part q, by unfold bootK; omega, rfl⟩
              have hml : m ≤ q := by rw [hmq]; exact bootK_le _ _
              have hcut : cutF t.f part = ⟨.slice (some ⟨rb, ob, none⟩) m c, t.f.l.take m⟩ := by unfold cutF; rw [hv, hq, ← hmq]
              have hbl : bootL firm wait keep part = doneL ((wait.take i).foldl doneL firm) ⟨t.nm, t.tn, ⟨.slice (some ⟨rb, ob, none⟩) m c, t.f.l.take m⟩, true⟩ := by unfold bootL; rw [← HK.out.1, e, ← hcut]; simp [hwr]
              have hcs := TkRow.cells HI.out.wrow rfl i hil
              rw [hti, hv, hwr] at hcs
              have a0 := hcs.1
              have a1 := hcs.2.1
              have a2 := hcs.2.2.1
              have a3 := hcs.2.2.2
              have m0 : (0 : Int) ≤ (m : Int) := by omega
              have m1 : (m : Int) ≤ (q : Int) := by omega
              have hqc : q ≤ c := by
                obtain ⟨A', c', e2, h2⟩ := hwb.1.form
                rw [hv] at e2
                injection e2 with _ _ e3
                rw [e3, ← hq]
                exact h2
              have m2 : (m : Int) ≤ (c : Int) := by omega
              have i0' : (0 : Int) ≤ (i : Int) := by omega
              have i2 : (i : Int) < (wait.length : Int) := by omega
              have HV := Lib.hid (And.intro hv (And.intro hq (And.intro hml (And.intro hbl (And.intro hmem hwb.2)))))
              clear hcs hwb hpos hv hq hmq hcut hbl hmem hti hwr e hml hqc hil
              go_upto_region 9 with fail
              have hk := heap_alloc_new wc (.cells #[.string t.nm, .string t.tn, .slice (some ⟨rb, ob, none⟩) m c, .bool true] 48)
              have HJ : Hid (DA w0 (wc.alloc (.cells #[.string t.nm, .string t.tn, .slice (some ⟨rb, ob, none⟩) m c, .bool true] 48)) d bf bn (n1 + i) n2 ((wait.take i).foldl doneL firm) now wait (.slice (some ⟨gw, ow, none⟩) wait.length cw)) := Lib.hid (HI.out.below ((Below.refl _ _).alloc (Nat.le_refl _) _))
              clear a0 a1 a2 a3 HI hm y2
              generalize wc.alloc (.cells #[.string t.nm, .string t.tn, .slice (some ⟨rb, ob, none⟩) m c, .bool true] 48) = w1 at hk HJ ⊢
              generalize wc.heap.size = K at hk ⊢
              have HKK : Hid (w1.drew.heap[K]? = some (.cells #[.string t.nm, .string t.tn, .slice (some ⟨rb, ob, none⟩) m c, .bool true] 48 (0, 0))) := Lib.hid hk
              have HZ : Hid (DA w0 w1.drew d bf bn (n1 + i) n2 ((wait.take i).foldl doneL firm) now wait (.slice (some ⟨gw, ow, none⟩) wait.length cw)) := Lib.hid (HJ.out.below (pw_below_drewN (Below.refl _ _) 1))
              have S0 : w1.drew.cell? ⟨d, 0, none⟩ = some (.map (some bf)) := HZ.out.c.1
              have S1 : w1.drew.cell? ⟨K, 0, none⟩ = some (.string t.nm) := by simp [World.cell?, HKK.out]
              have S2 : w1.drew.cell? ⟨K, 1, none⟩ = some (.string t.tn) := by simp [World.cell?, HKK.out]
              have S3 : w1.drew.cell? ⟨K, 2, none⟩ = some (.slice (some ⟨rb, ob, none⟩) m c) := by simp [World.cell?, HKK.out]
              have S4 : w1.drew.cell? ⟨K, 3, none⟩ = some (.bool true) := by simp [World.cell?, HKK.out]
              clear hk HJ
              refine start_ (n := 6) (S := fun w' => w'.cell? ⟨d, 0, none⟩ = some (.map (some bf)) ∧ w'.cell? ⟨K, 0, none⟩ = some (.string t.nm) ∧ w'.cell? ⟨K, 1, none⟩ = some (.string t.tn) ∧ w'.cell? ⟨K, 2, none⟩ = some (.slice (some ⟨rb, ob, none⟩) m c) ∧ w'.cell? ⟨K, 3, none⟩ = some (.bool true)) (ds := [5]) #[false, false, false, false, false, false] (by kernel_rfl) rfl rfl ⟨S0, S1, S2, S3, S4⟩ (fun hHeld => ?_)
              clear S0 S1 S2 S3 S4
              generalize w1.drew = W1 at HZ HKK hHeld ⊢
              have hD := done_any bf (n1 + i) ((wait.take i).foldl doneL firm) ⟨t.nm, t.tn, ⟨.slice (some ⟨rb, ob, none⟩) m c, t.f.l.take m⟩, true⟩ W1 HZ.out.firmM (by have := HN.out; have := HK.out; omega) HV.out.2.2.2.2.2.1 HV.out.2.2.2.2.2.2 (by
                have h := (HZ.out.wb t HV.out.2.2.2.2.1).1
                rw [HV.out.1] at h
                exact brow_take h HV.out.2.1.symm HV.out.2.2.1)
              refine pure_ (i := 0) (N := some 69) (v := ?_) (a' := ?_) #[true, false, false, false, false, false] rfl rfl (by kernel_rfl) (fun _ _ _ h => h) (Or.inl ⟨by rfl, ?_⟩) ?_ ?_
              rotate_left
              · intro w'
                go_simp
                with_reducible rfl
              rotate_left
              · simp only [Act.put, List.setIfInBounds_toArray, List.set_cons_zero, List.set_cons_succ, i64_w, i32_w]
                rfl
              refine pure_ (i := 1) (N := some 70) (v := ?_) (a' := ?_) #[true, true, false, false, false, false] rfl rfl (by kernel_rfl) (fun _ _ _ h => h) (Or.inl ⟨by rfl, ?_⟩) ?_ ?_
              rotate_left
              · intro w'
                go_simp
                with_reducible rfl
              rotate_left
              · simp only [Act.put, List.setIfInBounds_toArray, List.set_cons_zero, List.set_cons_succ, i64_w, i32_w]
                rfl
              refine pure_ (i := 2) (N := some 71) (v := ?_) (a' := ?_) #[true, true, true, false, false, false] rfl rfl (by kernel_rfl) (fun _ _ _ h => h) (Or.inl ⟨by rfl, ?_⟩) ?_ ?_
              rotate_left
              · intro w'
                go_simp
                with_reducible rfl
              rotate_left
              · simp only [Act.put, List.setIfInBounds_toArray, List.set_cons_zero, List.set_cons_succ, i64_w, i32_w]
                rfl
              refine take_ (i := 3) (N := some 72) (v := ?_) (a' := ?_) #[true, true, true, true, false, false] rfl rfl (by kernel_rfl) (fun _ _ _ h => h) (Or.inl ⟨by rfl, ?_⟩) hHeld ?_ ?_
              rotate_left
              · rintro w' ⟨s0, s1, s2, s3, s4⟩
                go_simp
                with_reducible rfl
              rotate_left
              · simp only [Act.put, List.setIfInBounds_toArray, List.set_cons_zero, List.set_cons_succ, i64_w, i32_w]
                rfl
              refine take_ (i := 4) (N := some 73) (v := ?_) (a' := ?_) #[true, true, true, true, true, false] rfl rfl (by kernel_rfl) (fun _ _ _ h => h) (Or.inl ⟨by rfl, ?_⟩) hHeld ?_ ?_
              rotate_left
              · rintro w' ⟨s0, s1, s2, s3, s4⟩
                go_simp
                with_reducible rfl
              rotate_left
              · simp only [Act.put, List.setIfInBounds_toArray, List.set_cons_zero, List.set_cons_succ, i64_w, i32_w]
                rfl
              refine last_ (i := 5) (N := some 74) #[true, true, true, true, true, true] rfl rfl (by kernel_rfl) (by decide) (fun K hK => ?_)
              refine goes_ Try.func22 (by kernel_rfl) rfl #[.map (some bf), .agg #[.string t.nm, .string t.tn, .slice (some ⟨rb, ob, none⟩) m c, .bool true]] (by rfl) rfl rfl (by simp only [List.map_toArray, List.map_cons, List.map_nil]; rfl) ?_
              with_reducible refine (hD).mono ?_
              rintro e w3 ⟨rfl, hf3, hg3⟩
              refine ⟨_, rfl, ?_⟩
              refine hK.out _ _ ?_
              clear hK K
              refine norm_ (a' := ?_) ?_ ?_
              rotate_left
              · show Act.put _ (some 74) _ = _
                simp only [Act.put, List.setIfInBounds_toArray, List.set_cons_zero, List.set_cons_succ, i64_w, i32_w]
                rfl
              refine done_ (by kernel_rfl) ?_
              have H5 : Hid (DA w0 w3 d bf bn (n1 + i + 1) n2 (bootL firm wait keep part) now wait (.slice (some ⟨gw, ow, none⟩) wait.length cw)) := Lib.hid (by rw [HV.out.2.2.2.1]; exact HZ.out.turnF hf3 hg3)
              clear HZ HKK hf3 hg3 hD hHeld
              go_wp2_with fail
              go_meet
              case rel => exact ⟨rfl, n1 + i + 1, by have := HK.out.2; omega, H5⟩
        case rest =>
          obtain ⟨rfl, n', hn', H5⟩ := hcut
          clear HI y2
          go_upto_region 10 with fail
          have HZ : Hid (DA w0 wc.drew d bf bn n' n2 (bootL firm wait keep part) now wait (.slice (some ⟨gw, ow, none⟩) wait.length cw)) := Lib.hid (H5.out.below (pw_below_drewN (Below.refl _ _) 1))
          clear H5
          have S0 : wc.drew.cell? ⟨d, 0, none⟩ = some (.map (some bf)) := HZ.out.c.1
          have S1 : FM wc.drew bf n' (bootL firm wait keep part) := HZ.out.firmM
          have HNN := Lib.hid hn'
          clear hn'
          refine start_ (n := 13) (S := fun w' => w'.cell? ⟨d, 0, none⟩ = some (.map (some bf)) ∧ FM w' bf n' (bootL firm wait keep part)) (ds := [12]) #[false, false, false, false, false, false, false, false, false, false, false, false, false] (by kernel_rfl) rfl rfl ⟨S0, S1⟩ (fun hHeld => ?_)
          clear S0 S1
          generalize wc.drew = W1 at HZ hHeld ⊢
          refine pure_ (i := 0) (N := some 75) (v := ?_) (a' := ?_) #[true, false, false, false, false, false, false, false, false, false, false, false, false] rfl rfl (by kernel_rfl) (fun _ _ _ h => h) (Or.inl ⟨by rfl, ?_⟩) ?_ ?_
          rotate_left
          · intro w'
            go_simp
            with_reducible rfl
          rotate_left
          · simp only [Act.put, List.setIfInBounds_toArray, List.set_cons_zero, List.set_cons_succ, i64_w, i32_w]
            rfl
          refine pure_ (i := 1) (N := some 76) (v := ?_) (a' := ?_) #[true, true, false, false, false, false, false, false, false, false, false, false, false] rfl rfl (by kernel_rfl) (fun _ _ _ h => h) (Or.inl ⟨by rfl, ?_⟩) ?_ ?_
          rotate_left
          · intro w'
            go_simp
            with_reducible rfl
          rotate_left
          · simp only [Act.put, List.setIfInBounds_toArray, List.set_cons_zero, List.set_cons_succ, i64_w, i32_w]
            rfl
          refine pure_ (i := 2) (N := some 77) (v := ?_) (a' := ?_) #[true, true, true, false, false, false, false, false, false, false, false, false, false] rfl rfl (by kernel_rfl) (fun _ _ _ h => h) (Or.inl ⟨by rfl, ?_⟩) ?_ ?_
          rotate_left
          · intro w'
            go_simp
            with_reducible rfl
          rotate_left
          · simp only [Act.put, List.setIfInBounds_toArray, List.set_cons_zero, List.set_cons_succ, i64_w, i32_w]
            rfl
          refine pure_ (i := 3) (N := some 78) (v := ?_) (a' := ?_) #[true, true, true, true, false, false, false, false, false, false, false, false, false] rfl rfl (by kernel_rfl) (fun _ _ _ h => h) (Or.inl ⟨by rfl, ?_⟩) ?_ ?_
          rotate_left
          · intro w'
            go_simp
            with_reducible rfl
          rotate_left
          · simp only [Act.put, List.setIfInBounds_toArray, List.set_cons_zero, List.set_cons_succ, i64_w, i32_w]
            rfl
          refine pure_ (i := 5) (N := some 80) (v := ?_) (a' := ?_) #[true, true, true, true, false, true, false, false, false, false, false, false, false] rfl rfl (by kernel_rfl) (fun _ _ _ h => h) (Or.inl ⟨by rfl, ?_⟩) ?_ ?_
          rotate_left
          · intro w'
            go_simp
            with_reducible rfl
          rotate_left
          · simp only [Act.put, List.setIfInBounds_toArray, List.set_cons_zero, List.set_cons_succ, i64_w, i32_w]
            rfl
          refine pure_ (i := 6) (N := some 81) (v := ?_) (a' := ?_) #[true, true, true, true, false, true, true, false, false, false, false, false, false] rfl rfl (by kernel_rfl) (fun _ _ _ h => h) (Or.inl ⟨by rfl, ?_⟩) ?_ ?_
          rotate_left
          · intro w'
            go_simp
            with_reducible rfl
          rotate_left
          · simp only [Act.put, List.setIfInBounds_toArray, List.set_cons_zero, List.set_cons_succ, i64_w, i32_w]
            rfl
          refine pure_ (i := 7) (N := some 82) (v := ?_) (a' := ?_) #[true, true, true, true, false, true, true, true, false, false, false, false, false] rfl rfl (by kernel_rfl) (fun _ _ _ h => h) (Or.inl ⟨by rfl, ?_⟩) ?_ ?_
          rotate_left
          · intro w'
            go_simp
            with_reducible rfl
          rotate_left
          · simp only [Act.put, List.setIfInBounds_toArray, List.set_cons_zero, List.set_cons_succ, i64_w, i32_w]
            rfl
          refine take_ (i := 4) (N := some 79) (v := ?_) (a' := ?_) #[true, true, true, true, true, true, true, true, false, false, false, false, false] rfl rfl (by kernel_rfl) (fun _ _ _ h => h) (Or.inl ⟨by rfl, ?_⟩) hHeld ?_ ?_
          rotate_left
          · rintro w' ⟨s0, s1⟩
            go_simp
            with_reducible rfl
          rotate_left
          · simp only [Act.put, List.setIfInBounds_toArray, List.set_cons_zero, List.set_cons_succ, i64_w, i32_w]
            rfl
          refine take_ (i := 8) (N := some 83) (v := ?_) (a' := ?_) #[true, true, true, true, true, true, true, true, true, false, false, false, false] rfl rfl (by kernel_rfl) (fun _ _ _ h => h) (Or.inl ⟨by rfl, ?_⟩) hHeld ?_ ?_
          rotate_left
          · rintro w' ⟨s0, s1⟩
            go_simp
            with_reducible rfl
          rotate_left
          · simp only [Act.put, List.setIfInBounds_toArray, List.set_cons_zero, List.set_cons_succ, i64_w, i32_w]
            rfl
          refine one_ (i := 9) (N := some 84) #[true, true, true, true, true, true, true, true, true, true, false, false, false] rfl rfl (by kernel_rfl) (by decide) (fun K hK => ?_)
          refine goes_ Try.func21 (by kernel_rfl) rfl #[.map (some bf)] (by rfl) rfl rfl (by simp only [List.map_toArray, List.map_cons, List.map_nil]; rfl) ?_
          with_reducible refine (mclone_any bf n' (bootL firm wait keep part) _ hHeld.2).mono ?_
          rintro e w3 ⟨rfl, hf3, hB3⟩
          refine ⟨_, rfl, ?_⟩
          refine hK.out _ _ ⟨(hB3.cell (lt_of_cell hHeld.1)).trans hHeld.1, hHeld.2.below hB3⟩ (fun hHeld => ?_)
          clear hK K
          refine norm_ (a' := ?_) ?_ ?_
          rotate_left
          · show Act.put _ (some 84) _ = _
            simp only [Act.put, List.setIfInBounds_toArray, List.set_cons_zero, List.set_cons_succ, i64_w, i32_w]
            rfl
          refine pure_ (i := 10) (N := some 85) (v := ?_) (a' := ?_) #[true, true, true, true, true, true, true, true, true, true, true, false, false] rfl rfl (by kernel_rfl) (fun _ _ _ h => h) (Or.inl ⟨by rfl, ?_⟩) ?_ ?_
          rotate_left
          · intro w'
            go_simp
            with_reducible rfl
          rotate_left
          · simp only [Act.put, List.setIfInBounds_toArray, List.set_cons_zero, List.set_cons_succ, i64_w, i32_w]
            rfl
          refine pure_ (i := 11) (N := some 86) (v := ?_) (a' := ?_) #[true, true, true, true, true, true, true, true, true, true, true, true, false] rfl rfl (by kernel_rfl) (fun _ _ _ h => h) (Or.inl ⟨by rfl, ?_⟩) ?_ ?_
          rotate_left
          · intro w'
            go_simp
            with_reducible rfl
          rotate_left
          · simp only [Act.put, List.setIfInBounds_toArray, List.set_cons_zero, List.set_cons_succ, i64_w, i32_w]
            rfl
          refine last_ (i := 12) (N := none) #[true, true, true, true, true, true, true, true, true, true, true, true, true] rfl rfl (by kernel_rfl) (by decide) (fun K hK => ?_)
          have h3 := HZ.out.below hB3
          have c := h3.c
          have z0 := h3.z 0
          have z1 := h3.z 1
          have z2 := h3.z 2
          have z3 := h3.z 3
          have z4 := h3.z 4
          have z5 := h3.z 5
          obtain ⟨c0, c1, c2, c3, c4, c5⟩ := c
          refine skip_ (w1 := ?_) (by rfl) rfl ?_ ?_
          rotate_left
          · go_simp
            rfl
          refine hK.out _ _ ?_
          clear hK K
          refine done_ (by kernel_rfl) ?_
          have HF := Lib.hid (And.intro h3 (And.intro hf3 (And.intro hB3.size (And.intro HZ.out.nowM.map.lt HZ.out.low.size))))
          have HFL := Lib.hid HZ.out.firmM.map.lt
          clear h3 hf3 hB3 HZ hHeld c0 c1 c2 c3 c4 c5 z0 z1 z2 z3 z4 z5
          go_wp2_with fail
          have h3 := HF.out.1
          have ho := h3.obj
          refine ⟨rfl, .tuple #[], by simp [results, Try.results9, go_sem], rfl, W1.heap.size, n', HNN.out, ?_⟩
          refine ⟨(((((h3.low.setCell h3.ge.1 _).setCell h3.ge.1 _).setCell h3.ge.1 _).setCell h3.ge.1 _).setCell h3.ge.1 _).setCell h3.ge.1 _, by simp [World.setCell, Array.getElem?_modify, ho], FM.butd h3 (fun k hk => ?_) h3.firmM, FM.butd h3 (fun k hk => ?_) HF.out.2.1, Sl.nil _ _ _, (fun t ht => by cases ht), ⟨h3.ge.1, h3.ge.2.1, HF.out.2.2.2.2, fun e => by have := HFL.out; omega⟩, (fun k hk => by cases hk)⟩
          · rw [set_other _ d 5 _ k hk, set_other _ d 4 _ k hk, set_other _ d 3 _ k hk, set_other _ d 2 _ k hk, set_other _ d 1 _ k hk, set_other _ d 0 _ k hk]
          · rw [set_other _ d 5 _ k hk, set_other _ d 4 _ k hk, set_other _ d 3 _ k hk, set_other _ d 2 _ k hk, set_other _ d 1 _ k hk, set_other _ d 0 _ k hk]
end Go.Proofs.Ytcndhemociajjaa.Dk
