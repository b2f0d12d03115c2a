/- Package disk: Used. -/
import Derived.Test.YtcndhemociajjaaDisk1
import Derived.Test.YtcndhemociajjaaPDiskRoomx1
set_option linter.unusedVariables false
set_option linter.unusedSimpArgs false
namespace Go.Proofs.Ytcndhemociajjaa.Dk
open Go.RowKit Go.Maps Go.WideMaps Go.Proofs.YtcndhemociajjaaW.PrintWords Go.Proofs.YtcndhemociajjaaW.PrintLast Go.Proofs.Ytcndhemociajjaa.Sl Go.Proofs.Ytcndhemociajjaa.Mv Go.Proofs.Ytcndhemociajjaa.PDiskRoom

/-- The bytes of those that are still to come. -/
def sumL (fs : FS) (left : Lit → Bool) : Nat := (fs.map (fun p => if left (ks p.1) then p.2.l.length else 0)).sum
theorem sumL_all (fs : FS) (left : Lit → Bool) (h : ∀ p ∈ fs, left (ks p.1) = true) : sumL fs left = tot fs := by
  unfold sumL tot
  congr 1
  refine List.map_congr_left fun p hp => ?_
  rw [if_pos (h p hp)]
theorem sumL_none (fs : FS) (left : Lit → Bool) (h : ∀ kl, left kl = false) : sumL fs left = 0 := by
  unfold sumL
  simp only [h]
  induction fs with
  | nil => rfl
  | cons p r ih => simpa using ih
theorem sumL_same (fs : FS) (l1 l2 : Lit → Bool) (h : ∀ p ∈ fs, l1 (ks p.1) = l2 (ks p.1)) : sumL fs l1 = sumL fs l2 := by
  unfold sumL
  congr 1
  refine List.map_congr_left fun p hp => ?_
  rw [h p hp]
theorem sumL_step (fs : FS) (h : (names fs).Nodup) (left left' : Lit → Bool) (s : ByteArray) (x : Fl) (hx : (s, x) ∈ fs) (hl : left (ks s) = true) (hl' : left' (ks s) = false) (ho : ∀ t, t ≠ s → left' (ks t) = left (ks t)) : sumL fs left' + x.l.length = sumL fs left := by
  induction fs with
  | nil => cases hx
  | cons p r ih =>
    obtain ⟨h1, h2⟩ := List.nodup_cons.1 h
    have e1 : ∀ l, sumL (p :: r) l = (if l (ks p.1) then p.2.l.length else 0) + sumL r l := fun l => by simp [sumL]
    rw [e1, e1]
    rcases List.mem_cons.1 hx with e | hx
    · subst e
      have : sumL r left' = sumL r left := sumL_same _ _ _ fun q hq => ho _ fun e => h1 (by show s ∈ names r; rw [← e]; exact List.mem_map_of_mem (f := fun (x : ByteArray × Fl) => x.1) hq)
      rw [this, hl, hl']
      simp
      omega
    · have hne : p.1 ≠ s := fun e => h1 (by show p.1 ∈ names r; rw [e]; exact List.mem_map_of_mem (f := fun (x : ByteArray × Fl) => x.1) hx)
      rw [ho _ hne, ← ih h2 hx]
      omega
theorem ff_some (fs : FS) (kl : Lit) (v : Value) (h : ff fs kl = some v) : ∃ s x, (s, x) ∈ fs ∧ kl = ks s ∧ x.v = v := by
  classical
  unfold ff at h
  obtain ⟨p, hp, hv⟩ := Option.map_eq_some_iff.1 h
  have h1 := List.find?_some hp
  simp at h1
  exact ⟨p.1, p.2, List.mem_of_find?_eq_some hp, h1, hv⟩
theorem keyOf_str_inv {key : Value} {kl : Lit} (h : keyOf Try.prog 9 key = some kl) : ∃ x : ByteArray, key = .string x := by
  have hk := Try.underlying9
  cases key <;> simp [keyOf, hk, mapKey] at h
  exact ⟨_, rfl⟩
theorem keyOf_str_kl {x : ByteArray} {kl : Lit} (h : keyOf Try.prog 9 (.string x) = some kl) : kl = ks x := by
  have hk := Try.underlying9
  simp [keyOf, hk, mapKey] at h
  exact h.2.symm
theorem below_only {w w' : World} {B b : Nat} {w0 : World} (h : Below B w0 w) (hg : w.grownBy w' (some b)) (hb : B ≤ b) (hB : B ≤ w.heap.size) : Below B w0 w' := h.grown hg hB (fun k hk => by cases hk; exact hb)
/-- The step of a range over files. -/
theorem wpl_next_files {ops : Array Oper} {rest : List Oper} {o : Oper} {a : Act} {Q : Exit → Act → World → Prop} {W : World} (hg : o.guard = none) (it : Operand) (hop : o.op = Op.next it false) (bn r n m : Nat) (D : DataW Value) (left : Lit → Bool) (cnt : Nat) (fs : FS)
    (hit : a.eval it = .pointer (some ⟨r, 0, none⟩)) (h : W.ranges Try.prog 9 RV bn r m D left cnt) (hD : ∀ kl, Maps.has D kl = (ff fs kl).isSome ∧ ∀ z, D.atKey kl (.held z) = .held ((ff fs kl).getD z))
    (hDone : cnt = 0 → (∀ kl, left kl = false) → wpList Try.prog ops Q rest (a.put o.dst (.tuple #[.bool false])) W)
    (hMore : ∀ (s : ByteArray) (f : Fl) (w' : World) (cnt' : Nat), Hid ((s, f) ∈ fs ∧ left (ks s) = true ∧ w'.ranges Try.prog 9 RV bn r m D (fun z => left z && !z.sameKey (ks s)) cnt' ∧ cnt' < cnt ∧ W.grownBy w' (some r) ∧ w'.heap.size = W.heap.size) → (Instr.entry (.pointer (some ⟨r, 0, none⟩))).run Try.prog w' = .ok (.tuple #[.string s, f.v]) w' → wpList Try.prog ops Q rest (a.put o.dst (.tuple #[.bool true, .string s, f.v])) w') : wpList Try.prog ops Q (o :: rest) a W := by
  refine wpList_next_ranges W hg it hop 9 strKeyed RV Value.string (fun v : Value => v) (fun key kl hkey => keyOf_str_inv hkey) (fun v y _ => ⟨v, rfl⟩) bn r m D left cnt hit h hDone ?_
  intro x v kl y w1 cnt1 hkey hlk hv hat hrg hlt hgr hsz hen
  obtain rfl := keyOf_str_kl hkey
  have hy : y = (.held v, []) := by unfold RV at hv; exact (Option.some.inj hv).symm
  have hfv : ff fs (ks x) = some v := by
    have h2 := (hD (ks x)).2
    have key : ∀ z : Value, (ff fs (ks x)).getD z = v := fun z => by
      have h3 := h2 z
      rw [hat, hy] at h3
      injection h3 with h3
      exact h3.symm
    cases e : ff fs (ks x) with
    | some u => rw [e] at key; exact congrArg some (key (.bool true))
    | none =>
      rw [e] at key
      have k1 := key (.bool true)
      have k2 := key (.bool false)
      simp at k1 k2
      rw [← k1] at k2
      cases k2
  obtain ⟨s, f, hm, hks, hfe⟩ := ff_some _ _ _ hfv
  obtain rfl := ks_inj.1 hks
  subst hfe
  exact hMore x f w1 cnt1 (Lib.hid ⟨hm, hlk, hrg, hlt, hgr, hsz⟩) hen
theorem struck (left : Lit → Bool) (s : ByteArray) : (left (ks s) && !(ks s).sameKey (ks s)) = false ∧ ∀ t, t ≠ s → (left (ks t) && !(ks t).sameKey (ks s)) = left (ks t) := by
  refine ⟨by simp [Lit.sameKey], fun t ht => ?_⟩
  rw [sameKey_ne (fun e => ht (ks_inj.1 e))]
  simp
set_option maxHeartbeats 4000000 in
set_option maxRecDepth 100000 in
theorem Used_any (d bn n : Nat) (fs : FS) (w : World) (hd : w.cell? ⟨d, 1, none⟩ = some (.map (some bn))) (h : FM w bn n fs) (ht : tot fs ≤ 1000000) : Calls Try.prog 12 #[.pointer (some ⟨d, 0, none⟩)] w fun e w' => e = .returned (.int .i64 (tot fs : Int)) ∧ Below w.heap.size w w' := by
  obtain ⟨D, hown, hsz, hD⟩ := h.map.out
  have HF := Lib.hid (And.intro h (And.intro hD ht))
  have HO := Lib.hid hown
  clear h ht hown hsz hD
  go_enter Try.func12, Try.ntmps12
  go_wp2_with (first | (at_range; refine wpList_range_own _ rfl _ 40 rfl 9 26 strKeyed Try.underlying40 RV bn n D rfl HO.out ?_; intro w0 hrg0 hg0 hs0) | fail)
  go_frame
  obtain ⟨r, hr⟩ : ∃ r, w.heap.size = r := ⟨_, rfl⟩
  have hB0 : Below w.heap.size w w0 := below_only (Below.refl _ _) (hg0.but _) (Nat.le_refl _) (Nat.le_refl _)
  rw [hr] at hrg0 ⊢
  have H0 : Hid (w0.ranges Try.prog 9 RV bn r n D (Maps.has D) (Maps.size D) ∧ Below w.heap.size w w0 ∧ w.heap.size ≤ r) := Lib.hid ⟨hrg0, hB0, by omega⟩
  clear hrg0 hg0 hs0 hB0 hr
  go_loopw [3] (fun t3 wr => ∃ (left : Lit → Bool) (cnt q : Nat), t3 = .int .i64 (q : Int) ∧ Hid (q + sumL fs left = tot fs ∧ wr.ranges Try.prog 9 RV bn r n D left cnt ∧ Below w.heap.size w wr ∧ w.heap.size ≤ r)) (fun _ wr => wr.rangeLeft bn r)
  case atStart =>
    refine ⟨Maps.has D, Maps.size D, 0, rfl, Lib.hid ⟨?_, H0.out⟩⟩
    rw [Nat.zero_add]
    refine sumL_all _ _ fun p hp => ?_
    rw [(HF.out.2.1 _).1, ff_lk]
    rcases dl_len fs p.1 HF.out.1.nodup with ⟨a, _⟩ | ⟨x, a, _⟩
    · exfalso
      unfold lk at a
      rw [Option.map_eq_none_iff, List.find?_eq_none] at a
      exact absurd (a p hp) (by simp)
    · rw [a]; rfl
  case round =>
    obtain ⟨left, cnt, q, rfl, HI⟩ := hrel
    clear H0
    go_wp2_with (first | (at_next; refine wpl_next_files rfl _ rfl bn r n n D left cnt fs rfl HI.out.2.1 HF.out.2.1 ?_ ?_) | fail)
    · intro hc0 hl0
      have hq : q = tot fs := by have := HI.out.1; rw [sumL_none _ _ hl0] at this; omega
      have HB := Lib.hid HI.out.2.2.1
      subst hq
      clear HI hc0 hl0
      go_wp2_with fail
      go_ret
      exact ⟨rfl, HB.out⟩
    · intro x f w1 cnt1 HE hen
      have hrow := (HF.out.1.rows _ HE.out.1).1
      obtain ⟨A, c, hv2, _⟩ := hrow.form
      simp only at hv2
      rw [hv2] at hen ⊢
      have hst := sumL_step fs HF.out.1.nodup left (fun z => left z && !z.sameKey (ks x)) x f HE.out.1 HE.out.2.1 (struck left x).1 (struck left x).2
      have hle : q + f.l.length ≤ tot fs := by have := HI.out.1; omega
      have H2 : Hid ((q + f.l.length) + sumL fs (fun z => left z && !z.sameKey (ks x)) = tot fs ∧ w1.ranges Try.prog 9 RV bn r n D (fun z => left z && !z.sameKey (ks x)) cnt1 ∧ Below w.heap.size w w1 ∧ w.heap.size ≤ r) := Lib.hid ⟨by have := HI.out.1; omega, HE.out.2.2.1, below_only HI.out.2.2.1 HE.out.2.2.2.2.1 HI.out.2.2.2 HI.out.2.2.1.size, HI.out.2.2.2⟩
      have hmeas : w1.rangeLeft bn r < wr.rangeLeft bn r := by rw [HE.out.2.2.1.left_eq, HI.out.2.1.left_eq]; exact HE.out.2.2.2.1
      have HM := Lib.hid hmeas
      have q1 : (q : Int) + (f.l.length : Int) ≤ 1000000 := by have := HF.out.2.2; omega
      have q0 : (0 : Int) ≤ (q : Int) := by omega
      have q2 : (0 : Int) ≤ (f.l.length : Int) := by omega
      clear HI hst hle hmeas hrow hv2 HE
      go_wp2_with fail
      go_roundw
      case rel => exact ⟨_, cnt1, q + f.l.length, by go_num, H2⟩
      case measure => exact HM.out
end Go.Proofs.Ytcndhemociajjaa.Dk
