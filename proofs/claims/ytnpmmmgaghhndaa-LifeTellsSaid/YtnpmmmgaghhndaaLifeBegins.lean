/- LifeBegins: the walk. -/
import Derived.Test.YtnpmmmgaghhndaaBeginsPure
import Derived.Deep.CutBlock
import Derived.Deep.DeepCutAuto
set_option linter.unusedSimpArgs false
set_option linter.unusedVariables false
namespace Go.Proofs.Ytnpmmmgaghhndaa.Lf
open Go.RowKit Go.Maps Go.Proofs.Ytnpmmmgaghhndaa.PLifeBegins Go.Proofs.YtnpmmmgaghhndaaW.PrintWords Go.Proofs.YtnpmmmgaghhndaaW.PrintLast Go.Proofs.YtnpmmmgaghhndaaW.PrintMore Go.Proofs.Ytnpmmmgaghhndaa.Given Go.Proofs.Ytnpmmmgaghhndaa.Mv

theorem within (a lo hi : Int) (h : lo ≤ hi) (h0 : -1000000 ≤ lo) (h1 : hi ≤ 100000000) : ∃ r : Int, porticobook_Within.f a lo hi = some r ∧ lo ≤ r ∧ r ≤ hi := by
  have e1 : wrap64 (hi - lo) = hi - lo := by unfold wrap64; omega
  have e2 : wrap64 (hi - lo + 1) = hi - lo + 1 := by unfold wrap64; omega
  unfold porticobook_Within.f
  rw [e1, e2, if_neg (by omega)]
  obtain ⟨m, hm⟩ : ∃ m, Int.tmod a (hi - lo + 1) = m := ⟨_, rfl⟩
  have l1 : m < hi - lo + 1 := by rw [← hm]; exact Int.tmod_lt_of_pos a (by omega)
  have l2 : -(hi - lo + 1) < m := by
    rw [← hm]
    have := Int.tmod_lt_of_pos (-a) (show 0 < hi - lo + 1 by omega)
    rw [Int.neg_tmod] at this
    omega
  rw [hm]
  by_cases c : m < 0
  · rw [if_pos c]
    refine ⟨_, rfl, ?_, ?_⟩ <;> unfold wrap64 <;> omega
  · rw [if_neg c]
    refine ⟨_, rfl, ?_, ?_⟩ <;> unfold wrap64 <;> omega
abbrev RL (w : World) (B : Nat) (v : Value) (l : List Ev) : Prop := Kd.R k23 23 w B (fun _ => True) v l
theorem RL.kept {w w' : World} {B : Nat} {v : Value} {l : List Ev} {row : Option Nat} (h : RL w B v l) (hg : w.grownBy w' row) (hne : ∀ q, v.ownBlock = some q → row ≠ some q) : RL w' B v l := by
  obtain ⟨_, inner, ho, hr⟩ := h
  refine ⟨fun _ _ => trivial, inner, ho.kept hg ?_, hr⟩
  cases e : v.ownBlock with
  | none => exact .inl rfl
  | some q => exact .inr (hne q e).symm
structure Bg (w wr : World) (b : Nat) (v : Value) (k i : Nat) (l : List Ev) (m : Int → Option Int) (top : Nat) : Prop where
  len : k = l.length
  li : l.length ≤ i
  ti : top ≤ i
  rs : RS l m (top : Int)
  tops : Tops m (top : Int)
  nums : ∀ e ∈ l, 1 ≤ e.f1 ∧ e.f1 ≤ 1000
  row : RL wr w.heap.size v l
  above : ∀ q, v.ownBlock = some q → b < q
  low : Below w.heap.size w wr
  base : w.heap.size ≤ b
  map : ∃ n mm f, n ≤ i ∧ MapV 3 wr b n mm f ∧ RM f m
theorem Bg.below {w wr wq : World} {b : Nat} {v : Value} {k i : Nat} {l : List Ev} {m : Int → Option Int} {top : Nat} (h : Bg w wr b v k i l m top) (hB : Below wr.heap.size wr wq) : Bg w wq b v k i l m top :=
  ⟨h.len, h.li, h.ti, h.rs, h.tops, h.nums, Kd.R_below h.row hB, h.above, h.low.trans (hB.mono h.low.size), h.base, by obtain ⟨n, mm, f, h1, h2, h3⟩ := h.map; exact ⟨n, mm, f, h1, h2.below hB, h3⟩⟩
theorem wf_of {n : Int} (h : 1 ≤ n ∧ n ≤ 1000) : (Lit.int .i64 n).wf = true := by
  simp [Lit.wf, IntKind.min, IntKind.max, IntKind.signed, IntKind.bits]; omega
theorem same_from (l : List Int) (hl : l.length ≤ 1000000) : ∀ (d i : Nat), i + d = l.length → ∀ k, d < k → porticobook_Same_int.l0 k l l (i : Int) = some true := by
  intro d
  induction d with
  | zero =>
    intro i hi k hk
    obtain ⟨k, rfl⟩ : ∃ m, k = m + 1 := ⟨k - 1, by omega⟩
    simp only [porticobook_Same_int.l0]
    rw [if_neg (by omega)]
  | succ d ih =>
    intro i hi k hk
    obtain ⟨k, rfl⟩ : ∃ m, k = m + 1 := ⟨k - 1, by omega⟩
    have hw : wrap64 ((i : Int) + 1) = ((i + 1 : Nat) : Int) := by unfold wrap64; omega
    simp only [porticobook_Same_int.l0]
    rw [if_pos (by omega), if_pos (by omega), if_pos (by omega), if_pos trivial, hw]
    exact ih (i + 1) (by omega) k (by omega)
theorem same_self (l : List Int) (hl : l.length ≤ 1000000) : porticobook_Same_int.f (l.length + 1) l l = some true := by
  unfold porticobook_Same_int.f
  rw [if_pos rfl]
  exact same_from l hl l.length 0 (by omega) _ (by omega)
theorem C_take {α : Type} {d : Kd α} {w : World} {A : Option Addr} {n m : Nat} {l : List α} (h : d.C w A n l) (hm : m ≤ l.length) : d.C w A m (l.take m) := by
  obtain ⟨h1, h2, h3⟩ := h
  have h1 : l.length = n := h1
  refine ⟨by show (l.take m).length = m; rw [List.length_take]; omega, by omega, fun h0 => ?_⟩
  obtain ⟨ad, e, h4⟩ := h3 (by omega)
  refine ⟨ad, e, fun j p hj => h4 j p ?_⟩
  have hj2 : j < m := by
    have := (List.getElem?_eq_some_iff.1 hj).1
    rw [List.length_take] at this
    omega
  rwa [List.getElem?_take_of_lt hj2] at hj
theorem Bg.grown {w wr wq : World} {b : Nat} {v : Value} {k i : Nat} {l : List Ev} {m : Int → Option Int} {top B2 : Nat} {row : Option Nat} (h : Bg w wr b v k i l m top) (hg : wr.grownBy wq row) (hrow : ∀ q, row = some q → B2 ≤ q) (hl : ∀ q, v.ownBlock = some q → q < B2) (hb : b < B2) (hw : w.heap.size ≤ B2) : Bg w wq b v k i l m top :=
  ⟨h.len, h.li, h.ti, h.rs, h.tops, h.nums, RL.kept h.row hg (fun q hq e => by have := hl q hq; have := hrow q e; omega), h.above, below_grown h.low hg (fun q hq => by have := hrow q hq; omega) h.low.size, h.base, by obtain ⟨n, mm, f, h1, h2, h3⟩ := h.map; exact ⟨n, mm, f, h1, h2.grown hg (fun e => by have := hrow b e; omega), h3⟩⟩
theorem Next_31 (w : World) : Calls Try.prog 14 #[.int .i64 3, .int .i64 1] w fun e w' => e = .returned (.tuple #[.int .i64 3, .bool false]) ∧ w' = w := Next_any 3 1 w
theorem Next_04 (w : World) : Calls Try.prog 14 #[.int .i64 0, .int .i64 4] w fun e w' => e = .returned (.tuple #[.int .i64 0, .bool false]) ∧ w' = w := Next_any 0 4 w
theorem Next_91 (w : World) : Calls Try.prog 14 #[.int .i64 9, .int .i64 1] w fun e w' => e = .returned (.tuple #[.int .i64 9, .bool false]) ∧ w' = w := Next_any 9 1 w
abbrev lr : List Ev := [⟨1, 1⟩, ⟨3, 1⟩, ⟨1, 2⟩, ⟨2, 1⟩]
theorem right1 : life_Right.f lr = some true := by
  unfold life_Right.f
  rw [if_pos (by decide)]
  kernel_rfl
theorem right2 : life_Right.f [⟨2, 1⟩] = some false := by
  unfold life_Right.f
  rw [if_pos (by decide)]
  kernel_rfl
theorem alive1 : life_Alive.f lr = some [1, 2] := by
  unfold life_Alive.f
  rw [if_pos (by decide)]
  congr 1
  refine alive_eq ⟨by decide, fun n => ?_⟩
  show n ∈ [1, 2] ↔ updI (updI (updI (updI (fun _ => none) 1 1) 1 2) 2 1) 1 1 n = some 1
  unfold updI
  by_cases h1 : n = 1
  · simp [h1]
  · by_cases h2 : n = 2
    · simp [h2]
    · simp [h1, h2]
theorem runs : porticolaw19_LifeRuns.f 60 = some true := by
  unfold porticolaw19_LifeRuns.f
  simp only [Option.bind_some]
  rw [right1, alive1, right2]
  simp only [Option.bind_some, if_true]
  kernel_rfl
attribute [local go_sem] max2_int min2_int max_two min_two
set_option maxHeartbeats 4000000 in
set_option maxRecDepth 100000 in
theorem LifeBegins_any (A : Option Addr) (c : Nat) (nums : List Int) (cut : Int) (w : World) (hr : Kd.C (Kd.int .i64) w A nums.length nums) (hc : nums.length ≤ c) : Calls Try.prog 5 #[.slice A nums.length c, .int .i64 cut] w fun e w' => e = .returned (.bool true) ∧ Below w.heap.size w w' := by
  have HA := Lib.hid (And.intro hr hc)
  clear hr hc
  have hmm := @Go.RowKit.run_makeMap Try.prog
  go_enter Try.func5, Try.ntmps5
  go_wp2_with fail
  clear hmm
  obtain ⟨b, hb⟩ : ∃ b, w.heap.size = b := ⟨_, rfl⟩
  have H1 : Hid (Bg w (w.alloc (.map #[] 0)) b (.slice none 0 0) 0 0 [] (fun _ => none) 0) := Lib.hid
    { len := rfl, li := Nat.le_refl _, ti := Nat.le_refl _, rs := RS.nil, tops := Tops.nil, nums := fun e he => (by cases he), row := Kd.R_nil _ _ _ _ _, above := fun q hq => (by cases hq), low := (Below.refl _ _).alloc (Nat.le_refl _) _, base := by omega, map := ⟨0, 0, _, Nat.le_refl _, by rw [← hb]; exact MapV.made w _, fun n => rfl, fun kl v hv => by cases hv⟩ }
  rw [hb]
  clear hb
  generalize w.alloc (.map #[] 0) = w1 at H1 ⊢
  go_loopw [5, 7, 8] (fun t5 t7 t8 wr => ∃ (i top k c' : Nat) (A' : Option Addr) (l : List Ev) (m : Int → Option Int), t5 = .slice A' k c' ∧ t7 = .int .i64 (top : Int) ∧ t8 = .int .i64 (i : Int) ∧ i ≤ 40 ∧ Hid (Bg w wr b (.slice A' k c') k i l m top)) (fun _ _ t _ => match t with | .int _ q => (40 - q).toNat | _ => 0)
  case atStart => exact ⟨0, 0, 0, 0, none, [], _, rfl, rfl, rfl, by omega, H1⟩
  case round =>
    obtain ⟨i, top, k, c', A', l, m, rfl, rfl, rfl, hi, HI⟩ := hrel
    clear H1
    have i0 : (0 : Int) ≤ (i : Int) := by omega
    have i40 : (i : Int) ≤ 40 := by omega
    have t0 : (0 : Int) ≤ (top : Int) := by omega
    have t40 : (top : Int) ≤ 40 := by have := HI.out.ti; omega
    by_cases d1 : i < nums.length
    · by_cases d2 : i < 40
      · have i1 : (i : Int) < (nums.length : Int) := by omega
        have i2 : (i : Int) < 40 := by omega
        obtain ⟨ad, cs, e0, _, hK, hcl⟩ := Kd.C_get (Kd.C_below HA.out.1 HI.out.low) 0 (i : Int) i0 (by omega)
        subst e0
        obtain ⟨x, hx⟩ : ∃ x, nums.getD (i : Int).toNat 0 = x := ⟨_, rfl⟩
        rw [hx] at hK
        have hK' : cs = [.int .i64 x] := hK
        subst hK'
        have y0 := hcl 0 _ rfl
        rw [show (i : Int).toNat * (Kd.int .i64).sz + 0 = i from by show (i : Int).toNat * 1 + 0 = i; omega] at y0
        clear hK hcl hx
        go_wp2_with fail
        obtain ⟨n, hn1, hn2, hn3⟩ := within (wrap64 (x.tdiv 4)) 1 ((top : Int) + 1) (by omega) (by omega) (by omega)
        refine (porticobook_Within.calls _ _ _ _ _ hn1).mono ?_
        rintro e9 n5 ⟨rfl, q, rfl⟩
        have HI2 := Lib.hid (HI.out.below (pw_below_drewN (Below.refl wr.heap.size wr) q))
        clear hn1 HI y0
        generalize wr.drewN q = w2 at HI2 ⊢
        obtain ⟨ad2, cs, e0, _, hK, hcl⟩ := Kd.C_get (Kd.C_below HA.out.1 HI2.out.low) 0 (i : Int) i0 (by omega)
        injection e0 with e0
        subst e0
        obtain ⟨x, hx⟩ : ∃ x, nums.getD (i : Int).toNat 0 = x := ⟨_, rfl⟩
        rw [hx] at hK
        have hK' : cs = [.int .i64 x] := hK
        subst hK'
        have y0 := hcl 0 _ rfl
        rw [show (i : Int).toNat * (Kd.int .i64).sz + 0 = i from by show (i : Int).toNat * 1 + 0 = i; omega] at y0
        clear hK hcl hx
        go_wp2_with fail
        obtain ⟨kd, hk1, hk2, hk3⟩ := within x 1 4 (by omega) (by omega) (by omega)
        refine (porticobook_Within.calls _ _ _ _ _ hk1).mono ?_
        rintro e9 n5 ⟨rfl, q2, rfl⟩
        have HI3 := Lib.hid (HI2.out.below (pw_below_drewN (Below.refl w2.heap.size w2) q2))
        clear hk1 HI2 y0
        generalize w2.drewN q2 = w3 at HI3 ⊢
        have hwf := wf_of (n := n) ⟨hn2, by omega⟩
        obtain ⟨nn, mm, f, g1, g2, g3⟩ := HI3.out.map
        have hlk := g2.get intKeyed Try.underlying35 (zeroState w3) (ki_key hwf)
        rw [g3.get n] at hlk
        obtain ⟨w4, hr4, hm4, hg4⟩ := g2.put intKeyed Try.underlying35 (by unfold maxLen; omega) (ki_key hwf) (.int .i64 (nextP (getS m n) kd).1) (upd f (ki n) _) (upd_same _ _ _) (fun y hy => upd_other _ _ hy)
        have hrm := g3.put n (nextP (getS m n) kd).1 hwf
        have hrow4 := RL.kept HI3.out.row hg4 (fun q hq e => by have := HI3.out.above q hq; injection e with e; omega)
        have H4 : Hid (Below w.heap.size w w4 ∧ (∃ mm', MapV 3 w4 b (nn + 1) mm' (upd f (ki n) (some (.int .i64 (nextP (getS m n) kd).1)))) ∧ RM (upd f (ki n) (some (.int .i64 (nextP (getS m n) kd).1))) (updI m n (nextP (getS m n) kd).1) ∧ nn ≤ i ∧ RL w4 w.heap.size (.slice A' k c') l ∧ b < w4.heap.size) := Lib.hid ⟨HI3.out.low.grown hg4 HI3.out.low.size (fun k hk => by cases hk; exact HI3.out.base), ⟨_, hm4⟩, hrm, g1, hrow4, hm4.lt⟩
        clear hm4 hg4 hrm hrow4 g1 g2 g3
        have HN : Hid (1 ≤ n ∧ n ≤ (top : Int) + 1 ∧ n ≤ 1000 ∧ (Lit.int .i64 n).wf = true) := Lib.hid ⟨hn2, hn3, by omega, hwf⟩
        clear hwf
        obtain ⟨s, hs⟩ : ∃ s, getS m n = s := ⟨_, rfl⟩
        rw [hs] at hlk hr4 H4
        have c14 := Next_any s kd w3
        obtain ⟨nx, hnx⟩ : ∃ nx, nextP s kd = nx := ⟨_, rfl⟩
        rw [hnx] at hr4 H4 c14
        have HS := Lib.hid (And.intro hs hnx)
        clear hs hnx
        obtain ⟨n1, ok⟩ := nx
        simp only at hr4 H4 c14
        replace c14 := Lib.hid c14
        cases ok with
        | false =>
          have hsm : n1 = s := by
            have := next_same s kd (by rw [HS.out.2])
            rw [HS.out.2] at this
            exact this
          subst hsm
          clear hr4 H4
          go_wp2_with (refine c14.out.mono ?_; rintro e9 w9 ⟨rfl, rfl⟩)
          go_roundw
          case rel => exact ⟨i + 1, top, k, c', A', l, m, rfl, rfl, by go_num, by omega, Lib.hid { HI3.out with li := by have := HI3.out.li; omega, ti := by have := HI3.out.ti; omega, map := by obtain ⟨n', mm', f', h1, h2⟩ := HI3.out.map; exact ⟨n', mm', f', by omega, h2⟩ }⟩
          case measure => simp; omega
        | true =>
          have hstep := HI3.out.rs.more ⟨kd, n⟩ (by show (nextP (getS m n) kd).2 = true; rw [HS.out.1, HS.out.2]) HN.out.1
          have htops := HI3.out.tops.more n kd HN.out.1 HN.out.2.1 (by rw [HS.out.1, HS.out.2])
          rw [HS.out.1, HS.out.2] at htops
          simp only at htops
          have hs2 : RS (l ++ [⟨kd, n⟩]) (updI m n n1) (if (top : Int) < n then n else (top : Int)) := by
            have h1 := hstep (fun e => htops.2.1 e)
            have e1 : (nextP (getS m (⟨kd, n⟩ : Ev).f1) (⟨kd, n⟩ : Ev).f0).1 = n1 := by show (nextP (getS m n) kd).1 = n1; rw [HS.out.1, HS.out.2]
            rw [e1] at h1
            by_cases c : kd = 1
            · rw [if_pos (htops.2.1 c)]
              rw [if_pos (show (⟨kd, n⟩ : Ev).f0 = 1 from c)] at h1
              exact h1
            · rw [if_neg (fun h => c (htops.2.2 h))]
              rw [if_neg (show ¬ (⟨kd, n⟩ : Ev).f0 = 1 from c)] at h1
              exact h1
          have HT := Lib.hid (And.intro hs2 htops.1)
          clear hstep htops hs2
          have hk := HI3.out.len
          subst hk
          obtain ⟨top', ht'⟩ : ∃ top' : Nat, (if (top : Int) < n then n else (top : Int)) = (top' : Int) := ⟨if (top : Int) < n then n.toNat else top, by split <;> omega⟩
          rw [ht'] at HT
          have htl : top' ≤ i + 1 := by have := HI3.out.ti; have := HN.out.2.1; split at ht' <;> omega
          go_wp2_with (first | (refine c14.out.mono ?_; rintro e9 w9 ⟨rfl, rfl⟩) | (at_builtin; refine Kd.R_append k23 (w0 := w) w.heap.size rfl (.tmp 66) (.tmp 70) 24 23 (.agg #[(.int .i64 0), (.int .i64 0)]) 16 rfl Try.underlying24 info23 rfl (by decide) (by omega) (.slice A' l.length c') l (⟨kd, n⟩ : Ev) [.int .i64 kd, .int .i64 n] (fun _ => True) (fun _ => False) rfl rfl (k23_mkM _ _ _ (⟨kd, n⟩ : Ev)) (fun _ hk => hk.elim) (fun _ _ => trivial) H4.out.2.2.2.2.1 H4.out.1 H4.out.1.size (by have := HI3.out.li; omega) ?_; intro v7 w7 hr7 hb7 hg7 ho7; obtain ⟨A7, c7, rfl⟩ := Kd.R_slice hr7))
          have H7 : Hid (Bg w w7 b (.slice A7 (l.length + 1) c7) (l.length + 1) (i + 1) (l ++ [⟨kd, n⟩]) (updI m n n1) top') := Lib.hid
            { len := by simp, li := by have := HI3.out.li; simp; omega, ti := htl, rs := HT.out.1, tops := HT.out.2
              nums := fun e he => by
                rcases List.mem_append.1 he with he | he
                · exact HI3.out.nums e he
                · rw [List.mem_singleton.1 he]; exact ⟨HN.out.1, HN.out.2.2.1⟩
              row := by have h8 := hr7; rw [List.length_append] at h8; exact h8
              above := fun q hq => by
                have hq' : (Value.slice A7 (l ++ [(⟨kd, n⟩ : Ev)]).length c7).ownBlock = some q := by simpa using hq
                rcases ho7 with ho | ⟨q7, ho, hge⟩
                · exact HI3.out.above q (by rw [← ho]; exact hq')
                · rw [ho] at hq'
                  have hq := Option.some.inj hq'
                  have := H4.out.2.2.2.2.2
                  omega
              low := hb7, base := HI3.out.base
              map := by
                obtain ⟨_, ⟨mm', a2⟩, a3, a4, _⟩ := H4.out
                exact ⟨nn + 1, mm', _, by omega, a2.grown hg7 (fun e => by have := HI3.out.above b e; omega), a3⟩ }
          clear hr7 hb7 hg7 ho7
          go_roundw
          case rel => exact ⟨i + 1, top', l.length + 1, c7, A7, l ++ [⟨kd, n⟩], _, rfl, rfl, by go_num, by omega, H7⟩
          case measure => simp; omega
      · have i2 : ¬ (i : Int) < 40 := by omega
        have i1 : (i : Int) < (nums.length : Int) := by omega
        go_upto_region 16 with fail
        have hk := HI.out.len
        subst hk
        have hL := HI.out.li
        have hrd := Kd.R_reads' HI.out.row
        have hwl : ∀ e ∈ l, (Lit.int .i64 e.f1).wf = true := fun e he => wf_of (HI.out.nums e he)
        have hWL := Lib.hid hwl
        have hR := Right_any A' c' l wr hrd.2.2 hrd.2.1 hwl (by omega)
        rw [show (readP l).2 = true from by rw [HI.out.rs.read]] at hR
        replace hR := Lib.hid hR
        have hlc := hrd.2.1
        clear hrd hwl
        go_wp2_with fail
        refine hR.out.mono ?_
        clear hR
        rintro e9 wa ⟨rfl, hBa⟩
        have HI2 := Lib.hid (HI.out.below hBa)
        clear HI hBa
        have hl40 : (l.length : Int) ≤ 40 := by omega
        go_wp2_with fail
        obtain ⟨j, hj1, hj2, hj3⟩ := within cut 0 (l.length : Int) (by omega) (by omega) (by omega)
        obtain ⟨j, rfl⟩ : ∃ j' : Nat, j = (j' : Int) := ⟨j.toNat, by omega⟩
        refine (porticobook_Within.calls _ _ _ _ _ hj1).mono ?_
        rintro e9 wb ⟨rfl, q, rfl⟩
        have HI3 := Lib.hid (HI2.out.below (pw_below_drewN (Below.refl wa.heap.size wa) q))
        clear HI2 hj1
        generalize wa.drewN q = wb at HI3 ⊢
        have hjl : j ≤ l.length := by omega
        have hjc : j ≤ c' := by omega
        clear hj2 hj3
        have hlt : (l.take j).length = j := by rw [List.length_take]; omega
        have hR := Right_any A' c' (l.take j) wb (by rw [hlt]; exact C_take (Kd.R_reads' HI3.out.row).2.2 hjl) (by omega) (fun e he => hWL.out e (List.mem_of_mem_take he)) (by omega)
        rw [hlt, HI3.out.rs.take j] at hR
        replace hR := Lib.hid hR
        clear hlt
        go_wp2_with fail
        refine hR.out.mono ?_
        clear hR
        rintro e9 wc ⟨rfl, hBc⟩
        have HI4 := Lib.hid (HI3.out.below hBc)
        clear HI3 hBc hjl hjc
        obtain ⟨B2, hB2⟩ : ∃ B, wc.heap.size = B := ⟨_, rfl⟩
        have HB2 : Hid ((∀ q, (Value.slice A' l.length c').ownBlock = some q → q < B2) ∧ b < B2 ∧ w.heap.size ≤ B2 ∧ B2 ≤ wc.heap.size) := Lib.hid ⟨fun q hq => by rw [← hB2]; exact ((Kd.R_own HI4.out.row).choose_spec.lt q hq).2, by rw [← hB2]; obtain ⟨_, _, _, _, hm, _⟩ := HI4.out.map; exact hm.lt, by rw [← hB2]; exact HI4.out.low.size, by omega⟩
        clear hB2
        go_wp2_with fail
        go_loopw [13, 14] (fun t13 t14 wr => ∃ (j k2 c2 : Nat) (A2 : Option Addr), t13 = .slice A2 k2 c2 ∧ t14 = .int .i64 (j : Int) ∧ 1 ≤ j ∧ j ≤ top + 1 ∧ Hid (k2 = (wantL m (j - 1)).length ∧ Bg w wr b (.slice A' l.length c') l.length i l m top ∧ RI wr B2 (.slice A2 k2 c2) (wantL m (j - 1)) ∧ B2 ≤ wr.heap.size)) (fun _ t _ => match t with | .int _ q => (top + 1 - q).toNat | _ => 0)
        case atStart => exact ⟨1, 0, 0, none, rfl, rfl, by omega, by omega, Lib.hid ⟨rfl, HI4.out, Kd.R_nil _ _ _ _ _, HB2.out.2.2.2⟩⟩
        case round =>
          obtain ⟨j, k2, c2, A2, rfl, rfl, hj1, hj2, HJ⟩ := hrel
          clear HI4
          have j0 : (1 : Int) ≤ (j : Int) := by omega
          have j40 : (j : Int) ≤ 41 := by omega
          by_cases e1 : j ≤ top
          · have e1i : (j : Int) ≤ (top : Int) := by omega
            obtain ⟨nn, mm, f, g1, g2, g3⟩ := HJ.out.2.1.map
            have hlk := g2.get intKeyed Try.underlying35 (zeroState wr) (ki_key (wf_of (n := (j : Int)) ⟨by omega, by omega⟩))
            rw [g3.get (j : Int)] at hlk
            clear g1 g2 g3
            have hst : wantL m j = wantL m (j - 1) ++ (if getS m (j : Int) = 1 then [(j : Int)] else []) := by
              obtain ⟨j', rfl⟩ : ∃ j', j = j' + 1 := ⟨j - 1, by omega⟩
              rfl
            by_cases s1 : getS m (j : Int) = 1
            · rw [s1] at hlk
              rw [if_pos s1] at hst
              have HST := Lib.hid hst
              clear hst s1
              have hk2 := HJ.out.1
              subst hk2
              have HA2 : Hid (Bg w (wr.alloc (.cells #[.int .i64 (j : Int)] 3)) b (.slice A' l.length c') l.length i l m top ∧ RI (wr.alloc (.cells #[.int .i64 (j : Int)] 3)) B2 (.slice A2 (wantL m (j - 1)).length c2) (wantL m (j - 1)) ∧ Below B2 wr (wr.alloc (.cells #[.int .i64 (j : Int)] 3))) := Lib.hid ⟨HJ.out.2.1.below ((Below.refl _ _).alloc (Nat.le_refl _) _), Kd.R_below HJ.out.2.2.1 ((Below.refl _ _).alloc (Nat.le_refl _) _), (Below.refl B2 wr).alloc HJ.out.2.2.2 _⟩
              go_wp2_with (at_builtin; refine Kd.R_append_row (Value.int .i64) 0 (w0 := wr) (h1 := fun _ => rfl) B2 rfl (.tmp 94) (.tmp 96) 27 3 (.int .i64 0) 8 rfl Try.underlying27 infoInt2 rfl (by decide) (.slice A2 (wantL m (j - 1)).length c2) (wantL m (j - 1)) [(j : Int)] (some ⟨wr.heap.size, 0, none⟩) 1 1 (fun _ => True) rfl rfl (fun _ _ => trivial) HA2.out.2.1 (one_C wr (j : Int)) HA2.out.2.2 (by have := HJ.out.2.2.2; simp; omega) (by have := wantL_len m (j - 1); simp; omega) ?_; intro v7 w7 hr7 hb7 hg7 ho7; obtain ⟨A7, c7, rfl⟩ := Kd.R_slice hr7)
              have hown := (Kd.R_own HA2.out.2.1).choose_spec.lt
              have H7 : Hid ((wantL m (j - 1)).length + 1 = (wantL m j).length ∧ Bg w w7 b (.slice A' l.length c') l.length i l m top ∧ RI w7 B2 (.slice A7 ((wantL m (j - 1)).length + 1) c7) (wantL m j) ∧ B2 ≤ w7.heap.size) := Lib.hid ⟨by rw [HST.out, List.length_append]; rfl, HA2.out.1.grown hg7 (fun q hq => (hown q hq).1) HB2.out.1 HB2.out.2.1 HB2.out.2.2.1, by rw [HST.out]; have h8 := hr7; rw [List.length_append] at h8; exact h8, by have := hg7.size; have := HJ.out.2.2.2; have h9 : (wr.alloc (.cells #[.int .i64 (j : Int)] 3)).heap.size = wr.heap.size + 1 := (by simp); omega⟩
              clear hown hr7 hb7 hg7 ho7 HA2 HJ
              go_wp2_with fail
              go_roundw
              case rel => exact ⟨j + 1, (wantL m (j - 1)).length + 1, c7, A7, rfl, by go_num, by omega, by omega, H7⟩
              case measure => simp; omega
            · have s1b : (getS m (j : Int) == 1) = false := by simpa using s1
              rw [if_neg s1, List.append_nil] at hst
              have HST := Lib.hid hst
              replace s1 := Lib.hid s1
              clear hst
              generalize getS m (j : Int) = s at hlk s1b
              go_wp2_with fail
              go_roundw
              case rel => exact ⟨j + 1, k2, c2, A2, rfl, by go_num, by omega, by omega, by rw [show j + 1 - 1 = j by omega, HST.out]; exact HJ⟩
              case measure => simp; omega
          · have e1i : ¬ (j : Int) ≤ (top : Int) := by omega
            obtain rfl : j = top + 1 := by omega
            have hk2 := HJ.out.1
            subst hk2
            have HW := Lib.hid (want_alive HJ.out.2.1.rs top HJ.out.2.1.tops)
            obtain ⟨W, hW⟩ : ∃ W, wantL m top = W := ⟨_, rfl⟩
            have hWn := wantL_len m top
            rw [hW] at HW hWn
            rw [show top + 1 - 1 = top by omega, hW] at HJ ⊢
            clear hW
            go_wp2_with fail
            refine (Next_31 _).mono ?_
            rintro e9 w9 ⟨rfl, rfl⟩
            go_wp2_with fail
            refine (Next_04 _).mono ?_
            rintro e9 w9 ⟨rfl, rfl⟩
            go_wp2_with fail
            refine (Next_91 _).mono ?_
            rintro e9 w9 ⟨rfl, rfl⟩
            go_wp2_with fail
            have hrd := Kd.R_reads' HJ.out.2.1.row
            refine (Alive_any A' c' l _ hrd.2.2 hrd.2.1 hWL.out (by omega)).mono ?_
            rintro e9 wd ⟨v9, rfl, hr9, hB9⟩
            rw [HW.out] at hr9
            obtain ⟨A9, c9, rfl⟩ := Kd.R_slice hr9
            have hx1 := Kd.R_reads' hr9
            have hx2 := Kd.R_reads' (Kd.R_below HJ.out.2.2.1 hB9)
            have HD := Lib.hid (And.intro hx1 (And.intro hx2 (HJ.out.2.1.low.trans (hB9.mono HJ.out.2.1.low.size))))
            clear hx1 hx2 hr9 hB9 HJ hrd
            go_wp2_with fail
            refine (porticobook_Same_int.calls (W.length + 1) A9 c9 W A2 c2 W true wd HD.out.1.2.2 HD.out.1.2.1 HD.out.2.1.2.2 HD.out.2.1.2.1 (same_self W (by omega))).mono ?_
            rintro e9 we ⟨rfl, q9, rfl⟩
            have HE := Lib.hid (pw_below_drewN HD.out.2.2 q9)
            clear HD
            generalize wd.drewN q9 = we at HE ⊢
            go_wp2_with fail
            refine (porticolaw19_LifeRuns.calls 60 true we runs).mono ?_
            rintro e9 wf ⟨rfl, hBf⟩
            have HF := Lib.hid (HE.out.trans (hBf.mono HE.out.size))
            clear HE hBf
            go_wp2_with fail
            go_ret
            exact ⟨rfl, HF.out⟩
    · have i1 : ¬ (i : Int) < (nums.length : Int) := by omega
      go_upto_region 16 with fail
      have hk := HI.out.len
      subst hk
      have hL := HI.out.li
      have hrd := Kd.R_reads' HI.out.row
      have hwl : ∀ e ∈ l, (Lit.int .i64 e.f1).wf = true := fun e he => wf_of (HI.out.nums e he)
      have hWL := Lib.hid hwl
      have hR := Right_any A' c' l wr hrd.2.2 hrd.2.1 hwl (by omega)
      rw [show (readP l).2 = true from by rw [HI.out.rs.read]] at hR
      replace hR := Lib.hid hR
      have hlc := hrd.2.1
      clear hrd hwl
      go_wp2_with fail
      refine hR.out.mono ?_
      clear hR
      rintro e9 wa ⟨rfl, hBa⟩
      have HI2 := Lib.hid (HI.out.below hBa)
      clear HI hBa
      have hl40 : (l.length : Int) ≤ 40 := by omega
      go_wp2_with fail
      obtain ⟨j, hj1, hj2, hj3⟩ := within cut 0 (l.length : Int) (by omega) (by omega) (by omega)
      obtain ⟨j, rfl⟩ : ∃ j' : Nat, j = (j' : Int) := ⟨j.toNat, by omega⟩
      refine (porticobook_Within.calls _ _ _ _ _ hj1).mono ?_
      rintro e9 wb ⟨rfl, q, rfl⟩
      have HI3 := Lib.hid (HI2.out.below (pw_below_drewN (Below.refl wa.heap.size wa) q))
      clear HI2 hj1
      generalize wa.drewN q = wb at HI3 ⊢
      have hjl : j ≤ l.length := by omega
      have hjc : j ≤ c' := by omega
      clear hj2 hj3
      have hlt : (l.take j).length = j := by rw [List.length_take]; omega
      have hR := Right_any A' c' (l.take j) wb (by rw [hlt]; exact C_take (Kd.R_reads' HI3.out.row).2.2 hjl) (by omega) (fun e he => hWL.out e (List.mem_of_mem_take he)) (by omega)
      rw [hlt, HI3.out.rs.take j] at hR
      replace hR := Lib.hid hR
      clear hlt
      go_wp2_with fail
      refine hR.out.mono ?_
      clear hR
      rintro e9 wc ⟨rfl, hBc⟩
      have HI4 := Lib.hid (HI3.out.below hBc)
      clear HI3 hBc hjl hjc
      obtain ⟨B2, hB2⟩ : ∃ B, wc.heap.size = B := ⟨_, rfl⟩
      have HB2 : Hid ((∀ q, (Value.slice A' l.length c').ownBlock = some q → q < B2) ∧ b < B2 ∧ w.heap.size ≤ B2 ∧ B2 ≤ wc.heap.size) := Lib.hid ⟨fun q hq => by rw [← hB2]; exact ((Kd.R_own HI4.out.row).choose_spec.lt q hq).2, by rw [← hB2]; obtain ⟨_, _, _, _, hm, _⟩ := HI4.out.map; exact hm.lt, by rw [← hB2]; exact HI4.out.low.size, by omega⟩
      clear hB2
      go_wp2_with fail
      go_loopw [13, 14] (fun t13 t14 wr => ∃ (j k2 c2 : Nat) (A2 : Option Addr), t13 = .slice A2 k2 c2 ∧ t14 = .int .i64 (j : Int) ∧ 1 ≤ j ∧ j ≤ top + 1 ∧ Hid (k2 = (wantL m (j - 1)).length ∧ Bg w wr b (.slice A' l.length c') l.length i l m top ∧ RI wr B2 (.slice A2 k2 c2) (wantL m (j - 1)) ∧ B2 ≤ wr.heap.size)) (fun _ t _ => match t with | .int _ q => (top + 1 - q).toNat | _ => 0)
      case atStart => exact ⟨1, 0, 0, none, rfl, rfl, by omega, by omega, Lib.hid ⟨rfl, HI4.out, Kd.R_nil _ _ _ _ _, HB2.out.2.2.2⟩⟩
      case round =>
        obtain ⟨j, k2, c2, A2, rfl, rfl, hj1, hj2, HJ⟩ := hrel
        clear HI4
        have j0 : (1 : Int) ≤ (j : Int) := by omega
        have j40 : (j : Int) ≤ 41 := by omega
        by_cases e1 : j ≤ top
        · have e1i : (j : Int) ≤ (top : Int) := by omega
          obtain ⟨nn, mm, f, g1, g2, g3⟩ := HJ.out.2.1.map
          have hlk := g2.get intKeyed Try.underlying35 (zeroState wr) (ki_key (wf_of (n := (j : Int)) ⟨by omega, by omega⟩))
          rw [g3.get (j : Int)] at hlk
          clear g1 g2 g3
          have hst : wantL m j = wantL m (j - 1) ++ (if getS m (j : Int) = 1 then [(j : Int)] else []) := by
            obtain ⟨j', rfl⟩ : ∃ j', j = j' + 1 := ⟨j - 1, by omega⟩
            rfl
          by_cases s1 : getS m (j : Int) = 1
          · rw [s1] at hlk
            rw [if_pos s1] at hst
            have HST := Lib.hid hst
            clear hst s1
            have hk2 := HJ.out.1
            subst hk2
            have HA2 : Hid (Bg w (wr.alloc (.cells #[.int .i64 (j : Int)] 3)) b (.slice A' l.length c') l.length i l m top ∧ RI (wr.alloc (.cells #[.int .i64 (j : Int)] 3)) B2 (.slice A2 (wantL m (j - 1)).length c2) (wantL m (j - 1)) ∧ Below B2 wr (wr.alloc (.cells #[.int .i64 (j : Int)] 3))) := Lib.hid ⟨HJ.out.2.1.below ((Below.refl _ _).alloc (Nat.le_refl _) _), Kd.R_below HJ.out.2.2.1 ((Below.refl _ _).alloc (Nat.le_refl _) _), (Below.refl B2 wr).alloc HJ.out.2.2.2 _⟩
            go_wp2_with (at_builtin; refine Kd.R_append_row (Value.int .i64) 0 (w0 := wr) (h1 := fun _ => rfl) B2 rfl (.tmp 94) (.tmp 96) 27 3 (.int .i64 0) 8 rfl Try.underlying27 infoInt2 rfl (by decide) (.slice A2 (wantL m (j - 1)).length c2) (wantL m (j - 1)) [(j : Int)] (some ⟨wr.heap.size, 0, none⟩) 1 1 (fun _ => True) rfl rfl (fun _ _ => trivial) HA2.out.2.1 (one_C wr (j : Int)) HA2.out.2.2 (by have := HJ.out.2.2.2; simp; omega) (by have := wantL_len m (j - 1); simp; omega) ?_; intro v7 w7 hr7 hb7 hg7 ho7; obtain ⟨A7, c7, rfl⟩ := Kd.R_slice hr7)
            have hown := (Kd.R_own HA2.out.2.1).choose_spec.lt
            have H7 : Hid ((wantL m (j - 1)).length + 1 = (wantL m j).length ∧ Bg w w7 b (.slice A' l.length c') l.length i l m top ∧ RI w7 B2 (.slice A7 ((wantL m (j - 1)).length + 1) c7) (wantL m j) ∧ B2 ≤ w7.heap.size) := Lib.hid ⟨by rw [HST.out, List.length_append]; rfl, HA2.out.1.grown hg7 (fun q hq => (hown q hq).1) HB2.out.1 HB2.out.2.1 HB2.out.2.2.1, by rw [HST.out]; have h8 := hr7; rw [List.length_append] at h8; exact h8, by have := hg7.size; have := HJ.out.2.2.2; have h9 : (wr.alloc (.cells #[.int .i64 (j : Int)] 3)).heap.size = wr.heap.size + 1 := (by simp); omega⟩
            clear hown hr7 hb7 hg7 ho7 HA2 HJ
            go_wp2_with fail
            go_roundw
            case rel => exact ⟨j + 1, (wantL m (j - 1)).length + 1, c7, A7, rfl, by go_num, by omega, by omega, H7⟩
            case measure => simp; omega
          · have s1b : (getS m (j : Int) == 1) = false := by simpa using s1
            rw [if_neg s1, List.append_nil] at hst
            have HST := Lib.hid hst
            replace s1 := Lib.hid s1
            clear hst
            generalize getS m (j : Int) = s at hlk s1b
            go_wp2_with fail
            go_roundw
            case rel => exact ⟨j + 1, k2, c2, A2, rfl, by go_num, by omega, by omega, by rw [show j + 1 - 1 = j by omega, HST.out]; exact HJ⟩
            case measure => simp; omega
        · have e1i : ¬ (j : Int) ≤ (top : Int) := by omega
          obtain rfl : j = top + 1 := by omega
          have hk2 := HJ.out.1
          subst hk2
          have HW := Lib.hid (want_alive HJ.out.2.1.rs top HJ.out.2.1.tops)
          obtain ⟨W, hW⟩ : ∃ W, wantL m top = W := ⟨_, rfl⟩
          have hWn := wantL_len m top
          rw [hW] at HW hWn
          rw [show top + 1 - 1 = top by omega, hW] at HJ ⊢
          clear hW
          go_wp2_with fail
          refine (Next_31 _).mono ?_
          rintro e9 w9 ⟨rfl, rfl⟩
          go_wp2_with fail
          refine (Next_04 _).mono ?_
          rintro e9 w9 ⟨rfl, rfl⟩
          go_wp2_with fail
          refine (Next_91 _).mono ?_
          rintro e9 w9 ⟨rfl, rfl⟩
          go_wp2_with fail
          have hrd := Kd.R_reads' HJ.out.2.1.row
          refine (Alive_any A' c' l _ hrd.2.2 hrd.2.1 hWL.out (by omega)).mono ?_
          rintro e9 wd ⟨v9, rfl, hr9, hB9⟩
          rw [HW.out] at hr9
          obtain ⟨A9, c9, rfl⟩ := Kd.R_slice hr9
          have hx1 := Kd.R_reads' hr9
          have hx2 := Kd.R_reads' (Kd.R_below HJ.out.2.2.1 hB9)
          have HD := Lib.hid (And.intro hx1 (And.intro hx2 (HJ.out.2.1.low.trans (hB9.mono HJ.out.2.1.low.size))))
          clear hx1 hx2 hr9 hB9 HJ hrd
          go_wp2_with fail
          refine (porticobook_Same_int.calls (W.length + 1) A9 c9 W A2 c2 W true wd HD.out.1.2.2 HD.out.1.2.1 HD.out.2.1.2.2 HD.out.2.1.2.1 (same_self W (by omega))).mono ?_
          rintro e9 we ⟨rfl, q9, rfl⟩
          have HE := Lib.hid (pw_below_drewN HD.out.2.2 q9)
          clear HD
          generalize wd.drewN q9 = we at HE ⊢
          go_wp2_with fail
          refine (porticolaw19_LifeRuns.calls 60 true we runs).mono ?_
          rintro e9 wf ⟨rfl, hBf⟩
          have HF := Lib.hid (HE.out.trans (hBf.mono HE.out.size))
          clear HE hBf
          go_wp2_with fail
          go_ret
          exact ⟨rfl, HF.out⟩
end Go.Proofs.Ytnpmmmgaghhndaa.Lf
