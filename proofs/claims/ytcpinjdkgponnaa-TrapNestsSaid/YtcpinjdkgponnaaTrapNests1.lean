/- TrapNests: its closures (printed by wip/law2/gen_TrapNests1.py out of TrapNests1.body). -/
import Derived.Test.YtcpinjdkgponnaaTrapCatches2
import Derived.Test.YtcpinjdkgponnaaWLast
set_option linter.unusedVariables false
set_option linter.unusedSimpArgs false
namespace Go.Proofs.Ytcpinjdkgponnaa.Trap
open Go.RowKit Go.Proofs.YtcpinjdkgponnaaW.PrintWords Go.Proofs.YtcpinjdkgponnaaW.PrintLast Go.Proofs.Ytcpinjdkgponnaa.PTrapCatches

/-- A call in a region that draws, which panics. -/
theorem goes_panics {P : Program} {ops : Array Oper} {Q : Exit → Act → World → Prop} {oi : Oper} {a : Act} {w : World} {K : Act → World → Prop} {f : FuncId} {fn : Func} {az : Array Operand} {ts : Array TypeId} {Z : Prop} (hf : P.funcs[f]? = some fn) (hname : (fn.name == "runtime.NumGoroutine") = false) (hb : fn.body.isSome = true) (args : Array Value)
    (hw : Region.wanted oi (yielded ops a.tmps) = true) (hop : oi.op = .call { callee := .value (.func f), args := az, argTypes := ts }) (hargs : az.map a.eval = args)
    (h : Calls P f args w fun e w' => ∃ ch, e = .panicked ch ∧ Q (.panic ch) a w') : if Region.wanted oi (yielded ops a.tmps) = true then Oper.wp P oi a w K Q else Z := by
  rw [if_pos hw]
  have he := enters_ hf hname hb args w
  have hrun : (execOp a.eval oi).run P w = .ok (.enter f args) w := by
    unfold execOp
    simp [hop, resolve, Deferred.ofValue, invoke, Act.eval, hargs, he]
  unfold Oper.wp
  rw [hrun, Oper.upon_enter]
  refine h.mono fun e w'' hh => ?_
  obtain ⟨ch, rfl, hk⟩ := hh
  exact hk
theorem nests11 (bi : Nat) (i : Int) (w : World) (hi : w.cell? ⟨bi, 0, none⟩ = some (.int .i64 i)) : Calls Try.prog 19 #[.pointer (some ⟨bi, 0, none⟩)] w fun en w' => en = thrown 2 ⟨#[105, 110]⟩ i ∧ w' = w := by
  go_enter Try.func19, Try.ntmps19
  go_wp2_with (go_at_call 9; refine (Throw_any _ _ _ _).mono ?_; rintro e w' ⟨rfl, rfl⟩)
  exact ⟨rfl, rfl, rfl⟩
theorem Run_nests11 (bi : Nat) (i : Int) (w : World) (hi : w.cell? ⟨bi, 0, none⟩ = some (.int .i64 i)) : Calls Try.prog 7 #[.func (.func 19) #[] #[.pointer (some ⟨bi, 0, none⟩)]] w fun en w' => en = .returned (.tuple #[flt 2 ⟨#[105, 110]⟩ i, .bool false]) ∧ Below w.heap.size w w' := by
  have rb := ran_below w
  have rs := ran_size w
  refine (Run_panics 2 ⟨#[105, 110]⟩ i 19 _ w (fun w2 => w2 = ran w) (fun w => by simp [go_sem, Try.func19]) ((nests11 bi i (ran w) ((rb.cell (lt_of_cell hi)).trans hi)).mono ?_)).mono ?_
  · rintro en w2 ⟨rfl, rfl⟩
    exact ⟨rfl, rfl, rfl, rfl⟩
  · rintro en w' ⟨rfl, w2, rfl, rfl⟩
    refine ⟨rfl, ?_⟩
    unfold caught
    refine Below.alloc ?_ (by simp [go_sem]; omega) _
    exact ((rb.setCell (Nat.le_refl _) _).setCell (Nat.le_refl _) _).setCell (Nat.le_refl _) _
/-- A block that the log's changes leave alone. -/
theorem Logged.safe {b : Nat} {v v' : Value} {w w' : World} (h : Logged b v v' w w') {k : Nat} (hk : k < w.heap.size) (hb : k ≠ b) (hv : some k ≠ v.ownBlock) : w'.heap[k]? = w.heap[k]? ∧ some k ≠ v'.ownBlock := by
  refine ⟨h.block k hk hb hv, fun e => ?_⟩
  rcases h.row with hr | ⟨j, hr, hj⟩
  · exact hv (e.trans hr)
  · rw [hr] at e
    have := Option.some.inj e
    omega
theorem Logged.keeps {b : Nat} {v v' : Value} {w w' : World} (h : Logged b v v' w w') {a : Addr} {x : Value} (hx : w.cell? a = some x) (hb : a.block ≠ b) (hv : some a.block ≠ v.ownBlock) : w'.cell? a = some x ∧ some a.block ≠ v'.ownBlock :=
  ⟨(World.cell?_of_block (h.safe (lt_of_cell hx) hb hv).1).trans hx, (h.safe (lt_of_cell hx) hb hv).2⟩
/-- New blocks alone. -/
theorem Logged.of_below {b : Nat} {v : Value} {w w' : World} (h : Below w.heap.size w w') : Logged b v v w w' := ⟨h.os, h.tape, h.output, h.size, fun k hk _ _ => h.block k hk, Or.inl rfl⟩
/-- What a closure of TrapNests reads: its number's variable, throws, inner; none of them is the log's. -/
structure Reads (b bi bt bn : Nat) (ad : Addr) (c : Nat) (l : List Bool) (i : Nat) (inner : Int) (x : Bool) (v : Value) (w : World) : Prop where
  ci : w.cell? ⟨bi, 0, none⟩ = some (.int .i64 (i : Int))
  ct : w.cell? ⟨bt, 0, none⟩ = some (.slice (some ad) l.length c)
  ca : w.cell? (ad.add i) = some (.bool x)
  cn : w.cell? ⟨bn, 0, none⟩ = some (.int .i64 inner)
  ne : bi ≠ b ∧ bt ≠ b ∧ (ad.add i).block ≠ b ∧ bn ≠ b
  nr : some bi ≠ v.ownBlock ∧ some bt ≠ v.ownBlock ∧ some (ad.add i).block ≠ v.ownBlock ∧ some bn ≠ v.ownBlock
theorem Reads.keeps {b bi bt bn : Nat} {ad : Addr} {c : Nat} {l : List Bool} {i : Nat} {inner : Int} {x : Bool} {v v' : Value} {w w' : World} (h : Reads b bi bt bn ad c l i inner x v w) (hL : Logged b v v' w w') : Reads b bi bt bn ad c l i inner x v' w' := by
  obtain ⟨e1, e2, e3, e4⟩ := h.ne
  obtain ⟨r1, r2, r3, r4⟩ := h.nr
  exact ⟨(hL.keeps h.ci e1 r1).1, (hL.keeps h.ct e2 r2).1, (hL.keeps h.ca e3 r3).1, (hL.keeps h.cn e4 r4).1, h.ne, (hL.keeps h.ci e1 r1).2, (hL.keeps h.ct e2 r2).2, (hL.keeps h.ca e3 r3).2, (hL.keeps h.cn e4 r4).2⟩
set_option maxHeartbeats 1000000 in
set_option maxRecDepth 100000 in
theorem nests1 (base b bi bt bn : Nat) (ad : Addr) (c : Nat) (l : List Bool) (i : Nat) (inner : Int) (x : Bool) (r : Nat) (v : Value) (xs : List Int) (w : World) (hL : LogAt base b w v xs) (hR : Reads b bi bt bn ad c l i inner x v w) (hx : xs.length ≤ 60) (hi : i < l.length) (hi2 : i < 20) (hr : porticobook_Within.f inner 0 99 = some (r : Int)) (hr2 : r ≤ 99) :
    Calls Try.prog 18 #[.pointer (some ⟨b, 0, none⟩), .pointer (some ⟨bi, 0, none⟩), .pointer (some ⟨bt, 0, none⟩), .pointer (some ⟨bn, 0, none⟩)] w fun en w' => en = (if x then thrown 3 ⟨#[111, 117, 116]⟩ ((i : Int) + (r : Int)) else .returned (.tuple #[])) ∧ ∃ v', LogAt base b w' v' (xs ++ [(i : Int), (i : Int)]) ∧ Logged b v v' w w' := by
  have HRr := Lib.hid hr
  have hc := hL.cell
  have hf := hL.frozen
  have hci := hR.ci
  have HL := Lib.hid hL
  have HR := Lib.hid hR
  clear hL hR hr
  go_enter Try.func18, Try.ntmps18
  go_wp2_with (at_builtin; refine print_append_num (w0 := w) base rfl (.tmp 6) (.tmp 8) 31 3 .i64 8 rfl Try.underlying31 infoInt (by decide) v xs (i : Int) rfl rfl HL.out.row (Below.refl _ _) HL.out.le (by omega) ?_)
  intro v1 w1 hO hB hG hRo
  obtain ⟨A1, c1, rfl⟩ := own_slice hO
  obtain ⟨hA, hLg, h1, h2⟩ := HL.out.appended hO (by simp) hG hRo
  clear hO hB hG hRo hc hf hci
  have hR1 := HR.out.keeps hLg
  have hci := hR1.ci
  have HA1 := Lib.hid hA
  have HLg1 := Lib.hid hLg
  have HR1 := Lib.hid hR1
  clear hA hLg hR1 HL HR
  go_wp2_with fail
  have hA := HA1.out
  have hLg := HLg1.out
  have hR1 := HR1.out
  clear HA1 HLg1 HR1
  generalize w1.setCell ⟨b, 0, none⟩ (.slice A1 (xs.length + 1) c1) = w2 at hA hLg hR1 hci ⊢
  clear h1 h2 w1
  generalize Value.slice A1 (xs.length + 1) c1 = v2 at *
  refine (Run_nests11 bi (i : Int) w2 hci).mono ?_
  rintro en w3 ⟨rfl, hB⟩
  have hA3 := hA.kept (B := 0) hB
  have hR3 := hR1.keeps (Logged.of_below hB)
  have hL3 := hLg.trans (Logged.of_below hB)
  have hB4 : Below w3.heap.size w3 (w3.alloc (.cells #[.int .i64 2, .string ⟨#[105, 110]⟩, .int .i64 (i : Int)] 24)) := (Below.refl _ _).alloc (Nat.le_refl _) _
  have hA4 := hA3.kept (B := 0) hB4
  have hR4 := hR3.keeps (Logged.of_below hB4)
  have hL4 := hL3.trans (Logged.of_below hB4)
  have hcl := hA4.cell
  have HX : Hid ((xs ++ [(i : Int)]).length ≤ 61) := Lib.hid (by simp; omega)
  have hcf := hA4.frozen
  have HA4 := Lib.hid hA4
  have HR4 := Lib.hid hR4
  have HL4 := Lib.hid hL4
  clear hA hLg hR1 hci hB hA3 hR3 hL3 hB4 hA4 hR4 hL4
  go_wp2_with (at_builtin; go_loud (refine print_append_num (w0 := w3.alloc (.cells #[.int .i64 2, .string ⟨#[105, 110]⟩, .int .i64 (i : Int)] 24)) base rfl (.tmp 15) (.tmp 18) 31 3 .i64 8 rfl Try.underlying31 infoInt (by decide) v2 (xs ++ [(i : Int)]) (i : Int) rfl (by simp [Act.eval]) HA4.out.row (Below.refl _ _) HA4.out.le (by have := HX.out; omega) ?_))
  intro v1 w1 hO hB hG hRo
  obtain ⟨A1, c1, rfl⟩ := own_slice hO
  obtain ⟨hA, hLg, h1, h2⟩ := HA4.out.appended hO (by simp) hG (by simpa using hRo)
  have hR5 := HR4.out.keeps hLg
  have hL5 := HL4.out.trans hLg
  clear hO hB hG hRo hcl hcf HA4 HR4 HL4 hLg
  have hlen : (xs ++ [(i : Int)]).length + 1 = xs.length + 2 := by simp
  have h0 := hR5.ct
  have h1' := hR5.ci
  have h2' := hR5.ca
  have h3 := hR5.cn
  have HA := Lib.hid hA
  have HL5 := Lib.hid hL5
  clear hA hL5 hR5
  go_wp2_with fail
  clear h1 h2 hlen HX
  generalize Value.slice A1 (xs.length + 2) c1 = v3 at *
  generalize w1.setCell ⟨b, 0, none⟩ v3 = W4 at *
  have hw : wrap64 ((i : Int) + (r : Int)) = (i : Int) + (r : Int) := by unfold wrap64; omega
  cases x with
  | true =>
    refine start_ (n := 13) (S := fun w' => w'.cell? ⟨bt, 0, none⟩ = some (.slice (some ad) l.length c) ∧ w'.cell? ⟨bi, 0, none⟩ = some (.int .i64 (i : Int)) ∧ w'.cell? (ad.add i) = some (.bool true) ∧ w'.cell? ⟨bn, 0, none⟩ = some (.int .i64 inner)) (ds := []) #[false, false, false, false, false, false, false, false, false, false, false, false, false] (by kernel_rfl) rfl rfl ⟨h0, h1', h2', h3⟩ (fun hHeld => ?_)
    clear h0 h1' h2' h3
    refine take_ (i := 0) (N := some 20) (v := ?_) (a' := ?_) #[true, false, false, false, false, false, false, false, false, false, false, false, false] rfl rfl (by kernel_rfl) (fun _ _ _ h => h) (Or.inl ⟨by rfl, ?_⟩) hHeld ?_ ?_
    rotate_left
    · rintro w' ⟨s0, s1, s2, s3⟩
      go_simp
      with_reducible rfl
    rotate_left
    · simp only [Act.put, List.setIfInBounds_toArray, List.set_cons_zero, List.set_cons_succ, i64_w, i32_w]
      rfl
    refine take_ (i := 1) (N := some 21) (v := ?_) (a' := ?_) #[true, true, false, false, false, false, false, false, false, false, false, false, false] rfl rfl (by kernel_rfl) (fun _ _ _ h => h) (Or.inl ⟨by rfl, ?_⟩) hHeld ?_ ?_
    rotate_left
    · rintro w' ⟨s0, s1, s2, s3⟩
      go_simp
      with_reducible rfl
    rotate_left
    · simp only [Act.put, List.setIfInBounds_toArray, List.set_cons_zero, List.set_cons_succ, i64_w, i32_w]
      rfl
    refine pure_ (i := 2) (N := some 22) (v := ?_) (a' := ?_) #[true, true, true, false, false, false, false, false, false, false, false, false, false] rfl rfl (by kernel_rfl) (fun _ _ _ h => h) (Or.inl ⟨by rfl, ?_⟩) ?_ ?_
    rotate_left
    · intro w'
      go_simp
      with_reducible rfl
    rotate_left
    · simp only [Act.put, List.setIfInBounds_toArray, List.set_cons_zero, List.set_cons_succ, i64_w, i32_w]
      rfl
    refine take_ (i := 3) (N := some 23) (v := ?_) (a' := ?_) #[true, true, true, true, false, false, false, false, false, false, false, false, false] rfl rfl (by kernel_rfl) (fun _ _ _ h => h) (Or.inl ⟨by rfl, ?_⟩) hHeld ?_ ?_
    rotate_left
    · rintro w' ⟨s0, s1, s2, s3⟩
      go_simp
      with_reducible rfl
    rotate_left
    · simp only [Act.put, List.setIfInBounds_toArray, List.set_cons_zero, List.set_cons_succ, i64_w, i32_w]
      rfl
    refine pure_ (i := 4) (N := some 24) (v := ?_) (a' := ?_) #[true, true, true, true, true, false, false, false, false, false, false, false, false] rfl rfl (by kernel_rfl) (fun _ _ _ h => h) (Or.inl ⟨by rfl, ?_⟩) ?_ ?_
    rotate_left
    · intro w'
      go_simp
      with_reducible rfl
    rotate_left
    · simp only [Act.put, List.setIfInBounds_toArray, List.set_cons_zero, List.set_cons_succ, i64_w, i32_w]
      rfl
    refine pure_ (i := 5) (N := some 25) (v := ?_) (a' := ?_) #[true, true, true, true, true, true, false, false, false, false, false, false, false] rfl rfl (by kernel_rfl) (fun _ _ _ h => h) (Or.inl ⟨by rfl, ?_⟩) ?_ ?_
    rotate_left
    · intro w'
      go_simp
      with_reducible rfl
    rotate_left
    · simp only [Act.put, List.setIfInBounds_toArray, List.set_cons_zero, List.set_cons_succ, i64_w, i32_w]
      rfl
    refine pure_ (i := 6) (N := some 26) (v := ?_) (a' := ?_) #[true, true, true, true, true, true, true, false, false, false, false, false, false] rfl rfl (by kernel_rfl) (fun _ _ _ h => h) (Or.inl ⟨by rfl, ?_⟩) ?_ ?_
    rotate_left
    · intro w'
      go_simp
      with_reducible rfl
    rotate_left
    · simp only [Act.put, List.setIfInBounds_toArray, List.set_cons_zero, List.set_cons_succ, i64_w, i32_w]
      rfl
    refine pure_ (i := 7) (N := some 27) (v := ?_) (a' := ?_) #[true, true, true, true, true, true, true, true, false, false, false, false, false] rfl rfl (by kernel_rfl) (fun _ _ _ h => h) (Or.inl ⟨by rfl, ?_⟩) ?_ ?_
    rotate_left
    · intro w'
      go_simp
      with_reducible rfl
    rotate_left
    · simp only [Act.put, List.setIfInBounds_toArray, List.set_cons_zero, List.set_cons_succ, i64_w, i32_w]
      rfl
    refine take_ (i := 8) (N := some 28) (v := ?_) (a' := ?_) #[true, true, true, true, true, true, true, true, true, false, false, false, false] rfl rfl (by kernel_rfl) (fun _ _ _ h => h) (Or.inl ⟨by rfl, ?_⟩) hHeld ?_ ?_
    rotate_left
    · rintro w' ⟨s0, s1, s2, s3⟩
      go_simp
      with_reducible rfl
    rotate_left
    · simp only [Act.put, List.setIfInBounds_toArray, List.set_cons_zero, List.set_cons_succ, i64_w, i32_w]
      rfl
    refine take_ (i := 9) (N := some 29) (v := ?_) (a' := ?_) #[true, true, true, true, true, true, true, true, true, true, false, false, false] rfl rfl (by kernel_rfl) (fun _ _ _ h => h) (Or.inl ⟨by rfl, ?_⟩) hHeld ?_ ?_
    rotate_left
    · rintro w' ⟨s0, s1, s2, s3⟩
      go_simp
      with_reducible rfl
    rotate_left
    · simp only [Act.put, List.setIfInBounds_toArray, List.set_cons_zero, List.set_cons_succ, i64_w, i32_w]
      rfl
    refine one_ (i := 10) (N := some 30) #[true, true, true, true, true, true, true, true, true, true, true, false, false] rfl rfl (by kernel_rfl) (by decide) (fun K hK => ?_)
    refine goes_ Try.func12 (by kernel_rfl) rfl #[.int .i64 inner, .int .i64 0, .int .i64 99] (by rfl) rfl rfl (by simp only [List.map_toArray, List.map_cons, List.map_nil]; rfl) ?_
    with_reducible refine (porticobook_Within.calls inner 0 99 (r : Int) _ HRr.out).mono ?_
    rintro en w5 ⟨rfl, ⟨q, rfl⟩⟩
    refine ⟨_, rfl, ?_⟩
    refine hK.out _ _ ⟨hHeld.1, hHeld.2.1, hHeld.2.2.1, hHeld.2.2.2⟩ (fun hHeld => ?_)
    clear hK K
    refine norm_ (a' := ?_) ?_ ?_
    rotate_left
    · show Act.put _ (some 30) _ = _
      simp only [Act.put, List.setIfInBounds_toArray, List.set_cons_zero, List.set_cons_succ, i64_w, i32_w]
      rfl
    refine pure_ (i := 11) (N := some 31) (v := ?_) (a' := ?_) #[true, true, true, true, true, true, true, true, true, true, true, true, false] rfl rfl (by kernel_rfl) (fun _ _ _ h => h) (Or.inl ⟨by rfl, ?_⟩) ?_ ?_
    rotate_left
    · intro w'
      go_simp
      with_reducible rfl
    rotate_left
    · simp only [Act.put, List.setIfInBounds_toArray, List.set_cons_zero, List.set_cons_succ, i64_w, i32_w]
      rfl
    refine one_ (i := 12) (N := some 32) #[true, true, true, true, true, true, true, true, true, true, true, true, true] rfl rfl (by kernel_rfl) (by decide) (fun K hK => ?_)
    refine goes_panics Try.func11 (by kernel_rfl) rfl #[.bool false, .int .i64 3, .string ⟨#[111, 117, 116]⟩, .int .i64 (wrap64 ((i : Int) + (r : Int)))] (by rfl) rfl (by simp only [List.map_toArray, List.map_cons, List.map_nil]; rfl) ?_
    refine (Must_false _ _ _ _).mono ?_
    rintro en w6 ⟨rfl, rfl⟩
    refine ⟨_, rfl, ?_⟩
    exact ⟨rfl, by rw [if_pos rfl, hw], v3, HA.out.kept (B := 0) (pw_below_drewN (below_drew1 (Below.refl _ _)) q), HL5.out.trans (Logged.of_below (pw_below_drewN (below_drew1 (Below.refl _ _)) q))⟩
  | false =>
    refine start_ (n := 13) (S := fun w' => w'.cell? ⟨bt, 0, none⟩ = some (.slice (some ad) l.length c) ∧ w'.cell? ⟨bi, 0, none⟩ = some (.int .i64 (i : Int)) ∧ w'.cell? (ad.add i) = some (.bool false) ∧ w'.cell? ⟨bn, 0, none⟩ = some (.int .i64 inner)) (ds := []) #[false, false, false, false, false, false, false, false, false, false, false, false, false] (by kernel_rfl) rfl rfl ⟨h0, h1', h2', h3⟩ (fun hHeld => ?_)
    clear h0 h1' h2' h3
    refine take_ (i := 0) (N := some 20) (v := ?_) (a' := ?_) #[true, false, false, false, false, false, false, false, false, false, false, false, false] rfl rfl (by kernel_rfl) (fun _ _ _ h => h) (Or.inl ⟨by rfl, ?_⟩) hHeld ?_ ?_
    rotate_left
    · rintro w' ⟨s0, s1, s2, s3⟩
      go_simp
      with_reducible rfl
    rotate_left
    · simp only [Act.put, List.setIfInBounds_toArray, List.set_cons_zero, List.set_cons_succ, i64_w, i32_w]
      rfl
    refine take_ (i := 1) (N := some 21) (v := ?_) (a' := ?_) #[true, true, false, false, false, false, false, false, false, false, false, false, false] rfl rfl (by kernel_rfl) (fun _ _ _ h => h) (Or.inl ⟨by rfl, ?_⟩) hHeld ?_ ?_
    rotate_left
    · rintro w' ⟨s0, s1, s2, s3⟩
      go_simp
      with_reducible rfl
    rotate_left
    · simp only [Act.put, List.setIfInBounds_toArray, List.set_cons_zero, List.set_cons_succ, i64_w, i32_w]
      rfl
    refine pure_ (i := 2) (N := some 22) (v := ?_) (a' := ?_) #[true, true, true, false, false, false, false, false, false, false, false, false, false] rfl rfl (by kernel_rfl) (fun _ _ _ h => h) (Or.inl ⟨by rfl, ?_⟩) ?_ ?_
    rotate_left
    · intro w'
      go_simp
      with_reducible rfl
    rotate_left
    · simp only [Act.put, List.setIfInBounds_toArray, List.set_cons_zero, List.set_cons_succ, i64_w, i32_w]
      rfl
    refine take_ (i := 3) (N := some 23) (v := ?_) (a' := ?_) #[true, true, true, true, false, false, false, false, false, false, false, false, false] rfl rfl (by kernel_rfl) (fun _ _ _ h => h) (Or.inl ⟨by rfl, ?_⟩) hHeld ?_ ?_
    rotate_left
    · rintro w' ⟨s0, s1, s2, s3⟩
      go_simp
      with_reducible rfl
    rotate_left
    · simp only [Act.put, List.setIfInBounds_toArray, List.set_cons_zero, List.set_cons_succ, i64_w, i32_w]
      rfl
    refine pure_ (i := 4) (N := some 24) (v := ?_) (a' := ?_) #[true, true, true, true, true, false, false, false, false, false, false, false, false] rfl rfl (by kernel_rfl) (fun _ _ _ h => h) (Or.inl ⟨by rfl, ?_⟩) ?_ ?_
    rotate_left
    · intro w'
      go_simp
      with_reducible rfl
    rotate_left
    · simp only [Act.put, List.setIfInBounds_toArray, List.set_cons_zero, List.set_cons_succ, i64_w, i32_w]
      rfl
    refine pure_ (i := 5) (N := some 25) (v := ?_) (a' := ?_) #[true, true, true, true, true, true, false, false, false, false, false, false, false] rfl rfl (by kernel_rfl) (fun _ _ _ h => h) (Or.inl ⟨by rfl, ?_⟩) ?_ ?_
    rotate_left
    · intro w'
      go_simp
      with_reducible rfl
    rotate_left
    · simp only [Act.put, List.setIfInBounds_toArray, List.set_cons_zero, List.set_cons_succ, i64_w, i32_w]
      rfl
    refine pure_ (i := 6) (N := some 26) (v := undef) (a' := ?_) #[true, true, true, true, true, true, true, false, false, false, false, false, false] rfl rfl (by kernel_rfl) (fun _ _ _ h => h) (Or.inr ⟨by rfl, rfl⟩) ?_ ?_
    rotate_left
    · simp only [Act.put, List.setIfInBounds_toArray, List.set_cons_zero, List.set_cons_succ, i64_w, i32_w]
      rfl
    refine pure_ (i := 7) (N := some 27) (v := ?_) (a' := ?_) #[true, true, true, true, true, true, true, true, false, false, false, false, false] rfl rfl (by kernel_rfl) (fun _ _ _ h => h) (Or.inl ⟨by rfl, ?_⟩) ?_ ?_
    rotate_left
    · intro w'
      go_simp
      with_reducible rfl
    rotate_left
    · simp only [Act.put, List.setIfInBounds_toArray, List.set_cons_zero, List.set_cons_succ, i64_w, i32_w]
      rfl
    refine take_ (i := 8) (N := some 28) (v := ?_) (a' := ?_) #[true, true, true, true, true, true, true, true, true, false, false, false, false] rfl rfl (by kernel_rfl) (fun _ _ _ h => h) (Or.inl ⟨by rfl, ?_⟩) hHeld ?_ ?_
    rotate_left
    · rintro w' ⟨s0, s1, s2, s3⟩
      go_simp
      with_reducible rfl
    rotate_left
    · simp only [Act.put, List.setIfInBounds_toArray, List.set_cons_zero, List.set_cons_succ, i64_w, i32_w]
      rfl
    refine take_ (i := 9) (N := some 29) (v := ?_) (a' := ?_) #[true, true, true, true, true, true, true, true, true, true, false, false, false] rfl rfl (by kernel_rfl) (fun _ _ _ h => h) (Or.inl ⟨by rfl, ?_⟩) hHeld ?_ ?_
    rotate_left
    · rintro w' ⟨s0, s1, s2, s3⟩
      go_simp
      with_reducible rfl
    rotate_left
    · simp only [Act.put, List.setIfInBounds_toArray, List.set_cons_zero, List.set_cons_succ, i64_w, i32_w]
      rfl
    refine one_ (i := 10) (N := some 30) #[true, true, true, true, true, true, true, true, true, true, true, false, false] rfl rfl (by kernel_rfl) (by decide) (fun K hK => ?_)
    refine goes_ Try.func12 (by kernel_rfl) rfl #[.int .i64 inner, .int .i64 0, .int .i64 99] (by rfl) rfl rfl (by simp only [List.map_toArray, List.map_cons, List.map_nil]; rfl) ?_
    with_reducible refine (porticobook_Within.calls inner 0 99 (r : Int) _ HRr.out).mono ?_
    rintro en w5 ⟨rfl, ⟨q, rfl⟩⟩
    refine ⟨_, rfl, ?_⟩
    refine hK.out _ _ ⟨hHeld.1, hHeld.2.1, hHeld.2.2.1, hHeld.2.2.2⟩ (fun hHeld => ?_)
    clear hK K
    refine norm_ (a' := ?_) ?_ ?_
    rotate_left
    · show Act.put _ (some 30) _ = _
      simp only [Act.put, List.setIfInBounds_toArray, List.set_cons_zero, List.set_cons_succ, i64_w, i32_w]
      rfl
    refine pure_ (i := 11) (N := some 31) (v := ?_) (a' := ?_) #[true, true, true, true, true, true, true, true, true, true, true, true, false] rfl rfl (by kernel_rfl) (fun _ _ _ h => h) (Or.inl ⟨by rfl, ?_⟩) ?_ ?_
    rotate_left
    · intro w'
      go_simp
      with_reducible rfl
    rotate_left
    · simp only [Act.put, List.setIfInBounds_toArray, List.set_cons_zero, List.set_cons_succ, i64_w, i32_w]
      rfl
    refine one_ (i := 12) (N := some 32) #[true, true, true, true, true, true, true, true, true, true, true, true, true] rfl rfl (by kernel_rfl) (by decide) (fun K hK => ?_)
    refine goes_ Try.func11 (by kernel_rfl) rfl #[.bool true, .int .i64 3, .string ⟨#[111, 117, 116]⟩, .int .i64 (wrap64 ((i : Int) + (r : Int)))] (by rfl) rfl rfl (by simp only [List.map_toArray, List.map_cons, List.map_nil]; rfl) ?_
    with_reducible refine (Must_true _ _ _ _).mono ?_
    rintro en w6 ⟨rfl, rfl⟩
    refine ⟨_, rfl, ?_⟩
    refine hK.out _ _ ⟨hHeld.1, hHeld.2.1, hHeld.2.2.1, hHeld.2.2.2⟩ (fun hHeld => ?_)
    clear hK K
    refine norm_ (a' := ?_) ?_ ?_
    rotate_left
    · show Act.put _ (some 32) _ = _
      simp only [Act.put, List.setIfInBounds_toArray, List.set_cons_zero, List.set_cons_succ, i64_w, i32_w]
      rfl
    refine done_ (by kernel_rfl) ?_
    go_wp2_with fail
    go_end0
    exact ⟨rfl, v3, HA.out.kept (B := 0) (pw_below_drewN (Below.refl _ _) _), HL5.out.trans (Logged.of_below (pw_below_drewN (Below.refl _ _) _))⟩
end Go.Proofs.Ytcpinjdkgponnaa.Trap
