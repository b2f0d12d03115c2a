/- PctBack: the walk. -/
import Derived.Test.YtpgpebpjehnooaaBackPure
import Derived.Test.YtpgpebpjehnooaaPurePctRuns
import Derived.Deep.LoopGhost
import Derived.Lib.MinMax
import Derived.Lib.Hide
import Derived.BigQuiet
import Derived.Deep.QuietTactic
import Derived.Deep.DeepCutAuto
import Derived.Deep.CutBlock
set_option linter.unusedVariables false
set_option linter.unusedSimpArgs false
namespace Go.Proofs.Ytpgpebpjehnooaa.Pct
open Go.RowKit Go.Proofs.YtpgpebpjehnooaaW.PrintWords

theorem runs_any (w : World) : Calls Try.prog 3 #[] w fun en w' => en = .returned (.bool true) ∧ Below w.heap.size w w' := PPctRuns.porticolaw3_PctRuns.calls true w Pure.PctRuns
theorem enc_text (S : ByteArray) (h : S.size ≤ 60) : ∃ a : ByteArray, (⟨(encL S.data.toList).toArray⟩ : ByteArray) = a ∧ a.data.toList = encL S.data.toList ∧ a.size = (encL S.data.toList).length ∧ a.size ≤ 180 := by
  refine ⟨_, rfl, rfl, List.size_toArray .., ?_⟩
  have h1 := encL_le S.data.toList
  have h2 : S.data.toList.length = S.size := Array.length_toList
  show (encL S.data.toList).toArray.size ≤ 180
  rw [List.size_toArray]
  omega
theorem cut60 (s : ByteArray) : ∃ n : Nat, min (s.size : Int) 60 = (n : Int) ∧ n ≤ s.size ∧ n ≤ 60 := ⟨min s.size 60, by omega, by omega, by omega⟩
set_option maxHeartbeats 4000000 in
set_option maxRecDepth 100000 in
theorem PctBack_any (s t code : ByteArray) (w : World) : Calls Try.prog 5 #[.string s, .string t, .string code] w fun en w' => en = .returned (.bool true) ∧ Below w.heap.size w w' := by
  obtain ⟨n1, hm1, hn1, hk1⟩ := cut60 s
  obtain ⟨n2, hm2, hn2, hk2⟩ := cut60 t
  obtain ⟨n3, hm3, hn3, hk3⟩ := cut60 code
  have q1 : (n1 : Int) ≤ (s.size : Int) := by omega
  have q2 : (n2 : Int) ≤ (t.size : Int) := by omega
  have q3 : (n3 : Int) ≤ (code.size : Int) := by omega
  have p1 : (0 : Int) ≤ (n1 : Int) := by omega
  have p2 : (0 : Int) ≤ (n2 : Int) := by omega
  have p3 : (0 : Int) ≤ (n3 : Int) := by omega
  obtain ⟨S, hS, hS60⟩ : ∃ S, s.extract 0 n1 = S ∧ S.size ≤ 60 := ⟨_, rfl, by rw [ByteArray.size_extract]; omega⟩
  obtain ⟨T, hT, hT60⟩ : ∃ T, t.extract 0 n2 = T ∧ T.size ≤ 60 := ⟨_, rfl, by rw [ByteArray.size_extract]; omega⟩
  obtain ⟨C, hC, hC60⟩ : ∃ C, code.extract 0 n3 = C ∧ C.size ≤ 60 := ⟨_, rfl, by rw [ByteArray.size_extract]; omega⟩
  have HC := Lib.hid (And.intro hS (And.intro hT hC))
  have HZ := Lib.hid (And.intro hS60 (And.intro hT60 hC60))
  clear hn1 hk1 hn2 hk2 hn3 hk3 hS hT hC hS60 hT60 hC60
  go_enter Try.func5, Try.ntmps5
  go_wp2_with fail
  go_quiet (fail)
  rw [HC.out.1, HC.out.2.1, HC.out.2.2]
  obtain ⟨w1, hw1⟩ : ∃ w1, w.drewN nq = w1 := ⟨_, rfl⟩
  have HB1 : Hid (Below w.heap.size w w1) := Lib.hid (by rw [← hw1]; exact pw_below_drewN (Below.refl _ _) nq)
  rw [hw1]
  clear hw1
  obtain ⟨a, ha, ha1, ha2, ha3⟩ := enc_text S HZ.out.1
  obtain ⟨b, hb, hb1, hb2, hb3⟩ := enc_text T HZ.out.2.1
  have HA := Lib.hid (And.intro ha (And.intro ha1 (And.intro ha2 ha3)))
  have HB := Lib.hid (And.intro hb (And.intro hb1 (And.intro hb2 hb3)))
  clear ha ha1 ha2 ha3 hb hb1 hb2 hb3
  go_wp2_with fail
  have c2 := Encode_any S w1 (by have := HZ.out.1; omega)
  rw [HA.out.1] at c2
  refine c2.mono ?_
  rintro e w2 ⟨rfl, hB2⟩
  have HB2 := Lib.hid (HB1.out.trans (hB2.mono HB1.out.size))
  clear c2 hB2 HB1
  go_wp2_with fail
  have c3 := Encode_any T w2 (by have := HZ.out.2.1; omega)
  rw [HB.out.1] at c3
  refine c3.mono ?_
  rintro e w3 ⟨rfl, hB3⟩
  have HB3 := Lib.hid (HB2.out.trans (hB3.mono HB2.out.size))
  clear c3 hB3 HB2
  go_wp2_with fail
  have c4 := Decode_any a w3 (by have := HA.out.2.2.2; omega)
  rw [HA.out.2.1, dec_enc] at c4
  have hds : decS (some S.data.toList) = S := by unfold decS; simp
  rw [hds] at c4
  refine c4.mono ?_
  rintro e w4 ⟨rfl, hB4⟩
  have HB4 := Lib.hid (HB3.out.trans (hB4.mono HB3.out.size))
  clear c4 hds hB4 HB3
  have hcv := Lib.run_convert_string_bytes (P := Try.prog) w4 9 27 5 a Try.underlying9 Try.underlying27 Try.underlying5
  have HR5 : Hid (BRow (Lib.bytesWorld w4 5 a) w4.heap.size (encL S.data.toList) ∧ Below w.heap.size w (Lib.bytesWorld w4 5 a) ∧ w.heap.size ≤ w4.heap.size) := Lib.hid (by
    have h1 := BRow.made w4 a
    rw [HA.out.2.1] at h1
    refine ⟨h1, HB4.out.trans ((⟨rfl, rfl, rfl, by rw [Lib.bytesWorld_size]; omega, fun k hk => Lib.bytesWorld_at_old w4 5 a k hk⟩ : Below w4.heap.size w4 (Lib.bytesWorld w4 5 a)).mono HB4.out.size), HB4.out.size⟩)
  obtain ⟨la, hla⟩ : ∃ la, encL S.data.toList = la := ⟨_, rfl⟩
  have HLA := Lib.hid hla
  have HAL : Hid (a.data.toList = la ∧ a.size = la.length ∧ la.length ≤ 180) := Lib.hid (by rw [← hla]; exact ⟨HA.out.2.1, HA.out.2.2.1, by have := HA.out.2.2; omega⟩)
  rw [hla] at HR5
  clear hla
  go_wp2_with fail
  clear hcv
  generalize Lib.bytesWorld w4 5 a = w5 at HR5 ⊢
  generalize w4.heap.size = K at HR5 ⊢
  generalize grownCap w4 a.size 0 5 = cK
  obtain ⟨n, hn⟩ : ∃ n, a.size = n := ⟨_, rfl⟩
  rw [hn]
  have HN : Hid (a.size = n ∧ n = la.length ∧ n ≤ 180) := Lib.hid ⟨hn, by rw [← hn]; exact HAL.out.2.1, by have := HAL.out; omega⟩
  clear hn
  go_loopw [45] (fun t45 wr => ∃ i : Nat, t45 = .int .i64 (i : Int) ∧ i ≤ n ∧ Hid (BRow wr K ((smL 0 0 la).take i ++ la.drop i) ∧ Below w.heap.size w wr)) (fun t _ => match t with | .int _ i => (n - i).toNat | _ => 0)
  case atStart => exact ⟨0, rfl, by omega, Lib.hid ⟨by simpa using HR5.out.1, HR5.out.2.1⟩⟩
  case round =>
    obtain ⟨i, rfl, hi, HI⟩ := hrel
    have q0 : (0 : Int) ≤ (i : Int) := by omega
    by_cases d1 : i < n
    · have q4 : (i : Int) < (n : Int) := by omega
      have q5 : (i : Int) ≤ 180 := by have := HN.out; omega
      have hil : i < la.length := by have := HN.out; omega
      obtain ⟨x, hx⟩ : ∃ x, la[i] = x := ⟨_, rfl⟩
      have hlen : ((smL 0 0 la).take i).length = i := by rw [List.length_take, smL_length]; omega
      have hgi : ((smL 0 0 la).take i ++ la.drop i)[i]'(by rw [List.length_append, hlen, List.length_drop]; omega) = x := by
        rw [List.getElem_append_right (by omega)]
        simp [hlen, hx]
      have y := HI.out.1.cell i (by rw [List.length_append, hlen, List.length_drop]; omega)
      rw [hgi] at y
      have z := HI.out.1.frozen i (by rw [List.length_append, hlen, List.length_drop]; omega)
      have hsm := smL_get la 0 0 i hil
      rw [hx] at hsm
      have HSM := Lib.hid hsm
      -- the next row, if the byte comes to v
      have hnext : ∀ v : UInt8, (smL 0 0 la)[i]? = some v → ((smL 0 0 la).take i ++ la.drop i).set i v = (smL 0 0 la).take (i + 1) ++ la.drop (i + 1) := fun v hv => by
        rw [List.set_append_right _ _ (by omega), hlen, Nat.sub_self, List.drop_eq_getElem_cons hil, List.set_cons_zero]
        obtain ⟨hb, he⟩ := List.getElem?_eq_some_iff.1 hv
        rw [List.take_succ_eq_append_getElem hb, he, List.append_assoc]
        rfl
      have HNX := Lib.hid hnext
      have hkeep : (smL 0 0 la)[i]? = some x → (smL 0 0 la).take i ++ la.drop i = (smL 0 0 la).take (i + 1) ++ la.drop (i + 1) := fun hv => by
        rw [← hnext x hv]
        have hb : i < ((smL 0 0 la).take i ++ la.drop i).length := by rw [List.length_append, hlen, List.length_drop]; omega
        have := List.set_getElem_self hb
        rw [hgi] at this
        exact this.symm
      have HKP := Lib.hid hkeep
      have hx256 := x.toNat_lt
      have hxI : ((x.toNat : Nat) : Int) < 256 := by omega
      clear hx hlen hgi hsm hnext hkeep
      have hA := HAL.out.2.1
      have hkeepR : ∀ b : Prop, [Decidable b] → (smL 0 0 la)[i]? = some (if b then low x else x) → ¬ b ∨ ¬ (65 ≤ x.toNat ∧ x.toNat ≤ 70) → (smL 0 0 la)[i]? = some x := fun b _ h1 h2 => by
        rw [h1]
        by_cases hb : b
        · rw [if_pos hb]
          rcases h2 with h2 | h2
          · exact absurd hb h2
          · unfold low; rw [if_neg h2]
        · rw [if_neg hb]
      have HKR := Lib.hid hkeepR
      clear hkeepR
      by_cases r1 : 65 ≤ x.toNat
      · have r1' : (65 : Int) ≤ (x.toNat : Int) := by omega
        by_cases r2 : x.toNat ≤ 70
        · have r2' : (x.toNat : Int) ≤ 70 := by omega
          rcases i with _ | j1
          · have HF := Lib.hid (HKP.out (HKR.out _ HSM.out (.inl (by simp [pv1, pv2]))))
            clear hA r1 r2
            go_wp2_with fail
            go_roundw
            case rel => exact ⟨0 + 1, by go_num, by omega, Lib.hid ⟨by rw [← HF.out]; exact HI.out.1, HI.out.2⟩⟩
            case measure => first | (simp; omega) | simp
          · have e1 : ((j1 + 1 : Nat) : Int) - 1 = (j1 : Int) := by omega
            have e0 : (0 : Int) < ((j1 + 1 : Nat) : Int) := by omega
            have s1 : (j1 : Int) < (a.size : Int) := by have := HN.out; omega
            have s0 : (0 : Int) ≤ (j1 : Int) := by omega
            have hj1 : j1 < a.size := by omega
            obtain ⟨b1, hb1⟩ : ∃ b1, (((a[j1]'hj1).toNat : Int) == 37) = b1 := ⟨_, rfl⟩
            have hp1 : pv1 0 la (j1 + 1) = a[j1]'hj1 := by
              unfold pv1
              rw [if_neg (by omega), Nat.add_sub_cancel, List.getD_eq_getElem?_getD, ← HAL.out.1]
              rw [List.getElem?_eq_getElem (by rw [HAL.out.1]; omega)]
              rfl
            cases b1 with
            | true =>
              have hx1 : pv1 0 la (j1 + 1) = 37 := by
                rw [hp1]
                apply UInt8.toNat_inj.1
                have := beq_iff_eq.1 hb1
                show _ = 37
                omega
              have HF := Lib.hid (HNX.out (x + 32) (by rw [HSM.out, if_pos (.inl hx1)]; unfold low; rw [if_pos ⟨by omega, by omega⟩]))
              have H32 : Hid (((x + 32).toNat : Int) = (x.toNat : Int) + 32) := Lib.hid (by rw [UInt8.toNat_add]; simp; omega)
              clear hA r1 r2 hp1 hx1
              go_wp2_with fail
              go_roundw
              case rel =>
                refine ⟨j1 + 1 + 1, by go_num, by omega, Lib.hid ?_⟩
                rw [← H32.out]
                have h1 := HI.out.1.set (j1 + 1) (x + 32)
                rw [HF.out] at h1
                exact ⟨h1, HI.out.2.setCell (p := ⟨K, j1 + 1, none⟩) HR5.out.2.2 _⟩
              case measure => first | (simp; omega) | simp
            | false =>
              have hx1 : pv1 0 la (j1 + 1) ≠ 37 := by
                rw [hp1]
                intro e
                rw [e] at hb1
                simp at hb1
              rcases j1 with _ | j2
              · have HF := Lib.hid (HKP.out (HKR.out _ HSM.out (.inl (by
                  rintro (h | h)
                  · exact hx1 h
                  · simp [pv2] at h))))
                clear hA r1 r2 hp1 hx1
                go_wp2_with fail
                go_roundw
                case rel => exact ⟨0 + 1 + 1, by go_num, by omega, Lib.hid ⟨by rw [← HF.out]; exact HI.out.1, HI.out.2⟩⟩
                case measure => first | (simp; omega) | simp
              · have e3 : ((j2 + 1 + 1 : Nat) : Int) - 2 = (j2 : Int) := by omega
                have e4 : (1 : Int) < ((j2 + 1 + 1 : Nat) : Int) := by omega
                have s3 : (j2 : Int) < (a.size : Int) := by omega
                have s4 : (0 : Int) ≤ (j2 : Int) := by omega
                have hj2 : j2 < a.size := by omega
                obtain ⟨b2, hb2⟩ : ∃ b2, (((a[j2]'hj2).toNat : Int) == 37) = b2 := ⟨_, rfl⟩
                have hp2 : pv2 0 0 la (j2 + 1 + 1) = a[j2]'hj2 := by
                  unfold pv2
                  rw [if_neg (by omega), if_neg (by omega), show j2 + 1 + 1 - 2 = j2 by omega, List.getD_eq_getElem?_getD, ← HAL.out.1]
                  rw [List.getElem?_eq_getElem (by rw [HAL.out.1]; omega)]
                  rfl
                cases b2 with
                | true =>
                  have hx2 : pv2 0 0 la (j2 + 1 + 1) = 37 := by
                    rw [hp2]
                    apply UInt8.toNat_inj.1
                    have := beq_iff_eq.1 hb2
                    show _ = 37
                    omega
                  have HF := Lib.hid (HNX.out (x + 32) (by rw [HSM.out, if_pos (.inr hx2)]; unfold low; rw [if_pos ⟨by omega, by omega⟩]))
                  have H32 : Hid (((x + 32).toNat : Int) = (x.toNat : Int) + 32) := Lib.hid (by rw [UInt8.toNat_add]; simp; omega)
                  clear hA r1 r2 hp1 hx1 hp2 hx2
                  go_wp2_with fail
                  go_roundw
                  case rel =>
                    refine ⟨j2 + 1 + 1 + 1, by go_num, by omega, Lib.hid ?_⟩
                    rw [← H32.out]
                    have h1 := HI.out.1.set (j2 + 1 + 1) (x + 32)
                    rw [HF.out] at h1
                    exact ⟨h1, HI.out.2.setCell (p := ⟨K, j2 + 1 + 1, none⟩) HR5.out.2.2 _⟩
                  case measure => first | (simp; omega) | simp
                | false =>
                  have hx2 : pv2 0 0 la (j2 + 1 + 1) ≠ 37 := by
                    rw [hp2]
                    intro e
                    rw [e] at hb2
                    simp at hb2
                  have HF := Lib.hid (HKP.out (HKR.out _ HSM.out (.inl (by
                    rintro (h | h)
                    · exact hx1 h
                    · exact hx2 h))))
                  clear hA r1 r2 hp1 hx1 hp2 hx2
                  go_wp2_with fail
                  go_roundw
                  case rel => exact ⟨j2 + 1 + 1 + 1, by go_num, by omega, Lib.hid ⟨by rw [← HF.out]; exact HI.out.1, HI.out.2⟩⟩
                  case measure => first | (simp; omega) | simp
        · have r2' : ¬ (x.toNat : Int) ≤ 70 := by omega
          have HF := Lib.hid (HKP.out (HKR.out _ HSM.out (.inr (by omega))))
          clear hA r1 r2
          go_wp2_with fail
          go_roundw
          case rel => exact ⟨i + 1, by go_num, by omega, Lib.hid ⟨by rw [← HF.out]; exact HI.out.1, HI.out.2⟩⟩
          case measure => first | (simp; omega) | simp
      · have r1' : ¬ (65 : Int) ≤ (x.toNat : Int) := by omega
        have HF := Lib.hid (HKP.out (HKR.out _ HSM.out (.inr (by omega))))
        clear hA r1
        go_wp2_with fail
        go_roundw
        case rel => exact ⟨i + 1, by go_num, by omega, Lib.hid ⟨by rw [← HF.out]; exact HI.out.1, HI.out.2⟩⟩
        case measure => first | (simp; omega) | simp
    · have q4 : ¬ (i : Int) < (n : Int) := by omega
      obtain rfl : i = n := by omega
      obtain ⟨B2, hB2⟩ : ∃ B2 : ByteArray, (⟨(smL 0 0 la).toArray⟩ : ByteArray) = B2 := ⟨_, rfl⟩
      have hrow : BRow wr K (smL 0 0 la) := by
        have := HI.out.1
        rw [List.take_of_length_le (by rw [smL_length]; have := HN.out; omega), List.drop_of_length_le (by have := HN.out; omega), List.append_nil] at this
        exact this
      have hnl : i = (smL 0 0 la).length := by rw [smL_length]; exact HN.out.2.1
      have hcv2 : (convert 27 9 (.slice (some ⟨K, 0, none⟩) i cK)).run Try.prog wr = .ok (.string B2) wr := by
        have h1 := Kd.C_string (P := Try.prog) (src := 27) (dst := 9) (e := 5) (c := cK) Try.underlying27 Try.underlying5 Try.underlying9 (hrow.C (by rw [smL_length]; have := HN.out; omega))
        rw [str_un, hB2, ← hnl] at h1
        exact h1
      have HB2 : Hid (B2.data.toList = smL 0 0 la ∧ B2.size ≤ 180) := Lib.hid (by
        rw [← hB2]
        refine ⟨rfl, ?_⟩
        show (smL 0 0 la).toArray.size ≤ 180
        rw [List.size_toArray, smL_length]
        have := HN.out
        omega)
      have HBw := Lib.hid HI.out.2
      clear hB2 hrow hnl HI
      go_wp2_with fail
      clear hcv2
      have c6 := Decode_any B2 wr (by have := HB2.out; omega)
      have hds : decS (some S.data.toList) = S := by unfold decS; simp
      have hd2 : decL B2.data.toList = some S.data.toList := by rw [HB2.out.1, ← HLA.out]; exact dec_small _ 0 0 (by decide) (by decide)
      rw [hd2, hds] at c6
      refine c6.mono ?_
      rintro e w6 ⟨rfl, hB6⟩
      have HB6 := Lib.hid (HBw.out.trans (hB6.mono HBw.out.size))
      clear c6 hds hd2 hB6 HBw
      go_wp2_with fail
      have c7 := Decode_any C w6 (by have := HZ.out.2.2; omega)
      obtain ⟨D, hD⟩ : ∃ D, decL C.data.toList = D := ⟨_, rfl⟩
      rw [hD] at c7
      have HD := Lib.hid hD
      clear hD
      refine c7.mono ?_
      rintro e w7 ⟨rfl, hB7⟩
      have HB7 := Lib.hid (HB6.out.trans (hB7.mono HB6.out.size))
      clear c7 hB7 HB6
      have hEq : ∃ be, (a.toList == b.toList) = be ∧ (S.toList == T.toList) = be := by
        refine ⟨(S.toList == T.toList), ?_, rfl⟩
        by_cases h : S = T
        · have hab : a = b := by rw [← HA.out.1, ← HB.out.1, h]
          rw [(Lib.bytes_beq_iff _ _).2 h, (Lib.bytes_beq_iff _ _).2 hab]
        · have hab : a ≠ b := fun e => h (by
            have h1 : encL S.data.toList = encL T.data.toList := by rw [← HA.out.2.1, ← HB.out.2.1, e]
            have h2 := enc_inj h1
            exact ByteArray.ext (Array.toList_inj.1 h2))
          rw [(Lib.bytes_beq_false_iff _ _).2 h, (Lib.bytes_beq_false_iff _ _).2 hab]
      obtain ⟨be, hbe1, hbe2⟩ := hEq
      have HST : Hid ((⟨(encL (S ++ T).data.toList).toArray⟩ : ByteArray) = a ++ b ∧ (S ++ T).size ≤ 120) := Lib.hid (by
        constructor
        · apply ByteArray.ext
          apply Array.toList_inj.1
          rw [ByteArray.data_append, ByteArray.data_append]
          simp only [Array.toList_append, encL_app]
          rw [HA.out.2.1, HB.out.2.1]
        · rw [ByteArray.size_append]; have := HZ.out; omega)
      have hl1 : ¬ 9223372036854775807 < S.size + T.size := by have := HZ.out; omega
      have hl2 : ¬ 9223372036854775807 < a.size + b.size := by have := HA.out.2.2; have := HB.out.2.2; omega
      have hss : (S.toList == S.toList) = true := beq_self_eq_true _
      have haa : (a.toList == a.toList) = true := beq_self_eq_true _
      have hab2 : ((a ++ b).toList == (a ++ b).toList) = true := beq_self_eq_true _
      cases D with
      | none =>
        unfold decS
        simp only [Option.getD_none, Option.isSome_none]
        go_wp2_with fail
        have c8 := Encode_any (S ++ T) w7 (by have := HST.out.2; omega)
        rw [HST.out.1] at c8
        refine c8.mono ?_
        rintro e w8 ⟨rfl, hB8⟩
        have HB8 := Lib.hid (HB7.out.trans (hB8.mono HB7.out.size))
        clear c8 hB8 HB7
        go_wp2_with fail
        have c9 := Encode_any S w8 (by have := HZ.out; omega)
        rw [HA.out.1] at c9
        refine c9.mono ?_
        rintro e w9 ⟨rfl, hB9⟩
        have HB9 := Lib.hid (HB8.out.trans (hB9.mono HB8.out.size))
        clear c9 hB9 HB8
        go_wp2_with fail
        refine (runs_any w9).mono ?_
        rintro e w10 ⟨rfl, hB10⟩
        have HB10 := Lib.hid (HB9.out.trans (hB10.mono HB9.out.size))
        clear hB10 HB9
        go_wp2_with fail
        go_ret
        exact ⟨rfl, HB10.out⟩
      | some m =>
        unfold decS
        simp only [Option.getD_some, Option.isSome_some]
        obtain ⟨Z, hZ⟩ : ∃ Z : ByteArray, (⟨m.toArray⟩ : ByteArray) = Z := ⟨_, rfl⟩
        rw [hZ]
        have hZl : Z.data.toList = m := by rw [← hZ]
        have hmC : m.length ≤ C.size := by
          have := decL_le _ _ _ (Nat.le_refl _) HD.out
          exact this
        have hZs : Z.size = m.length := by rw [← hZ]; exact List.size_toArray
        obtain ⟨E, hE⟩ : ∃ E : ByteArray, (⟨(encL Z.data.toList).toArray⟩ : ByteArray) = E := ⟨_, rfl⟩
        have hEs : E.size ≤ 3 * C.size := by
          rw [← hE]
          show (encL Z.data.toList).toArray.size ≤ _
          rw [List.size_toArray, hZl]
          have := encL_le m
          omega
        have HEs := Lib.hid hEs
        have HZs := Lib.hid (And.intro hZs hmC)
        have HE := Lib.hid hE
        clear hZ hZl hZs hE hmC hEs
        go_wp2_with fail
        have c7b := Encode_any Z w7 (by have := HZs.out; have := HZ.out; omega)
        rw [HE.out] at c7b
        refine c7b.mono ?_
        rintro e w7b ⟨rfl, hB7b⟩
        have HB7b := Lib.hid (HB7.out.trans (hB7b.mono HB7.out.size))
        clear c7b hB7b HB7
        have hw3 : wrap64 (3 * (C.size : Int)) = 3 * (C.size : Int) := by have := HZ.out; unfold wrap64; omega
        have hC0 : (0 : Int) ≤ (C.size : Int) := by omega
        have hC6 : (C.size : Int) ≤ 60 := by have := HZ.out; omega
        have hcmp : ¬ (3 * (C.size : Int)) < (E.size : Int) := by have := HEs.out; omega
        go_wp2_with fail
        have c8 := Encode_any (S ++ T) w7b (by have := HST.out.2; omega)
        rw [HST.out.1] at c8
        refine c8.mono ?_
        rintro e w8 ⟨rfl, hB8⟩
        have HB8 := Lib.hid (HB7b.out.trans (hB8.mono HB7b.out.size))
        clear c8 hB8 HB7b
        go_wp2_with fail
        have c9 := Encode_any S w8 (by have := HZ.out; omega)
        rw [HA.out.1] at c9
        refine c9.mono ?_
        rintro e w9 ⟨rfl, hB9⟩
        have HB9 := Lib.hid (HB8.out.trans (hB9.mono HB8.out.size))
        clear c9 hB9 HB8
        go_wp2_with fail
        refine (runs_any w9).mono ?_
        rintro e w10 ⟨rfl, hB10⟩
        have HB10 := Lib.hid (HB9.out.trans (hB10.mono HB9.out.size))
        clear hB10 HB9
        go_wp2_with fail
        go_ret
        exact ⟨rfl, HB10.out⟩
end Go.Proofs.Ytpgpebpjehnooaa.Pct
