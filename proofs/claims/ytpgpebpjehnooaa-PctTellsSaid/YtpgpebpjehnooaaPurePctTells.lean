/- PctTells, the plain law: codes, and what they decode to, are the document's own. -/
import Derived.Test.YtpgpebpjehnooaaPPctTellsx4
import Derived.Test.YtpgpebpjehnooaaPctLaw
namespace Go.Proofs.Ytpgpebpjehnooaa.Pure
open Go.RowKit Go.Proofs.Ytpgpebpjehnooaa.Given Go.Proofs.Ytpgpebpjehnooaa.Pct Go.Proofs.Ytpgpebpjehnooaa.PPctTells Go.Proofs.YtpgpebpjehnooaaW.PrintWords Go.Proofs.YtpgpebpjehnooaaW.PrintLast

theorem wf64 {n : Int} (h : (Lit.int .i64 n).wf = true) : -9223372036854775808 ≤ n ∧ n ≤ 9223372036854775807 := by
  simp [Lit.wf, IntKind.min, IntKind.max, IntKind.signed, IntKind.bits] at h
  omega
theorem w64 {n : Int} (h : -9223372036854775808 ≤ n) (h' : n ≤ 9223372036854775807) : wrap64 n = n := by
  unfold wrap64
  omega

theorem dec_of (s : ByteArray) (hs : s.size ≤ 100) (d : Option (List UInt8)) (h : decF (s.size + 1) s.data.toList = d) : pct_Decode.f s = some (decS d, d.isSome) := by
  unfold pct_Decode.f
  rw [if_pos (by omega), decL_decF (s.size + 1) _ (by simp), h]
theorem runs : porticolaw3_PctRuns.f = some true := by
  unfold porticolaw3_PctRuns.f
  rw [dec_of ⟨#[37, 50, 102]⟩ (by decide) (some [47]) (by decide +kernel), dec_of ⟨#[37, 52]⟩ (by decide) none (by decide +kernel), dec_of ⟨#[97, 32, 98]⟩ (by decide) none (by decide +kernel), dec_of ⟨#[37, 52, 49]⟩ (by decide) (some [65]) (by decide +kernel)]
  have he : pct_Encode.f ⟨#[97, 32, 98, 47]⟩ = some ⟨#[97, 37, 50, 48, 98, 37, 50, 70]⟩ := by decide +kernel
  rw [he]
  decide +kernel
theorem mn_le (a b : Int) : mn a b ≤ a ∧ mn a b ≤ b ∧ (0 ≤ a → 0 ≤ b → 0 ≤ mn a b) := by unfold mn; split <;> omega

theorem rplain (n : Nat) (h : n < 256) : porticoref3_plain.f (n : Int) = some (plainP n) := by
  have : ∀ m : Fin 256, porticoref3_plain.f (m.1 : Int) = some (plainP m.1) := by decide +kernel
  exact this ⟨n, h⟩
theorem rhex (k : Nat) (n : Nat) (h : n < 256) : porticoref3_hex.f (k + 2) (n : Int) = some (digitP n) := by
  have h2 : ∀ m : Fin 256, porticoref3_hex.f 2 (m.1 : Int) = some (digitP m.1) := by decide +kernel
  induction k with
  | zero => exact h2 ⟨n, h⟩
  | succ k ih => exact porticoref3_hex.mono _ _ _ ih
theorem band (n : Nat) (h : n < 256) : Go.bits .and .u8 (n : Int) 15 = ((n % 16 : Nat) : Int) := by
  have : ∀ m : Fin 256, Go.bits .and .u8 (m.1 : Int) 15 = ((m.1 % 16 : Nat) : Int) := by decide +kernel
  exact this ⟨n, h⟩
theorem hexbt (n : Nat) (h : n < 16) : bt (⟨#[48, 49, 50, 51, 52, 53, 54, 55, 56, 57, 65, 66, 67, 68, 69, 70]⟩ : ByteArray) (n : Int) = ((hexD n).toNat : Int) := by
  have : ∀ m : Fin 16, bt (⟨#[48, 49, 50, 51, 52, 53, 54, 55, 56, 57, 65, 66, 67, 68, 69, 70]⟩ : ByteArray) (m.1 : Int) = ((hexD m.1).toNat : Int) := by decide +kernel
  exact this ⟨n, h⟩
def un (l : List UInt8) : List Int := l.map fun b => (b.toNat : Int)
theorem str_un (l : List UInt8) : strOfNums (un l) = ⟨l.toArray⟩ := by
  unfold strOfNums un
  congr 1
  rw [List.map_map]
  congr 1
  conv => rhs; rw [← List.map_id l]
  apply List.map_congr_left
  intro a _
  simp
theorem un_app (l m : List UInt8) : un (l ++ m) = un l ++ un m := by simp [un]
theorem un_len (l : List UInt8) : (un l).length = l.length := by simp [un]
theorem bt_drop (s : ByteArray) (i : Nat) (c : UInt8) (r : List UInt8) (h : s.data.toList.drop i = c :: r) : bt s (i : Int) = (c.toNat : Int) ∧ i < s.size ∧ s.data.toList.drop (i + 1) = r := by
  have hi : i < s.data.toList.length := by
    rcases Nat.lt_or_ge i s.data.toList.length with h1 | h1
    · exact h1
    · rw [List.drop_eq_nil_of_le h1] at h; cases h
  have hi2 : i < s.size := by simpa using hi
  rw [List.drop_eq_getElem_cons hi] at h
  injection h with h1 h2
  refine ⟨?_, hi2, h2⟩
  unfold bt
  rw [dif_pos (show (i : Int).toNat < s.size by simpa using hi2)]
  rw [← h1]
  rfl
theorem drop_nil (s : ByteArray) (i : Nat) (h : s.data.toList.drop i = []) : s.size ≤ i := by
  have := List.drop_eq_nil_iff.1 h
  simpa using this
theorem wn1 (a : Nat) (h : a ≤ 1000) : wrap64 ((a : Int) + 1) = ((a + 1 : Nat) : Int) := by rw [w64 (by omega) (by omega)]; simp
theorem wn2 (a : Nat) (h : a ≤ 1000) : wrap64 ((a : Int) + 2) = ((a + 2 : Nat) : Int) := by rw [w64 (by omega) (by omega)]; simp

theorem q_1 (s i n : Nat) (h : s - i ≤ n + 1) : s - (i + 2 + 1) ≤ n := by omega
theorem q_2 (acc : List UInt8) (v : UInt8) (i : Nat) (h : acc.length ≤ i) : (acc ++ [v]).length ≤ i + 2 + 1 := by simp; omega
theorem q_3 (n k : Nat) (h : 2 * (n + 1) + 6 ≤ k + 4) : 2 * n + 6 ≤ k + 2 := by omega
/-- What the reference's decoder comes to, from a place on. -/
def rd_end (acc : List UInt8) (o : Option (List UInt8)) : ByteArray × Bool := match o with
  | some d => (⟨(acc ++ d).toArray⟩, true)
  | none => (⟨#[]⟩, false)
set_option maxHeartbeats 2000000 in
theorem rdec (s : ByteArray) (hs : s.size ≤ 100) : ∀ (n i k : Nat) (acc : List UInt8), s.size - i ≤ n → acc.length ≤ i → 2 * n + 6 ≤ k → porticoref3_Decode.l0 k s (un acc) (i : Int) = some (rd_end acc (decL (s.data.toList.drop i))) := by
  intro n
  induction n with
  | zero =>
    intro i k acc hn ha hk
    obtain ⟨k, rfl⟩ : ∃ m, k = m + 1 := ⟨k - 1, by omega⟩
    have hd : s.data.toList.drop i = [] := List.drop_eq_nil_of_le (by simp; omega)
    rw [porticoref3_Decode.l0, if_neg (by omega), hd, decL, str_un]
    simp [rd_end]
  | succ n ih =>
    intro i k acc hn ha hk
    obtain ⟨k, rfl⟩ : ∃ m, k = m + 4 := ⟨k - 4, by omega⟩
    match hd : s.data.toList.drop i with
    | [] =>
      have := drop_nil s i hd
      rw [porticoref3_Decode.l0, if_neg (by omega), decL, str_un]
      simp [rd_end]
    | c :: r =>
      obtain ⟨hb, hi, hr⟩ := bt_drop s i c r hd
      have hc := c.toNat_lt
      rw [porticoref3_Decode.l0, if_pos (by omega), if_pos (by omega), hb, rplain _ hc]
      simp only [Option.bind_some]
      by_cases hp : plainP c.toNat = true
      · rw [if_pos hp, if_pos (by rw [un_len]; omega), show un acc ++ [((c.toNat : Nat) : Int)] = un (acc ++ [c]) from by simp [un], wn1 i (by omega), ih (i + 1) (k + 3) (acc ++ [c]) (by omega) (by simp; omega) (by omega), hr, decL, stepD_plain c r hp]
        simp only [List.drop_zero]
        cases decL r <;> simp [rd_end]
      · rw [if_neg hp]
        by_cases h37 : c = 37
        · subst h37
          rw [if_pos (by rfl)]
          match hr2 : r with
          | [] =>
            have hl := congrArg List.length hd
            simp at hl
            rw [wn2 i (by omega), if_neg (by omega), porticoref3_Decode.j1, if_neg (by simp), decL]
            simp [stepD, rd_end]
          | [a] =>
            have hl := congrArg List.length hd
            simp at hl
            rw [wn2 i (by omega), if_neg (by omega), porticoref3_Decode.j1, if_neg (by simp), decL]
            simp [stepD, rd_end]
          | a :: b :: r' =>
            obtain ⟨hba, hia, hra⟩ := bt_drop s (i + 1) a (b :: r') hr
            obtain ⟨hbb, hib, hrb⟩ := bt_drop s (i + 1 + 1) b r' hra
            have hca := a.toNat_lt
            have hcb := b.toNat_lt
            obtain ⟨A1, A2⟩ := digitP_bd (a.toNat : Int)
            obtain ⟨B1, B2⟩ := digitP_bd (b.toNat : Int)
            rw [show i + 1 + 1 = i + 2 from rfl] at hbb hib hrb
            rw [wn2 i (by omega), wn1 i (by omega), if_pos (by omega), if_pos (by omega), if_pos (by omega), hba, rhex (k + 1) _ hca]
            simp only [Option.bind_some]
            rw [decL]
            by_cases h1 : 0 ≤ digitP (a.toNat : Int)
            · rw [if_pos h1, if_pos (by omega), hbb, rhex (k + 1) _ hcb]
              simp only [Option.bind_some]
              by_cases h2 : 0 ≤ digitP (b.toNat : Int)
              · rw [porticoref3_Decode.j1, if_pos (by simpa using h2), wn2 i (by omega), wn1 i (by omega), if_pos (by omega), if_pos (by omega), hba, rhex k _ hca]
                simp only [Option.bind_some]
                rw [if_pos (by omega), if_pos (by omega), hbb, rhex k _ hcb]
                simp only [Option.bind_some]
                rw [if_pos (by rw [un_len]; omega), w64 (n := digitP (a.toNat : Int) * 16) (by omega) (by omega), or_val _ _ h1 A2 h2 B2]
                have hst : stepD 37 (a :: b :: r') = some ((digitP (a.toNat : Int) * 16 + digitP (b.toNat : Int)).toNat.toUInt8, 2) := by
                  unfold stepD
                  rw [if_pos rfl]
                  simp only
                  rw [if_neg (by omega)]
                rw [hst]
                generalize (digitP (a.toNat : Int) * 16 + digitP (b.toNat : Int)).toNat.toUInt8 = v
                rw [show un acc ++ [((v.toNat : Nat) : Int)] = un (acc ++ [v]) from by simp [un]]
                have e3 := wn1 (i + 2) (by omega)
                rw [e3, ih (i + 2 + 1) (k + 2) (acc ++ [v]) (q_1 _ _ _ hn) (q_2 _ _ _ ha) (q_3 _ _ hk), hrb]
                simp only [List.drop_succ_cons, List.drop_zero]
                cases decL r' <;> simp [rd_end]
              · rw [porticoref3_Decode.j1, if_neg (by simpa using h2)]
                have hst : stepD 37 (a :: b :: r') = none := by
                  unfold stepD
                  rw [if_pos rfl]
                  simp only
                  rw [if_pos (by omega)]
                rw [hst]
                rfl
            · rw [if_neg h1, porticoref3_Decode.j1, if_neg (by simp)]
              have hst : stepD 37 (a :: b :: r') = none := by
                unfold stepD
                rw [if_pos rfl]
                simp only
                rw [if_pos (by omega)]
              rw [hst]
              rfl
        · have hne : ¬ ((c.toNat : Nat) : Int) = 37 := by
            intro h
            apply h37
            apply UInt8.toNat_inj.1
            have : (37 : UInt8).toNat = 37 := rfl
            omega
          rw [if_neg hne, porticoref3_Decode.j1, if_neg (by simp), decL]
          have hst : stepD c r = none := by
            unfold stepD
            rw [if_neg h37, if_neg hp]
          rw [hst]
          rfl

theorem renc (s : ByteArray) (hs : s.size ≤ 100) : ∀ (n i k : Nat) (acc : List UInt8), s.size - i ≤ n → acc.length ≤ 3 * i → n + 2 ≤ k → porticoref3_Encode.l0 k s ⟨#[48, 49, 50, 51, 52, 53, 54, 55, 56, 57, 65, 66, 67, 68, 69, 70]⟩ (un acc) (i : Int) = some ⟨(acc ++ encL (s.data.toList.drop i)).toArray⟩ := by
  intro n
  induction n with
  | zero =>
    intro i k acc hn ha hk
    obtain ⟨k, rfl⟩ : ∃ m, k = m + 1 := ⟨k - 1, by omega⟩
    have hd : s.data.toList.drop i = [] := List.drop_eq_nil_of_le (by simp; omega)
    rw [porticoref3_Encode.l0, if_neg (by omega), hd, str_un]
    simp [encL]
  | succ n ih =>
    intro i k acc hn ha hk
    obtain ⟨k, rfl⟩ : ∃ m, k = m + 1 := ⟨k - 1, by omega⟩
    match hd : s.data.toList.drop i with
    | [] =>
      have := drop_nil s i hd
      rw [porticoref3_Encode.l0, if_neg (by omega), str_un]
      simp [encL]
    | c :: r =>
      obtain ⟨hb, hi, hr⟩ := bt_drop s i c r hd
      have hc := c.toNat_lt
      rw [porticoref3_Encode.l0, if_pos (by omega), if_pos (by omega), hb, rplain _ hc]
      simp only [Option.bind_some]
      rw [show encL (c :: r) = encB c ++ encL r from by simp [encL]]
      by_cases hp : plainP c.toNat = true
      · rw [if_pos hp, if_pos (by rw [un_len]; omega), show un acc ++ [((c.toNat : Nat) : Int)] = un (acc ++ [c]) from by simp [un], wn1 i (by omega), ih (i + 1) k (acc ++ [c]) (by omega) (by simp; omega) (by omega), hr]
        simp [encB, hp]
      · have e16 : ((c.toNat : Nat) : Int) / 16 = ((c.toNat / 16 : Nat) : Int) := by omega
        have hz : (((⟨#[48, 49, 50, 51, 52, 53, 54, 55, 56, 57, 65, 66, 67, 68, 69, 70]⟩ : ByteArray).size : Nat) : Int) = 16 := rfl
        rw [if_neg hp, band _ hc, e16, hexbt _ (by omega), hexbt _ (by omega), if_pos (by omega), if_pos (by rw [hz]; omega), if_pos (by omega), if_pos (by rw [hz]; omega)]
        rw [show ([37, ((hexD (c.toNat / 16)).toNat : Int), ((hexD (c.toNat % 16)).toNat : Int)] : List Int) = un (encB c) from by simp [un, encB, hp]]
        rw [if_pos (by rw [un_len, un_len]; have := encB_le c; omega), ← un_app, wn1 i (by omega), ih (i + 1) k (acc ++ encB c) (by omega) (by have := encB_le c; simp; omega) (by omega), hr]
        simp

theorem encB_one (c : UInt8) : (encB c == [c]) = plainP c.toNat := by
  unfold encB
  cases h : plainP c.toNat with
  | true => simp
  | false =>
    rw [if_neg (by simp)]
    simp
theorem tells (x : ByteArray) (hx : x.size ≤ 100) (x5 : ByteArray) (x6 : Bool) : ∀ (n i k : Nat), i + n = 256 → n + 200 ≤ k → porticolaw3_PctTells.l0 k x x5 x6 x5 x6 (i : Int) = some true := by
  intro n
  induction n with
  | zero =>
    intro i k hi hk
    obtain ⟨k, rfl⟩ : ∃ m, k = m + 1 := ⟨k - 1, by omega⟩
    have h1 : pct_Encode.f x = some ⟨(encL x.data.toList).toArray⟩ := by unfold pct_Encode.f; rw [if_pos (by omega)]
    have h2 : porticoref3_Encode.f k x = some ⟨(encL x.data.toList).toArray⟩ := by
      have := renc x hx x.size 0 k [] (by omega) (by simp) (by omega)
      simpa [porticoref3_Encode.f, un] using this
    rw [porticolaw3_PctTells.l0, if_neg (by omega), h1, h2, runs]
    simp
  | succ n ih =>
    intro i k hi hk
    obtain ⟨k, rfl⟩ : ∃ m, k = m + 1 := ⟨k - 1, by omega⟩
    have em : ((i : Nat) : Int) % 256 = (((i.toUInt8).toNat : Nat) : Int) := by
      rw [show i.toUInt8.toNat = i % 256 from by simp [Nat.toUInt8]]; omega
    generalize i.toUInt8 = c at em
    have hc := c.toNat_lt
    have h1 : pct_Plain.f (c.toNat : Int) = some (plainP c.toNat) := by unfold pct_Plain.f; rw [if_pos (by omega)]
    have h2 : porticoref3_Encode.f k (strOfNums [((c.toNat : Nat) : Int)]) = some ⟨(encB c).toArray⟩ := by
      have e1 : strOfNums [((c.toNat : Nat) : Int)] = ⟨#[c]⟩ := by
        have := str_un [c]
        simpa [un] using this
      rw [e1]
      have := renc ⟨#[c]⟩ (show 1 ≤ 100 by omega) 1 0 k [] (show 1 - 0 ≤ 1 by omega) (by simp) (by omega)
      simpa [porticoref3_Encode.f, un, encL] using this
    have e1 : strOfNums [((c.toNat : Nat) : Int)] = ⟨#[c]⟩ := by
      have := str_un [c]
      simpa [un] using this
    rw [porticolaw3_PctTells.l0, if_pos (by omega), em, h1, h2, e1]
    simp only [Option.bind_some]
    have e2 : ((⟨(encB c).toArray⟩ : ByteArray).toList == (⟨#[c]⟩ : ByteArray).toList) = plainP c.toNat := by
      rw [Lib.toList_data, Lib.toList_data, ← encB_one c]
    rw [e2, if_neg (by simp), w64 (by omega) (by omega)]
    have := ih (i + 1) k (by omega) (by omega)
    simpa using this

theorem PctTells : porticolaw3_PctTells.Pure := by
  intro s t hs ht
  obtain ⟨K, hK⟩ : ∃ K : Nat, K = 500 := ⟨_, rfl⟩
  refine ⟨K, ?_⟩
  have hm := mn_le (s.size : Int) 60
  have hm2 := mn_le (t.size : Int) 60
  unfold porticolaw3_PctTells.f
  rw [if_pos (by omega), if_pos (by omega), if_pos (by omega), if_pos (by omega)]
  generalize hx : s.extract 0 (mn (s.size : Int) 60).toNat = x
  generalize hy : t.extract 0 (mn (t.size : Int) 60).toNat = y
  have hxs : x.size ≤ 100 := by rw [← hx, ByteArray.size_extract]; omega
  have hys : y.size ≤ 100 := by rw [← hy, ByteArray.size_extract]; omega
  have h1 : pct_Decode.f y = some (decS (decL y.data.toList), (decL y.data.toList).isSome) := by unfold pct_Decode.f; rw [if_pos (by omega)]
  have h2 : porticoref3_Decode.f K y = some (decS (decL y.data.toList), (decL y.data.toList).isSome) := by
    have := rdec y hys y.size 0 K [] (by omega) (by simp) (by omega)
    simp only [List.drop_zero] at this
    rw [show un [] = ([] : List Int) from rfl, show ((0 : Nat) : Int) = (0 : Int) from rfl] at this
    unfold porticoref3_Decode.f
    rw [this]
    cases decL y.data.toList <;> rfl
  rw [h1, h2]
  have h3 := tells x hxs (decS (decL y.data.toList)) (decL y.data.toList).isSome 256 0 K (by omega) (by omega)
  simp only [Option.bind_some]
  rw [show ((0 : Nat) : Int) = (0 : Int) from rfl] at h3
  exact h3

end Go.Proofs.Ytpgpebpjehnooaa.Pure
