/- URLTells: the reference's answers in plain words: split, Encode, Decode, Right, Print, Parse. -/
import Derived.Test.YtcaaggfobdfgpaaDoorPURLTellsx12
import Derived.Test.YtcaaggfobdfgpaaDoorRunsURLTells
set_option linter.unusedVariables false
set_option linter.unusedSimpArgs false
namespace Go.Proofs.YtcaaggfobdfgpaaDoor.UURLTells
open Go.RowKit Go.Proofs.YtcaaggfobdfgpaaDoor.PURLTells Go.Proofs.YtcaaggfobdfgpaaDoorW.PrintWords Go.Proofs.YtcaaggfobdfgpaaDoorW.PrintLast Go.Proofs.YtcaaggfobdfgpaaDoorW.PrintMore Go.Proofs.YtcaaggfobdfgpaaDoor.Pct Go.Proofs.YtcaaggfobdfgpaaDoor.UP Go.Proofs.YtcaaggfobdfgpaaDoor.Given

theorem wf64 {n : Int} (h : (Lit.int .i64 n).wf = true) : -9223372036854775808 ≤ n ∧ n ≤ 9223372036854775807 := by
  simp [Lit.wf, IntKind.min, IntKind.max, IntKind.signed, IntKind.bits] at h
  omega
theorem w64 {n : Int} (h : -9223372036854775808 ≤ n) (h' : n ≤ 9223372036854775807) : wrap64 n = n := by
  unfold wrap64
  omega

theorem mn_le (a b : Int) : mn a b ≤ a ∧ mn a b ≤ b ∧ (0 ≤ a → 0 ≤ b → 0 ≤ mn a b) := by unfold mn; split <;> omega

theorem rplain (n : Nat) (h : n < 256) : porticoref3_plain.f (n : Int) = some (plainP n) := by
  have : ∀ m : Fin 256, porticoref3_plain.f (m.1 : Int) = some (plainP m.1) := by decide +kernel
  exact this ⟨n, h⟩
theorem rhex (k : Nat) (n : Nat) (h : n < 256) : porticoref3_hex.f (k + 2) (n : Int) = some (digitP n) := by
  have h2 : ∀ m : Fin 256, porticoref3_hex.f 2 (m.1 : Int) = some (digitP m.1) := by decide +kernel
  induction k with
  | zero => exact h2 ⟨n, h⟩
  | succ k ih => exact porticoref3_hex.mono _ _ _ ih
theorem band (n : Nat) (h : n < 256) : Go.bits .and .u8 (n : Int) 15 = ((n % 16 : Nat) : Int) := by
  have : ∀ m : Fin 256, Go.bits .and .u8 (m.1 : Int) 15 = ((m.1 % 16 : Nat) : Int) := by decide +kernel
  exact this ⟨n, h⟩
theorem hexbt (n : Nat) (h : n < 16) : bt (⟨#[48, 49, 50, 51, 52, 53, 54, 55, 56, 57, 65, 66, 67, 68, 69, 70]⟩ : ByteArray) (n : Int) = ((hexD n).toNat : Int) := by
  have : ∀ m : Fin 16, bt (⟨#[48, 49, 50, 51, 52, 53, 54, 55, 56, 57, 65, 66, 67, 68, 69, 70]⟩ : ByteArray) (m.1 : Int) = ((hexD m.1).toNat : Int) := by decide +kernel
  exact this ⟨n, h⟩
def un (l : List UInt8) : List Int := l.map fun b => (b.toNat : Int)
theorem str_un (l : List UInt8) : strOfNums (un l) = ⟨l.toArray⟩ := by
  unfold strOfNums un
  congr 1
  rw [List.map_map]
  congr 1
  conv => rhs; rw [← List.map_id l]
  apply List.map_congr_left
  intro a _
  simp
theorem un_app (l m : List UInt8) : un (l ++ m) = un l ++ un m := by simp [un]
theorem un_len (l : List UInt8) : (un l).length = l.length := by simp [un]
theorem bt_drop (s : ByteArray) (i : Nat) (c : UInt8) (r : List UInt8) (h : s.data.toList.drop i = c :: r) : bt s (i : Int) = (c.toNat : Int) ∧ i < s.size ∧ s.data.toList.drop (i + 1) = r := by
  have hi : i < s.data.toList.length := by
    rcases Nat.lt_or_ge i s.data.toList.length with h1 | h1
    · exact h1
    · rw [List.drop_eq_nil_of_le h1] at h; cases h
  have hi2 : i < s.size := by simpa using hi
  rw [List.drop_eq_getElem_cons hi] at h
  injection h with h1 h2
  refine ⟨?_, hi2, h2⟩
  unfold bt
  rw [dif_pos (show (i : Int).toNat < s.size by simpa using hi2)]
  rw [← h1]
  rfl
theorem drop_nil (s : ByteArray) (i : Nat) (h : s.data.toList.drop i = []) : s.size ≤ i := by
  have := List.drop_eq_nil_iff.1 h
  simpa using this
theorem wn1 (a : Nat) (h : a ≤ 1000) : wrap64 ((a : Int) + 1) = ((a + 1 : Nat) : Int) := by rw [w64 (by omega) (by omega)]; simp
theorem wn2 (a : Nat) (h : a ≤ 1000) : wrap64 ((a : Int) + 2) = ((a + 2 : Nat) : Int) := by rw [w64 (by omega) (by omega)]; simp

theorem q_1 (s i n : Nat) (h : s - i ≤ n + 1) : s - (i + 2 + 1) ≤ n := by omega
theorem q_2 (acc : List UInt8) (v : UInt8) (i : Nat) (h : acc.length ≤ i) : (acc ++ [v]).length ≤ i + 2 + 1 := by simp; omega
theorem q_3 (n k : Nat) (h : 2 * (n + 1) + 6 ≤ k + 4) : 2 * n + 6 ≤ k + 2 := by omega
/-- What the reference's decoder comes to, from a place on. -/
def rd_end (acc : List UInt8) (o : Option (List UInt8)) : ByteArray × Bool := match o with
  | some d => (⟨(acc ++ d).toArray⟩, true)
  | none => (⟨#[]⟩, false)
set_option maxHeartbeats 2000000 in
theorem rdec (s : ByteArray) (hs : s.size ≤ 900) : ∀ (n i k : Nat) (acc : List UInt8), s.size - i ≤ n → acc.length ≤ i → 2 * n + 6 ≤ k → porticoref3_Decode.l0 k s (un acc) (i : Int) = some (rd_end acc (decL (s.data.toList.drop i))) := by
  intro n
  induction n with
  | zero =>
    intro i k acc hn ha hk
    obtain ⟨k, rfl⟩ : ∃ m, k = m + 1 := ⟨k - 1, by omega⟩
    have hd : s.data.toList.drop i = [] := List.drop_eq_nil_of_le (by simp; omega)
    rw [porticoref3_Decode.l0, if_neg (by omega), hd, decL, str_un]
    simp [rd_end]
  | succ n ih =>
    intro i k acc hn ha hk
    obtain ⟨k, rfl⟩ : ∃ m, k = m + 4 := ⟨k - 4, by omega⟩
    match hd : s.data.toList.drop i with
    | [] =>
      have := drop_nil s i hd
      rw [porticoref3_Decode.l0, if_neg (by omega), decL, str_un]
      simp [rd_end]
    | c :: r =>
      obtain ⟨hb, hi, hr⟩ := bt_drop s i c r hd
      have hc := c.toNat_lt
      rw [porticoref3_Decode.l0, if_pos (by omega), if_pos (by omega), hb, rplain _ hc]
      simp only [Option.bind_some]
      by_cases hp : plainP c.toNat = true
      · rw [if_pos hp, if_pos (by rw [un_len]; omega), show un acc ++ [((c.toNat : Nat) : Int)] = un (acc ++ [c]) from by simp [un], wn1 i (by omega), ih (i + 1) (k + 3) (acc ++ [c]) (by omega) (by simp; omega) (by omega), hr, decL, stepD_plain c r hp]
        simp only [List.drop_zero]
        cases decL r <;> simp [rd_end]
      · rw [if_neg hp]
        by_cases h37 : c = 37
        · subst h37
          rw [if_pos (by rfl)]
          match hr2 : r with
          | [] =>
            have hl := congrArg List.length hd
            simp at hl
            rw [wn2 i (by omega), if_neg (by omega), porticoref3_Decode.j1, if_neg (by simp), decL]
            simp [stepD, rd_end]
          | [a] =>
            have hl := congrArg List.length hd
            simp at hl
            rw [wn2 i (by omega), if_neg (by omega), porticoref3_Decode.j1, if_neg (by simp), decL]
            simp [stepD, rd_end]
          | a :: b :: r' =>
            obtain ⟨hba, hia, hra⟩ := bt_drop s (i + 1) a (b :: r') hr
            obtain ⟨hbb, hib, hrb⟩ := bt_drop s (i + 1 + 1) b r' hra
            have hca := a.toNat_lt
            have hcb := b.toNat_lt
            obtain ⟨A1, A2⟩ := digitP_bd (a.toNat : Int)
            obtain ⟨B1, B2⟩ := digitP_bd (b.toNat : Int)
            rw [show i + 1 + 1 = i + 2 from rfl] at hbb hib hrb
            rw [wn2 i (by omega), wn1 i (by omega), if_pos (by omega), if_pos (by omega), if_pos (by omega), hba, rhex (k + 1) _ hca]
            simp only [Option.bind_some]
            rw [decL]
            by_cases h1 : 0 ≤ digitP (a.toNat : Int)
            · rw [if_pos h1, if_pos (by omega), hbb, rhex (k + 1) _ hcb]
              simp only [Option.bind_some]
              by_cases h2 : 0 ≤ digitP (b.toNat : Int)
              · rw [porticoref3_Decode.j1, if_pos (by simpa using h2), wn2 i (by omega), wn1 i (by omega), if_pos (by omega), if_pos (by omega), hba, rhex k _ hca]
                simp only [Option.bind_some]
                rw [if_pos (by omega), if_pos (by omega), hbb, rhex k _ hcb]
                simp only [Option.bind_some]
                rw [if_pos (by rw [un_len]; omega), w64 (n := digitP (a.toNat : Int) * 16) (by omega) (by omega), or_val _ _ h1 A2 h2 B2]
                have hst : stepD 37 (a :: b :: r') = some ((digitP (a.toNat : Int) * 16 + digitP (b.toNat : Int)).toNat.toUInt8, 2) := by
                  unfold stepD
                  rw [if_pos rfl]
                  simp only
                  rw [if_neg (by omega)]
                rw [hst]
                generalize (digitP (a.toNat : Int) * 16 + digitP (b.toNat : Int)).toNat.toUInt8 = v
                rw [show un acc ++ [((v.toNat : Nat) : Int)] = un (acc ++ [v]) from by simp [un]]
                have e3 := wn1 (i + 2) (by omega)
                rw [e3, ih (i + 2 + 1) (k + 2) (acc ++ [v]) (q_1 _ _ _ hn) (q_2 _ _ _ ha) (q_3 _ _ hk), hrb]
                simp only [List.drop_succ_cons, List.drop_zero]
                cases decL r' <;> simp [rd_end]
              · rw [porticoref3_Decode.j1, if_neg (by simpa using h2)]
                have hst : stepD 37 (a :: b :: r') = none := by
                  unfold stepD
                  rw [if_pos rfl]
                  simp only
                  rw [if_pos (by omega)]
                rw [hst]
                rfl
            · rw [if_neg h1, porticoref3_Decode.j1, if_neg (by simp)]
              have hst : stepD 37 (a :: b :: r') = none := by
                unfold stepD
                rw [if_pos rfl]
                simp only
                rw [if_pos (by omega)]
              rw [hst]
              rfl
        · have hne : ¬ ((c.toNat : Nat) : Int) = 37 := by
            intro h
            apply h37
            apply UInt8.toNat_inj.1
            have : (37 : UInt8).toNat = 37 := rfl
            omega
          rw [if_neg hne, porticoref3_Decode.j1, if_neg (by simp), decL]
          have hst : stepD c r = none := by
            unfold stepD
            rw [if_neg h37, if_neg hp]
          rw [hst]
          rfl

theorem renc (s : ByteArray) (hs : s.size ≤ 900) : ∀ (n i k : Nat) (acc : List UInt8), s.size - i ≤ n → acc.length ≤ 3 * i → n + 2 ≤ k → porticoref3_Encode.l0 k s ⟨#[48, 49, 50, 51, 52, 53, 54, 55, 56, 57, 65, 66, 67, 68, 69, 70]⟩ (un acc) (i : Int) = some ⟨(acc ++ encL (s.data.toList.drop i)).toArray⟩ := by
  intro n
  induction n with
  | zero =>
    intro i k acc hn ha hk
    obtain ⟨k, rfl⟩ : ∃ m, k = m + 1 := ⟨k - 1, by omega⟩
    have hd : s.data.toList.drop i = [] := List.drop_eq_nil_of_le (by simp; omega)
    rw [porticoref3_Encode.l0, if_neg (by omega), hd, str_un]
    simp [encL]
  | succ n ih =>
    intro i k acc hn ha hk
    obtain ⟨k, rfl⟩ : ∃ m, k = m + 1 := ⟨k - 1, by omega⟩
    match hd : s.data.toList.drop i with
    | [] =>
      have := drop_nil s i hd
      rw [porticoref3_Encode.l0, if_neg (by omega), str_un]
      simp [encL]
    | c :: r =>
      obtain ⟨hb, hi, hr⟩ := bt_drop s i c r hd
      have hc := c.toNat_lt
      rw [porticoref3_Encode.l0, if_pos (by omega), if_pos (by omega), hb, rplain _ hc]
      simp only [Option.bind_some]
      rw [show encL (c :: r) = encB c ++ encL r from by simp [encL]]
      by_cases hp : plainP c.toNat = true
      · rw [if_pos hp, if_pos (by rw [un_len]; omega), show un acc ++ [((c.toNat : Nat) : Int)] = un (acc ++ [c]) from by simp [un], wn1 i (by omega), ih (i + 1) k (acc ++ [c]) (by omega) (by simp; omega) (by omega), hr]
        simp [encB, hp]
      · have e16 : ((c.toNat : Nat) : Int) / 16 = ((c.toNat / 16 : Nat) : Int) := by omega
        have hz : (((⟨#[48, 49, 50, 51, 52, 53, 54, 55, 56, 57, 65, 66, 67, 68, 69, 70]⟩ : ByteArray).size : Nat) : Int) = 16 := rfl
        rw [if_neg hp, band _ hc, e16, hexbt _ (by omega), hexbt _ (by omega), if_pos (by omega), if_pos (by rw [hz]; omega), if_pos (by omega), if_pos (by rw [hz]; omega)]
        rw [show ([37, ((hexD (c.toNat / 16)).toNat : Int), ((hexD (c.toNat % 16)).toNat : Int)] : List Int) = un (encB c) from by simp [un, encB, hp]]
        rw [if_pos (by rw [un_len, un_len]; have := encB_le c; omega), ← un_app, wn1 i (by omega), ih (i + 1) k (acc ++ encB c) (by omega) (by have := encB_le c; simp; omega) (by omega), hr]
        simp


theorem rEncode (s : ByteArray) (hs : s.size ≤ 900) (k : Nat) (hk : s.size + 2 ≤ k) : porticoref3_Encode.f k s = some (ba (encL s.data.toList)) := by
  have := renc s hs s.size 0 k [] (by omega) (by simp) (by omega)
  simpa [porticoref3_Encode.f, un, ba] using this
def decO (o : Option (List UInt8)) : ByteArray × Bool := match o with | some d => (ba d, true) | none => (⟨#[]⟩, false)
theorem rDecode (s : ByteArray) (hs : s.size ≤ 900) (k : Nat) (hk : 2 * s.size + 6 ≤ k) : porticoref3_Decode.f k s = some (decO (decL s.data.toList)) := by
  have h := rdec s hs s.size 0 k [] (by omega) (by simp) (by omega)
  unfold porticoref3_Decode.f
  rw [show un [] = ([] : List Int) from rfl, show ((0 : Nat) : Int) = 0 from rfl, List.drop_zero] at h
  rw [h]
  cases decL s.data.toList <;> simp [rd_end, decO, ba]
theorem ext_data (s : ByteArray) (a b : Nat) : (s.extract a b).data.toList = (s.data.toList.drop a).take (b - a) := by
  rw [Lib.extract_data]
  try simp [List.take_drop, List.drop_take]
theorem ext_ba (s : ByteArray) (a b : Nat) : s.extract a b = ba ((s.data.toList.drop a).take (b - a)) := by
  rw [← ext_data]
  rfl
theorem big_lt {a : Nat} (h : a ≤ 100000) : a < 8796093022208 := by omega
theorem split_l0 (s : ByteArray) (c : UInt8) (hs : s.size ≤ 100000) : ∀ (n i f k : Nat) (acc : List ByteArray), s.size - i ≤ n → i ≤ s.size → f ≤ i → acc.length ≤ i → n + 2 < k → c ∉ (s.data.toList.drop f).take (i - f) →
    porticoref3_split.l0 k s (c.toNat : Int) acc (f : Int) (i : Int) = some (acc ++ (splitC c (s.data.toList.drop f)).map ba) := by
  have hsz : s.data.toList.length = s.size := by simp
  intro n
  induction n with
  | zero =>
    intro i f k acc h1 h2 h3 h4 h5 h6
    obtain ⟨k, rfl⟩ : ∃ m, k = m + 2 := ⟨k - 2, by omega⟩
    obtain rfl : i = s.size := by omega
    rw [porticoref3_split.l0, if_pos (by omega), if_pos rfl, if_pos (by omega), if_pos (by omega), if_pos (big_lt (by omega)), porticoref3_split.l0, if_neg (by rw [wrapS s.size (by omega)]; omega)]
    have hfull : (s.data.toList.drop f).take (s.size - f) = s.data.toList.drop f := List.take_of_length_le (by simp)
    rw [hfull] at h6
    rw [splitC_not h6, ext_ba]
    simp only [Int.toNat_natCast, hfull]
    rfl
  | succ n ih =>
    intro i f k acc h1 h2 h3 h4 h5 h6
    by_cases hi : i < s.size
    · obtain ⟨k, rfl⟩ : ∃ m, k = m + 1 := ⟨k - 1, by omega⟩
      have hl : i < s.data.toList.length := by omega
      have e1 : (i : Int) ≤ (s.size : Int) := by omega
      have e2 : ¬ ((i : Int) = (s.size : Int)) := by omega
      have e3 : (0 : Int) ≤ (i : Int) := by omega
      have e4 : (i : Int) < (s.size : Int) := by omega
      have e5 : (0 : Int) ≤ (f : Int) := by omega
      have e6 : (f : Int) ≤ (i : Int) := by omega
      have e7 : acc.length < 8796093022208 := big_lt (by omega)
      have hw := wrapS i (by omega)
      have hlen : ((s.data.toList.drop f).take (i - f)).length = i - f := by rw [List.length_take, List.length_drop]; omega
      have r1 : s.size - (i + 1) ≤ n := by omega
      have r2 : i + 1 ≤ s.size := by omega
      have r3 : f ≤ i + 1 := by omega
      have r4 : acc.length ≤ i + 1 := by omega
      have r5 : n + 2 < k := by omega
      have r6 : i + 1 - f = (i - f) + 1 := by omega
      have r7 : i - f + 1 - (i - f) = 1 := by omega
      have r8 : f + (i - f) = i := by omega
      obtain ⟨hb, _, _⟩ := bt_drop s i s.data.toList[i] _ (List.drop_eq_getElem_cons hl)
      have hcut : s.data.toList.drop f = (s.data.toList.drop f).take (i - f) ++ s.data.toList[i] :: s.data.toList.drop (i + 1) := by
        conv => lhs; rw [← List.take_append_drop (i - f) (s.data.toList.drop f)]
        rw [List.drop_drop, r8, List.drop_eq_getElem_cons hl]
      clear hsz
      obtain ⟨x, hx⟩ : ∃ x, s.data.toList[i] = x := ⟨_, rfl⟩
      rw [hx] at hb hcut
      rw [porticoref3_split.l0, if_pos e1, if_neg e2, if_pos e3, if_pos e4, hb]
      by_cases he : x = c
      · rw [if_pos (by rw [he]), if_pos e5, if_pos e6, if_pos e7, hw, ih (i + 1) (i + 1) k _ r1 r2 (Nat.le_refl _) (by rw [List.length_append]; exact Nat.add_le_add_right h4 1) r5 (by simp)]
        rw [hcut, he, splitC_at _ _ h6, ext_ba]
        simp
      · have hne : ¬ ((x.toNat : Int) = (c.toNat : Int)) := fun e => he (UInt8.toNat_inj.1 (Int.ofNat.inj e))
        rw [if_neg hne, hw]
        refine ih (i + 1) f k acc r1 r2 r3 r4 r5 ?_
        rw [r6]
        intro hm
        rw [hcut] at hm
        rw [List.take_append, List.take_of_length_le (by rw [hlen]; exact Nat.le_succ _), hlen, r7] at hm
        rcases List.mem_append.1 hm with hm | hm
        · exact h6 hm
        · simp at hm
          exact he hm.symm
    · exact ih i f k acc (by omega) h2 h3 h4 (by omega) h6
theorem rSplit (s : ByteArray) (c : UInt8) (hs : s.size ≤ 100000) (k : Nat) (hk : s.size + 3 ≤ k) : porticoref3_split.f k s (c.toNat : Int) = some ((splitC c s.data.toList).map ba) := by
  unfold porticoref3_split.f
  have := split_l0 s c hs s.size 0 0 k [] (by omega) (by omega) (by omega) (by simp) (by omega) (by simp)
  simpa using this
theorem textB_no1 {s : ByteArray} {m : Nat} (h : s.size < m) : textB s m = false := by
  unfold textB
  rw [decide_eq_false (by omega), Bool.false_and]
theorem textB_no2 {s : ByteArray} {m : Nat} (h : 64 < s.size) : textB s m = false := by
  unfold textB
  rw [decide_eq_false (show ¬ s.size ≤ 64 by omega), Bool.and_false]
theorem textB_yes {s : ByteArray} {m : Nat} (h : m ≤ s.size) (h' : s.size ≤ 64) : textB s m = true := by
  unfold textB
  rw [decide_eq_true h, decide_eq_true h']
  rfl
theorem rright_l1 (q : List Pr) (hq : q.length ≤ 1000000) : ∀ (n i k : Nat), q.length - i ≤ n → i ≤ q.length → n < k → porticoref3_Right.l1 k q (q.length : Int) (i : Int) = some ((q.drop i).all (fun x => textB x.f0 1 && textB x.f1 0)) := by
  intro n
  induction n with
  | zero =>
    intro i k h1 h2 h3
    obtain ⟨k, rfl⟩ : ∃ m, k = m + 1 := ⟨k - 1, by omega⟩
    rw [porticoref3_Right.l1, if_neg (by omega), List.drop_of_length_le (by omega)]
    rfl
  | succ n ih =>
    intro i k h1 h2 h3
    obtain ⟨k, rfl⟩ : ∃ m, k = m + 1 := ⟨k - 1, by omega⟩
    rw [porticoref3_Right.l1]
    by_cases hi : i < q.length
    · rw [if_pos (by omega), if_pos (by omega), if_pos (by omega), rdP_at q i hi, List.drop_eq_getElem_cons hi, List.all_cons]
      by_cases h5 : q[i].f0.size < 1
      · rw [if_pos (by omega), textB_no1 h5]
        rfl
      · rw [if_neg (by omega)]
        by_cases h6 : 64 < q[i].f0.size
        · rw [if_pos (by omega), textB_no2 h6]
          rfl
        · rw [if_neg (by omega), textB_yes (m := 1) (s := q[i].f0) (by omega) (by omega)]
          by_cases h7 : 64 < q[i].f1.size
          · rw [if_pos (by omega), textB_no2 h7]
            rfl
          · rw [if_neg (by omega), textB_yes (m := 0) (s := q[i].f1) (by omega) (by omega), wrapS i (by omega), ih (i + 1) k (by omega) (by omega) (by omega)]
            rfl
    · rw [if_neg (by omega), List.drop_of_length_le (by omega)]
      rfl
theorem rright_l0 (p : List ByteArray) (q : List Pr) (hp : p.length ≤ 1000000) (hq : q.length ≤ 1000000) : ∀ (n i k : Nat), p.length - i ≤ n → i ≤ p.length → n + q.length + 1 < k → porticoref3_Right.l0 k p (p.length : Int) (i : Int) p q = some ((p.drop i).all (textB · 1) && q.all (fun x => textB x.f0 1 && textB x.f1 0)) := by
  intro n
  induction n with
  | zero =>
    intro i k h1 h2 h3
    obtain ⟨k, rfl⟩ : ∃ m, k = m + 1 := ⟨k - 1, by omega⟩
    rw [porticoref3_Right.l0, if_neg (by omega), List.drop_of_length_le (by omega), show (0 : Int) = ((0 : Nat) : Int) from rfl, rright_l1 q hq q.length 0 k (by omega) (by omega) (by omega)]
    rfl
  | succ n ih =>
    intro i k h1 h2 h3
    obtain ⟨k, rfl⟩ : ∃ m, k = m + 1 := ⟨k - 1, by omega⟩
    rw [porticoref3_Right.l0]
    by_cases hi : i < p.length
    · rw [if_pos (by omega), if_pos (by omega), if_pos (by omega), rdOf_at _ p i hi, List.drop_eq_getElem_cons hi, List.all_cons]
      by_cases h5 : p[i].size < 1
      · rw [if_pos (by omega), textB_no1 h5]
        rfl
      · rw [if_neg (by omega)]
        by_cases h6 : 64 < p[i].size
        · rw [if_pos (by omega), textB_no2 h6]
          rfl
        · rw [if_neg (by omega), textB_yes (m := 1) (s := p[i]) (by omega) (by omega), wrapS i (by omega), ih (i + 1) k (by omega) (by omega) (by omega)]
          rfl
    · rw [if_neg (by omega), List.drop_of_length_le (by omega), show (0 : Int) = ((0 : Nat) : Int) from rfl, rright_l1 q hq q.length 0 k (by omega) (by omega) (by omega)]
      rfl
theorem rRight (p : List ByteArray) (q : List Pr) (k : Nat) (hk : 40 ≤ k) : porticoref3_Right.f k p q = some (rightB p q) := by
  obtain ⟨k, rfl⟩ : ∃ m, k = m + 1 := ⟨k - 1, by omega⟩
  unfold porticoref3_Right.f rightB
  by_cases h1 : p.length ≤ 8
  · rw [if_neg (by omega)]
    rw [porticoref3_Right.j0]
    by_cases h2 : q.length ≤ 8
    · rw [if_neg (by simp; omega), show (0 : Int) = ((0 : Nat) : Int) from rfl, rright_l0 p q (by omega) (by omega) p.length 0 k (by omega) (by omega) (by omega)]
      simp [h1, h2]
    · rw [if_pos (by simp; omega)]
      simp [h2]
  · rw [if_pos (by omega)]
    rw [porticoref3_Right.j0]
    rw [if_pos rfl]
    simp [h1]

theorem sum_le {a b : Nat} (h : a + b ≤ 1000000) : a + b ≤ 9223372036854775807 := by omega
theorem ba_size (l : List UInt8) : (ba l).size = l.length := rfl
theorem ba_app (l m : List UInt8) : ba l ++ ba m = ba (l ++ m) := by
  apply ByteArray.ext
  simp [ba]
theorem ba1 (c : UInt8) : (⟨#[c]⟩ : ByteArray) = ba [c] := rfl
theorem enc_size (s : ByteArray) (h : s.size ≤ 64) : (encL s.data.toList).length ≤ 192 := by
  have h1 := encL_le s.data.toList
  have h2 : s.data.toList.length = s.size := by simp
  omega
/-- the query's loop. -/
theorem rprint_l1 (p : List ByteArray) (q : List Pr) (hr : rightB p q = true) : ∀ (n i k : Nat), q.length - i ≤ n → i ≤ q.length → n + 300 < k →
    porticoref3_Print.l1 k (ba (headL p ++ queryL (q.take i))) q (q.length : Int) (i : Int) = some (ba (headL p ++ queryL q)) := by
  obtain ⟨g1, g2, g3, g4⟩ := right_bd hr
  have hhead : (headL p).length ≤ 1600 := by
    have := pathL_le p (fun x hx => (g3 x hx).2)
    unfold headL
    split
    · simp
    · omega
  intro n
  induction n with
  | zero =>
    intro i k h1 h2 h3
    obtain ⟨k, rfl⟩ : ∃ m, k = m + 1 := ⟨k - 1, by omega⟩
    obtain rfl : i = q.length := by omega
    rw [porticoref3_Print.l1, if_neg (by omega), List.take_length]
  | succ n ih =>
    intro i k h1 h2 h3
    by_cases hi : i < q.length
    · obtain ⟨k, rfl⟩ : ∃ m, k = m + 1 := ⟨k - 1, by omega⟩
      obtain ⟨x0, x1, x2⟩ := g4 _ (List.getElem_mem hi)
      have e0 := enc_size q[i].f0 x1
      have e1 := enc_size q[i].f1 x2
      have hq := queryL_le (q.take i) (fun x hx => (g4 x (List.mem_of_mem_take hx)).2)
      have hql : (q.take i).length = i := by rw [List.length_take]; omega
      have hw := Lib.hid (wrapS i (by omega))
      have hI := ih (i + 1) k (by omega) (by omega) (by omega)
      rw [take_succ q i hi, queryL_snoc, hql] at hI
      have hA : (headL p ++ queryL (q.take i)).length ≤ 10000 := by rw [List.length_append]; omega
      obtain ⟨A, hAe⟩ : ∃ A, headL p ++ queryL (q.take i) = A := ⟨_, rfl⟩
      rw [hAe] at hA
      have p1 : (i : Int) < (q.length : Int) := by omega
      have p2 : (0 : Int) ≤ (i : Int) := by omega
      have z1 := rEncode q[i].f0 (by omega) k (by omega)
      have z2 := rEncode q[i].f1 (by omega) k (by omega)
      have s1 : (ba A).size + 1 ≤ 9223372036854775807 := sum_le (by rw [ba_size]; omega)
      rw [hAe, porticoref3_Print.l1, if_pos p1, if_pos p2, if_pos p1, rdP_at q i hi]
      have t1 : ∀ c : UInt8, (ba A ++ (⟨#[c]⟩ : ByteArray)).size + (ba (encL q[i].f0.data.toList)).size ≤ 9223372036854775807 := fun c => sum_le (by rw [ba1, ba_app, ba_size, ba_size, List.length_append, List.length_singleton]; omega)
      have t2 : ∀ c : UInt8, (ba A ++ (⟨#[c]⟩ : ByteArray) ++ ba (encL q[i].f0.data.toList)).size + 1 ≤ 9223372036854775807 := fun c => sum_le (by rw [ba1, ba_app, ba_app, ba_size, List.length_append, List.length_append, List.length_singleton]; omega)
      have t3 : ∀ c : UInt8, (ba A ++ (⟨#[c]⟩ : ByteArray) ++ ba (encL q[i].f0.data.toList) ++ (⟨#[61]⟩ : ByteArray)).size + (ba (encL q[i].f1.data.toList)).size ≤ 9223372036854775807 := fun c => sum_le (by rw [ba1 c, ba1 61, ba_app, ba_app, ba_app, ba_size, ba_size, List.length_append, List.length_append, List.length_append, List.length_singleton, List.length_singleton]; omega)
      have t4 : ∀ c : UInt8, ba A ++ (⟨#[c]⟩ : ByteArray) ++ ba (encL q[i].f0.data.toList) ++ (⟨#[61]⟩ : ByteArray) ++ ba (encL q[i].f1.data.toList) = ba (A ++ c :: pairL q[i]) := fun c => by
        rw [ba1 c, ba1 61, ba_app, ba_app, ba_app, ba_app]
        unfold pairL
        simp
      rw [← List.append_assoc, hAe] at hI
      by_cases h0 : i = 0
      · have h0i : (i : Int) = 0 := by omega
        rw [if_pos h0i, if_pos s1, z1]
        simp only [Option.bind_some]
        rw [if_pos (t1 63), if_pos (t2 63), z2]
        simp only [Option.bind_some]
        rw [if_pos (t3 63), t4 63, hw.out]
        rw [if_pos h0] at hI
        exact hI
      · have h0i : ¬ (i : Int) = 0 := by omega
        rw [if_neg h0i, if_pos s1, z1]
        simp only [Option.bind_some]
        rw [if_pos (t1 38), if_pos (t2 38), z2]
        simp only [Option.bind_some]
        rw [if_pos (t3 38), t4 38, hw.out]
        rw [if_neg h0] at hI
        exact hI
    · exact ih i k (by omega) h2 (by omega)
theorem rprint_l0 (p : List ByteArray) (q : List Pr) (hr : rightB p q = true) : ∀ (n i k : Nat), p.length - i ≤ n → i ≤ p.length → n + 400 < k →
    porticoref3_Print.l0 k (ba (pathL (p.take i))) p (p.length : Int) (i : Int) p q = some (ba (printL p q)) := by
  obtain ⟨g1, g2, g3, g4⟩ := right_bd hr
  intro n
  induction n with
  | zero =>
    intro i k h1 h2 h3
    obtain ⟨k, rfl⟩ : ∃ m, k = m + 2 := ⟨k - 2, by omega⟩
    obtain rfl : i = p.length := by omega
    have h9 := rprint_l1 p q hr q.length 0 k (by omega) (by omega) (by omega)
    rw [List.take_zero, show queryL ([] : List Pr) = [] from rfl, List.append_nil, show ((0 : Nat) : Int) = 0 from rfl] at h9
    rw [porticoref3_Print.l0, if_neg (by omega), List.take_length, Lib.toList_data, ba_data]
    unfold headL at h9
    by_cases h0 : p.length = 0
    · obtain rfl : p = [] := List.eq_nil_of_length_eq_zero h0
      rw [if_pos (show pathL [] = [] from rfl), porticoref3_Print.j1, ba1]
      rw [if_pos (show ([] : List ByteArray).length = 0 from rfl)] at h9
      exact h9
    · have hne : ¬ pathL p = [] := by
        cases p with
        | nil => simp at h0
        | cons x p => simp [pathL, segL]
      rw [if_neg hne, porticoref3_Print.j1]
      rw [if_neg h0] at h9
      rw [h9]
      unfold printL headL
      rw [if_neg h0]
  | succ n ih =>
    intro i k h1 h2 h3
    by_cases hi : i < p.length
    · obtain ⟨k, rfl⟩ : ∃ m, k = m + 1 := ⟨k - 1, by omega⟩
      obtain ⟨x0, x1⟩ := g3 _ (List.getElem_mem hi)
      have e0 := enc_size p[i] x1
      have hq := pathL_le (p.take i) (fun x hx => (g3 x (List.mem_of_mem_take hx)).2)
      have hql : (p.take i).length = i := by rw [List.length_take]; omega
      have hw := Lib.hid (wrapS i (by omega))
      have hI := ih (i + 1) k (by omega) (by omega) (by omega)
      rw [take_succ p i hi, pathL_snoc] at hI
      obtain ⟨A, hAe⟩ : ∃ A, pathL (p.take i) = A := ⟨_, rfl⟩
      rw [hAe] at hq hI ⊢
      have p1 : (i : Int) < (p.length : Int) := by omega
      have p2 : (0 : Int) ≤ (i : Int) := by omega
      have z1 := rEncode p[i] (by omega) k (by omega)
      have s1 : (ba A).size + 1 ≤ 9223372036854775807 := sum_le (by rw [ba_size]; omega)
      have t1 : (ba A ++ (⟨#[47]⟩ : ByteArray)).size + (ba (encL p[i].data.toList)).size ≤ 9223372036854775807 := sum_le (by rw [ba1, ba_app, ba_size, ba_size, List.length_append, List.length_singleton]; omega)
      have t4 : ba A ++ (⟨#[47]⟩ : ByteArray) ++ ba (encL p[i].data.toList) = ba (A ++ segL p[i]) := by
        rw [ba1, ba_app, ba_app]
        unfold segL
        simp
      rw [porticoref3_Print.l0, if_pos p1, if_pos p2, if_pos p1, if_pos s1, rdOf_at _ p i hi, z1]
      simp only [Option.bind_some]
      rw [if_pos t1, t4, hw.out]
      exact hI
    · exact ih i k (by omega) h2 (by omega)
theorem rPrint (p : List ByteArray) (q : List Pr) (k : Nat) (hk : 500 ≤ k) : porticoref3_Print.f k p q = some (textOf p q) := by
  unfold porticoref3_Print.f
  rw [rRight p q k (by omega)]
  simp only [Option.bind_some]
  by_cases hr : rightB p q = true
  · have := rprint_l0 p q hr p.length 0 k (by omega) (by omega) (by have := (right_bd hr).1; omega)
    rw [if_pos hr, textOf_right hr]
    exact this
  · rw [if_neg hr, textOf_wrong hr]

/-! Parse -/
theorem dec_plain : ∀ (n : Nat) (l m : List UInt8), l.length ≤ n → decL l = some m → ∀ c ∈ l, ¬ Sep c := by
  have hexs : ∀ c : UInt8, 0 ≤ digitP (c.toNat : Int) → ¬ Sep c := by
    intro c h hs
    have : ∀ c ∈ ([47, 63, 38, 61] : List UInt8), digitP (c.toNat : Int) = -1 := by decide +kernel
    have h2 := this c (by rcases hs with rfl | rfl | rfl | rfl <;> simp)
    omega
  intro n
  induction n with
  | zero =>
    intro l m hn h c hc
    obtain rfl : l = [] := List.eq_nil_of_length_eq_zero (by omega)
    cases hc
  | succ n ih =>
    intro l m hn h c hc
    cases l with
    | nil => cases hc
    | cons x r =>
      rw [decL] at h
      cases e : stepD x r with
      | none => rw [e] at h; cases h
      | some q =>
        obtain ⟨b, k⟩ := q
        rw [e] at h
        simp only at h
        cases e2 : decL (r.drop k) with
        | none => rw [e2] at h; cases h
        | some m2 =>
          have hrest := ih (r.drop k) m2 (by rw [List.length_drop]; simp at hn; omega) e2
          unfold stepD at e
          by_cases h37 : x = 37
          · rw [if_pos h37] at e
            match r, e with
            | a :: b' :: r', e =>
              simp only at e
              split at e
              · cases e
              · rename_i hd
                cases e
                have ha : 0 ≤ digitP (a.toNat : Int) := by
                  by_cases h : 0 ≤ digitP (a.toNat : Int)
                  · exact h
                  · exact absurd (.inl (by omega)) hd
                have hb : 0 ≤ digitP (b'.toNat : Int) := by
                  by_cases h : 0 ≤ digitP (b'.toNat : Int)
                  · exact h
                  · exact absurd (.inr (by omega)) hd
                rcases List.mem_cons.1 hc with rfl | hc
                · rw [h37]
                  rintro (h | h | h | h) <;> cases h
                · rcases List.mem_cons.1 hc with rfl | hc
                  · exact hexs _ ha
                  · rcases List.mem_cons.1 hc with rfl | hc
                    · exact hexs _ hb
                    · exact hrest c (by simpa using hc)
            | [], e => cases e
            | [_], e => cases e
          · rw [if_neg h37] at e
            split at e
            · rename_i hp
              cases e
              rcases List.mem_cons.1 hc with rfl | hc
              · intro hs
                rw [sep_plain hs] at hp
                cases hp
              · exact hrest c (by simpa using hc)
            · cases e
theorem dec_none {l : List UInt8} {c : UInt8} (hs : Sep c) (hc : c ∈ l) : decL l = none := by
  cases h : decL l with
  | none => rfl
  | some m => exact absurd hs (dec_plain l.length l m (Nat.le_refl _) h c hc)

abbrev Out := List ByteArray × List Pr × Int
def errO : Out := ([], [], 1)
theorem segs_len : ∀ (L : List (List UInt8)) (p : List ByteArray), segs L = some p → p.length = L.length
  | [], p, h => by cases h; rfl
  | x :: r, p, h => by
    rw [segs_cons] at h
    cases e : decL x with
    | none => rw [e] at h; cases h
    | some d =>
      rw [e] at h
      simp only at h
      cases e2 : segs r with
      | none => rw [e2] at h; cases h
      | some p2 =>
        rw [e2] at h
        cases h
        simp [segs_len r p2 e2]
theorem pairs_len : ∀ (L : List (List UInt8)) (q : List Pr), pairs L = some q → q.length = L.length
  | [], p, h => by cases h; rfl
  | x :: r, p, h => by
    rw [pairs_cons] at h
    cases e : decL (Lib.cut x [61]).1 with
    | none => rw [e] at h; cases h
    | some d =>
      cases e1 : decL (Lib.cut x [61]).2.1 with
      | none => rw [e, e1] at h; cases h
      | some v =>
        rw [e, e1] at h
        simp only at h
        cases e2 : pairs r with
        | none => rw [e2] at h; cases h
        | some p2 =>
          rw [e2] at h
          cases h
          simp [pairs_len r p2 e2]
def qEnd (p : List ByteArray) (acc : List Pr) (o : Option (List Pr)) : Out := match o with
  | none => errO
  | some q => if rightB p (acc ++ q) = true then (p, acc ++ q, 0) else errO
theorem cut3 (x : List UInt8) : (61 ∉ x ∧ splitC 61 x = [x] ∧ Lib.cut x [61] = (x, [], false)) ∨ (∃ a b, 61 ∉ b ∧ x = a ++ 61 :: b ∧ splitC 61 x = [a, b] ∧ Lib.cut x [61] = (a, b, true)) ∨ (2 < (splitC 61 x).length ∧ decL (Lib.cut x [61]).2.1 = none) := by
  by_cases h : 61 ∈ x
  · obtain ⟨a, b, rfl, ha⟩ := first_at x 61 h
    rw [splitC_at a b ha, cut_at a b 61 ha]
    by_cases hb : 61 ∈ b
    · refine .inr (.inr ⟨?_, dec_none (.inr (.inr (.inr rfl))) hb⟩)
      obtain ⟨a2, b2, rfl, ha2⟩ := first_at b 61 hb
      rw [splitC_at a2 b2 ha2]
      have := splitC_ne 61 b2
      have h3 : 0 < (splitC 61 b2).length := List.length_pos_iff.2 this
      simp
      omega
    · exact .inr (.inl ⟨a, b, hb, rfl, by rw [splitC_not hb], rfl⟩)
  · exact .inl ⟨h, splitC_not h, cut_not h⟩
theorem big2 {a : Nat} (h : a ≤ 100000) : a < 4398046511104 := by omega
theorem rparse_l1 (p : List ByteArray) (L : List (List UInt8)) (hl : L.length ≤ 1000) (hL : ∀ x ∈ L, x.length ≤ 200) : ∀ (n i k : Nat) (acc : List Pr), L.length - i ≤ n → i ≤ L.length → n + 1000 < k → acc.length ≤ i →
    porticoref3_Parse.l1 k (L.map ba) (L.length : Int) (i : Int) p acc = some (qEnd p acc (pairs (L.drop i))) := by
  have last : ∀ (k : Nat) (acc : List Pr), 1000 < k → porticoref3_Parse.l1 k (L.map ba) (L.length : Int) (L.length : Int) p acc = some (qEnd p acc (pairs [])) := by
    intro k acc hk
    obtain ⟨k, rfl⟩ : ∃ m, k = m + 1 := ⟨k - 1, by omega⟩
    rw [porticoref3_Parse.l1, if_neg (by omega), rRight p acc k (by omega)]
    simp only [Option.bind_some, pairs_nil, qEnd, List.append_nil]
    split <;> rfl
  intro n
  induction n with
  | zero =>
    intro i k acc h1 h2 h3 h4
    obtain rfl : i = L.length := by omega
    rw [List.drop_length]
    exact last k acc (by omega)
  | succ n ih =>
    intro i k acc h1 h2 h3 h4
    by_cases hi : i < L.length
    · obtain ⟨k, rfl⟩ : ∃ m, k = m + 1 := ⟨k - 1, by omega⟩
      have hx := hL _ (List.getElem_mem hi)
      have hw := Lib.hid (wrapS i (by omega))
      have p1 : (i : Int) < (L.length : Int) := by omega
      have p2 : (0 : Int) ≤ (i : Int) := by omega
      have p3 : (i : Int) < ((L.map ba).length : Int) := by rw [List.length_map]; exact p1
      have b1 := big2 (a := acc.length) (by omega)
      have hI := fun a => ih (i + 1) k (acc ++ [a]) (by omega) (by omega) (by omega) (by rw [List.length_append, List.length_singleton]; omega)
      have hS := rSplit (ba L[i]) 61 (show L[i].length ≤ _ by omega) k (show L[i].length + 3 ≤ k by omega)
      rw [ba_data] at hS
      rw [List.drop_eq_getElem_cons hi, pairs_cons]
      obtain ⟨x, hxe⟩ : ∃ x, L[i] = x := ⟨_, rfl⟩
      rw [hxe] at hx hS ⊢
      have hrd := rdB_at L i hi
      rw [hxe] at hrd
      have hd1 : ∀ y : List UInt8, y.length ≤ 200 → porticoref3_Decode.f k (ba y) = some (decO (decL y)) := fun y hy => rDecode (ba y) (show y.length ≤ 900 by omega) k (show 2 * y.length + 6 ≤ k by omega)
      rw [porticoref3_Parse.l1, if_pos p1, if_pos p2, if_pos p3, hrd, show (61 : Int) = ((61 : UInt8).toNat : Int) from rfl, hS]
      simp only [Option.bind_some]
      have fin : ∀ (d v : List UInt8), porticoref3_Parse.l1 k (L.map ba) (L.length : Int) (wrap64 ((i : Int) + 1)) p (acc ++ [(⟨ba d, ba v⟩ : Pr)]) = some (qEnd p acc (Option.map (fun y => (⟨ba d, ba v⟩ : Pr) :: y) (pairs (L.drop (i + 1))))) := by
        intro d v
        rw [hw.out, hI]
        cases pairs (L.drop (i + 1)) with
        | none => rfl
        | some q => simp [qEnd]
      rcases cut3 x with ⟨c1, c2, c3⟩ | ⟨a, b, c1, c2, c3, c4⟩ | ⟨c1, c2⟩
      · rw [c2, c3]
        have l1 : ¬ (((([x] : List (List UInt8)).map ba).length : Int) > 2) := by simp
        have l2 : (0 : Int) < ((([x] : List (List UInt8)).map ba).length : Int) := by simp
        have l3 : ¬ (((([x] : List (List UInt8)).map ba).length : Int) = 2) := by simp
        rw [if_neg l1, if_pos l2, show rdOf ByteArray.empty (([x] : List (List UInt8)).map ba) 0 = ba x from rfl, hd1 x hx]
        simp only [Option.bind_some]
        rw [if_neg l3]
        have hn : decL [] = some [] := by simp [decL]
        rw [hn]
        cases hd : decL x with
        | none =>
          simp only [decO]
          first | rfl | (rw [if_neg (by simp)]; rfl) | (simp; rfl)
        | some d =>
          simp only [decO]
          rw [if_pos trivial, if_pos b1]
          exact fin d []
      · rw [c3, c4]
        have hal : a.length ≤ 200 ∧ b.length ≤ 200 := by rw [c2, List.length_append, List.length_cons] at hx; omega
        have l1 : ¬ (((([a, b] : List (List UInt8)).map ba).length : Int) > 2) := by simp
        have l2 : (0 : Int) < ((([a, b] : List (List UInt8)).map ba).length : Int) := by simp
        have l3 : (((([a, b] : List (List UInt8)).map ba).length : Int) = 2) := by simp
        have l4 : (1 : Int) < ((([a, b] : List (List UInt8)).map ba).length : Int) := by simp
        rw [if_neg l1, if_pos l2, show rdOf ByteArray.empty (([a, b] : List (List UInt8)).map ba) 0 = ba a from rfl, hd1 a hal.1]
        simp only [Option.bind_some]
        rw [if_pos l3, if_pos l4, show rdOf ByteArray.empty (([a, b] : List (List UInt8)).map ba) 1 = ba b from rfl, hd1 b hal.2]
        simp only [Option.bind_some]
        cases hd : decL a with
        | none =>
          simp only [decO]
          first | rfl | (rw [if_neg (by simp)]; rfl) | (simp; rfl)
        | some d =>
          simp only [decO]
          rw [if_pos trivial]
          cases hv : decL b with
          | none =>
            simp only [decO]
            first | rfl | (rw [if_neg (by simp)]; rfl) | (simp; rfl)
          | some v =>
            simp only [decO]
            rw [if_pos trivial, if_pos b1]
            exact fin d v
      · rw [if_pos (by rw [List.length_map]; omega), c2]
        cases decL (Lib.cut x [61]).1 <;> rfl
    · exact ih i k acc (by omega) h2 (by omega) h4
theorem rparse_l0 (X : List ByteArray) (F : List ByteArray → Out) (K0 : Nat) (hF : ∀ d k, K0 ≤ k → porticoref3_Parse.j2 k X d = some (F d)) (hK : 1000 ≤ K0) (L : List (List UInt8)) (hl : L.length ≤ 1000) (hL : ∀ x ∈ L, x.length ≤ 200) : ∀ (n i k : Nat) (acc : List ByteArray), L.length - i ≤ n → i ≤ L.length → n + K0 < k → acc.length ≤ i →
    porticoref3_Parse.l0 k X (L.map ba) (L.length : Int) (i : Int) acc = some (match segs (L.drop i) with | none => errO | some d => F (acc ++ d)) := by
  have last : ∀ (k : Nat) (acc : List ByteArray), K0 < k → porticoref3_Parse.l0 k X (L.map ba) (L.length : Int) (L.length : Int) acc = some (F acc) := by
    intro k acc hk
    obtain ⟨k, rfl⟩ : ∃ m, k = m + 1 := ⟨k - 1, by omega⟩
    rw [porticoref3_Parse.l0, if_neg (by omega)]
    exact hF acc k (by omega)
  intro n
  induction n with
  | zero =>
    intro i k acc h1 h2 h3 h4
    obtain rfl : i = L.length := by omega
    rw [List.drop_length, last k acc (by omega), segs_nil]
    simp
  | succ n ih =>
    intro i k acc h1 h2 h3 h4
    by_cases hi : i < L.length
    · obtain ⟨k, rfl⟩ : ∃ m, k = m + 1 := ⟨k - 1, by omega⟩
      have hx := hL _ (List.getElem_mem hi)
      have hw := Lib.hid (wrapS i (by omega))
      have p1 : (i : Int) < (L.length : Int) := by omega
      have p2 : (0 : Int) ≤ (i : Int) := by omega
      have p3 : (i : Int) < ((L.map ba).length : Int) := by rw [List.length_map]; exact p1
      have b1 := big_lt (a := acc.length) (by omega)
      have hI := fun a => ih (i + 1) k (acc ++ [a]) (by omega) (by omega) (by omega) (by rw [List.length_append, List.length_singleton]; omega)
      rw [List.drop_eq_getElem_cons hi, segs_cons]
      have hrd := rdB_at L i hi
      have hd1 : porticoref3_Decode.f k (ba L[i]) = some (decO (decL L[i])) := rDecode (ba L[i]) (show L[i].length ≤ 900 by omega) k (show 2 * L[i].length + 6 ≤ k by omega)
      rw [porticoref3_Parse.l0, if_pos p1, if_pos p2, if_pos p3, hrd, hd1]
      simp only [Option.bind_some]
      cases hd : decL L[i] with
      | none =>
        simp only [decO]
        first | rfl | (rw [if_neg (by simp)]; rfl) | (simp; rfl)
      | some d =>
        simp only [decO]
        rw [if_pos trivial, if_pos b1, hw.out, hI]
        cases segs (L.drop (i + 1)) with
        | none => rfl
        | some q => simp
    · exact ih i k acc (by omega) h2 (by omega) h4
theorem mem_split {c e : UInt8} (hne : c ≠ e) : ∀ (n : Nat) (l : List UInt8), l.length ≤ n → c ∈ l → ∃ x ∈ splitC e l, c ∈ x := by
  intro n
  induction n with
  | zero =>
    intro l h hc
    obtain rfl : l = [] := List.eq_nil_of_length_eq_zero (by omega)
    cases hc
  | succ n ih =>
    intro l h hc
    by_cases he : e ∈ l
    · obtain ⟨a, b, rfl, ha⟩ := first_at l e he
      rw [splitC_at a b ha]
      rcases List.mem_append.1 hc with hc | hc
      · exact ⟨a, List.mem_cons_self, hc⟩
      · rcases List.mem_cons.1 hc with hc | hc
        · exact absurd hc hne
        · obtain ⟨x, h1, h2⟩ := ih b (by simp at h; omega) hc
          exact ⟨x, List.mem_cons_of_mem _ h1, h2⟩
    · rw [splitC_not he]
      exact ⟨l, List.mem_cons_self, hc⟩
theorem pairs_bad {c : UInt8} (hs : Sep c) (hne : c ≠ 61) : ∀ (L : List (List UInt8)), (∃ x ∈ L, c ∈ x) → pairs L = none
  | [], h => by obtain ⟨x, h, _⟩ := h; cases h
  | y :: r, h => by
    rw [pairs_cons]
    obtain ⟨x, h1, h2⟩ := h
    rcases List.mem_cons.1 h1 with rfl | h1
    · by_cases h61 : 61 ∈ x
      · obtain ⟨a, b, rfl, ha⟩ := first_at x 61 h61
        rw [cut_at a b 61 ha]
        simp only
        rcases List.mem_append.1 h2 with h2 | h2
        · rw [dec_none hs h2]
        · rcases List.mem_cons.1 h2 with h2 | h2
          · exact absurd h2 hne
          · rw [dec_none hs h2]
            cases decL a <;> rfl
      · rw [cut_not h61]
        simp only
        rw [dec_none hs h2]
    · rw [pairs_bad hs hne r ⟨x, h1, h2⟩]
      cases decL (Lib.cut y [61]).1 with
      | none => rfl
      | some d => cases decL (Lib.cut y [61]).2.1 <;> rfl
theorem query_bad {l : List UInt8} (h : 63 ∈ l) : queryP l = none := by
  unfold queryP
  split
  · exact pairs_bad (.inr (.inl rfl)) (by decide) _ (mem_split (by decide) l.length l (Nat.le_refl _) h)
  · rfl
/-- how Parse ends behind the path. -/
def pEnd (q : Option (List UInt8)) (p : List ByteArray) : Out := match q with
  | none => if rightB p [] = true then (p, [], 0) else errO
  | some b => qEnd p [] (pairs (splitC 38 b))
theorem over8p {p : List ByteArray} {q : List Pr} (h : 8 < p.length) : ¬ rightB p q = true := fun e => by have := (right_bd e).1; omega
theorem over8q {p : List ByteArray} {q : List Pr} (h : 8 < q.length) : ¬ rightB p q = true := fun e => by have := (right_bd e).2.1; omega
theorem pEnd_none {p : List ByteArray} (h : 8 < p.length) (q : Option (List UInt8)) : pEnd q p = errO := by
  unfold pEnd
  cases q with
  | none =>
    simp only
    rw [if_neg (over8p h)]
  | some b =>
    simp only
    unfold qEnd
    cases pairs (splitC 38 b) with
    | none => rfl
    | some q =>
      simp only
      rw [if_neg (over8p h)]
theorem qEnd_eq (p : List ByteArray) (b : List UInt8) : qEnd p [] (pairs (splitC 38 b)) = outU (match queryP b with | none => none | some q => if rightB p q = true then some (p, q) else none) := by
  unfold queryP
  by_cases h8 : (splitC 38 b).length ≤ 8
  · rw [if_pos h8]
    cases pairs (splitC 38 b) with
    | none => rfl
    | some q =>
      simp only [qEnd, List.nil_append]
      split <;> rfl
  · rw [if_neg h8]
    cases hq : pairs (splitC 38 b) with
    | none => rfl
    | some q =>
      have := pairs_len _ _ hq
      simp only [qEnd, List.nil_append]
      rw [if_neg (over8q (by omega))]
      rfl
def pathEnd (q : Option (List UInt8)) (a : List UInt8) : Out := match a with
  | [] => errO
  | x :: r => if x = 47 then (if r = [] then pEnd q [] else match segs (splitC 47 r) with | none => errO | some p => pEnd q p) else errO
theorem pathEnd_eq (q : Option (List UInt8)) (a : List UInt8) : pathEnd q a = match pathP a with | none => errO | some p => pEnd q p := by
  unfold pathEnd pathP
  cases a with
  | nil => rfl
  | cons x r =>
    simp only
    by_cases hx : x = 47
    · rw [if_pos hx, if_pos hx]
      by_cases hr : r = []
      · rw [if_pos hr, if_pos hr]
      · rw [if_neg hr, if_neg hr]
        by_cases h8 : (splitC 47 r).length ≤ 8
        · rw [if_pos h8]
        · rw [if_neg h8]
          cases hs : segs (splitC 47 r) with
          | none => rfl
          | some p =>
            have := segs_len _ _ hs
            exact pEnd_none (by omega) q
    · rw [if_neg hx, if_neg hx]
theorem rj2 (a : List UInt8) (q : Option (List UInt8)) (hq : ∀ b, q = some b → b.length ≤ 150) (p : List ByteArray) (k : Nat) (hk : 1500 ≤ k) : porticoref3_Parse.j2 k ((a :: q.toList).map ba) p = some (pEnd q p) := by
  obtain ⟨k, rfl⟩ : ∃ m, k = m + 1 := ⟨k - 1, by omega⟩
  rw [porticoref3_Parse.j2]
  cases q with
  | none =>
    rw [if_neg (by simp), rRight p [] k (by omega)]
    simp only [Option.bind_some, pEnd]
    split <;> rfl
  | some b =>
    have hb := hq b rfl
    rw [if_pos (by simp), if_pos (by simp), show rdOf ByteArray.empty ((a :: (some b).toList).map ba) 1 = ba b from rfl, show (38 : Int) = ((38 : UInt8).toNat : Int) from rfl, rSplit (ba b) 38 (show b.length ≤ _ by omega) k (show b.length + 3 ≤ k by omega)]
    simp only [Option.bind_some, ba_data]
    obtain ⟨g1, g2⟩ := splitC_parts 38 b.length b (Nat.le_refl _)
    have := rparse_l1 p (splitC 38 b) (by omega) (fun x hx => by have := g2 x hx; omega) (splitC 38 b).length 0 k [] (by omega) (by omega) (by omega) (by simp)
    rw [show ((0 : Nat) : Int) = 0 from rfl, List.drop_zero] at this
    rw [List.length_map, this]
    rfl
theorem rj0 (a : List UInt8) (q : Option (List UInt8)) (ha : a.length ≤ 150) (hq : ∀ b, q = some b → b.length ≤ 150) (r : List UInt8) (hr : a = 47 :: r) (k : Nat) (hk : 3000 ≤ k) : porticoref3_Parse.j0 k ((a :: q.toList).map ba) false = some (pathEnd q a) := by
  obtain ⟨k, rfl⟩ : ∃ m, k = m + 1 := ⟨k - 1, by omega⟩
  rw [porticoref3_Parse.j0, if_neg (by decide), if_pos (by simp), show rdOf ByteArray.empty ((a :: q.toList).map ba) 0 = ba a from rfl]
  subst hr
  have hrl : r.length ≤ 150 := by simp at ha; omega
  unfold pathEnd
  simp only
  rw [if_pos trivial, Lib.toList_data, ba_data]
  by_cases h0 : r = []
  · subst h0
    rw [if_pos rfl, if_pos rfl]
    exact rj2 _ q hq [] k (by omega)
  · rw [if_neg (by simpa using h0), if_neg h0, if_pos (show (1 : Int) ≤ ((ba (47 :: r)).size : Int) by rw [ba_size, List.length_cons]; omega)]
    have hex : (ba (47 :: r)).extract 1 (ba (47 :: r)).size = ba r := by
      apply ByteArray.ext
      apply Array.ext'
      rw [Lib.extract_to_end]
      rfl
    rw [hex, show (47 : Int) = ((47 : UInt8).toNat : Int) from rfl, rSplit (ba r) 47 (show r.length ≤ _ by omega) k (show r.length + 3 ≤ k by omega)]
    simp only [Option.bind_some, ba_data]
    obtain ⟨g1, g2⟩ := splitC_parts 47 r.length r (Nat.le_refl _)
    have := rparse_l0 ((((47 :: r) :: q.toList)).map ba) (pEnd q) 1500 (fun d k hk => rj2 _ q hq d k hk) (by omega) (splitC 47 r) (by omega) (fun x hx => by have := g2 x hx; omega) (splitC 47 r).length 0 k [] (by omega) (by omega) (by omega) (by simp)
    rw [show ((0 : Nat) : Int) = 0 from rfl, List.drop_zero] at this
    rw [List.length_map, this]
    cases segs (splitC 47 r) <;> simp
theorem rParse (s : ByteArray) (hs : s.size ≤ 120) (k : Nat) (hk : 4000 ≤ k) : porticoref3_Parse.f k s = some (outU (parseU s.data.toList)) := by
  have hsz : s.data.toList.length = s.size := by simp
  unfold porticoref3_Parse.f
  rw [show (63 : Int) = ((63 : UInt8).toNat : Int) from rfl, rSplit s 63 (by omega) k (by omega)]
  simp only [Option.bind_some]
  have err : ∀ X, porticoref3_Parse.j0 k X true = some errO := by
    intro X
    obtain ⟨k, rfl⟩ : ∃ m, k = m + 1 := ⟨k - 1, by omega⟩
    rw [porticoref3_Parse.j0, if_pos rfl]
    rfl
  have main : ∀ (a : List UInt8) (q : Option (List UInt8)), s.data.toList.head? = a.head? → a.length ≤ 150 → (∀ b, q = some b → b.length ≤ 150) →
      (if (s.size : Int) = 0 then porticoref3_Parse.j0 k ((a :: q.toList).map ba) true else if 0 < (s.size : Int) then porticoref3_Parse.j0 k ((a :: q.toList).map ba) ((bt s 0) != 47) else none) = some (pathEnd q a) := by
    intro a q hh ha hq
    cases hl : s.data.toList with
    | nil =>
      rw [hl] at hh hsz
      have ha0 : a = [] := by cases a with | nil => rfl | cons => cases hh
      rw [if_pos (by simp at hsz; omega), err, ha0]
      rfl
    | cons x r =>
      rw [hl] at hh hsz
      obtain ⟨a', rfl⟩ : ∃ a', a = x :: a' := by
        cases a with
        | nil => cases hh
        | cons y a' => cases hh; exact ⟨a', rfl⟩
      have hz : 0 < s.size := by simp at hsz; omega
      have hb : bt s 0 = (x.toNat : Int) := by
        obtain ⟨h1, _, _⟩ := bt_drop s 0 x r (by rw [List.drop_zero]; exact hl)
        exact h1
      rw [if_neg (by omega), if_pos (by omega), hb]
      by_cases hx : x = 47
      · subst hx
        rw [show (((47 : UInt8).toNat : Int) != 47) = false from by decide]
        exact rj0 _ q ha hq a' rfl k (by omega)
      · have hx2 : ((x.toNat : Int) != 47) = true := by
          simp only [bne_iff_ne, ne_eq]
          intro e
          apply hx
          apply UInt8.toNat_inj.1
          have : (47 : UInt8).toNat = 47 := rfl
          omega
        rw [hx2, err]
        unfold pathEnd
        simp only
        rw [if_neg hx]
  unfold parseU
  by_cases h63 : 63 ∈ s.data.toList
  · obtain ⟨a, b, hab, ha⟩ := first_at _ _ h63
    have hlen : a.length + b.length + 1 = s.size := by rw [← hsz, hab]; simp; omega
    rw [hab, splitC_at a b ha, cut_at a b 63 ha]
    simp only
    by_cases hb : 63 ∈ b
    · have h3 : 2 < (splitC 63 b).length + 1 := by
        obtain ⟨a2, b2, rfl, ha2⟩ := first_at b 63 hb
        rw [splitC_at a2 b2 ha2]
        have := List.length_pos_iff.2 (splitC_ne 63 b2)
        simp
        omega
      rw [if_pos (by simp; omega), err, query_bad hb]
      cases pathP a <;> rfl
    · rw [splitC_not hb, if_neg (by simp)]
      cases a with
      | nil =>
        have hl : s.data.toList = 63 :: b := hab
        have hz : 0 < s.size := by omega
        have hb0 : bt s 0 = ((63 : UInt8).toNat : Int) := (bt_drop s 0 63 b (by rw [List.drop_zero]; exact hl)).1
        rw [if_neg (by omega), if_pos (by omega), hb0, show (((63 : UInt8).toNat : Int) != 47) = true from by decide, err]
        rfl
      | cons x a' =>
        have hm := main (x :: a') (some b) (by rw [hab]; rfl) (by omega) (fun b' hb' => by cases hb'; omega)
        rw [show ([x :: a', b] : List (List UInt8)) = (x :: a') :: (some b).toList from rfl, hm, pathEnd_eq]
        cases pathP (x :: a') with
        | none => rfl
        | some p =>
          simp only [if_true]
          exact congrArg some (qEnd_eq p b)
  · rw [splitC_not h63, cut_not h63]
    simp only
    rw [if_neg (by simp)]
    have hm := main s.data.toList none rfl (by omega) (fun b' hb' => by cases hb')
    rw [show ([s.data.toList] : List (List UInt8)) = s.data.toList :: (none : Option (List UInt8)).toList from rfl, hm, pathEnd_eq]
    cases pathP s.data.toList with
    | none => rfl
    | some p =>
      simp only [pEnd]
      rw [if_neg (show ¬ (false = true) by decide)]
      split <;> rfl
end Go.Proofs.YtcaaggfobdfgpaaDoor.UURLTells
