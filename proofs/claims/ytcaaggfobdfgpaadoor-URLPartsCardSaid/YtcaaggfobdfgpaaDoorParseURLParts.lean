/- URLParts: url.Parse in plain words; what is printed parses to itself. -/
import Derived.Test.YtcaaggfobdfgpaaDoorPURLPartsx3
import Derived.Test.YtcaaggfobdfgpaaDoorWalkURLParts
import Derived.Test.YtcaaggfobdfgpaaDoorURLPlain
set_option linter.unusedVariables false
set_option linter.unusedSimpArgs false
namespace Go.Proofs.YtcaaggfobdfgpaaDoor.UURLParts
open Go.RowKit Go.Proofs.YtcaaggfobdfgpaaDoor.PURLParts Go.Proofs.YtcaaggfobdfgpaaDoorW.PrintWords Go.Proofs.YtcaaggfobdfgpaaDoorW.PrintLast Go.Proofs.YtcaaggfobdfgpaaDoorW.PrintMore Go.Proofs.YtcaaggfobdfgpaaDoor.Pct Go.Proofs.YtcaaggfobdfgpaaDoor.UP Go.Proofs.YtcaaggfobdfgpaaDoor.Given

def decB (l : List UInt8) : Option (List UInt8) := decF (l.length + 1) l
theorem decB_eq (l : List UInt8) : decB l = decL l := (decL_decF _ l (Nat.lt_succ_self _)).symm
/-- All segments decoded; none: one isn't a code. -/
def segs : List (List UInt8) → Option (List ByteArray)
  | [] => some []
  | x :: r => match decB x with
    | none => none
    | some d => (segs r).map (ba d :: ·)
theorem segs_nil : segs [] = some [] := rfl
theorem segs_cons (x : List UInt8) (r : List (List UInt8)) : segs (x :: r) = match decL x with | none => none | some d => (segs r).map (ba d :: ·) := by rw [← decB_eq]; rfl
def pathP (l : List UInt8) : Option (List ByteArray) :=
  match l with
  | [] => none
  | x :: r => if x = 47 then (if r = [] then some [] else if (splitC 47 r).length ≤ 8 then segs (splitC 47 r) else none) else none
def pairs : List (List UInt8) → Option (List Pr)
  | [] => some []
  | x :: r => match decB (Lib.cut x [61]).1, decB (Lib.cut x [61]).2.1 with
    | some n, some v => (pairs r).map ((⟨ba n, ba v⟩ : Pr) :: ·)
    | _, _ => none
theorem pairs_nil : pairs [] = some [] := rfl
theorem pairs_cons (x : List UInt8) (r : List (List UInt8)) : pairs (x :: r) = match decL (Lib.cut x [61]).1, decL (Lib.cut x [61]).2.1 with | some n, some v => (pairs r).map ((⟨ba n, ba v⟩ : Pr) :: ·) | _, _ => none := by rw [← decB_eq, ← decB_eq]; rfl
def queryP (l : List UInt8) : Option (List Pr) := if (splitC 38 l).length ≤ 8 then pairs (splitC 38 l) else none
def parseU (l : List UInt8) : Option (List ByteArray × List Pr) :=
  match pathP (Lib.cut l [63]).1 with
  | none => none
  | some p =>
    if (Lib.cut l [63]).2.2 = true then
      match queryP (Lib.cut l [63]).2.1 with
      | none => none
      | some q => if rightB p q = true then some (p, q) else none
    else if rightB p [] = true then some (p, []) else none

theorem rdB_at (l : List (List UInt8)) (i : Nat) (h : i < l.length) : rdOf ByteArray.empty (l.map ba) (i : Int) = ba l[i] := by
  rw [rdOf_at _ _ _ (by simpa using h)]
  simp
/-- what the loop over segments hands back: those ahead, and what comes. -/
def pathR (acc : List ByteArray) (l : List (List UInt8)) : List ByteArray × Bool :=
  if acc.length + l.length ≤ 8 then (match segs l with | none => ([], false) | some p => (acc ++ p, true)) else ([], false)
theorem path_l0 (L : List (List UInt8)) (hL : L.length ≤ 1000000000000) (hs : ∀ x ∈ L, x.length ≤ 1099511627776) : ∀ (n i k : Nat) (acc : List ByteArray), L.length - i ≤ n → i ≤ L.length → n < k → acc.length = i → i ≤ 8 →
    ∃ r, url_path.l0 k acc (L.map ba) (L.length : Int) (i : Int) = some r ∧ r = pathR acc (L.drop i) := by
  intro n
  induction n with
  | zero =>
    intro i k acc h1 h2 h3 h4 h5
    obtain ⟨k, rfl⟩ : ∃ m, k = m + 1 := ⟨k - 1, by omega⟩
    simp only [url_path.l0]
    rw [if_neg (by omega), List.drop_of_length_le (by omega)]
    refine ⟨_, rfl, ?_⟩
    unfold pathR
    rw [if_pos (by simp; omega)]
    simp [segs_nil]
  | succ n ih =>
    intro i k acc h1 h2 h3 h4 h5
    obtain ⟨k, rfl⟩ : ∃ m, k = m + 1 := ⟨k - 1, by omega⟩
    simp only [url_path.l0]
    by_cases hi : i < L.length
    · rw [if_pos (by omega), if_pos (by omega), if_pos (by simp; omega), rdB_at L i hi, dec_eq _ (hs _ (List.getElem_mem hi)), List.drop_eq_getElem_cons hi]
      simp only [Option.bind_some, ba_data]
      unfold pathR
      cases hd : decL L[i] with
      | none =>
        rw [if_neg (by simp)]
        refine ⟨_, rfl, ?_⟩
        simp only [segs_cons, hd]
        split <;> rfl
      | some d =>
        rw [if_pos (by simp)]
        by_cases h8 : acc.length = 8
        · rw [if_pos (by omega)]
          refine ⟨_, rfl, ?_⟩
          rw [if_neg (by simp; omega)]
        · rw [if_neg (by omega), if_pos (by omega)]
          rw [show wrap64 ((i : Int) + 1) = ((i + 1 : Nat) : Int) from by unfold wrap64; omega]
          obtain ⟨r, e1, e2⟩ := ih (i + 1) k (acc ++ [ba d]) (by omega) (by omega) (by omega) (by simp; omega) (by omega)
          refine ⟨r, ?_, ?_⟩
          · rw [← e1]
            rfl
          · rw [e2]
            unfold pathR
            simp only [List.length_append, List.length_cons, List.length_nil, segs_cons, hd]
            by_cases h9 : acc.length + (0 + 1) + (L.drop (i + 1)).length ≤ 8
            · rw [if_pos h9, if_pos (by omega)]
              cases segs (L.drop (i + 1)) with
              | none => rfl
              | some p => simp
            · rw [if_neg h9, if_neg (by omega)]
    · rw [if_neg (by omega), List.drop_of_length_le (by omega)]
      refine ⟨_, rfl, ?_⟩
      unfold pathR
      rw [if_pos (by simp; omega)]
      simp [segs_nil]
theorem splitC_parts (c : UInt8) : ∀ (n : Nat) (l : List UInt8), l.length ≤ n → (splitC c l).length ≤ l.length + 1 ∧ ∀ x ∈ splitC c l, x.length ≤ l.length := by
  intro n
  induction n with
  | zero =>
    intro l h
    obtain rfl : l = [] := List.eq_nil_of_length_eq_zero (by omega)
    simp [splitC]
  | succ n ih =>
    intro l h
    by_cases hc : c ∈ l
    · obtain ⟨a, b, rfl, ha⟩ := first_at l c hc
      rw [splitC_at a b ha]
      obtain ⟨h1, h2⟩ := ih b (by simp at h; omega)
      refine ⟨by simp; omega, fun x hx => ?_⟩
      rcases List.mem_cons.1 hx with rfl | hx
      · simp
      · have := h2 x hx
        simp
        omega
    · rw [splitC_not hc]
      simp
def pathO (o : Option (List ByteArray)) : List ByteArray × Bool := match o with | none => ([], false) | some p => (p, true)
theorem path_eq (s : ByteArray) (hs : s.size < 1000000) (k : Nat) (hk : s.size + 10 ≤ k) : url_path.f k s = some (pathO (pathP s.data.toList)) := by
  obtain ⟨k, rfl⟩ : ∃ m, k = m + 1 := ⟨k - 1, by omega⟩
  have hsz : s.data.toList.length = s.size := by simp
  unfold url_path.f
  rw [Lib.toList_data]
  cases hl : s.data.toList with
  | nil =>
    rw [if_pos rfl]
    simp only [url_path.j0]
    rfl
  | cons x r =>
    have h0 : 0 < s.size := by rw [← hsz, hl]; simp
    have hrl : r.length + 1 = s.size := by rw [← hsz, hl]; simp
    have hb : bt s 0 = (x.toNat : Int) := by
      unfold bt
      rw [dif_pos (show (0 : Int).toNat < s.size by simpa using h0)]
      have h1 : s.data.toList[0]? = some x := by rw [hl]; rfl
      have h2 : s.data.toList[0]? = some (s[0]'h0) := by rw [List.getElem?_eq_getElem (by simpa using h0)]; rfl
      have h3 := Option.some.inj (h2.symm.trans h1)
      show ((s[0]'h0).toNat : Int) = _
      rw [h3]
    rw [if_neg (by simp), if_pos (by omega), hb]
    simp only [url_path.j0]
    unfold pathP
    simp only
    by_cases hx : x = 47
    · subst hx
      rw [if_neg (by decide), if_pos rfl]
      rw [Lib.toList_data, hl]
      by_cases hr : r = []
      · subst hr
        rw [if_pos rfl, if_pos rfl]
        rfl
      · rw [if_neg (by simpa using hr), if_pos (by omega), if_neg hr]
        have hex : s.extract 1 s.size = ba r := by
          apply ByteArray.ext
          apply Array.ext'
          rw [Lib.extract_to_end, hl]
          rfl
        rw [hex, split_eq _ _ (by show r.length < _; omega), ba_data]
        simp only [Option.bind_some, List.length_map]
        obtain ⟨p1, p2⟩ := splitC_parts 47 r.length r (Nat.le_refl _)
        obtain ⟨q, e1, e2⟩ := path_l0 (splitC 47 r) (by omega) (fun x hx => by have := p2 x hx; omega) (splitC 47 r).length 0 k [] (by omega) (by omega) (by omega) rfl (by omega)
        rw [show ((0 : Nat) : Int) = 0 from rfl] at e1
        rw [e1, e2, List.drop_zero]
        unfold pathR
        simp only [List.length_nil, Nat.zero_add, List.nil_append]
        by_cases h8 : (splitC 47 r).length ≤ 8
        · rw [if_pos h8, if_pos h8]
          cases segs (splitC 47 r) <;> rfl
        · rw [if_neg h8, if_neg h8]
          rfl
    · have hx2 : ((x.toNat : Int) != 47) = true := by
        simp only [bne_iff_ne, ne_eq]
        intro e
        apply hx
        apply UInt8.toNat_inj.1
        have : (47 : UInt8).toNat = 47 := rfl
        omega
      rw [hx2, if_pos rfl, if_neg hx]
      rfl
def queryR (acc : List Pr) (l : List (List UInt8)) : List Pr × Bool :=
  if acc.length + l.length ≤ 8 then (match pairs l with | none => ([], false) | some p => (acc ++ p, true)) else ([], false)
theorem cut_le (l : List UInt8) (c : UInt8) : (Lib.cut l [c]).1.length ≤ l.length ∧ (Lib.cut l [c]).2.1.length ≤ l.length := by
  by_cases h : c ∈ l
  · obtain ⟨a, b, rfl, ha⟩ := first_at l c h
    rw [cut_at a b c ha]
    simp
    omega
  · rw [cut_not h]
    simp
theorem query_l0 (L : List (List UInt8)) (hL : L.length ≤ 1000000000000) (hs : ∀ x ∈ L, x.length ≤ 1000000) : ∀ (n i k : Nat) (acc : List Pr), L.length - i ≤ n → i ≤ L.length → n < k → acc.length = i → i ≤ 8 →
    ∃ r, url_query.l0 k acc (L.map ba) (L.length : Int) (i : Int) = some r ∧ r = queryR acc (L.drop i) := by
  intro n
  induction n with
  | zero =>
    intro i k acc h1 h2 h3 h4 h5
    obtain ⟨k, rfl⟩ : ∃ m, k = m + 1 := ⟨k - 1, by omega⟩
    simp only [url_query.l0]
    rw [if_neg (by omega), List.drop_of_length_le (by omega)]
    refine ⟨_, rfl, ?_⟩
    unfold queryR
    rw [if_pos (by simp; omega)]
    simp [pairs_nil]
  | succ n ih =>
    intro i k acc h1 h2 h3 h4 h5
    obtain ⟨k, rfl⟩ : ∃ m, k = m + 1 := ⟨k - 1, by omega⟩
    simp only [url_query.l0]
    by_cases hi : i < L.length
    · have hx := hs _ (List.getElem_mem hi)
      obtain ⟨c1, c2⟩ := cut_le L[i] 61
      rw [if_pos (by omega), if_pos (by omega), if_pos (by simp; omega), rdB_at L i hi, cut_eq _ _ (show L[i].length < _ by omega), List.drop_eq_getElem_cons hi]
      simp only [Option.bind_some, ba_data]
      rw [dec_eq (ba (Lib.cut L[i] [61]).1) (show (Lib.cut L[i] [61]).1.length ≤ _ by omega), dec_eq (ba (Lib.cut L[i] [61]).2.1) (show (Lib.cut L[i] [61]).2.1.length ≤ _ by omega)]
      simp only [Option.bind_some, ba_data]
      unfold queryR
      cases hd : decL (Lib.cut L[i] [61]).1 with
      | none =>
        rw [if_neg (by simp)]
        refine ⟨_, rfl, ?_⟩
        simp only [pairs_cons, hd]
        split <;> rfl
      | some d =>
        rw [if_pos (by simp)]
        cases hv : decL (Lib.cut L[i] [61]).2.1 with
        | none =>
          rw [if_neg (by simp)]
          refine ⟨_, rfl, ?_⟩
          simp only [pairs_cons, hd, hv]
          split <;> rfl
        | some v =>
          rw [if_pos (by simp)]
          by_cases h8 : acc.length = 8
          · rw [if_pos (by omega)]
            refine ⟨_, rfl, ?_⟩
            rw [if_neg (by simp; omega)]
          · rw [if_neg (by omega), if_pos (by omega)]
            rw [show wrap64 ((i : Int) + 1) = ((i + 1 : Nat) : Int) from by unfold wrap64; omega]
            obtain ⟨r, e1, e2⟩ := ih (i + 1) k (acc ++ [(⟨ba d, ba v⟩ : Pr)]) (by omega) (by omega) (by omega) (by simp; omega) (by omega)
            refine ⟨r, ?_, ?_⟩
            · rw [← e1]
              rfl
            · rw [e2]
              unfold queryR
              simp only [List.length_append, List.length_cons, List.length_nil, pairs_cons, hd, hv]
              by_cases h9 : acc.length + (0 + 1) + (L.drop (i + 1)).length ≤ 8
              · rw [if_pos h9, if_pos (by omega)]
                cases pairs (L.drop (i + 1)) with
                | none => rfl
                | some p => simp
              · rw [if_neg h9, if_neg (by omega)]
    · rw [if_neg (by omega), List.drop_of_length_le (by omega)]
      refine ⟨_, rfl, ?_⟩
      unfold queryR
      rw [if_pos (by simp; omega)]
      simp [pairs_nil]
def queryO (o : Option (List Pr)) : List Pr × Bool := match o with | none => ([], false) | some p => (p, true)
theorem query_eq (s : ByteArray) (hs : s.size < 1000000) (k : Nat) (hk : s.size + 10 ≤ k) : url_query.f k s = some (queryO (queryP s.data.toList)) := by
  have hsz : s.data.toList.length = s.size := by simp
  unfold url_query.f queryP
  rw [split_eq _ _ (by omega)]
  simp only [Option.bind_some, List.length_map]
  obtain ⟨p1, p2⟩ := splitC_parts 38 s.data.toList.length s.data.toList (Nat.le_refl _)
  obtain ⟨q, e1, e2⟩ := query_l0 (splitC 38 s.data.toList) (by omega) (fun x hx => by have := p2 x hx; omega) (splitC 38 s.data.toList).length 0 k [] (by omega) (by omega) (by omega) rfl (by omega)
  rw [show ((0 : Nat) : Int) = 0 from rfl] at e1
  rw [e1, e2, List.drop_zero]
  unfold queryR
  simp only [List.length_nil, Nat.zero_add, List.nil_append]
  by_cases h8 : (splitC 38 s.data.toList).length ≤ 8
  · rw [if_pos h8, if_pos h8]
    cases pairs (splitC 38 s.data.toList) <;> rfl
  · rw [if_neg h8, if_neg h8]
    rfl
def outU (o : Option (List ByteArray × List Pr)) : List ByteArray × List Pr × Int := match o with | none => ([], [], 1) | some u => (u.1, u.2, 0)
theorem Parse_eq (s : ByteArray) (hs : s.size < 1000000) (k : Nat) (hk : s.size + 100 ≤ k) : url_Parse.f k s = some (outU (parseU s.data.toList)) := by
  have hsz : s.data.toList.length = s.size := by simp
  obtain ⟨c1, c2⟩ := cut_le s.data.toList 63
  unfold url_Parse.f parseU
  rw [cut_eq _ _ (by omega)]
  simp only [Option.bind_some]
  rw [path_eq (ba (Lib.cut s.data.toList [63]).1) (show (Lib.cut s.data.toList [63]).1.length < _ by omega) k (show (Lib.cut s.data.toList [63]).1.length + 10 ≤ _ by omega)]
  simp only [Option.bind_some, ba_data]
  obtain ⟨k, rfl⟩ : ∃ m, k = m + 1 := ⟨k - 1, by omega⟩
  have hq := query_eq (ba (Lib.cut s.data.toList [63]).2.1) (show (Lib.cut s.data.toList [63]).2.1.length < _ by omega) k (show (Lib.cut s.data.toList [63]).2.1.length + 10 ≤ _ by omega)
  rw [ba_data] at hq
  cases hp : pathP (Lib.cut s.data.toList [63]).1 with
  | none =>
    simp only [pathO, url_Parse.j0]
    split <;> rfl
  | some p =>
    simp only [pathO, url_Parse.j0]
    by_cases hf : (Lib.cut s.data.toList [63]).2.2 = true
    · rw [if_pos hf, if_pos hf, if_pos trivial, hq]
      simp only [Option.bind_some]
      cases queryP (Lib.cut s.data.toList [63]).2.1 with
      | none => rfl
      | some q =>
        simp only [queryO, if_true]
        rw [right_eq p q k (by omega)]
        simp only [Option.bind_some]
        split <;> rfl
    · rw [if_neg hf, if_neg hf, if_neg (by decide), if_pos trivial, right_eq p [] k (by omega)]
      simp only [Option.bind_some]
      split <;> rfl

/-! What is printed parses to itself. -/
theorem no_path {c : UInt8} (h : Sep c) (hc : c ≠ 47) (p : List ByteArray) : c ∉ pathL p := by
  intro hm
  obtain ⟨x, _, hx⟩ := List.mem_flatMap.1 hm
  rcases List.mem_cons.1 hx with hx | hx
  · exact hc hx
  · exact enc_no h _ hx
theorem no_head {c : UInt8} (h : Sep c) (hc : c ≠ 47) (p : List ByteArray) : c ∉ headL p := by
  unfold headL
  split
  · simpa using hc
  · exact no_path h hc p
theorem no_pair {c : UInt8} (h : Sep c) (hc : c ≠ 61) (x : Pr) : c ∉ pairL x := by
  intro hm
  rcases List.mem_append.1 hm with hm | hm
  · exact enc_no h _ hm
  · rcases List.mem_cons.1 hm with hm | hm
    · exact hc hm
    · exact enc_no h _ hm
theorem segs_enc (p : List ByteArray) : segs (p.map fun x => encL x.data.toList) = some p := by
  induction p with
  | nil => rfl
  | cons x p ih =>
    simp only [List.map_cons, segs_cons, dec_enc, ih]
    rfl
theorem split_path (x : ByteArray) (p : List ByteArray) : splitC 47 (encL x.data.toList ++ pathL p) = encL x.data.toList :: p.map fun x => encL x.data.toList := by
  induction p generalizing x with
  | nil =>
    simp only [pathL, List.flatMap_nil, List.append_nil, List.map_nil]
    exact splitC_not (enc_no (.inl rfl) _)
  | cons y p ih =>
    show splitC 47 (encL x.data.toList ++ (47 :: encL y.data.toList ++ pathL p)) = _
    rw [List.cons_append, splitC_at _ _ (enc_no (.inl rfl) _), ih y]
    rfl
theorem path_head (p : List ByteArray) (h : p.length ≤ 8) (h1 : ∀ x ∈ p, 1 ≤ x.size) : pathP (headL p) = some p := by
  cases p with
  | nil => rfl
  | cons x p =>
    have hx : encL x.data.toList ≠ [] := fun e => by
      have := enc_nil e
      have h2 := h1 x List.mem_cons_self
      have h3 : x.data.toList.length = x.size := by simp
      rw [this] at h3
      simp at h3
      omega
    have e : headL (x :: p) = 47 :: (encL x.data.toList ++ pathL p) := rfl
    rw [e]
    unfold pathP
    simp only
    rw [if_pos trivial, if_neg (by simp [hx]), split_path x p, if_pos (by simpa using h)]
    exact segs_enc (x :: p)
theorem cut_pair (x : Pr) : Lib.cut (pairL x) [61] = (encL x.f0.data.toList, encL x.f1.data.toList, true) := cut_at _ _ _ (enc_no (.inr (.inr (.inr rfl))) _)
theorem pairs_enc (q : List Pr) : pairs (q.map pairL) = some q := by
  induction q with
  | nil => rfl
  | cons x q ih =>
    simp only [List.map_cons, pairs_cons, cut_pair, dec_enc, ih]
    rfl
theorem split_query (x : Pr) (q : List Pr) : splitC 38 (pairL x ++ moreL q) = pairL x :: q.map pairL := by
  induction q generalizing x with
  | nil =>
    simp only [moreL, List.flatMap_nil, List.append_nil, List.map_nil]
    exact splitC_not (no_pair (.inr (.inr (.inl rfl))) (by decide) _)
  | cons y q ih =>
    show splitC 38 (pairL x ++ (38 :: pairL y ++ moreL q)) = _
    rw [List.cons_append, splitC_at _ _ (no_pair (.inr (.inr (.inl rfl))) (by decide) _), ih y]
    rfl
theorem query_more (x : Pr) (q : List Pr) (h : (x :: q).length ≤ 8) : queryP (pairL x ++ moreL q) = some (x :: q) := by
  unfold queryP
  rw [split_query x q, if_pos (by simpa using h)]
  exact pairs_enc (x :: q)
theorem parse_print (p : List ByteArray) (q : List Pr) (h : rightB p q = true) : parseU (printL p q) = some (p, q) := by
  obtain ⟨h1, h2, h3, h4⟩ := right_bd h
  have hp := path_head p h1 (fun x hx => (h3 x hx).1)
  unfold parseU printL
  cases q with
  | nil =>
    rw [show queryL ([] : List Pr) = [] from rfl, List.append_nil, cut_not (no_head (.inr (.inl rfl)) (by decide) p)]
    simp only
    rw [hp]
    simp only
    rw [if_neg (by decide), if_pos h]
  | cons x q =>
    rw [show queryL (x :: q) = 63 :: (pairL x ++ moreL q) from rfl, cut_at _ _ _ (no_head (.inr (.inl rfl)) (by decide) p)]
    simp only
    rw [hp]
    simp only
    rw [if_pos trivial, query_more x q h2]
    simp only
    rw [if_pos h]
theorem parse_right {l : List UInt8} {p : List ByteArray} {q : List Pr} (h : parseU l = some (p, q)) : rightB p q = true := by
  unfold parseU at h
  split at h
  · cases h
  · split at h
    · split at h
      · cases h
      · split at h
        · rename_i hr
          cases h
          exact hr
        · cases h
    · split at h
      · rename_i hr
        cases h
        exact hr
      · cases h
theorem print_ne (p : List ByteArray) (q : List Pr) : printL p q ≠ [] := by
  unfold printL headL
  split
  · simp
  · rename_i h
    cases p with
    | nil => simp at h
    | cons x p => simp [pathL, segL]
theorem print_le {p : List ByteArray} {q : List Pr} (h : rightB p q = true) : (printL p q).length ≤ 4700 := by
  obtain ⟨h1, h2, h3, h4⟩ := right_bd h
  have a := pathL_le p (fun x hx => (h3 x hx).2)
  have b := queryL_le q (fun x hx => (h4 x hx).2)
  unfold printL headL
  rw [List.length_append]
  split
  · simp
    omega
  · omega
theorem textOf_right {p : List ByteArray} {q : List Pr} (h : rightB p q = true) : textOf p q = ba (printL p q) := by
  unfold textOf
  rw [if_pos h]
  rfl
theorem textOf_wrong {p : List ByteArray} {q : List Pr} (h : ¬ rightB p q = true) : textOf p q = ⟨#[]⟩ := by
  unfold textOf
  rw [if_neg h]
theorem text_size (p : List ByteArray) (q : List Pr) : (textOf p q).size ≤ 4700 := by
  by_cases h : rightB p q = true
  · rw [textOf_right h]
    exact print_le h
  · rw [textOf_wrong h]
    exact Nat.zero_le _
/-- Behind printing a right URL parses to itself. -/
theorem Parse_text (p : List ByteArray) (q : List Pr) (h : rightB p q = true) (k : Nat) (hk : 5000 ≤ k) : url_Parse.f k (textOf p q) = some (p, q, 0) := by
  have := text_size p q
  rw [Parse_eq _ (by omega) k (by omega), textOf_right h, ba_data, parse_print p q h]
  rfl
theorem text_inj {p p' : List ByteArray} {q q' : List Pr} (h : rightB p q = true) (h' : rightB p' q' = true) (e : textOf p q = textOf p' q') : p = p' ∧ q = q' := by
  have h1 := parse_print p q h
  have h2 := parse_print p' q' h'
  rw [textOf_right h, textOf_right h'] at e
  rw [ba_inj e, h2] at h1
  cases h1
  exact ⟨rfl, rfl⟩
end Go.Proofs.YtcaaggfobdfgpaaDoor.UURLParts
