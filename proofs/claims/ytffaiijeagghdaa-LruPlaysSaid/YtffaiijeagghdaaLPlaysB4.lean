/- LruPlays: the switch of a round (printed by wip/law18/gen_LPlays.py out of LPlays.b4). -/
import Derived.Test.YtffaiijeagghdaaPlaysSt
set_option linter.unusedVariables false
set_option linter.unusedSimpArgs false
namespace Go.Proofs.Ytffaiijeagghdaa.Lr
open Go.RowKit Go.Proofs.YtffaiijeagghdaaW.PrintWords Go.Proofs.YtffaiijeagghdaaW.PrintLast Go.Proofs.Ytffaiijeagghdaa.Sl Go.Proofs.Ytffaiijeagghdaa.PLruPlays

def B4_find (k : Nat) : Code → Option Code
  | .block i c => if i = k then some (.block i c) else B4_find k c
  | .seq a b => match B4_find k a with
    | some c => some c
    | none => B4_find k b
  | .cond _ a b => match B4_find k a with
    | some c => some c
    | none => B4_find k b
  | .loop c => B4_find k c
  | .scope c => B4_find k c
  | _ => none
noncomputable def B4_code : Code := ((Try.f6.body.bind (B4_find 4)).getD .skip)
set_option maxRecDepth 1000000 in
def B4_R (w : World) (R b i K n16 c16 : Nat) (kd r' vv : Int) (th : Bool) (s : ByteArray) (A16 : Option Addr) (x0 x1 x2 x3 x11 x17 x18 x25 x26 x27 x28 x29 x30 x31 x32 x33 x34 x35 x36 x37 x38 x39 x40 x41 x42 x43 x44 x45 x46 x47 x48 x49 x50 x51 x52 x53 x54 x55 x56 x57 x58 x59 x60 x61 x62 x63 x64 x65 x66 x67 x68 x69 x70 x71 x72 x73 x182 x183 x184 x185 x186 x187 x188 x189 x190 x191 x192 x193 x194 x195 x196 x197 x198 x199 x200 x201 x202 x203 x204 x205 x206 x207 x208 x209 : Value) (a' : Act) (w' : World) : Prop := ∃ y4 y6 y7 y9 y10 y19 y20 y21 y22 y23 y24 y75 y76 y77 y78 y79 y80 y81 y82 y83 y84 y85 y86 y87 y88 y89 y90 y91 y92 y93 y94 y95 y96 y97 y98 y99 y100 y101 y102 y103 y104 y105 y106 y107 y108 y109 y110 y111 y112 y113 y114 y115 y116 y117 y118 y119 y120 y121 y122 y123 y124 y125 y126 y127 y128 y129 y130 y131 y132 y133 y134 y135 y136 y137 y138 y139 y140 y141 y142 y143 y144 y145 y146 y147 y148 y149 y150 y151 y152 y153 y154 y155 y156 y157 y158 y159 y160 y161 y162 y163 y164 y165 y166 y167 y168 y169 y170 y171 y172 y173 y174 y175 y176 y177 y178 y179 y180 y181 : Value, (∃ (g : Nat) (v : Value) (L : List H) (n n7 c7 cin cout : Nat) (A7 : Option Addr), y6 = .pointer (some ⟨g, 0, none⟩) ∧ y7 = .slice A7 n7 c7 ∧ y9 = .int .i64 (cin : Int) ∧ y10 = .int .i64 (cout : Int) ∧ n7 = L.length ∧ L.length ≤ R ∧ Fine L ∧ cin = cout + L.length ∧ cin ≤ i + 1 ∧ n ≤ i + 1 ∧ Hid (PS w w' g R v L L b n (.slice A7 n7 c7))) ∧ a' = ⟨#[x0, x1, x2, x3, y4, .int .i64 r', y6, y7, .map (some b), y9, y10, x11, .pointer (some ⟨K, 0, none⟩), .string s, .int .i64 vv, .bool th, .slice A16 n16 c16, x17, x18, y19, y20, y21, y22, y23, y24, x25, x26, x27, x28, x29, x30, x31, x32, x33, x34, x35, x36, x37, x38, x39, x40, x41, x42, x43, x44, x45, x46, x47, x48, x49, x50, x51, x52, x53, x54, x55, x56, x57, x58, x59, x60, x61, x62, x63, x64, x65, x66, x67, x68, x69, x70, x71, x72, x73, .int .i64 kd, y75, y76, y77, y78, y79, y80, y81, y82, y83, y84, y85, y86, y87, y88, y89, y90, y91, y92, y93, y94, y95, y96, y97, y98, y99, y100, y101, y102, y103, y104, y105, y106, y107, y108, y109, y110, y111, y112, y113, y114, y115, y116, y117, y118, y119, y120, y121, y122, y123, y124, y125, y126, y127, y128, y129, y130, y131, y132, y133, y134, y135, y136, y137, y138, y139, y140, y141, y142, y143, y144, y145, y146, y147, y148, y149, y150, y151, y152, y153, y154, y155, y156, y157, y158, y159, y160, y161, y162, y163, y164, y165, y166, y167, y168, y169, y170, y171, y172, y173, y174, y175, y176, y177, y178, y179, y180, y181, x182, x183, x184, x185, x186, x187, x188, x189, x190, x191, x192, x193, x194, x195, x196, x197, x198, x199, x200, x201, x202, x203, x204, x205, x206, x207, x208, x209], []⟩
set_option maxHeartbeats 8000000 in
set_option maxRecDepth 1000000 in
theorem B4_any (w w4 : World) (g R b n n7 c7 n16 c16 K i cin cout : Nat) (kd nq r' nN vv : Int) (th : Bool) (v : Value) (L : List H) (s : ByteArray) (A7 A16 : Option Addr) (x0 x1 x2 x3 x4 x11 x17 x18 x19 x20 x21 x22 x23 x24 x25 x26 x27 x28 x29 x30 x31 x32 x33 x34 x35 x36 x37 x38 x39 x40 x41 x42 x43 x44 x45 x46 x47 x48 x49 x50 x51 x52 x53 x54 x55 x56 x57 x58 x59 x60 x61 x62 x63 x64 x65 x66 x67 x68 x69 x70 x71 x72 x73 x75 x76 x77 x78 x79 x80 x81 x82 x83 x84 x85 x86 x87 x88 x89 x90 x91 x92 x93 x94 x95 x96 x97 x98 x99 x100 x101 x102 x103 x104 x105 x106 x107 x108 x109 x110 x111 x112 x113 x114 x115 x116 x117 x118 x119 x120 x121 x122 x123 x124 x125 x126 x127 x128 x129 x130 x131 x132 x133 x134 x135 x136 x137 x138 x139 x140 x141 x142 x143 x144 x145 x146 x147 x148 x149 x150 x151 x152 x153 x154 x155 x156 x157 x158 x159 x160 x161 x162 x163 x164 x165 x166 x167 x168 x169 x170 x171 x172 x173 x174 x175 x176 x177 x178 x179 x180 x181 x182 x183 x184 x185 x186 x187 x188 x189 x190 x191 x192 x193 x194 x195 x196 x197 x198 x199 x200 x201 x202 x203 x204 x205 x206 x207 x208 x209 : Value) (hvv : vv = (has L s).getD 0) (hth : th = (has L s).isSome) (hr : max r' 0 = (R : Int)) (hR : R ≤ 6) (hn7 : n7 = L.length) (hL : L.length ≤ R) (hd : Fine L) (hc : cin = cout + L.length) (hci : cin ≤ i) (hi : i < 40) (hn : n ≤ i) (hs : s.size ≤ maxLen) (hN : (Lit.int .i64 nN).wf = true) (H : Hid (PS w w4 g R v L L b n (.slice A7 n7 c7))) (hk : Hid (w4.heap[K]? = some (.cells #[.int .i64 kd, .int .i64 nq, .int .i64 nN] 40 (0, 0)) ∧ w.heap.size ≤ K)) (hl : Hid (SRow w4 (.slice A16 n16 c16) ((nm L).filter (fun x => x != s)) ∧ n16 = ((nm L).filter (fun x => x != s)).length ∧ ∀ k, (Value.slice A16 n16 c16).ownBlock = some k → w.heap.size ≤ k ∧ (Value.slice A7 n7 c7).ownBlock ≠ some k)) (J K' : Act → World → Prop) (Q' : Exit → Act → World → Prop) (hJ : ∀ a' w', B4_R w R b i K n16 c16 kd r' vv th s A16 x0 x1 x2 x3 x11 x17 x18 x25 x26 x27 x28 x29 x30 x31 x32 x33 x34 x35 x36 x37 x38 x39 x40 x41 x42 x43 x44 x45 x46 x47 x48 x49 x50 x51 x52 x53 x54 x55 x56 x57 x58 x59 x60 x61 x62 x63 x64 x65 x66 x67 x68 x69 x70 x71 x72 x73 x182 x183 x184 x185 x186 x187 x188 x189 x190 x191 x192 x193 x194 x195 x196 x197 x198 x199 x200 x201 x202 x203 x204 x205 x206 x207 x208 x209 a' w' → J a' w') (hK : ∀ a' w', Met J a' w' → K' a' w') : Code.wp Try.prog B4_code (Exit.then K' Q') ⟨#[x0, x1, x2, x3, x4, .int .i64 r', .pointer (some ⟨g, 0, none⟩), .slice A7 n7 c7, .map (some b), .int .i64 (cin : Int), .int .i64 (cout : Int), x11, .pointer (some ⟨K, 0, none⟩), .string s, .int .i64 vv, .bool th, .slice A16 n16 c16, x17, x18, x19, x20, x21, x22, x23, x24, x25, x26, x27, x28, x29, x30, x31, x32, x33, x34, x35, x36, x37, x38, x39, x40, x41, x42, x43, x44, x45, x46, x47, x48, x49, x50, x51, x52, x53, x54, x55, x56, x57, x58, x59, x60, x61, x62, x63, x64, x65, x66, x67, x68, x69, x70, x71, x72, x73, .int .i64 kd, x75, x76, x77, x78, x79, x80, x81, x82, x83, x84, x85, x86, x87, x88, x89, x90, x91, x92, x93, x94, x95, x96, x97, x98, x99, x100, x101, x102, x103, x104, x105, x106, x107, x108, x109, x110, x111, x112, x113, x114, x115, x116, x117, x118, x119, x120, x121, x122, x123, x124, x125, x126, x127, x128, x129, x130, x131, x132, x133, x134, x135, x136, x137, x138, x139, x140, x141, x142, x143, x144, x145, x146, x147, x148, x149, x150, x151, x152, x153, x154, x155, x156, x157, x158, x159, x160, x161, x162, x163, x164, x165, x166, x167, x168, x169, x170, x171, x172, x173, x174, x175, x176, x177, x178, x179, x180, x181, x182, x183, x184, x185, x186, x187, x188, x189, x190, x191, x192, x193, x194, x195, x196, x197, x198, x199, x200, x201, x202, x203, x204, x205, x206, x207, x208, x209], []⟩ w4 := by
  unfold B4_R at hJ
  conv => arg 2; whnf
  have HVV := Lib.hid (And.intro hvv hth)
  clear hvv hth
  have hk2 := hk.out.1
  have f0 : w4.cell? ⟨K, 0, none⟩ = some (.int .i64 kd) := by simp [World.cell?, hk2]
  have f2 : w4.cell? ⟨K, 2, none⟩ = some (.int .i64 nN) := by simp [World.cell?, hk2]
  have HD := Lib.hid (And.intro hd.1 (And.intro hs hN))
  have HFN := Lib.hid hd
  have HR := Lib.hid (And.intro hR (And.intro hL (And.intro hc (And.intro hci (And.intro hi hn)))))
  have HN7 := Lib.hid hn7
  have hcI : (0 : Int) ≤ (cin : Int) ∧ (cin : Int) ≤ 100 ∧ (0 : Int) ≤ (cout : Int) ∧ (cout : Int) ≤ 100 := by omega
  obtain ⟨hc1, hc2, hc3, hc4⟩ := hcI
  clear hk2 hd hR hL hc hci hi hn hs hN hn7
  by_cases k1 : kd = 1
  · subst k1
    obtain ⟨O, hO⟩ : ∃ O, (has L s).toList = O := ⟨_, rfl⟩
    have HOO := Lib.hid hO
    clear hO
    go_upto_if 77 with fail
    go_cut [19] from 75 to 181 (fun t19 wc => ∃ (A : Option Addr) (c nO : Nat), t19 = .slice A nO c ∧ nO = O.length ∧ Hid (PS w wc g R v L L b n (.slice A7 n7 c7) ∧ IRow wc (.slice A nO c) O ∧ (∀ k, (Value.slice A nO c).ownBlock = some k → w.heap.size ≤ k) ∧ SRow wc (.slice A16 n16 c16) ((nm L).filter (fun x => x != s)) ∧ wc.heap[K]? = some (.cells #[.int .i64 1, .int .i64 nq, .int .i64 nN] 40 (0, 0))))
    case first =>
      cases e : has L s with
      | none =>
        have h1 := HVV.out
        rw [e] at h1
        obtain ⟨h1, h2⟩ := h1
        obtain rfl : vv = 0 := h1
        obtain rfl : th = false := h2
        obtain rfl : O = [] := by rw [← HOO.out, e]; rfl
        clear e HVV
        go_wp2_with fail
        go_meet
        case rel => exact ⟨none, 0, 0, rfl, rfl, Lib.hid ⟨H.out, Sl.nil _ _ _, (fun k h => by cases h), hl.out.1, hk.out.1⟩⟩
      | some x =>
        have h1 := HVV.out
        rw [e] at h1
        obtain ⟨h1, h2⟩ := h1
        obtain rfl : vv = x := h1
        obtain rfl : th = true := h2
        obtain rfl : O = [vv] := by rw [← HOO.out, e]; rfl
        clear e HVV
        have hBa : Below w4.heap.size w4 (w4.alloc (.cells #[.int .i64 vv] 3)) := (Below.refl _ _).alloc (Nat.le_refl _) _
        have HBa := Lib.hid hBa
        have HA := Lib.hid (heap_alloc_new w4 (.cells #[.int .i64 vv] 3))
        have hs4 := H.out.ls.low.size
        have HS4 := Lib.hid hs4
        clear hBa hs4
        go_wp2_with (at_builtin; refine wpl_append_int rfl (.tmp 78) (.tmp 80) rfl (.slice none 0 0) [] vv w4.heap.size 1 rfl rfl (Sl.nil _ _ _) HA.out (by simp) ?_)
        rintro A5 c5 w5 hr5 hg5 ho5
        have hB5 : Below w4.heap.size w4 w5 := below_grown HBa.out hg5 (fun k hk => by cases hk) (by have := HBa.out.size; omega)
        have H5 : Hid (PS w w5 g R v L L b n (.slice A7 n7 c7) ∧ IRow w5 (.slice A5 1 c5) [vv] ∧ (∀ k, (Value.slice A5 1 c5).ownBlock = some k → w.heap.size ≤ k) ∧ SRow w5 (.slice A16 n16 c16) ((nm L).filter (fun x => x != s)) ∧ w5.heap[K]? = some (.cells #[.int .i64 1, .int .i64 nq, .int .i64 nN] 40 (0, 0))) := Lib.hid (by
          refine ⟨H.out.below hB5, hr5, fun k hk => ?_, hl.out.1.below hB5, (hB5.block K (lt_of_heap hk.out.1)).trans hk.out.1⟩
          rcases ho5 with h | h
          · rw [h] at hk; cases hk
          · rw [h] at hk
            have := HS4.out
            have h3 := Option.some.inj hk
            have h4 : (w4.alloc (.cells #[.int .i64 vv] 3)).heap.size = w4.heap.size + 1 := by simp
            omega)
        clear hr5 hg5 ho5 hB5 HA HBa
        go_wp2_with fail
        go_meet
        case rel => exact ⟨A5, c5, 1, rfl, rfl, H5⟩
    case rest =>
      obtain ⟨A19, c19, nO, rfl, hnO, H5⟩ := hcut
      have HnO := Lib.hid hnO
      have H5f := Lib.hid H5.out.2.2.1
      clear hnO f0 f2
      have hOl : O.length ≤ 1 := by rw [← HOO.out]; cases has L s <;> simp
      have HOl := Lib.hid hOl
      clear hOl
      have hBa : Below wc.heap.size wc (wc.alloc (.cells #[.string s] 9)) := (Below.refl _ _).alloc (Nat.le_refl _) _
      have H6 : Hid (PS w (wc.alloc (.cells #[.string s] 9)) g R v L L b n (.slice A7 n7 c7) ∧ IRow (wc.alloc (.cells #[.string s] 9)) (.slice A19 nO c19) O ∧ (∀ k, (Value.slice A19 nO c19).ownBlock = some k → w.heap.size ≤ k) ∧ SRow (wc.alloc (.cells #[.string s] 9)) (.slice A16 n16 c16) ((nm L).filter (fun x => x != s)) ∧ (wc.alloc (.cells #[.string s] 9)).heap[K]? = some (.cells #[.int .i64 1, .int .i64 nq, .int .i64 nN] 40 (0, 0)) ∧ (∀ k, (Value.slice A7 n7 c7).ownBlock = some k → k < wc.heap.size) ∧ wc.heap.size < (wc.alloc (.cells #[.string s] 9)).heap.size ∧ w.heap.size ≤ wc.heap.size) := Lib.hid ⟨H5.out.1.below hBa, H5.out.2.1.below hBa, H5.out.2.2.1, H5.out.2.2.2.1.below hBa, (hBa.block K (lt_of_heap H5.out.2.2.2.2)).trans H5.out.2.2.2.2, fun k h => (H5.out.1.row.lt k h).1, by simp, H5.out.1.ls.low.size⟩
      have HLit := Lib.hid (srow_lit wc s)
      have hfl : ((nm L).filter (fun x => x != s)).length ≤ 6 := by
        have h1 := List.length_filter_le (fun x => x != s) (nm L)
        rw [nm_length] at h1
        have := HR.out
        omega
      have HFl := Lib.hid hfl
      clear H5 hBa hfl
      go_wp2_with (at_builtin; refine wpl_append_strs rfl (.tmp 83) (.tmp 84) rfl (.slice (some ⟨wc.heap.size, 0, none⟩) 1 1) [s] _ A16 n16 c16 hl.out.2.1 rfl rfl HLit.out H6.out.2.2.2.1 (by have := HFl.out; simp; omega) ?_)
      rintro A8 c8 w8 hr8 hg8 ho8
      obtain ⟨P0, hP0⟩ : ∃ P0, put0 L s nN = P0 := ⟨_, rfl⟩
      have hnm : s :: (nm L).filter (fun x => x != s) = nm P0 := by rw [← hP0, nm_put0, nm_took HD.out.1]
      have hlen : ((nm L).filter (fun x => x != s)).length + 1 = P0.length := by rw [← nm_length, ← hnm]; rfl
      have HP0 := Lib.hid (And.intro hP0 (And.intro hlen (show P0.length ≤ 7 by have := HFl.out; omega)))
      have HFP : Hid (Fine P0) := Lib.hid (by rw [← hP0]; exact HFN.out.put0 s nN HD.out.2.1)
      obtain ⟨n8, hn8⟩ : ∃ n8, P0.length = n8 := ⟨_, rfl⟩
      rw [hnm, hlen, hn8] at hr8
      rw [hlen, hn8] at ho8 ⊢
      have HN8 := Lib.hid hn8
      have H8 : Hid (PS w w8 g R v L L b n (.slice A7 n7 c7) ∧ IRow w8 (.slice A19 nO c19) O ∧ AskB w8 K 1 nq nN ∧ SRow w8 (.slice A8 n8 c8) (nm P0) ∧ ∀ k, (Value.slice A8 n8 c8).ownBlock = some k → w.heap.size ≤ k) := Lib.hid (by
        have hs := H6.out.2.2.2.2.2
        have hs1 := hs.2.1
        have hs2 := hs.2.2
        refine ⟨H6.out.1.other hg8 (fun k hk => ?_), H6.out.2.1.kept HLit.out hg8, AskB.str (show AskB _ K 1 nq nN from H6.out.2.2.2.2.1) HLit.out hg8, hr8, fun k hk => ?_⟩
        · have h1 := H6.out.1.str HLit.out k hk
          have h2 : wc.heap.size = k := Option.some.inj hk
          exact ⟨by omega, h1.1, h1.2.1, fun e => by have := hs.1 k e; omega, h1.2.2⟩
        · rcases ho8 with h | h
          · rw [h] at hk
            have h2 : wc.heap.size = k := Option.some.inj hk
            omega
          · rw [h] at hk
            have h2 := Option.some.inj hk
            omega)
      clear hr8 hg8 ho8 hnm hlen hn8 hP0 H6 HLit
      have f2 : w8.cell? ⟨K, 2, none⟩ = some (.int .i64 nN) := by simp [World.cell?, H8.out.2.2.1]
      obtain ⟨w9, hr9, hm9, hg9⟩ := H8.out.1.mp.put (by have := HR.out; unfold maxLen; omega) s HD.out.2.1 nN HD.out.2.2 (has P0) (by rw [← HP0.out.1]; exact (has_put0 HD.out.1 s nN).1) (by rw [← HP0.out.1]; exact (has_put0 HD.out.1 s nN).2)
      have H9 : Hid (PS w w9 g R v L P0 b (n + 1) (.slice A8 n8 c8) ∧ IRow w9 (.slice A19 nO c19) O ∧ AskB w9 K 1 nq nN) := Lib.hid ⟨H8.out.1.map hm9 hg9 H8.out.2.2.2.1 H8.out.2.2.2.2, H8.out.2.1.map H8.out.1.mp hg9, H8.out.2.2.1.map H8.out.1.mp hg9⟩
      have HF19 := Lib.hid H5f.out
      clear hm9 hg9 H8
      go_upto_block 5 with fail
      clear hr9 f2
      obtain ⟨ov, hov⟩ : ∃ ov, n8 - R = ov := ⟨_, rfl⟩
      have HOV := Lib.hid hov
      clear hov
      go_wp2_with fail
      go_loopw [7, 19] (fun t7 t19 wr => ∃ (k m7 m19 c7 c19 : Nat) (A7 A19 : Option Addr), t7 = .slice A7 m7 c7 ∧ t19 = .slice A19 m19 c19 ∧ k ≤ ov ∧ m7 + k = n8 ∧ m19 = nO + k ∧ Hid (PS w wr g R v L (P0.drop k) b (n + 1) (.slice A7 m7 c7) ∧ IRow wr (.slice A19 m19 c19) (O ++ (P0.take k).map (·.2)) ∧ AskB wr K 1 nq nN ∧ ∀ k, (Value.slice A19 m19 c19).ownBlock = some k → w.heap.size ≤ k)) (fun t _ _ => match t with | .slice _ n _ => n | _ => 0)
      case atStart => exact ⟨0, n8, nO, c8, c19, A8, A19, rfl, rfl, by omega, rfl, rfl, Lib.hid ⟨by simpa using H9.out.1, by simpa using H9.out.2.1, H9.out.2.2, HF19.out⟩⟩
      case round =>
        obtain ⟨k, m7, m19, c7', c19', A7', A19', rfl, rfl, hk, hm7, hm19, HI⟩ := hrel
        have HM := Lib.hid (And.intro hk (And.intro hm7 hm19))
        have hPl : (P0.drop k).length = m7 := by rw [List.length_drop]; have := HN8.out; omega
        have HPl := Lib.hid hPl
        clear H9 hPl hm19 hm7 hk
        by_cases d1 : R < m7
        · have q1 : (R : Int) < (m7 : Int) := by omega
          have q2 : (0 : Int) ≤ (m7 : Int) := by omega
          have q3 : (m7 : Int) ≤ 7 := by have := HP0.out; have := HM.out; have := HN8.out; omega
          obtain ⟨y, M, hyM⟩ : ∃ y M, P0.drop k = y :: M := by
            cases e : P0.drop k with
            | nil => have := HPl.out; rw [e] at this; simp at this; omega
            | cons y M => exact ⟨y, M, rfl⟩
          have hPl2 := HPl.out
          have hI := HI.out
          rw [hyM] at hI hPl2
          have hMl : M.length + 1 = m7 := by simpa using hPl2
          have HI2 := Lib.hid hI
          have hfy : Fine (y :: M) := by rw [← hyM]; exact HFP.out.drop k
          have hy1 : P0.drop (k + 1) = M := by rw [← List.drop_drop, hyM]; rfl
          have hy2 : (P0.take (k + 1)).map (·.2) = (P0.take k).map (·.2) ++ [y.2] := by
            have hkl : k < P0.length := by have := congrArg List.length hyM; rw [List.length_drop] at this; simp at this; omega
            rw [List.take_succ_eq_append_getElem hkl, List.map_append]
            rw [List.drop_eq_getElem_cons hkl] at hyM
            injection hyM with hyM _
            rw [hyM]
            rfl
          have HY := Lib.hid (And.intro hy1 (And.intro hy2 (And.intro hMl hfy)))
          obtain ⟨qb, qo, e5, hmc⟩ := SRow.form2 hI.1.row (by rw [nm_length]; exact hPl2.symm) (by omega)
          subst e5
          have hrow : SRow wr (.slice (some ⟨qb, qo, none⟩) m7 c7') (nm (y :: M)) := hI.1.row
          have y5 : wr.cell? ⟨qb, qo + M.length, none⟩ = some (.string y.1) := by
            have h1 := hrow
            rw [← hPl2, ← nm_length (y :: M)] at h1
            refine Sl.cell h1 M.length _ ?_
            rw [nm_cons, List.map_append, List.getElem?_append_right (by simp [nm_length])]
            simp [nm_length]
          have e7 : (m7 : Int) - 1 = (M.length : Int) := by omega
          have hget := hI.1.mp.get y.1 (hfy.2 y (by simp))
          rw [(has_tail hfy.1).2.1] at hget
          simp only [Option.getD_some] at hget
          have HA := Lib.hid (heap_alloc_new wr (.cells #[.int .i64 y.2] 3))
          have hBa : Below wr.heap.size wr (wr.alloc (.cells #[.int .i64 y.2] 3)) := (Below.refl _ _).alloc (Nat.le_refl _) _
          have HI3 : Hid (PS w (wr.alloc (.cells #[.int .i64 y.2] 3)) g R v L (y :: M) b (n + 1) (.slice (some ⟨qb, qo, none⟩) m7 c7') ∧ IRow (wr.alloc (.cells #[.int .i64 y.2] 3)) (.slice A19' m19 c19') (O ++ (P0.take k).map (·.2)) ∧ AskB (wr.alloc (.cells #[.int .i64 y.2] 3)) K 1 nq nN ∧ w.heap.size ≤ (wr.alloc (.cells #[.int .i64 y.2] 3)).heap.size ∧ ∀ k, (Value.slice A19' m19 c19').ownBlock = some k → w.heap.size ≤ k) := Lib.hid ⟨hI.1.below hBa, hI.2.1.below hBa, (hBa.block K (lt_of_heap hI.2.2.1)).trans hI.2.2.1, Nat.le_trans hI.1.ls.low.size hBa.size, hI.2.2.2⟩
          obtain ⟨O3, hO3⟩ : ∃ O3, O ++ (P0.take k).map (·.2) = O3 := ⟨_, rfl⟩
          have hO3l : O3.length = m19 := by rw [← hO3, List.length_append, List.length_map, List.length_take]; have := HM.out; have := HnO.out; have := HN8.out; omega
          rw [hO3] at HI3
          have HO3 := Lib.hid (And.intro hO3 hO3l)
          have q8 : (0 : Int) ≤ (M.length : Int) := by omega
          have q9 : (M.length : Int) < (m7 : Int) := by omega
          have q10 : (M.length : Int) ≤ (c7' : Int) := by omega
          clear hI HI HI2 hPl2 hfy hy1 hy2 hMl hyM hrow hBa hO3 hO3l hmc
          go_wp2_with (at_builtin; refine wpl_append_int rfl (.tmp 95) (.tmp 104) rfl (.slice A19' m19 c19') O3 y.2 wr.heap.size 1 rfl rfl HI3.out.2.1 HA.out (by have := HO3.out; have := HM.out; have := HN8.out; have := HP0.out; have := HnO.out; have := HOl.out; omega) ?_)
          rintro A6 c6 w6 hr6 hg6 ho6
          rw [HO3.out.2] at hr6 ho6 ⊢
          have H6 : Hid (PS w w6 g R v L (y :: M) b (n + 1) (.slice (some ⟨qb, qo, none⟩) m7 c7') ∧ IRow w6 (.slice A6 (m19 + 1) c6) (O3 ++ [y.2]) ∧ AskB w6 K 1 nq nN ∧ ∀ k, (Value.slice A6 (m19 + 1) c6).ownBlock = some k → w.heap.size ≤ k) := Lib.hid (by
            refine ⟨HI3.out.1.other hg6 (fun k hk => ⟨HI3.out.2.2.2.2 k hk, HI3.out.1.int HI3.out.2.1 k hk⟩), hr6, HI3.out.2.2.1.int HI3.out.2.1 hg6, fun k hk => ?_⟩
            rcases ho6 with h | h
            · exact HI3.out.2.2.2.2 k (by rw [← h]; exact hk)
            · rw [h] at hk
              have := Option.some.inj hk
              have := HI3.out.2.2.2.1
              simp at this
              omega)
          clear hr6 hg6 ho6 HI3 HA hget
          have y6 : w6.cell? ⟨qb, qo + M.length, none⟩ = some (.string y.1) := by
            have h1 := H6.out.1.row
            have hl : m7 = (nm (y :: M)).length := by rw [nm_length]; have := HY.out.2.2.1; simp; omega
            rw [hl] at h1
            refine Sl.cell h1 M.length _ ?_
            rw [nm_cons, List.map_append, List.getElem?_append_right (by simp [nm_length])]
            simp [nm_length]
          have hTl := has_tail HY.out.2.2.2.1
          obtain ⟨w7, hr7, hm7, hg7⟩ := H6.out.1.mp.del y.1 (HY.out.2.2.2.2 y (by simp)) 0 (has M) hTl.1 (fun t ht => hTl.2.2 t ht)
          have H7 : Hid (PS w w7 g R v L M b (n + 1) (.slice (some ⟨qb, qo, none⟩) M.length c7') ∧ IRow w7 (.slice A6 (m19 + 1) c6) (O3 ++ [y.2]) ∧ AskB w7 K 1 nq nN ∧ ∀ k, (Value.slice A6 (m19 + 1) c6).ownBlock = some k → w.heap.size ≤ k) := Lib.hid (by
            refine ⟨H6.out.1.map hm7 hg7 ?_ (fun k hk => H6.out.1.fresh k hk), H6.out.2.1.map H6.out.1.mp hg7, H6.out.2.2.1.map H6.out.1.mp hg7, H6.out.2.2.2⟩
            have h1 := H6.out.1.row
            have hl : m7 = (nm (y :: M)).length := by rw [nm_length]; have := HY.out.2.2.1; simp; omega
            rw [hl] at h1
            have h2 := Sl.take h1 M.length (by rw [nm_length]; simp)
            unfold SRow
            rw [nm_length]
            rw [nm_cons, List.map_append, Nat.mul_one, List.take_append_of_le_length (by simp [nm_length]), List.take_of_length_le (by simp [nm_length])] at h2
            exact h2)
          clear hm7 hg7 hTl H6 y5
          go_wp2_with fail
          go_roundw
          case rel => exact ⟨k + 1, M.length, m19 + 1, c7', c6, some ⟨qb, qo, none⟩, A6, rfl, rfl, by have := HM.out; have := HOV.out; have := HN8.out; omega, by have := HM.out; have := HY.out.2.2.1; omega, by have := HM.out; omega, Lib.hid (by rw [HY.out.1, HY.out.2.1, ← List.append_assoc, HO3.out.1]; exact H7.out)⟩
          case measure => have := HY.out.2.2.1; show M.length < m7; omega
        · have q1 : ¬ (R : Int) < (m7 : Int) := by omega
          have f2 : wr.cell? ⟨K, 2, none⟩ = some (.int .i64 nN) := by simp [World.cell?, HI.out.2.2.1]
          have hkov : k = over (R : Int) L s nN := by
            unfold over
            rw [HP0.out.1, Int.toNat_natCast]
            have := HM.out
            have := HOV.out
            have := HN8.out
            omega
          have hpl : P0.drop k = putL (R : Int) L s nN := by unfold putL; rw [HP0.out.1, ← hkov]
          have hpo : O ++ (P0.take k).map (·.2) = putO (R : Int) L s nN := by unfold putO; rw [HP0.out.1, ← hkov, HOO.out]
          have hI := HI.out
          rw [hpl, hpo] at hI
          have HI2 := Lib.hid hI
          have hm7 : m7 = (putL (R : Int) L s nN).length := by rw [← hpl]; exact HPl.out.symm
          have hm19 : m19 = (putO (R : Int) L s nN).length := by rw [← hpo, List.length_append, List.length_map, List.length_take]; have := HM.out; have := HnO.out; have := HN8.out; omega
          have hLO : L.length + 1 = P0.length + O.length := by
            rw [← HP0.out.1]
            unfold put0
            rw [List.length_append]
            rcases idx_cases L s with h | ⟨j, hj, h, _⟩
            · have := HOO.out
              rw [has_none h] at this
              rw [took_none h, ← this]
              simp
            · have := HOO.out
              rw [has_some hj h] at this
              rw [took_some h, ← this, List.length_append, List.length_take, List.length_drop]
              simp
              omega
          have HE := Lib.hid (And.intro hm7 (And.intro hm19 (And.intro hLO hkov)))
          have hfin : Fine (putL (R : Int) L s nN) := by rw [← hpl]; exact HFP.out.drop k
          have HFin := Lib.hid hfin
          clear hkov hpl hpo hI HI hm7 hm19 hLO hfin
          go_wp2_with fail
          refine (Put_any g R v L s nN wr HI2.out.1.ls.cache (by have := HR.out; omega) (by have := HR.out; omega)).mono ?_
          rintro e w10 ⟨A10, c10, v10, rfl, hr10, hc10, hU10, hn10, hf10⟩
          have H10 : Hid (PS w w10 g R v10 (putL (R : Int) L s nN) (putL (R : Int) L s nN) b (n + 1) (.slice A7' m7 c7') ∧ IRow w10 (.slice A19' m19 c19') (putO (R : Int) L s nN) ∧ IRow w10 (.slice A10 (putO (R : Int) L s nN).length c10) (putO (R : Int) L s nN)) := Lib.hid ⟨HI2.out.1.upd hc10 hU10 hn10, HI2.out.2.1.upd HI2.out.1.ls.cache hU10, hr10⟩
          clear hr10 hc10 hU10 hn10 hf10 f2
          go_wp2_with fail
          refine (Same_ints _ _ _ _ _ _ (putO (R : Int) L s nN) w10 H10.out.2.2 H10.out.2.1 rfl HE.out.2.1 (by rw [← HE.out.2.1]; have := HM.out; have := HnO.out; have := HOl.out; have := HN8.out; have := HP0.out; omega)).mono ?_
          rintro e w11 ⟨rfl, q11, rfl⟩
          have H11 := Lib.hid (H10.out.1.below (pw_below_drewN (Below.refl _ _) q11))
          clear H10
          have q5 : (0 : Int) ≤ (m19 : Int) := by omega
          have q6 : (m19 : Int) ≤ 20 := by have := HM.out; have := HnO.out; have := HOl.out; have := HN8.out; have := HP0.out; omega
          go_wp2_with fail
          go_meet
          case rel => exact ⟨g, v10, putL (R : Int) L s nN, n + 1, m7, c7', cin + 1, cout + m19, A7', rfl, rfl, by go_num, by go_num, HE.out.1, put_len _ _ _ _, HFin.out, by have := HR.out; have := HE.out; have := HM.out; have := HnO.out; have := HN8.out; omega, by have := HR.out; omega, by have := HR.out; omega, H11⟩
  · by_cases k2 : kd = 2
    · subst k2
      cases e : has L s with
      | none =>
        have h1 := HVV.out
        rw [e] at h1
        obtain ⟨h1, h2⟩ := h1
        obtain rfl : vv = 0 := h1
        obtain rfl : th = false := h2
        have HE := Lib.hid e
        clear e HVV
        go_wp2_with fail
        refine (Take_no g (R : Int) v L s w4 H.out.ls.cache (by have := HR.out; omega) HE.out).mono ?_
        rintro e w5 ⟨rfl, hB5⟩
        have H5 := Lib.hid (H.out.below hB5)
        clear hB5
        go_wp2_with fail
        go_meet
        case rel => exact ⟨g, v, L, n, n7, c7, cin, cout, A7, rfl, rfl, rfl, rfl, HN7.out, HR.out.2.1, HFN.out, HR.out.2.2.1, by have := HR.out; omega, by have := HR.out; omega, H5⟩
      | some x =>
        have h1 := HVV.out
        rw [e] at h1
        obtain ⟨h1, h2⟩ := h1
        obtain rfl : vv = x := h1
        obtain rfl : th = true := h2
        obtain ⟨j, hj, hix⟩ : ∃ j, ∃ hj : j < L.length, idx L s = (j : Int) := by
          rcases idx_cases L s with h | ⟨j, hj, h, _⟩
          · rw [has_none h] at e; cases e
          · exact ⟨j, hj, h⟩
        have hv : L[j].2 = vv := by rw [has_some hj hix] at e; exact Option.some.inj e
        have htk := took_some hix
        have HT := Take_yes g (R : Int) v L s j hj w4 H.out.ls.cache (by have := HR.out; omega) hix
        rw [← htk, hv] at HT
        have htl : (took L s).length + 1 = L.length := by rw [htk, List.length_append, List.length_take, List.length_drop]; omega
        have HTL := Lib.hid htl
        clear e HVV hix hv htk htl
        go_wp2_with fail
        refine HT.mono ?_
        rintro e w5 ⟨rfl, v5, hc5, hU5, hn5⟩
        have H5 := Lib.hid (And.intro (H.out.upd hc5 hU5 hn5) (hl.out.1.upd H.out.ls.cache hU5))
        clear HT hc5 hU5 hn5
        obtain ⟨w6, hr6, hm6, hg6⟩ := H5.out.1.mp.del s HD.out.2.1 0 (has (took L s)) (has_took HD.out.1 s).1 (has_took HD.out.1 s).2
        have H6 : Hid (PS w w6 g R v5 (took L s) (took L s) b n (.slice A16 n16 c16)) := Lib.hid (H5.out.1.map hm6 hg6 (by rw [nm_took HD.out.1]; exact H5.out.2) (fun k hk => (hl.out.2.2 k hk).1))
        clear hm6 hg6
        go_wp2_with fail
        go_meet
        case rel => exact ⟨g, v5, took L s, n, n16, c16, cin, cout + 1, A16, rfl, rfl, rfl, by go_num, by rw [hl.out.2.1, ← nm_took HD.out.1, nm_length], by have := HR.out; have := HTL.out; omega, HFN.out.took s, by have := HR.out; have := HTL.out; omega, by have := HR.out; omega, by have := HR.out; omega, H6⟩
    · by_cases k3 : kd = 3
      · subst k3
        go_wp2_with fail
        have hh := Has_any g (R : Int) v L s w4 H.out.ls.cache (by have := HR.out; omega)
        cases e : has L s with
        | none =>
          have h1 := HVV.out
          rw [e] at h1 hh
          obtain ⟨h1, h2⟩ := h1
          obtain rfl : vv = 0 := h1
          obtain rfl : th = false := h2
          refine hh.mono ?_
          rintro e' w5 ⟨rfl, hB5⟩
          have H5 := Lib.hid (H.out.below hB5)
          clear hB5 e hh HVV
          unfold hasV
          go_wp2_with fail
          go_meet
          case rel => exact ⟨g, v, L, n, n7, c7, cin, cout, A7, rfl, rfl, rfl, rfl, HN7.out, HR.out.2.1, HFN.out, HR.out.2.2.1, by have := HR.out; omega, by have := HR.out; omega, H5⟩
        | some x =>
          have h1 := HVV.out
          rw [e] at h1 hh
          obtain ⟨h1, h2⟩ := h1
          obtain rfl : vv = x := h1
          obtain rfl : th = true := h2
          refine hh.mono ?_
          rintro e' w5 ⟨rfl, hB5⟩
          have H5 := Lib.hid (H.out.below hB5)
          clear hB5 e hh HVV
          unfold hasV
          go_wp2_with fail
          go_meet
          case rel => exact ⟨g, v, L, n, n7, c7, cin, cout, A7, rfl, rfl, rfl, rfl, HN7.out, HR.out.2.1, HFN.out, HR.out.2.2.1, by have := HR.out; omega, by have := HR.out; omega, H5⟩
      · by_cases k4 : kd = 4
        · subst k4
          go_wp2_with fail
          refine (Copy_any g (R : Int) v L w4 H.out.ls.cache (by have := HR.out; omega)).mono ?_
          rintro e w5 ⟨g', v', rfl, hc5, hg5, hv5, hB5⟩
          have hs4 := H.out.ls.low.size
          have H5 : Hid (PS w w5 g R v L L b n (.slice A7 n7 c7) ∧ LS w w5 g' (R : Int) v' L ∧ g ≠ g' ∧ ∀ k, v.ownBlock = some k → v'.ownBlock ≠ some k) := Lib.hid (by
            have h5 := H.out.below hB5
            refine ⟨h5, ⟨hc5, h5.ls.low, by omega, fun k hk => by have := hv5 k hk; omega⟩, fun e => by have := H.out.ls.cache.lt; omega, fun k hk e => ?_⟩
            have h1 := (H.out.ls.cache.row.lt k hk).1
            have h2 := hv5 k e
            omega)
          clear hc5 hg5 hv5 hB5 hs4
          have hp : ∀ (g : Nat) (w : World), (binOp .eql 22 (.pointer (some ⟨g, 0, none⟩)) (.pointer none)).run Try.prog w = .ok (.bool false) w := fun g w => rfl
          go_wp2_with fail
          refine (Put_any g R v L ⟨#[111, 116, 104, 101, 114]⟩ 9 w5 H5.out.1.ls.cache (by have := HR.out; omega) (by have := HR.out; omega)).mono ?_
          rintro e w6 ⟨A6, c6, v6, rfl, hr6, hc6, hU6, hn6, hf6⟩
          have H6 : Hid (PS w w6 g R v6 (putL (R : Int) L ⟨#[111, 116, 104, 101, 114]⟩ 9) L b n (.slice A7 n7 c7) ∧ LS w w6 g' (R : Int) v' L ∧ g ≠ g' ∧ (∀ k, v6.ownBlock = some k → v'.ownBlock ≠ some k) ∧ (putL (R : Int) L ⟨#[111, 116, 104, 101, 114]⟩ 9).length ≤ R) := Lib.hid (by
            have ht := (Two.mk H5.out.1.ls H5.out.2.1 H5.out.2.2.1 H5.out.2.2.2 (Sl.nil _ _ _) (fun k hk => by cases hk) : Two w w5 g (R : Int) v L g' (R : Int) v' L (.slice none 0 0) []).putA hc6 hU6 hn6
            exact ⟨H5.out.1.upd hc6 hU6 hn6, ht.b, ht.ne, ht.sep, put_len _ _ _ _⟩)
          clear hr6 hc6 hU6 hn6 hf6 H5
          go_wp2_with fail
          refine (Take_any g (R : Int) v6 _ s w6 H6.out.1.ls.cache (by have := H6.out.2.2.2.2; have := HR.out; omega)).mono ?_
          rintro e w7 ⟨n8, b8, v7, rfl, hh7, hc7, hU7, hn7⟩
          have H7 : Hid (PS w w7 g' R v' L L b n (.slice A7 n7 c7)) := Lib.hid (by
            have ht := (Two.mk H6.out.1.ls H6.out.2.1 H6.out.2.2.1 H6.out.2.2.2.1 (Sl.nil _ _ _) (fun k hk => by cases hk) : Two w w6 g (R : Int) v6 _ g' (R : Int) v' L (.slice none 0 0) []).putA hc7 hU7 hn7
            have hp := H6.out.1.upd hc7 hU7 hn7
            exact ⟨ht.b, hp.mp, hp.mb, hp.row, hp.fresh⟩)
          clear hh7 hc7 hU7 hn7 H6
          go_wp2_with fail
          go_meet
          case rel => exact ⟨g', v', L, n, n7, c7, cin, cout, A7, rfl, rfl, rfl, rfl, HN7.out, HR.out.2.1, HFN.out, HR.out.2.2.1, by have := HR.out; omega, by have := HR.out; omega, H7⟩
        · go_wp2_with fail
          go_meet
          case rel => exact ⟨g, v, L, n, n7, c7, cin, cout, A7, rfl, rfl, rfl, rfl, HN7.out, HR.out.2.1, HFN.out, HR.out.2.2.1, by have := HR.out; omega, by have := HR.out; omega, H⟩
end Go.Proofs.Ytffaiijeagghdaa.Lr
