/- PastPlays: the calls of a round (printed by wip/law11/gen_Plays.py out of Plays.b2). -/
import Derived.Test.YtobeebcpkkdkhaaPlays1
import Derived.Deep.DeepCutAuto
import Derived.Deep.CutBlock
import Derived.Lib.MinMax
set_option linter.unusedVariables false
set_option linter.unusedSimpArgs false
namespace Go.Proofs.Ytobeebcpkkdkhaa.Pa
open Go.RowKit Go.Proofs.YtobeebcpkkdkhaaW.PrintWords Go.Proofs.YtobeebcpkkdkhaaW.PrintLast Go.Proofs.Ytobeebcpkkdkhaa.PPastRuns

/-- A call. -/
structure Ask where
  k : Int
  n : Int
  x : Nat
  s : ByteArray
def askAt (w : World) (ad : Addr) (i : Nat) (a : Ask) : Prop := w.cell? (ad.add (i * 4)) = some (.int .i64 a.k) ∧ w.cell? (ad.add (i * 4 + 1)) = some (.int .i64 a.n) ∧ w.cell? (ad.add (i * 4 + 2)) = some (.int .u64 (a.x : Int)) ∧ w.cell? (ad.add (i * 4 + 3)) = some (.string a.s)
theorem add_add (ad : Addr) (n j : Nat) : ad.add (n + j) = (ad.add n).add j := by
  unfold Addr.add
  by_cases h1 : n = 0
  · subst h1; simp
  · by_cases h2 : j = 0
    · subst h2; simp
    · rw [if_neg (by omega), if_neg h2, if_neg h1]
      simp [Nat.add_assoc]
theorem ask_plain {w : World} {ad : Addr} {i : Nat} {a : Ask} (h : askAt w ad i a) : ∃ pb po, ad.add (i * 4) = ⟨pb, po, none⟩ ∧ w.cell? ⟨pb, po, none⟩ = some (.int .i64 a.k) ∧ w.cell? ⟨pb, po + 1, none⟩ = some (.int .i64 a.n) ∧ w.cell? ⟨pb, po + 2, none⟩ = some (.int .u64 (a.x : Int)) ∧ w.cell? ⟨pb, po + 3, none⟩ = some (.string a.s) := by
  obtain ⟨h0, h1, h2, h3⟩ := h
  rw [add_add] at h1 h2 h3
  obtain ⟨pb, po, sp, hP⟩ : ∃ pb po sp, ad.add (i * 4) = ⟨pb, po, sp⟩ := ⟨_, _, _, rfl⟩
  rw [hP] at h0 h1 h2 h3
  have hs : sp = none := by
    unfold World.cell? at h0
    cases sp with
    | none => rfl
    | some x =>
      dsimp only at h0
      split at h0
      · simp at h0
      · cases h0
  subst hs
  exact ⟨pb, po, hP, h0, h1, h2, h3⟩
theorem wpl_append2 {ops : Array Oper} {rest : List Oper} {o : Oper} {a : Act} {Q : Exit → Act → World → Prop} {W : World} (hgd : o.guard = none) (s x : Operand)
    (ho : o.op = .call { callee := .builtin .append, args := #[s, x], argTypes := #[32, 32] })
    (base : Nat) (v : Value) (l m : List S28) (ad : Addr) (n c : Nat) (hn : n = m.length) (hs : a.eval s = v) (hx : a.eval x = .slice (some ad) n c) (h : W.ownsRow base 28 2 v l.length (enc l)) (hm : ∀ j u, (enc m)[j]? = some u → W.cell? (ad.add j) = some u) (hl : l.length + m.length ≤ 100000) (hb : base ≤ W.heap.size)
    (K : ∀ v' w', w'.ownsRow base 28 2 v' (l ++ m).length (enc (l ++ m)) → W.grownBy w' v.ownBlock → wpList Try.prog ops Q rest (a.put o.dst v') w') : wpList Try.prog ops Q (o :: rest) a W := by
  subst hn
  exact wpl_append hgd s x ho base v l m ad c hs hx h hm hl hb K
theorem made_row (w : World) : (w.alloc (.cells #[] 28)).ownsRow w.heap.size 28 2 (.slice (some ⟨w.heap.size, 0, none⟩) 0 0) ([] : List S28).length (enc []) :=
  World.ownsRow_made (base := w.heap.size) (e := 28) (size := 2) w #[] 0 (Nat.le_refl _) (by decide) (by rfl)
theorem row_reads {w : World} {r n cap : Nat} {m : List S28} (h : RowOf w (.slice (some ⟨r, 0, none⟩) n cap) m) (o : Obj) : ∀ j u, (enc m)[j]? = some u → (w.alloc o).cell? ((⟨r, 0, none⟩ : Addr).add j) = some u := fun j u hu => by
  have h1 := h.cells (g := r) rfl j u hu
  rw [((Below.refl w.heap.size w).alloc (Nat.le_refl _) _).cell (lt_of_cell h1)]
  exact h1
/-- The law's own row is a new one. -/
theorem Pl.fresh {w0 w w' : World} {K g : Nat} {o : Obj} {v vo vo' : Value} {l m m' : List S28} {at_ : Int} {oo : Obj} (h : Pl w0 K o g w v vo l m at_) (hm : w'.ownsRow w.heap.size 28 2 vo' m'.length (enc m')) (hg : (w.alloc oo).grownBy w' (Value.slice (some ⟨w.heap.size, 0, none⟩) 0 0).ownBlock) : Pl w0 K o g w' v vo' l m' at_ ∧ w'.ownsRow w.heap.size 28 2 vo' m'.length (enc m') ∧ Below w.heap.size w w' := by
  have hB : Below w.heap.size w w' := below_grown ((Below.refl _ _).alloc (Nat.le_refl _) _) hg (fun k hk => by have : w.heap.size = k := Option.some.inj hk; omega) (by simp)
  exact ⟨h.own hB hm, hm, hB⟩
/-- A write of a whole entry into the law's own row. -/
theorem Pl.put {w0 w : World} {K g ro cap : Nat} {o : Obj} {v : Value} {l m : List S28} {at_ : Int} (h : Pl w0 K o g w v (.slice (some ⟨ro, 0, none⟩) m.length cap) l m at_) (i : Nat) (hi : i < m.length) (e : S28) : Pl w0 K o g ((w.setCell ⟨ro, i * 2, none⟩ (.string e.f0)).setCell ⟨ro, i * 2 + 1, none⟩ (.int .u64 e.f1)) v (.slice (some ⟨ro, 0, none⟩) m.length cap) l (m.set i e) at_ := by
  refine h.set rfl ((set_upd w ro (i * 2) (.string e.f0)).trans (set_upd _ ro (i * 2 + 1) (.int .u64 e.f1))) ?_
  have hr := own_set (own_set (w := w) h.row (i * 2) (by omega) (.string e.f0)) (i * 2 + 1) (by omega) (.int .u64 e.f1)
  rw [enc_set m i e] at hr
  unfold RowOf
  rw [List.length_set]
  exact hr
theorem Pl.put1 {w0 w : World} {K g ro cap : Nat} {o : Obj} {v : Value} {l m : List S28} {at_ : Int} (h : Pl w0 K o g w v (.slice (some ⟨ro, 0, none⟩) m.length cap) l m at_) (i : Nat) (hi : i < m.length) (x : Int) : Pl w0 K o g (w.setCell ⟨ro, i * 2 + 1, none⟩ (.int .u64 x)) v (.slice (some ⟨ro, 0, none⟩) m.length cap) l (m.set i ⟨m[i].f0, x⟩) at_ := by
  refine h.set rfl (set_upd w ro (i * 2 + 1) (.int .u64 x)) ?_
  have hr := own_set (w := w) h.row (i * 2 + 1) (by omega) (.int .u64 x)
  rw [enc_set1 m i hi x] at hr
  unfold RowOf
  rw [List.length_set]
  exact hr
theorem own_moveB {w : World} {base : Nat} {v : Value} {m : List S28} (h : w.ownsRow base 28 2 v m.length (enc m)) (o : Obj) : (w.alloc o).ownsRow base 28 2 v m.length (enc m) :=
  own_move h (fun k hk => ((Below.refl w.heap.size w).alloc (Nat.le_refl _) o).block k (h.lt k hk).2)
/-- The law's own row is a longer new one. -/
theorem Pl.more {w0 w w5 w6 : World} {K g : Nat} {o : Obj} {v vo vo1 vo2 : Value} {l m m1 m2 : List S28} {at_ : Int} {oo : Obj} (h : Pl w0 K o g w v vo l m at_) (hB : Below w.heap.size w w5) (h1 : (w5.alloc oo).ownsRow w.heap.size 28 2 vo1 m1.length (enc m1)) (hm : w6.ownsRow w.heap.size 28 2 vo2 m2.length (enc m2)) (hg : (w5.alloc oo).grownBy w6 vo1.ownBlock) : Pl w0 K o g w6 v vo2 l m2 at_ :=
  h.own (below_grown (hB.alloc hB.size _) hg (fun k hk => (h1.lt k hk).1) (by have := hB.size; simp; omega)) hm
theorem row_cellq {w : World} {r n cap : Nat} {L : List S28} (h : RowOf w (.slice (some ⟨r, 0, none⟩) n cap) L) (j : Nat) (hj : j < L.length) : w.cell? ⟨r, j * 2, none⟩ = some (.string L[j].f0) ∧ w.cell? ⟨r, j * 2 + 1, none⟩ = some (.int .u64 L[j].f1) := by
  have e1 := h.cells (g := r) rfl (j * 2) _ (enc_get L j hj).1
  have e2 := h.cells (g := r) rfl (j * 2 + 1) _ (enc_get L j hj).2
  rw [add_plain] at e1 e2
  exact ⟨e1, e2⟩
def B2_find (k : Nat) : Code → Option Code
  | .block i c => if i = k then some (.block i c) else B2_find k c
  | .seq a b => match B2_find k a with
    | some c => some c
    | none => B2_find k b
  | .cond _ a b => match B2_find k a with
    | some c => some c
    | none => B2_find k b
  | .loop c => B2_find k c
  | .scope c => B2_find k c
  | _ => none
noncomputable def B2_code : Code := ((Try.f7.body.bind (B2_find 2)).getD .skip)
set_option maxRecDepth 1000000 in
def B2_R (w : World) (K : Nat) (ak an : Int) (ax : Nat) (sx sS : ByteArray) (x0 x1 x2 x3 x8 x16 x17 x18 x19 x20 x21 x22 x23 x24 x25 x26 x27 x28 x29 x30 x31 x32 x33 x34 x35 x36 x37 x38 x39 x40 x41 x42 x43 x44 x175 x176 x177 x178 x179 x180 x181 x182 x183 x184 x185 x186 x187 x188 x189 x190 x191 x192 x193 x194 x195 x196 x197 x198 x199 x200 x201 x202 x203 x204 x205 x206 x207 x208 x209 x210 x211 x212 x213 x214 x215 x216 x217 : Value) (a' : Act) (w' : World) : Prop := ∃ y4 y5 y6 y7 y11 y12 y13 y14 y15 y46 y47 y48 y49 y50 y51 y52 y53 y54 y55 y56 y57 y58 y59 y60 y61 y62 y63 y64 y65 y66 y67 y68 y69 y70 y71 y72 y73 y74 y75 y76 y77 y78 y79 y80 y81 y82 y83 y84 y85 y86 y87 y88 y89 y90 y91 y92 y93 y94 y95 y96 y97 y98 y99 y100 y101 y102 y103 y104 y105 y106 y107 y108 y109 y110 y111 y112 y113 y114 y115 y116 y117 y118 y119 y120 y121 y122 y123 y124 y125 y126 y127 y128 y129 y130 y131 y132 y133 y134 y135 y136 y137 y138 y139 y140 y141 y142 y143 y144 y145 y146 y147 y148 y149 y150 y151 y152 y153 y154 y155 y156 y157 y158 y159 y160 y161 y162 y163 y164 y165 y166 y167 y168 y169 y170 y171 y172 y173 y174 : Value, (∃ (g ro cap at_ : Nat) (v : Value) (m : List S28), y5 = .pointer (some ⟨g, 0, none⟩) ∧ y6 = .slice (some ⟨ro, 0, none⟩) m.length cap ∧ y7 = .int .i64 (at_ : Int) ∧ at_ < m.length ∧ m.length ≤ 12 ∧ m.length ≤ cap ∧ Hid (Okl m) ∧ Hid (Pl w K (.cells #[.int .i64 ak, .int .i64 an, .int .u64 (ax : Int), .string sx] 49 (0, 0)) g w' v (.slice (some ⟨ro, 0, none⟩) m.length cap) m m (at_ : Int))) ∧ a' = ⟨#[x0, x1, x2, x3, y4, y5, y6, y7, x8, .pointer (some ⟨K, 0, none⟩), .string sS, y11, y12, y13, y14, y15, x16, x17, x18, x19, x20, x21, x22, x23, x24, x25, x26, x27, x28, x29, x30, x31, x32, x33, x34, x35, x36, x37, x38, x39, x40, x41, x42, x43, x44, .int .i64 ak, y46, y47, y48, y49, y50, y51, y52, y53, y54, y55, y56, y57, y58, y59, y60, y61, y62, y63, y64, y65, y66, y67, y68, y69, y70, y71, y72, y73, y74, y75, y76, y77, y78, y79, y80, y81, y82, y83, y84, y85, y86, y87, y88, y89, y90, y91, y92, y93, y94, y95, y96, y97, y98, y99, y100, y101, y102, y103, y104, y105, y106, y107, y108, y109, y110, y111, y112, y113, y114, y115, y116, y117, y118, y119, y120, y121, y122, y123, y124, y125, y126, y127, y128, y129, y130, y131, y132, y133, y134, y135, y136, y137, y138, y139, y140, y141, y142, y143, y144, y145, y146, y147, y148, y149, y150, y151, y152, y153, y154, y155, y156, y157, y158, y159, y160, y161, y162, y163, y164, y165, y166, y167, y168, y169, y170, y171, y172, y173, y174, x175, x176, x177, x178, x179, x180, x181, x182, x183, x184, x185, x186, x187, x188, x189, x190, x191, x192, x193, x194, x195, x196, x197, x198, x199, x200, x201, x202, x203, x204, x205, x206, x207, x208, x209, x210, x211, x212, x213, x214, x215, x216, x217], []⟩
set_option maxHeartbeats 8000000 in
set_option maxRecDepth 1000000 in
theorem B2_any (w w4 : World) (K g ro cap at_ : Nat) (ak an : Int) (ax : Nat) (v : Value) (m : List S28) (sx sS : ByteArray) (x0 x1 x2 x3 x4 x8 x11 x12 x13 x14 x15 x16 x17 x18 x19 x20 x21 x22 x23 x24 x25 x26 x27 x28 x29 x30 x31 x32 x33 x34 x35 x36 x37 x38 x39 x40 x41 x42 x43 x44 x46 x47 x48 x49 x50 x51 x52 x53 x54 x55 x56 x57 x58 x59 x60 x61 x62 x63 x64 x65 x66 x67 x68 x69 x70 x71 x72 x73 x74 x75 x76 x77 x78 x79 x80 x81 x82 x83 x84 x85 x86 x87 x88 x89 x90 x91 x92 x93 x94 x95 x96 x97 x98 x99 x100 x101 x102 x103 x104 x105 x106 x107 x108 x109 x110 x111 x112 x113 x114 x115 x116 x117 x118 x119 x120 x121 x122 x123 x124 x125 x126 x127 x128 x129 x130 x131 x132 x133 x134 x135 x136 x137 x138 x139 x140 x141 x142 x143 x144 x145 x146 x147 x148 x149 x150 x151 x152 x153 x154 x155 x156 x157 x158 x159 x160 x161 x162 x163 x164 x165 x166 x167 x168 x169 x170 x171 x172 x173 x174 x175 x176 x177 x178 x179 x180 x181 x182 x183 x184 x185 x186 x187 x188 x189 x190 x191 x192 x193 x194 x195 x196 x197 x198 x199 x200 x201 x202 x203 x204 x205 x206 x207 x208 x209 x210 x211 x212 x213 x214 x215 x216 x217 : Value) (hat : at_ < m.length) (hm12 : m.length ≤ 12) (hmc : m.length ≤ cap) (HO : Hid (Okl m)) (HX : Hid (ax < 18446744073709551616)) (HP : Hid (Pl w K (.cells #[.int .i64 ak, .int .i64 an, .int .u64 (ax : Int), .string sx] 49 (0, 0)) g w4 v (.slice (some ⟨ro, 0, none⟩) m.length cap) m m (at_ : Int))) (J K' : Act → World → Prop) (Q' : Exit → Act → World → Prop) (hJ : ∀ a' w', B2_R w K ak an ax sx sS x0 x1 x2 x3 x8 x16 x17 x18 x19 x20 x21 x22 x23 x24 x25 x26 x27 x28 x29 x30 x31 x32 x33 x34 x35 x36 x37 x38 x39 x40 x41 x42 x43 x44 x175 x176 x177 x178 x179 x180 x181 x182 x183 x184 x185 x186 x187 x188 x189 x190 x191 x192 x193 x194 x195 x196 x197 x198 x199 x200 x201 x202 x203 x204 x205 x206 x207 x208 x209 x210 x211 x212 x213 x214 x215 x216 x217 a' w' → J a' w') (hK : ∀ a' w', Met J a' w' → K' a' w') : Code.wp Try.prog B2_code (Exit.then K' Q') ⟨#[x0, x1, x2, x3, x4, .pointer (some ⟨g, 0, none⟩), .slice (some ⟨ro, 0, none⟩) m.length cap, .int .i64 (at_ : Int), x8, .pointer (some ⟨K, 0, none⟩), .string sS, x11, x12, x13, x14, x15, x16, x17, x18, x19, x20, x21, x22, x23, x24, x25, x26, x27, x28, x29, x30, x31, x32, x33, x34, x35, x36, x37, x38, x39, x40, x41, x42, x43, x44, .int .i64 ak, x46, x47, x48, x49, x50, x51, x52, x53, x54, x55, x56, x57, x58, x59, x60, x61, x62, x63, x64, x65, x66, x67, x68, x69, x70, x71, x72, x73, x74, x75, x76, x77, x78, x79, x80, x81, x82, x83, x84, x85, x86, x87, x88, x89, x90, x91, x92, x93, x94, x95, x96, x97, x98, x99, x100, x101, x102, x103, x104, x105, x106, x107, x108, x109, x110, x111, x112, x113, x114, x115, x116, x117, x118, x119, x120, x121, x122, x123, x124, x125, x126, x127, x128, x129, x130, x131, x132, x133, x134, x135, x136, x137, x138, x139, x140, x141, x142, x143, x144, x145, x146, x147, x148, x149, x150, x151, x152, x153, x154, x155, x156, x157, x158, x159, x160, x161, x162, x163, x164, x165, x166, x167, x168, x169, x170, x171, x172, x173, x174, x175, x176, x177, x178, x179, x180, x181, x182, x183, x184, x185, x186, x187, x188, x189, x190, x191, x192, x193, x194, x195, x196, x197, x198, x199, x200, x201, x202, x203, x204, x205, x206, x207, x208, x209, x210, x211, x212, x213, x214, x215, x216, x217], []⟩ w4 := by
  unfold B2_R at hJ
  conv => arg 2; whnf
  have f0 : w4.cell? ⟨K, 0, none⟩ = some (.int .i64 ak) := by simp [World.cell?, HP.out.kp]
  have f1 : w4.cell? ⟨K, 1, none⟩ = some (.int .i64 an) := by simp [World.cell?, HP.out.kp]
  have f2 : w4.cell? ⟨K, 2, none⟩ = some (.int .u64 (ax : Int)) := by simp [World.cell?, HP.out.kp]
  by_cases k1 : ak = 1
  · subst k1
    by_cases c3 : at_ = 11
    · subst c3
      go_wp2_with fail
      refine (Push_no g v m sS w4 HP.out.st.past).mono ?_
      rintro e w5 ⟨rfl, rfl⟩
      go_wp2_with fail
      go_meet
      case rel => exact ⟨g, ro, cap, 11, v, m, rfl, rfl, rfl, hat, hm12, hmc, HO, HP⟩
    · have c4 : ¬ (12 : Int) ≤ (at_ : Int) + 1 := by omega
      obtain ⟨m1, hm1e⟩ : ∃ m1, m.take (at_ + 1) = m1 := ⟨_, rfl⟩
      have HLEN : Hid (at_ + 1 = m1.length) := Lib.hid (by rw [← hm1e, List.length_take]; omega)
      have q3 : (0 : Int) ≤ (at_ : Int) := by omega
      have q4 : (at_ : Int) + 1 ≤ (cap : Int) := by omega
      have HRd := Lib.hid (row_reads (HP.out.row.take rfl (at_ + 1) (by omega)) (.cells #[] 28))
      rw [hm1e] at HRd
      have HM1 := Lib.hid hm1e
      have HMade := Lib.hid (made_row w4)
      clear hm1e
      go_wp2_with (at_builtin; refine wpl_append2 rfl (.tmp 51) (.tmp 55) rfl w4.heap.size (.slice (some ⟨w4.heap.size, 0, none⟩) 0 0) [] m1 ⟨ro, 0, none⟩ _ cap HLEN.out rfl rfl HMade.out HRd.out (by have := HLEN.out; simp; omega) (by simp) ?_)
      rintro vo1 w5 hm1 hg1
      have H5 := Lib.hid (HP.out.fresh hm1 hg1)
      clear hm1 hg1 HRd HMade
      have HC := Lib.hid (row_cells (heap_alloc_new w5 (.cells #[.string sS, .int .u64 0] 28)))
      have HM2 := Lib.hid (own_moveB H5.out.2.1 (.cells #[.string sS, .int .u64 0] 28))
      go_wp2_with (at_builtin; refine wpl_append2 rfl (.tmp 56) (.tmp 59) rfl w4.heap.size vo1 m1 [⟨sS, 0⟩] ⟨w5.heap.size, 0, none⟩ 1 1 rfl rfl rfl HM2.out HC.out (by have := HLEN.out; simp; omega) (by have := H5.out.2.2.size; simp; omega) ?_)
      rintro vo2 w6 hm2 hg2
      have hl2 : m1.length + 1 = (m1 ++ [(⟨sS, 0⟩ : S28)]).length := by simp
      rw [hl2] at hm2
      have H6 := Lib.hid (HP.out.more H5.out.2.2 HM2.out hm2 hg2)
      obtain ⟨ro2, cap2, e2, hc2⟩ := H6.out.row.slice (by simp)
      subst e2
      have HOK := Lib.hid (HO.out.push (at_ + 1) sS)
      rw [HM1.out] at HOK
      obtain ⟨m2, hm2e⟩ : ∃ m2, m1 ++ [(⟨sS, 0⟩ : S28)] = m2 := ⟨_, rfl⟩
      rw [hm2e] at H6 hc2 hl2 HOK ⊢
      have HL2 : Hid (m1.length + 1 = m2.length) := Lib.hid hl2
      have HM2e := Lib.hid hm2e
      clear hm2 hg2 HM2 HC H5 hl2 hm2e
      go_wp2_with fail
      refine (Push_yes2 g v m at_ sS w6 H6.out.st.past hat (by omega) (by omega)).mono ?_
      rintro e w7 ⟨rfl, v7, h7, hU7, hf7⟩
      rw [HM1.out, HM2e.out] at h7
      have H7 := Lib.hid (H6.out.push hU7 h7 hf7)
      clear H6 h7 hU7 hf7
      go_wp2_with fail
      go_meet
      case rel => exact ⟨g, ro2, cap2, at_ + 1, v7, m2, rfl, rfl, by go_num, by have := HL2.out; have := HLEN.out; omega, by have := HL2.out; have := HLEN.out; omega, hc2, HOK, H7⟩
  · by_cases k2 : ak = 2
    · subst k2
      go_wp2_with fail
      refine (Replace_any g v m at_ sS w4 HP.out.st.past hat (by omega)).mono ?_
      rintro e w5 ⟨rfl, h5, r5, hr5, hU5⟩
      have H5 := Lib.hid (HP.out.write hr5 hU5 h5)
      clear h5 hr5 hU5
      have HRd := Lib.hid (row_reads H5.out.row (.cells #[] 28))
      have HMade := Lib.hid (made_row w5)
      go_wp2_with (at_builtin; refine wpl_append rfl (.tmp 73) (.tmp 74) rfl w5.heap.size (.slice (some ⟨w5.heap.size, 0, none⟩) 0 0) [] m ⟨ro, 0, none⟩ cap rfl rfl HMade.out HRd.out (by simp; omega) (by simp) ?_)
      rintro vo1 w6 hm1 hg1
      have H6 := Lib.hid (H5.out.fresh hm1 hg1).1
      clear hm1 hg1 HRd HMade H5
      obtain ⟨ro2, cap2, e2, hc2⟩ := H6.out.row.slice (by omega)
      subst e2
      have z1 := own_cell H6.out.row (at_ * 2)
      have z2 := own_cell H6.out.row (at_ * 2 + 1)
      have y1 := (row_cellq H6.out.row at_ hat).1
      have y2 := (row_cellq H6.out.row at_ hat).2
      have q3 : (0 : Int) ≤ (at_ : Int) := by omega
      have q4 : (at_ : Int) < (m.length : Int) := by omega
      have H7 := Lib.hid (H6.out.put at_ hat ⟨sS, 0⟩)
      have HOK := Lib.hid (HO.out.set at_ sS)
      go_wp2_with fail
      have hls : (m.set at_ (⟨sS, 0⟩ : S28)).length = m.length := List.length_set
      rw [← hls] at hat hc2 H7 hm12 ⊢
      go_meet
      case rel => exact ⟨g, ro2, cap2, at_, v, _, rfl, rfl, rfl, hat, hm12, hc2, HOK, H7⟩
    · by_cases k3 : ak = 3
      · subst k3
        have q3 : (0 : Int) ≤ (at_ : Int) := by omega
        have q4 : (at_ : Int) < 12 := by omega
        have q5 : (m.length : Int) ≤ 12 := by omega
        have q6 : (0 : Int) ≤ (m.length : Int) := by omega
        by_cases c5 : -(at_ : Int) ≤ an
        · by_cases c6 : an ≤ (m.length : Int) - 1 - (at_ : Int)
          · obtain ⟨j, hj⟩ : ∃ j : Nat, (j : Int) = (at_ : Int) + an := ⟨((at_ : Int) + an).toNat, by omega⟩
            have hjl : j < m.length := by omega
            go_wp2_with fail
            refine (Go_yes g v m at_ j an w4 HP.out.st.past (by omega) (by omega) hj hjl).mono ?_
            rintro e w5 ⟨rfl, h5, hU5⟩
            have H5 := Lib.hid ((HP.out.go hU5 h5).alloc (.cells #[.string m[j].f0, .int .u64 m[j].f1] 28))
            clear h5 hU5
            go_upto_region 27 with (fail)
            have y1 : (w5.alloc (.cells #[.string m[j].f0, .int .u64 m[j].f1] 28)).cell? ⟨w5.heap.size, 0, none⟩ = some (.string m[j].f0) := by simp [go_sem]
            have y2 : (w5.alloc (.cells #[.string m[j].f0, .int .u64 m[j].f1] 28)).cell? ⟨w5.heap.size, 1, none⟩ = some (.int .u64 m[j].f1) := by simp [go_sem]
            generalize w5.alloc (.cells #[.string m[j].f0, .int .u64 m[j].f1] 28) = w6 at H5 y1 y2 ⊢
            generalize w5.heap.size = K2 at y1 y2 ⊢
            have y3 := (row_cellq H5.out.row j hjl).1
            have y4 := (row_cellq H5.out.row j hjl).2
            have g1 : w6.cell? ⟨K, 1, none⟩ = some (.int .i64 an) := by simp [World.cell?, H5.out.kp]
            have q7 : (0 : Int) ≤ (at_ : Int) + an := by omega
            have q10 : (at_ : Int) + an ≤ 12 := by omega
            have q8 : (j : Int) < (m.length : Int) := by omega
            have q9 : (0 : Int) ≤ (j : Int) := by omega
            have HJ := Lib.hid hj
            clear hj
            generalize m[j].f0 = sJ at y1 y3 ⊢
            generalize m[j].f1 = xJ at y2 y4 ⊢
            go_wp2_with fail
            rw [← HJ.out]
            clear q7 q10
            go_quiet (fail)
            go_wp2_with fail
            go_meet
            case rel => exact ⟨g, ro, cap, j, v, m, rfl, rfl, rfl, hjl, hm12, hmc, HO, Lib.hid (H5.out.drewN _)⟩
          · go_wp2_with fail
            refine (Go_no g v m (at_ : Int) an w4 HP.out.st.past (by omega) (by omega) (by omega) (by omega)).mono ?_
            rintro e w5 ⟨rfl, hB5⟩
            have H5 := Lib.hid ((HP.out.below hB5).alloc (.cells #[.string ⟨#[]⟩, .int .u64 0] 28))
            clear hB5
            go_upto_region 27 with (fail)
            have y1 : (w5.alloc (.cells #[.string ⟨#[]⟩, .int .u64 0] 28)).cell? ⟨w5.heap.size, 0, none⟩ = some (.string ⟨#[]⟩) := by simp [go_sem]
            have y2 : (w5.alloc (.cells #[.string ⟨#[]⟩, .int .u64 0] 28)).cell? ⟨w5.heap.size, 1, none⟩ = some (.int .u64 0) := by simp [go_sem]
            generalize w5.alloc (.cells #[.string ⟨#[]⟩, .int .u64 0] 28) = w6 at H5 y1 y2 ⊢
            generalize w5.heap.size = K2 at y1 y2 ⊢
            go_wp2_with fail
            go_quiet (fail)
            go_wp2_with fail
            go_meet
            case rel => exact ⟨g, ro, cap, at_, v, m, rfl, rfl, rfl, hat, hm12, hmc, HO, Lib.hid (H5.out.drewN _)⟩
        · go_wp2_with fail
          refine (Go_no g v m (at_ : Int) an w4 HP.out.st.past (by omega) (by omega) (by omega) (by omega)).mono ?_
          rintro e w5 ⟨rfl, hB5⟩
          have H5 := Lib.hid ((HP.out.below hB5).alloc (.cells #[.string ⟨#[]⟩, .int .u64 0] 28))
          clear hB5
          go_upto_region 27 with (fail)
          have y1 : (w5.alloc (.cells #[.string ⟨#[]⟩, .int .u64 0] 28)).cell? ⟨w5.heap.size, 0, none⟩ = some (.string ⟨#[]⟩) := by simp [go_sem]
          have y2 : (w5.alloc (.cells #[.string ⟨#[]⟩, .int .u64 0] 28)).cell? ⟨w5.heap.size, 1, none⟩ = some (.int .u64 0) := by simp [go_sem]
          generalize w5.alloc (.cells #[.string ⟨#[]⟩, .int .u64 0] 28) = w6 at H5 y1 y2 ⊢
          generalize w5.heap.size = K2 at y1 y2 ⊢
          go_wp2_with fail
          go_quiet (fail)
          go_wp2_with fail
          go_meet
          case rel => exact ⟨g, ro, cap, at_, v, m, rfl, rfl, rfl, hat, hm12, hmc, HO, Lib.hid (H5.out.drewN _)⟩
      · by_cases k4 : ak = 4
        · subst k4
          go_wp2_with fail
          refine (Scroll_any g v m at_ ax w4 HP.out.st.past hat (by omega) HX.out).mono ?_
          rintro e w5 ⟨rfl, h5, r5, hr5, hU5⟩
          have H5 := Lib.hid (HP.out.write hr5 hU5 h5)
          clear h5 hr5 hU5
          have HRd := Lib.hid (row_reads H5.out.row (.cells #[] 28))
          have HMade := Lib.hid (made_row w5)
          go_wp2_with (at_builtin; refine wpl_append rfl (.tmp 144) (.tmp 145) rfl w5.heap.size (.slice (some ⟨w5.heap.size, 0, none⟩) 0 0) [] m ⟨ro, 0, none⟩ cap rfl rfl HMade.out HRd.out (by simp; omega) (by simp) ?_)
          rintro vo1 w6 hm1 hg1
          have H6 := Lib.hid (H5.out.fresh hm1 hg1).1
          clear hm1 hg1 HRd HMade H5
          obtain ⟨ro2, cap2, e2, hc2⟩ := H6.out.row.slice (by omega)
          subst e2
          have z2 := own_cell H6.out.row (at_ * 2 + 1)
          have y2 := (row_cellq H6.out.row at_ hat).2
          have q3 : (0 : Int) ≤ (at_ : Int) := by omega
          have q4 : (at_ : Int) < (m.length : Int) := by omega
          have g2 : w6.cell? ⟨K, 2, none⟩ = some (.int .u64 (ax : Int)) := by simp [World.cell?, H6.out.kp]
          have H7 := Lib.hid (H6.out.put1 at_ hat (Fl.cl ax : Int))
          have HOK := Lib.hid (HO.out.scroll at_ m[at_].f0 ax)
          go_wp2_with fail
          refine (Fl.Clean_any ax HX.out _).mono ?_
          rintro e w7 ⟨rfl, rfl⟩
          go_wp2_with fail
          have hls : (m.set at_ (⟨m[at_].f0, (Fl.cl ax : Int)⟩ : S28)).length = m.length := List.length_set
          go_meet
          case rel => exact ⟨g, ro2, cap2, at_, v, (m.set at_ (⟨m[at_].f0, (Fl.cl ax : Int)⟩ : S28)), rfl, by rw [hls], rfl, by omega, by omega, by omega, HOK, by rw [hls]; exact H7⟩
        · by_cases k5 : ak = 5
          · subst k5
            go_wp2_with fail
            refine (Copy_any g v m at_ w4 HP.out.st.past (by omega) (by omega)).mono ?_
            rintro e w5 ⟨g', v5, rfl, h5⟩
            have H5 := Lib.hid h5
            clear h5
            go_wp2_with fail
            by_cases c3 : at_ = 11
            · subst c3
              refine (Push_no g' v5 m _ w5 H5.out.past).mono ?_
              rintro e w6 ⟨rfl, rfl⟩
              go_wp2_with fail
              refine (Replace_any g' v5 m 11 _ w6 H5.out.past hat (by omega)).mono ?_
              rintro e w7 ⟨rfl, h7, r7, hr7, hU7⟩
              have H7 := Lib.hid (H5.out.write hr7 hU7 h7)
              clear h7 hr7 hU7 H5
              go_wp2_with fail
              refine (Scroll_any g' v5 _ 11 5 w7 H7.out.past (by simpa using hat) (by simp; omega) (by decide)).mono ?_
              rintro e w8 ⟨rfl, h8, r8, hr8, hU8⟩
              have H8 := Lib.hid (HP.out.below (H7.out.write hr8 hU8 h8).low)
              clear h8 hr8 hU8 H7
              go_wp2_with fail
              go_meet
              case rel => exact ⟨g, ro, cap, 11, v, m, rfl, rfl, rfl, hat, hm12, hmc, HO, H8⟩
            · refine (Push_yes2 g' v5 m at_ _ w5 H5.out.past hat (by omega) (by omega)).mono ?_
              rintro e w6 ⟨rfl, v6, h6, hU6, hf6⟩
              have H6 := Lib.hid (H5.out.push hU6 h6 hf6)
              clear h6 hU6 hf6 H5
              obtain ⟨m6, hm6, hm6l⟩ : ∃ m6, m.take (at_ + 1) ++ [(⟨⟨#[122, 122]⟩, 0⟩ : S28)] = m6 ∧ m6.length = at_ + 2 := ⟨_, rfl, by rw [List.length_append, List.length_take]; simp; omega⟩
              rw [hm6] at H6
              have HL6 := Lib.hid hm6l
              clear hm6 hm6l
              go_wp2_with fail
              refine (Replace_any g' v6 m6 (at_ + 1) _ w6 H6.out.past (by have := HL6.out; omega) (by have := HL6.out; omega)).mono ?_
              rintro e w7 ⟨rfl, h7, r7, hr7, hU7⟩
              have H7 := Lib.hid (H6.out.write hr7 hU7 h7)
              clear h7 hr7 hU7 H6
              go_wp2_with fail
              refine (Scroll_any g' v6 _ (at_ + 1) 5 w7 H7.out.past (by have := HL6.out; simp; omega) (by have := HL6.out; simp; omega) (by decide)).mono ?_
              rintro e w8 ⟨rfl, h8, r8, hr8, hU8⟩
              have H8 := Lib.hid (HP.out.below (H7.out.write hr8 hU8 h8).low)
              clear h8 hr8 hU8 H7
              go_wp2_with fail
              go_meet
              case rel => exact ⟨g, ro, cap, at_, v, m, rfl, rfl, rfl, hat, hm12, hmc, HO, H8⟩
          · by_cases k6 : ak = 6
            · subst k6
              go_wp2_with fail
              refine (Entries_any2 g v m at_ w4 HP.out.st.past (by omega)).mono ?_
              rintro e w5 ⟨v5, rfl, h5, hB5, hf5⟩
              have H5 := Lib.hid (And.intro (HP.out.below hB5) h5)
              clear h5 hB5 hf5
              go_wp2_with fail
              refine (At_any g v m at_ w5 H5.out.1.st.past).mono ?_
              rintro e w6 ⟨rfl, rfl⟩
              go_wp2_with fail
              refine (From_yes v5 m at_ w6 H5.out.2 HO.out.same.2 hm12 (by omega) (by omega)).mono ?_
              rintro e w7 ⟨g', v', rfl, h7⟩
              rw [HO.out.same.1] at h7
              have H7 := Lib.hid (H5.out.1.swap h7)
              clear h7 H5
              go_wp2_with fail
              go_meet
              case rel => exact ⟨g', ro, cap, at_, v', m, rfl, rfl, rfl, hat, hm12, hmc, HO, H7⟩
            · go_wp2_with fail
              go_meet
              case rel => exact ⟨g, ro, cap, at_, v, m, rfl, rfl, rfl, hat, hm12, hmc, HO, HP⟩
end Go.Proofs.Ytobeebcpkkdkhaa.Pa
