/- URLParts: contracts in plain words: URLs of numbers, Print, Parse, Get. -/
import Derived.Test.YtcaaggfobdfgpaaDoorKeepURLParts
import Derived.Deep.LoopGhost
import Derived.Deep.RegionHeld
import Derived.Deep.RegionLaw
import Derived.Lib.Hide
set_option linter.unusedVariables false
set_option linter.unusedSimpArgs false
namespace Go.Proofs.YtcaaggfobdfgpaaDoor.UURLParts
open Go.RowKit Go.Proofs.YtcaaggfobdfgpaaDoor.PURLParts Go.Proofs.YtcaaggfobdfgpaaDoorW.PrintWords Go.Proofs.YtcaaggfobdfgpaaDoorW.PrintLast Go.Proofs.YtcaaggfobdfgpaaDoorW.PrintMore Go.Proofs.YtcaaggfobdfgpaaDoor.Pct Go.Proofs.YtcaaggfobdfgpaaDoor.UP Go.Proofs.YtcaaggfobdfgpaaDoor.Given

abbrev RS (w : World) (base : Nat) (v : Value) (p : List ByteArray) : Prop := Kd.R Kd.string 9 w base (fun _ => True) v p
abbrev RP (w : World) (base : Nat) (v : Value) (q : List Pr) : Prop := Kd.R k32 32 w base (fun _ => True) v q
/-- A URL that a call has made: its two rows, from base on. -/
def MadeU (w w' : World) (p : List ByteArray) (q : List Pr) (A : Option Addr) (c : Nat) (B : Option Addr) (d : Nat) : Prop :=
  RS w' w.heap.size (.slice A p.length c) p ∧ RP w' w.heap.size (.slice B q.length d) q ∧ Below w.heap.size w w'
def MadeE (a b : List Int) (w : World) (e : Ending) (w' : World) : Prop := ∃ p q A c B d, e = .returned (.agg #[.slice A (List.length p) c, .slice B (List.length q) d]) ∧ MadeU w w' p q A c B d ∧ Made p q b.length ∧ p.length = min a.length 5
theorem keep_any (A0 : Option Addr) (c0 : Nat) (a : List Int) (A1 : Option Addr) (c1 : Nat) (b : List Int) (A2 : Option Addr) (c2 : Nat) (c : List Int) (w : World) (h0 : Kd.C (Kd.int .i64) w A0 a.length a) (hc0 : a.length ≤ c0) (h1 : Kd.C (Kd.int .i64) w A1 b.length b) (hc1 : b.length ≤ c1) (h2 : Kd.C (Kd.int .i64) w A2 c.length c) (hc2 : c.length ≤ c2)
    (la : a.length ≤ 1000000000000000000) (lb : b.length ≤ 1000000000000000000) :
    Calls Tryd.prog 16 #[.agg #[.slice A0 a.length c0, .slice A1 b.length c1, .slice A2 c.length c2]] w (MadeE a b w) := by
  obtain ⟨p, q, e, hm, hl⟩ := url_made a b c la lb 100 (by omega)
  refine (porticokeep_URL_URL.calls 100 A0 c0 a A1 c1 b A2 c2 c p q w h0 hc0 h1 hc1 h2 hc2 e).mono ?_
  rintro e w' ⟨v0, v1, rfl, hp, hq, hb⟩
  obtain ⟨A, c, rfl⟩ := Kd.R_slice hp
  obtain ⟨B, d, rfl⟩ := Kd.R_slice hq
  exact ⟨p, q, A, c, B, d, rfl, ⟨hp, hq, hb⟩, hm, hl⟩
def ParsedE (p : List ByteArray) (q : List Pr) (w : World) (e : Ending) (w' : World) : Prop := ∃ A c B d, e = .returned (.tuple #[.agg #[.slice A (List.length p) c, .slice B (List.length q) d], .int .i64 0]) ∧ MadeU w w' p q A c B d
theorem parse_any (p : List ByteArray) (q : List Pr) (hr : rightB p q = true) (w : World) : Calls Tryd.prog 9 #[.string (textOf p q)] w (ParsedE p q w) := by
  refine (url_Parse.calls 6000 (textOf p q) p q 0 w (Parse_text p q hr 6000 (by omega))).mono ?_
  rintro e w' ⟨v0, v1, rfl, hp, hq, hb⟩
  obtain ⟨A, c, rfl⟩ := Kd.R_slice hp
  obtain ⟨B, d, rfl⟩ := Kd.R_slice hq
  exact ⟨A, c, B, d, rfl, hp, hq, hb⟩
theorem MadeU.reads {w w' : World} {p : List ByteArray} {q : List Pr} {A : Option Addr} {c : Nat} {B : Option Addr} {d : Nat} (h : MadeU w w' p q A c B d) : Kd.C Kd.string w' A p.length p ∧ p.length ≤ c ∧ Kd.C k32 w' B q.length q ∧ q.length ≤ d := by
  obtain ⟨A', c', e, h1, h2⟩ := Kd.R_reads h.1
  obtain ⟨B', d', e', h3, h4⟩ := Kd.R_reads h.2.1
  cases e; cases e'
  exact ⟨h2, h1, h4, h3⟩
theorem MadeU.below {w w' w'' : World} {p : List ByteArray} {q : List Pr} {A : Option Addr} {c : Nat} {B : Option Addr} {d : Nat} (h : MadeU w w' p q A c B d) (hB : Below w'.heap.size w' w'') : MadeU w w'' p q A c B d :=
  ⟨Kd.R_below h.1 hB, Kd.R_below h.2.1 hB, h.2.2.trans (hB.mono h.2.2.size)⟩
theorem MadeU.from {w W w' : World} {p : List ByteArray} {q : List Pr} {A : Option Addr} {c : Nat} {B : Option Addr} {d : Nat} (hB : Below w.heap.size w W) (h : MadeU W w' p q A c B d) : MadeU w w' p q A c B d :=
  ⟨Kd.R_lower h.1 hB.size, Kd.R_lower h.2.1 hB.size, hB.trans (h.2.2.mono hB.size)⟩
theorem set_one {w : World} {b t : Nat} {cs : Array Value} (h : w.heap[b]? = some (.cells cs t (0, 0))) (u : Value) : (w.setCell ⟨b, 0, none⟩ u).heap[b]? = some (.cells (cs.setIfInBounds 0 u) t (0, 0)) := by
  simp [World.setCell, Array.getElem?_modify, h]
theorem MadeU.set {w w' : World} {p : List ByteArray} {q : List Pr} {A : Option Addr} {c : Nat} {B : Option Addr} {d : Nat} (h : MadeU w w' p q A c B d) {b : Nat} {cs : Array Value} (hb : w'.heap[b]? = some (.cells cs 25 (0, 0))) (hg : w.heap.size ≤ b) (j : Nat) (u : Value) : MadeU w (w'.setCell ⟨b, j, none⟩ u) p q A c B d :=
  ⟨Kd.R_set h.1 hb (fun t ht => by
    simp only [Kd.string, Kd.scalar, List.mem_singleton] at ht
    rw [ht]; decide) j u, Kd.R_set h.2.1 hb (fun t ht => by
    have e : t = 32 := by simpa [k32, Kd.iso, Kd.pair, Kd.string, Kd.scalar] using ht
    rw [e]; decide) j u, h.2.2.setCell (p := ⟨b, j, none⟩) hg u⟩
theorem made_fix (A0 : Option Addr) (c0 : Nat) (a : List Int) (A1 : Option Addr) (c1 : Nat) (b : List Int) (A2 : Option Addr) (c2 : Nat) (c : List Int) (w : World) (h0 : Kd.C (Kd.int .i64) w A0 a.length a) (hc0 : a.length ≤ c0) (h1 : Kd.C (Kd.int .i64) w A1 b.length b) (hc1 : b.length ≤ c1) (h2 : Kd.C (Kd.int .i64) w A2 c.length c) (hc2 : c.length ≤ c2)
    (p : List ByteArray) (q : List Pr) (e : porticokeep_URL_URL.f 100 a b c = some (p, q)) :
    Calls Tryd.prog 16 #[.agg #[.slice A0 a.length c0, .slice A1 b.length c1, .slice A2 c.length c2]] w fun e w' => ∃ A c B d, e = .returned (.agg #[.slice A p.length c, .slice B q.length d]) ∧ MadeU w w' p q A c B d := by
  refine (porticokeep_URL_URL.calls 100 A0 c0 a A1 c1 b A2 c2 c p q w h0 hc0 h1 hc1 h2 hc2 e).mono ?_
  rintro e w' ⟨v0, v1, rfl, hp, hq, hb⟩
  obtain ⟨A, c, rfl⟩ := Kd.R_slice hp
  obtain ⟨B, d, rfl⟩ := Kd.R_slice hq
  exact ⟨A, c, B, d, rfl, hp, hq, hb⟩
theorem print_read {w : World} {p : List ByteArray} {q : List Pr} {A : Option Addr} {c : Nat} {B : Option Addr} {d : Nat} (h : Kd.C Kd.string w A p.length p ∧ p.length ≤ c ∧ Kd.C k32 w B q.length q ∧ q.length ≤ d) :
    Calls Tryd.prog 12 #[.agg #[.slice A p.length c, .slice B q.length d]] w fun e w' => e = .returned (.string (textOf p q)) ∧ Below w.heap.size w w' :=
  Print_any A c p B d q w h.1 h.2.1 h.2.2.1 h.2.2.2
theorem runs_any (w : World) : Calls Tryd.prog 3 #[] w fun e w' => e = .returned (.bool true) ∧ Below w.heap.size w w' := by
  obtain ⟨K, hK⟩ : ∃ K, K = 3000 := ⟨_, rfl⟩
  exact porticolaw4_URLRuns.calls K true w (runs_eq K (by omega))
end Go.Proofs.YtcaaggfobdfgpaaDoor.UURLParts
