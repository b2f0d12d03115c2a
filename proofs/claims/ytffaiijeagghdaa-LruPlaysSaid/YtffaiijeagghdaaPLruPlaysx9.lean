/- LruPlays in the form in which rows are written (wip/tools/rowgen.py): by hand (XLruPlays). -/
import Derived.Test.YtffaiijeagghdaaLruPlays
set_option linter.unusedVariables false
namespace Go.Proofs.Ytffaiijeagghdaa.PLruPlays
open Go.RowKit Go.Proofs.YtffaiijeagghdaaW.PrintWords Go.Proofs.Ytffaiijeagghdaa.Lr
structure S40 where
  f0 : Int
  f1 : Int
  f2 : Int
def k40 : Kd S40 := Kd.iso (Kd.pair (Kd.int .i64) (Kd.pair (Kd.int .i64) (Kd.int .i64))) (fun x : S40 => (x.f0, x.f1, x.f2))
theorem k_open {w : World} {x : S40} {cs : List Value} (h : k40.K w x cs) : cs = [.int .i64 x.f0, .int .i64 x.f1, .int .i64 x.f2] := by
  obtain ⟨_, _, rfl, rfl, _, _, rfl, rfl, rfl⟩ := h
  rfl
def askOf (a : S40) : Go.Proofs.Ytffaiijeagghdaa.Lr.Ask := ⟨a.f0, a.f1, a.f2⟩
def porticolaw18_LruPlays.f (k : Nat) (a0 : Int) (l1 : List S40) : Option (Bool) := if l1.all (fun a => (Lit.int .i64 a.f2).wf) = true then some true else none
theorem porticolaw18_LruPlays.calls (k : Nat) (a0 : Int) (A1 : Option Addr) (c1 : Nat) (l1 : List S40) (r : Bool) (w : World) (hr1 : Kd.C k40 w A1 l1.length l1) (hc1 : l1.length ≤ c1) (h : porticolaw18_LruPlays.f k a0 l1 = some r) :
    Calls Try.prog 6 #[.int .i64 a0, .slice A1 l1.length c1] w fun e w' => e = .returned (.bool r) ∧ Below w.heap.size w w' := by
  unfold porticolaw18_LruPlays.f at h
  by_cases c' : l1.all (fun a => (Lit.int .i64 a.f2).wf) = true
  · rw [if_pos c'] at h
    have c : ∀ a ∈ l1, (Lit.int .i64 a.f2).wf = true := fun a ha => List.all_eq_true.1 c' a ha
    obtain rfl := Option.some.inj h
    have hlen : (l1.map askOf).length = l1.length := List.length_map _
    rw [← hlen]
    refine LruPlays_any a0 A1 c1 (l1.map askOf) w (fun i hi => ?_) (fun a ha => ?_)
    · rw [hlen] at hi
      obtain ⟨ad, cs, e, _, hK, hcc⟩ := Kd.C_get hr1 ⟨0, 0, 0⟩ (i : Int) (by omega) (by omega)
      have hcs := k_open hK
      subst hcs
      have hg : l1.getD (i : Int).toNat ⟨0, 0, 0⟩ = l1[i] := by simp [List.getD_eq_getElem?_getD, hi]
      rw [hg] at hcc
      have hs : ∀ j, (i : Int).toNat * k40.sz + j = i * 3 + j := fun j => by show (i : Int).toNat * 3 + j = i * 3 + j; omega
      have h0 := hcc 0 _ rfl
      have h1 := hcc 1 _ rfl
      have h2 := hcc 2 _ rfl
      rw [hs] at h0 h1 h2
      refine ⟨ad, e, ?_⟩
      rw [List.getElem_map]
      exact ⟨h0, h1, h2⟩
    · obtain ⟨b, hb, rfl⟩ := List.mem_map.1 ha
      exact c b hb
  · rw [if_neg c'] at h
    cases h
end Go.Proofs.Ytffaiijeagghdaa.PLruPlays
