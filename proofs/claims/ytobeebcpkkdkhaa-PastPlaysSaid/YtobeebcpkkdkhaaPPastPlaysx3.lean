/- PastPlays in the form in which rows are written (wip/tools/rowgen.py): by hand (XPastPlays). -/
import Derived.Test.YtobeebcpkkdkhaaPastPlays
set_option linter.unusedVariables false
namespace Go.Proofs.Ytobeebcpkkdkhaa.PPastPlays
open Go.RowKit Go.Proofs.YtobeebcpkkdkhaaW.PrintWords Go.Proofs.Ytobeebcpkkdkhaa.Pa
structure S49 where
  f0 : Int
  f1 : Int
  f2 : Int
  f3 : ByteArray
def k49 : Kd S49 := Kd.iso (Kd.pair (Kd.int .i64) (Kd.pair (Kd.int .i64) (Kd.pair (Kd.int .u64) Kd.string))) (fun x : S49 => (x.f0, x.f1, x.f2, x.f3))
theorem k_open {w : World} {x : S49} {cs : List Value} (h : k49.K w x cs) : cs = [.int .i64 x.f0, .int .i64 x.f1, .int .u64 x.f2, .string x.f3] := by
  obtain ⟨_, _, rfl, rfl, _, _, rfl, rfl, _, _, rfl, rfl, rfl⟩ := h
  rfl
def askOf (a : S49) : Go.Proofs.Ytobeebcpkkdkhaa.Pa.Ask := ⟨a.f0, a.f1, a.f2.toNat, a.f3⟩
def porticolaw11_PastPlays.f (k : Nat) (a0 : ByteArray) (l1 : List S49) : Option (Bool) := if l1.all (fun a => decide (0 ≤ a.f2 ∧ a.f2 < 18446744073709551616)) = true then some true else none
theorem porticolaw11_PastPlays.calls (k : Nat) (a0 : ByteArray) (A1 : Option Addr) (c1 : Nat) (l1 : List S49) (r : Bool) (w : World) (hr1 : Kd.C k49 w A1 l1.length l1) (hc1 : l1.length ≤ c1) (h : porticolaw11_PastPlays.f k a0 l1 = some r) :
    Calls Try.prog 7 #[.string a0, .slice A1 l1.length c1] w fun e w' => e = .returned (.bool r) ∧ Below w.heap.size w w' := by
  unfold porticolaw11_PastPlays.f at h
  by_cases c' : l1.all (fun a => decide (0 ≤ a.f2 ∧ a.f2 < 18446744073709551616)) = true
  · rw [if_pos c'] at h
    have c : ∀ a ∈ l1, 0 ≤ a.f2 ∧ a.f2 < 18446744073709551616 := fun a ha => of_decide_eq_true (List.all_eq_true.1 c' a ha)
    obtain rfl := Option.some.inj h
    have hlen : (l1.map askOf).length = l1.length := List.length_map _
    rw [← hlen]
    refine PastPlays_any a0 A1 c1 (l1.map askOf) w (fun i hi => ?_) (fun a ha => ?_)
    · rw [hlen] at hi
      obtain ⟨ad, cs, e, _, hK, hcc⟩ := Kd.C_get hr1 ⟨0, 0, 0, ⟨#[]⟩⟩ (i : Int) (by omega) (by omega)
      have hcs := k_open hK
      subst hcs
      have hg : l1.getD (i : Int).toNat ⟨0, 0, 0, ⟨#[]⟩⟩ = l1[i] := by simp [List.getD_eq_getElem?_getD, hi]
      rw [hg] at hcc
      have hs : ∀ j, (i : Int).toNat * k49.sz + j = i * 4 + j := fun j => by show (i : Int).toNat * 4 + j = i * 4 + j; omega
      have h0 := hcc 0 _ rfl
      have h1 := hcc 1 _ rfl
      have h2 := hcc 2 _ rfl
      have h3 := hcc 3 _ rfl
      rw [hs] at h0 h1 h2 h3
      have hx := c l1[i] (List.getElem_mem hi)
      refine ⟨ad, e, ?_⟩
      rw [List.getElem_map]
      refine ⟨h0, h1, ?_, h3⟩
      show w.cell? (ad.add (i * 4 + 2)) = some (.int .u64 ((l1[i].f2.toNat : Nat) : Int))
      rw [Int.toNat_of_nonneg hx.1]
      exact h2
    · obtain ⟨b, hb, rfl⟩ := List.mem_map.1 ha
      have hx := c b hb
      show b.f2.toNat < 18446744073709551616
      omega
  · rw [if_neg c'] at h
    cases h
end Go.Proofs.Ytobeebcpkkdkhaa.PPastPlays
