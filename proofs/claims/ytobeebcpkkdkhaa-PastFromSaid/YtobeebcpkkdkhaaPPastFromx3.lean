/- PastFrom in the form in which rows are written (wip/tools/rowgen.py): by hand (XPastFrom). -/
import Derived.Test.YtobeebcpkkdkhaaPastFrom
set_option linter.unusedVariables false
namespace Go.Proofs.Ytobeebcpkkdkhaa.PPastFrom
open Go.RowKit Go.Proofs.YtobeebcpkkdkhaaW.PrintWords Go.Proofs.Ytobeebcpkkdkhaa.Pa
structure S28 where
  f0 : ByteArray
  f1 : Int
def k28 : Kd S28 := Kd.iso (Kd.pair Kd.string (Kd.int .u64)) (fun x : S28 => (x.f0, x.f1))
theorem k_open {w : World} {x : S28} {cs : List Value} (h : k28.K w x cs) : cs = [.string x.f0, .int .u64 x.f1] := by
  obtain ⟨_, _, rfl, rfl, rfl⟩ := h
  rfl
abbrev E := PPastRuns.S28
def of (a : S28) : E := ⟨a.f0, a.f1⟩
theorem enc_at (l : List E) (i : Nat) (h : i < l.length) : (enc l)[i * 2]? = some (.string l[i].f0) ∧ (enc l)[i * 2 + 1]? = some (.int .u64 l[i].f1) := enc_get l i h
def porticolaw11_PastFrom.f (k : Nat) (l0 : List S28) (a1 : Int) : Option (Bool) := if l0.all (fun a => decide (0 ≤ a.f1 ∧ a.f1 < 18446744073709551616)) = true then some true else none
theorem porticolaw11_PastFrom.calls (k : Nat) (A0 : Option Addr) (c0 : Nat) (l0 : List S28) (a1 : Int) (r : Bool) (w : World) (hr0 : Kd.C k28 w A0 l0.length l0) (hc0 : l0.length ≤ c0) (h : porticolaw11_PastFrom.f k l0 a1 = some r) :
    Calls Try.prog 6 #[.slice A0 l0.length c0, .int .i64 a1] w fun e w' => e = .returned (.bool r) ∧ Below w.heap.size w w' := by
  unfold porticolaw11_PastFrom.f at h
  by_cases c' : l0.all (fun a => decide (0 ≤ a.f1 ∧ a.f1 < 18446744073709551616)) = true
  · rw [if_pos c'] at h
    have c : ∀ a ∈ l0, 0 ≤ a.f1 ∧ a.f1 < 18446744073709551616 := fun a ha => of_decide_eq_true (List.all_eq_true.1 c' a ha)
    obtain rfl := Option.some.inj h
    have hlen : (l0.map of).length = l0.length := List.length_map _
    rw [← hlen]
    refine PastFrom_any A0 c0 (l0.map of) a1 w (fun j u hu => ?_) (by rw [hlen]; exact hc0) (fun e he => ?_)
    · have hj : j < l0.length * 2 := by
        obtain ⟨hb, _⟩ := List.getElem?_eq_some_iff.1 hu
        rw [enc_length, hlen] at hb
        exact hb
      obtain ⟨i, hi, hji⟩ : ∃ i, i < l0.length ∧ (j = i * 2 ∨ j = i * 2 + 1) := ⟨j / 2, by omega, by omega⟩
      obtain ⟨ad, cs, e, _, hK, hcc⟩ := Kd.C_get hr0 ⟨⟨#[]⟩, 0⟩ (i : Int) (by omega) (by omega)
      have hcs := k_open hK
      subst hcs
      have hg : l0.getD (i : Int).toNat ⟨⟨#[]⟩, 0⟩ = l0[i] := by simp [List.getD_eq_getElem?_getD, hi]
      rw [hg] at hcc
      have hs : ∀ j, (i : Int).toNat * k28.sz + j = i * 2 + j := fun j => by show (i : Int).toNat * 2 + j = i * 2 + j; omega
      have h0 := hcc 0 _ rfl
      have h1 := hcc 1 _ rfl
      rw [hs] at h0 h1
      have hy := enc_at (l0.map of) i (by rw [hlen]; exact hi)
      rw [List.getElem_map] at hy
      refine ⟨ad, e, ?_⟩
      rcases hji with rfl | rfl
      · rw [hy.1] at hu
        cases hu
        exact h0
      · rw [hy.2] at hu
        cases hu
        exact h1
    · obtain ⟨b, hb, rfl⟩ := List.mem_map.1 he
      exact c b hb
  · rw [if_neg c'] at h
    cases h
end Go.Proofs.Ytobeebcpkkdkhaa.PPastFrom
