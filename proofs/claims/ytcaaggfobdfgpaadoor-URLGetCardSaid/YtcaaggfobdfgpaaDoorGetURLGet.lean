/- URLGet: url.Get in plain words. -/
import Derived.Test.YtcaaggfobdfgpaaDoorPURLGetx6
import Derived.Test.YtcaaggfobdfgpaaDoorRunsURLGet
set_option linter.unusedVariables false
set_option linter.unusedSimpArgs false
namespace Go.Proofs.YtcaaggfobdfgpaaDoor.UURLGet
open Go.RowKit Go.Proofs.YtcaaggfobdfgpaaDoor.PURLGet Go.Proofs.YtcaaggfobdfgpaaDoorW.PrintWords Go.Proofs.YtcaaggfobdfgpaaDoorW.PrintLast Go.Proofs.YtcaaggfobdfgpaaDoorW.PrintMore Go.Proofs.YtcaaggfobdfgpaaDoor.Pct Go.Proofs.YtcaaggfobdfgpaaDoor.UP Go.Proofs.YtcaaggfobdfgpaaDoor.Given

/-- The first value of a name. -/
def getV (name : ByteArray) : List Pr → ByteArray × Bool
  | [] => (⟨#[]⟩, false)
  | x :: r => if x.f0 = name then (x.f1, true) else getV name r
theorem get_l0 (name : ByteArray) (q : List Pr) (hq : q.length ≤ 1000) : ∀ (n i k : Nat), q.length - i ≤ n → i ≤ q.length → n < k → url_Get.l0 k name q (q.length : Int) (i : Int) = some (getV name (q.drop i)) := by
  intro n
  induction n with
  | zero =>
    intro i k h1 h2 h3
    obtain ⟨k, rfl⟩ : ∃ m, k = m + 1 := ⟨k - 1, by omega⟩
    rw [url_Get.l0, if_neg (by omega), List.drop_of_length_le (by omega)]
    rfl
  | succ n ih =>
    intro i k h1 h2 h3
    by_cases hi : i < q.length
    · obtain ⟨k, rfl⟩ : ∃ m, k = m + 1 := ⟨k - 1, by omega⟩
      have hw := Lib.hid (wrapS i (by omega))
      have hI := ih (i + 1) k (by omega) (by omega) (by omega)
      rw [url_Get.l0, if_pos (by omega), if_pos (by omega), if_pos (by omega), rdP_at q i hi, List.drop_eq_getElem_cons hi]
      unfold getV
      by_cases he : q[i].f0 = name
      · rw [if_pos (by rw [he]), if_pos he]
      · rw [if_neg (fun e => he (toList_inj e)), if_neg he, hw.out, hI]
    · exact ih i k (by omega) h2 (by omega)
theorem get_eq (p : List ByteArray) (q : List Pr) (name : ByteArray) (hq : q.length ≤ 1000) (k : Nat) (hk : 1001 ≤ k) : url_Get.f k p q name = some (getV name q) := by
  have := get_l0 name q hq q.length 0 k (by omega) (by omega) (by omega)
  unfold url_Get.f
  rw [List.drop_zero] at this
  exact this
theorem get_any (A : Option Addr) (c : Nat) (p : List ByteArray) (B : Option Addr) (d : Nat) (q : List Pr) (name : ByteArray) (w : World) (h : Kd.C Kd.string w A p.length p ∧ p.length ≤ c ∧ Kd.C k32 w B q.length q ∧ q.length ≤ d) (hq : q.length ≤ 1000) :
    Calls Tryd.prog 18 #[.agg #[.slice A p.length c, .slice B q.length d], .string name] w fun e w' => e = .returned (.tuple #[.string (getV name q).1, .bool (getV name q).2]) ∧ Below w.heap.size w w' :=
  url_Get.calls 2000 A c p B d q name (getV name q).1 (getV name q).2 w h.1 h.2.1 h.2.2.1 h.2.2.2 (get_eq p q name hq 2000 (by omega))
end Go.Proofs.YtcaaggfobdfgpaaDoor.UURLGet
