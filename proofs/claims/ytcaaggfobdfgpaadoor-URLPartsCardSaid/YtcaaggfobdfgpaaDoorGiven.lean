/- pct.Encode, pct.Decode, pct.Plain in the form in which printed texts call them. Conditions: texts of no more than 2^40 bytes; bytes. -/
import Derived.Test.YtcaaggfobdfgpaaDoorPctEncode
import Derived.Test.YtcaaggfobdfgpaaDoorPctDecode
import Derived.Test.YtcaaggfobdfgpaaDoorWWords
namespace Go.Proofs.YtcaaggfobdfgpaaDoor.Given
open Go.RowKit Go.Proofs.YtcaaggfobdfgpaaDoor.Pct Go.Proofs.YtcaaggfobdfgpaaDoorW.PrintWords

def pct_Encode.f (a0 : ByteArray) : Option ByteArray := if a0.size ≤ 1099511627776 then some ⟨(encL a0.data.toList).toArray⟩ else none
theorem pct_Encode.calls (a0 : ByteArray) (r : ByteArray) (w : World) (h : pct_Encode.f a0 = some r) :
    Calls Tryd.prog 27 #[.string a0] w fun e w' => e = .returned (.string r) ∧ Below w.heap.size w w' := by
  unfold pct_Encode.f at h
  split at h
  · rename_i hs
    obtain rfl := Option.some.inj h
    exact Encode_any a0 w hs
  · cases h
def pct_Decode.f (a0 : ByteArray) : Option (ByteArray × Bool) := if a0.size ≤ 1099511627776 then some (decS (decL a0.data.toList), (decL a0.data.toList).isSome) else none
theorem pct_Decode.calls (a0 : ByteArray) (r1 : ByteArray) (r2 : Bool) (w : World) (h : pct_Decode.f a0 = some (r1, r2)) :
    Calls Tryd.prog 40 #[.string a0] w fun e w' => e = .returned (.tuple #[.string r1, .bool r2]) ∧ Below w.heap.size w w' := by
  unfold pct_Decode.f at h
  split at h
  · rename_i hs
    have := Option.some.inj h
    obtain ⟨rfl, rfl⟩ := Prod.mk.inj this
    exact Decode_any a0 w hs
  · cases h
def pct_Plain.f (a0 : Int) : Option Bool := if 0 ≤ a0 ∧ a0 ≤ 255 then some (plainP a0) else none
theorem pct_Plain.calls (a0 : Int) (r : Bool) (w : World) (h : pct_Plain.f a0 = some r) :
    Calls Tryd.prog 42 #[.int .u8 a0] w fun e w' => e = .returned (.bool r) ∧ Drawn0 w w' := by
  unfold pct_Plain.f at h
  split at h
  · rename_i hs
    obtain rfl := Option.some.inj h
    refine (Plain_any a0 w hs.1 hs.2).mono ?_
    rintro e w' ⟨rfl, rfl⟩
    exact ⟨rfl, Drawn0.refl _⟩
  · cases h
end Go.Proofs.YtcaaggfobdfgpaaDoor.Given
