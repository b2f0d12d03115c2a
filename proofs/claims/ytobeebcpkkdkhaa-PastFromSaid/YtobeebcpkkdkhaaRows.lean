/-
  No cell of these rows narrows 'for every input' (looked for: loops, veiled, ifaces, maps, wideKeys, modest, calm, conditions, laid).
  DERIVED. THE GIVEN ROWS OF THIS SEAT. 5 by the template 'for every input the law returns true; each argument reads behind the call as it read before'; 0 by the template 'total and deterministic' (their statements: YtobeebcpkkdkhaaTotals.lean).
  GIVEN WITH THE SEED: the statements are not yours to turn. If you find one false, say at which input.
  Laid BY PROGRAM, IN A SANDBOX (cutbox-rows.mjs): the forced cells as the released guide's own fill.sh prints them over the translation 0c083b13955da6d2… (all of the seat's roots in one cut). By AI agents, Wed Nov 11 2026. No macro, syntax, notation, axiom, sorry.
-/
import Derived.Test.YtobeebcpkkdkhaaChecked
import GoSem.Claim
import GoSem.ClaimJoined
import GoSem.ClaimMapViews
import Derived.JoinedTies
import Derived.KernelRfl
namespace Go.Proofs.Ytobeebcpkkdkhaa
/- THE CELL 'sum', in the pinned program and in every row, IS THE sha256 OF THE DUMP (.gsa) THAT YtobeebcpkkdkhaaProg.lean LOADS. Nothing in Lean hashes anything: it is a label: what it is worth is what the hold of that sum in a sandbox is worth. -/
noncomputable def Try.pinned : Pinned := { name := "ytobeebcpkkdkhaa", sum := "0c083b13955da6d2e4a14b9ea428e2e3c714748ecde3dd67539f667e7fa75855", checked := Try.checked }
namespace Rows
def none {H : Type} : Left H := { results := [], args := [] }

/-- 'porticolaw11.PastRuns': WHATEVER THE INPUT: true; the input reads as it did. -/
def pastRunsSpec : ChangeSpec := { name := "pastRuns", fn := fun _ => fun
  | [] => { results := [.lit (.bool true)], args := [] }
  | _ => none }
def pastRunsRow : OpenClaim := { program := "ytobeebcpkkdkhaa", sum := "0c083b13955da6d2e4a14b9ea428e2e3c714748ecde3dd67539f667e7fa75855", func := "portico/porticolaw11.PastRuns", spec := "pastRuns", apart := false }
def PastRunsSaid : Prop := pastRunsRow.holds Try.pinned (OpenSpec.ofChange pastRunsSpec)

/-- ITS FALSE NEIGHBOUR: 'it returns false'. Refute it at one input. -/
def pastRunsWrong : ChangeSpec := { name := "pastRuns", fn := fun _ => fun
  | [] => { results := [.lit (.bool false)], args := [] }
  | _ => none }
def PastRunsWrongFalsely : Prop := pastRunsRow.holds Try.pinned (OpenSpec.ofChange pastRunsWrong)

/-- 'porticolaw11.PastThere': WHATEVER THE INPUT: true; the input reads as it did. -/
def pastThereSpec : ChangeSpec := { name := "pastThere", fn := fun _ => fun
  | [d1, d2, d3, d4] => { results := [.lit (.bool true)], args := [d1, d2, d3, d4] }
  | _ => none }
def pastThereRow : OpenClaim := { program := "ytobeebcpkkdkhaa", sum := "0c083b13955da6d2e4a14b9ea428e2e3c714748ecde3dd67539f667e7fa75855", func := "portico/porticolaw11.PastThere", spec := "pastThere", apart := false }
def PastThereSaid : Prop := pastThereRow.holds Try.pinned (OpenSpec.ofChange pastThereSpec)

/-- ITS FALSE NEIGHBOUR: 'it returns false'. Refute it at one input. -/
def pastThereWrong : ChangeSpec := { name := "pastThere", fn := fun _ => fun
  | [d1, d2, d3, d4] => { results := [.lit (.bool false)], args := [d1, d2, d3, d4] }
  | _ => none }
def PastThereWrongFalsely : Prop := pastThereRow.holds Try.pinned (OpenSpec.ofChange pastThereWrong)

/-- 'porticolaw11.PastFull': WHATEVER THE INPUT: true; the input reads as it did. -/
def pastFullSpec : ChangeSpec := { name := "pastFull", fn := fun _ => fun
  | [d1, d2, d3] => { results := [.lit (.bool true)], args := [d1, d2, d3] }
  | _ => none }
def pastFullRow : OpenClaim := { program := "ytobeebcpkkdkhaa", sum := "0c083b13955da6d2e4a14b9ea428e2e3c714748ecde3dd67539f667e7fa75855", func := "portico/porticolaw11.PastFull", spec := "pastFull", inPlace := ["math.Float64frombits", "math.Float64bits"], apart := false }
def PastFullSaid : Prop := pastFullRow.holds Try.pinned (OpenSpec.ofChange pastFullSpec)

/-- ITS FALSE NEIGHBOUR: 'it returns false'. Refute it at one input. -/
def pastFullWrong : ChangeSpec := { name := "pastFull", fn := fun _ => fun
  | [d1, d2, d3] => { results := [.lit (.bool false)], args := [d1, d2, d3] }
  | _ => none }
def PastFullWrongFalsely : Prop := pastFullRow.holds Try.pinned (OpenSpec.ofChange pastFullWrong)

/-- 'porticolaw11.PastFrom': WHATEVER THE INPUT: true; the input reads as it did. -/
def pastFromSpec : ChangeSpec := { name := "pastFrom", fn := fun _ => fun
  | [d1, d2] => { results := [.lit (.bool true)], args := [d1, d2] }
  | _ => none }
def pastFromRow : OpenClaim := { program := "ytobeebcpkkdkhaa", sum := "0c083b13955da6d2e4a14b9ea428e2e3c714748ecde3dd67539f667e7fa75855", func := "portico/porticolaw11.PastFrom", spec := "pastFrom", inPlace := ["math.Float64frombits", "math.Float64bits"], apart := false }
def PastFromSaid : Prop := pastFromRow.holds Try.pinned (OpenSpec.ofChange pastFromSpec)

/-- ITS FALSE NEIGHBOUR: 'it returns false'. Refute it at one input. -/
def pastFromWrong : ChangeSpec := { name := "pastFrom", fn := fun _ => fun
  | [d1, d2] => { results := [.lit (.bool false)], args := [d1, d2] }
  | _ => none }
def PastFromWrongFalsely : Prop := pastFromRow.holds Try.pinned (OpenSpec.ofChange pastFromWrong)

/-- 'porticolaw11.PastPlays': WHATEVER THE INPUT: true; the input reads as it did. -/
def pastPlaysSpec : ChangeSpec := { name := "pastPlays", fn := fun _ => fun
  | [d1, d2] => { results := [.lit (.bool true)], args := [d1, d2] }
  | _ => none }
def pastPlaysRow : OpenClaim := { program := "ytobeebcpkkdkhaa", sum := "0c083b13955da6d2e4a14b9ea428e2e3c714748ecde3dd67539f667e7fa75855", func := "portico/porticolaw11.PastPlays", spec := "pastPlays", inPlace := ["math.Float64frombits", "math.Float64bits"], apart := false }
def PastPlaysSaid : Prop := pastPlaysRow.holds Try.pinned (OpenSpec.ofChange pastPlaysSpec)

/-- ITS FALSE NEIGHBOUR: 'it returns false'. Refute it at one input. -/
def pastPlaysWrong : ChangeSpec := { name := "pastPlays", fn := fun _ => fun
  | [d1, d2] => { results := [.lit (.bool false)], args := [d1, d2] }
  | _ => none }
def PastPlaysWrongFalsely : Prop := pastPlaysRow.holds Try.pinned (OpenSpec.ofChange pastPlaysWrong)

/- THE SECOND FORM. 'bulk': how many values and letters a reading holds, each counted each time it is reached (what is shared counts as often as it is met; a slice's spare places count too). A statement '..UptoSaid' is the law's where the arguments, and the package variables that the reading takes, are together of bulk at most 1048576: NARROWER than '..Said'. Prove '..Said' where nothing that the law and all that it calls make is longer than what came in: it says more and counts as full. Else prove '..UptoSaid'. A law counts once. -/
mutual
def uptoBulk {H : Type} : DataW H → Nat
  | .lit (.string bytes) => bytes.length + 1
  | .lit _ => 1
  | .nil => 1
  | .ptr d => uptoBulk d + 1
  | .slice elems spare => uptoBulkAll elems + uptoBulkAll spare + 1
  | .agg parts => uptoBulkAll parts + 1
  | .iface _ d => uptoBulk d + 1
  | .map entries => uptoBulkEntries entries + 1
  | .held _ => 1
def uptoBulkAll {H : Type} : List (DataW H) → Nat
  | [] => 0
  | d :: r => uptoBulk d + uptoBulkAll r
def uptoBulkEntries {H : Type} : List (Lit × DataW H) → Nat
  | [] => 0
  | x :: r => uptoBulkEntry x + uptoBulkEntries r
def uptoBulkEntry {H : Type} : Lit × DataW H → Nat
  | (.string bytes, d) => bytes.length + uptoBulk d + 1
  | (_, d) => uptoBulk d + 1
 end
def uptoSmall : (H : Type) → List (DataW H) → Bool := fun _ ds => decide (uptoBulkAll ds ≤ 1048576)
def OpenSpec.upto (s : _root_.Go.ChangeSpec) : _root_.Go.OpenSpec := { _root_.Go.OpenSpec.ofChange s with cond := some uptoSmall }

/-- 'porticolaw11.PastRuns', WHERE WHAT IT READS IS OF BULK AT MOST 1048576: true; the input reads as it did. -/
def pastRunsUptoRow : OpenClaim := { program := "ytobeebcpkkdkhaa", sum := "0c083b13955da6d2e4a14b9ea428e2e3c714748ecde3dd67539f667e7fa75855", func := "portico/porticolaw11.PastRuns", spec := "pastRuns", apart := false, narrowed := true }
def PastRunsUptoSaid : Prop := pastRunsUptoRow.holds Try.pinned (OpenSpec.upto pastRunsSpec)

/-- 'porticolaw11.PastThere', WHERE WHAT IT READS IS OF BULK AT MOST 1048576: true; the input reads as it did. -/
def pastThereUptoRow : OpenClaim := { program := "ytobeebcpkkdkhaa", sum := "0c083b13955da6d2e4a14b9ea428e2e3c714748ecde3dd67539f667e7fa75855", func := "portico/porticolaw11.PastThere", spec := "pastThere", apart := false, narrowed := true }
def PastThereUptoSaid : Prop := pastThereUptoRow.holds Try.pinned (OpenSpec.upto pastThereSpec)

/-- 'porticolaw11.PastFull', WHERE WHAT IT READS IS OF BULK AT MOST 1048576: true; the input reads as it did. -/
def pastFullUptoRow : OpenClaim := { program := "ytobeebcpkkdkhaa", sum := "0c083b13955da6d2e4a14b9ea428e2e3c714748ecde3dd67539f667e7fa75855", func := "portico/porticolaw11.PastFull", spec := "pastFull", inPlace := ["math.Float64frombits", "math.Float64bits"], apart := false, narrowed := true }
def PastFullUptoSaid : Prop := pastFullUptoRow.holds Try.pinned (OpenSpec.upto pastFullSpec)

/-- 'porticolaw11.PastFrom', WHERE WHAT IT READS IS OF BULK AT MOST 1048576: true; the input reads as it did. -/
def pastFromUptoRow : OpenClaim := { program := "ytobeebcpkkdkhaa", sum := "0c083b13955da6d2e4a14b9ea428e2e3c714748ecde3dd67539f667e7fa75855", func := "portico/porticolaw11.PastFrom", spec := "pastFrom", inPlace := ["math.Float64frombits", "math.Float64bits"], apart := false, narrowed := true }
def PastFromUptoSaid : Prop := pastFromUptoRow.holds Try.pinned (OpenSpec.upto pastFromSpec)

/-- 'porticolaw11.PastPlays', WHERE WHAT IT READS IS OF BULK AT MOST 1048576: true; the input reads as it did. -/
def pastPlaysUptoRow : OpenClaim := { program := "ytobeebcpkkdkhaa", sum := "0c083b13955da6d2e4a14b9ea428e2e3c714748ecde3dd67539f667e7fa75855", func := "portico/porticolaw11.PastPlays", spec := "pastPlays", inPlace := ["math.Float64frombits", "math.Float64bits"], apart := false, narrowed := true }
def PastPlaysUptoSaid : Prop := pastPlaysUptoRow.holds Try.pinned (OpenSpec.upto pastPlaysSpec)

end Rows
end Go.Proofs.Ytobeebcpkkdkhaa
