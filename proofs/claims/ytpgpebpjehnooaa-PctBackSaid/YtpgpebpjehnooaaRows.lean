/-
  No cell of these rows narrows 'for every input' (looked for: loops, veiled, ifaces, maps, wideKeys, modest, calm, conditions, laid).
  DERIVED. THE GIVEN ROWS OF THIS SEAT. 3 by the template 'for every input the law returns true; each argument reads behind the call as it read before'; 0 by the template 'total and deterministic' (their statements: YtpgpebpjehnooaaTotals.lean).
  GIVEN WITH THE SEED: the statements are not yours to turn. If you find one false, say at which input.
  Laid BY PROGRAM, IN A SANDBOX (cutbox-rows.mjs): the forced cells as the released guide's own fill.sh prints them over the translation 8b1f40797eb25209… (all of the seat's roots in one cut). By AI agents, Wed Nov 11 2026. No macro, syntax, notation, axiom, sorry.
-/
import Derived.Test.YtpgpebpjehnooaaChecked
import GoSem.Claim
import GoSem.ClaimJoined
import GoSem.ClaimMapViews
import Derived.JoinedTies
import Derived.KernelRfl
namespace Go.Proofs.Ytpgpebpjehnooaa
/- THE CELL 'sum', in the pinned program and in every row, IS THE sha256 OF THE DUMP (.gsa) THAT YtpgpebpjehnooaaProg.lean LOADS. Nothing in Lean hashes anything: it is a label: what it is worth is what the hold of that sum in a sandbox is worth. -/
noncomputable def Try.pinned : Pinned := { name := "ytpgpebpjehnooaa", sum := "8b1f40797eb252094d92165ec794088d8edb59461f4b129f3c1ef2ea743c7bd3", checked := Try.checked }
namespace Rows
def none {H : Type} : Left H := { results := [], args := [] }

/-- 'porticolaw3.PctRuns': WHATEVER THE INPUT: true; the input reads as it did. -/
def pctRunsSpec : ChangeSpec := { name := "pctRuns", fn := fun _ => fun
  | [] => { results := [.lit (.bool true)], args := [] }
  | _ => none }
def pctRunsRow : OpenClaim := { program := "ytpgpebpjehnooaa", sum := "8b1f40797eb252094d92165ec794088d8edb59461f4b129f3c1ef2ea743c7bd3", func := "portico/porticolaw3.PctRuns", spec := "pctRuns", inPlace := ["internal/bytealg.IndexByteString", "internal/abi.NoEscape"], apart := false }
def PctRunsSaid : Prop := pctRunsRow.holds Try.pinned (OpenSpec.ofChange pctRunsSpec)

/-- ITS FALSE NEIGHBOUR: 'it returns false'. Refute it at one input. -/
def pctRunsWrong : ChangeSpec := { name := "pctRuns", fn := fun _ => fun
  | [] => { results := [.lit (.bool false)], args := [] }
  | _ => none }
def PctRunsWrongFalsely : Prop := pctRunsRow.holds Try.pinned (OpenSpec.ofChange pctRunsWrong)

/-- 'porticolaw3.PctTells': WHATEVER THE INPUT: true; the input reads as it did. -/
def pctTellsSpec : ChangeSpec := { name := "pctTells", fn := fun _ => fun
  | [d1, d2] => { results := [.lit (.bool true)], args := [d1, d2] }
  | _ => none }
def pctTellsRow : OpenClaim := { program := "ytpgpebpjehnooaa", sum := "8b1f40797eb252094d92165ec794088d8edb59461f4b129f3c1ef2ea743c7bd3", func := "portico/porticolaw3.PctTells", spec := "pctTells", inPlace := ["internal/bytealg.IndexByteString", "internal/abi.NoEscape"], apart := false }
def PctTellsSaid : Prop := pctTellsRow.holds Try.pinned (OpenSpec.ofChange pctTellsSpec)

/-- ITS FALSE NEIGHBOUR: 'it returns false'. Refute it at one input. -/
def pctTellsWrong : ChangeSpec := { name := "pctTells", fn := fun _ => fun
  | [d1, d2] => { results := [.lit (.bool false)], args := [d1, d2] }
  | _ => none }
def PctTellsWrongFalsely : Prop := pctTellsRow.holds Try.pinned (OpenSpec.ofChange pctTellsWrong)

/-- 'porticolaw3.PctBack': WHATEVER THE INPUT: true; the input reads as it did. -/
def pctBackSpec : ChangeSpec := { name := "pctBack", fn := fun _ => fun
  | [d1, d2, d3] => { results := [.lit (.bool true)], args := [d1, d2, d3] }
  | _ => none }
def pctBackRow : OpenClaim := { program := "ytpgpebpjehnooaa", sum := "8b1f40797eb252094d92165ec794088d8edb59461f4b129f3c1ef2ea743c7bd3", func := "portico/porticolaw3.PctBack", spec := "pctBack", inPlace := ["internal/bytealg.IndexByteString", "internal/abi.NoEscape"], apart := false }
def PctBackSaid : Prop := pctBackRow.holds Try.pinned (OpenSpec.ofChange pctBackSpec)

/-- ITS FALSE NEIGHBOUR: 'it returns false'. Refute it at one input. -/
def pctBackWrong : ChangeSpec := { name := "pctBack", fn := fun _ => fun
  | [d1, d2, d3] => { results := [.lit (.bool false)], args := [d1, d2, d3] }
  | _ => none }
def PctBackWrongFalsely : Prop := pctBackRow.holds Try.pinned (OpenSpec.ofChange pctBackWrong)

/- THE SECOND FORM. 'bulk': how many values and letters a reading holds, each counted each time it is reached (what is shared counts as often as it is met; a slice's spare places count too). A statement '..UptoSaid' is the law's where the arguments, and the package variables that the reading takes, are together of bulk at most 1048576: NARROWER than '..Said'. Prove '..Said' where nothing that the law and all that it calls make is longer than what came in: it says more and counts as full. Else prove '..UptoSaid'. A law counts once. -/
mutual
def uptoBulk {H : Type} : DataW H → Nat
  | .lit (.string bytes) => bytes.length + 1
  | .lit _ => 1
  | .nil => 1
  | .ptr d => uptoBulk d + 1
  | .slice elems spare => uptoBulkAll elems + uptoBulkAll spare + 1
  | .agg parts => uptoBulkAll parts + 1
  | .iface _ d => uptoBulk d + 1
  | .map entries => uptoBulkEntries entries + 1
  | .held _ => 1
def uptoBulkAll {H : Type} : List (DataW H) → Nat
  | [] => 0
  | d :: r => uptoBulk d + uptoBulkAll r
def uptoBulkEntries {H : Type} : List (Lit × DataW H) → Nat
  | [] => 0
  | x :: r => uptoBulkEntry x + uptoBulkEntries r
def uptoBulkEntry {H : Type} : Lit × DataW H → Nat
  | (.string bytes, d) => bytes.length + uptoBulk d + 1
  | (_, d) => uptoBulk d + 1
 end
def uptoSmall : (H : Type) → List (DataW H) → Bool := fun _ ds => decide (uptoBulkAll ds ≤ 1048576)
def OpenSpec.upto (s : _root_.Go.ChangeSpec) : _root_.Go.OpenSpec := { _root_.Go.OpenSpec.ofChange s with cond := some uptoSmall }

/-- 'porticolaw3.PctRuns', WHERE WHAT IT READS IS OF BULK AT MOST 1048576: true; the input reads as it did. -/
def pctRunsUptoRow : OpenClaim := { program := "ytpgpebpjehnooaa", sum := "8b1f40797eb252094d92165ec794088d8edb59461f4b129f3c1ef2ea743c7bd3", func := "portico/porticolaw3.PctRuns", spec := "pctRuns", inPlace := ["internal/bytealg.IndexByteString", "internal/abi.NoEscape"], apart := false, narrowed := true }
def PctRunsUptoSaid : Prop := pctRunsUptoRow.holds Try.pinned (OpenSpec.upto pctRunsSpec)

/-- 'porticolaw3.PctTells', WHERE WHAT IT READS IS OF BULK AT MOST 1048576: true; the input reads as it did. -/
def pctTellsUptoRow : OpenClaim := { program := "ytpgpebpjehnooaa", sum := "8b1f40797eb252094d92165ec794088d8edb59461f4b129f3c1ef2ea743c7bd3", func := "portico/porticolaw3.PctTells", spec := "pctTells", inPlace := ["internal/bytealg.IndexByteString", "internal/abi.NoEscape"], apart := false, narrowed := true }
def PctTellsUptoSaid : Prop := pctTellsUptoRow.holds Try.pinned (OpenSpec.upto pctTellsSpec)

/-- 'porticolaw3.PctBack', WHERE WHAT IT READS IS OF BULK AT MOST 1048576: true; the input reads as it did. -/
def pctBackUptoRow : OpenClaim := { program := "ytpgpebpjehnooaa", sum := "8b1f40797eb252094d92165ec794088d8edb59461f4b129f3c1ef2ea743c7bd3", func := "portico/porticolaw3.PctBack", spec := "pctBack", inPlace := ["internal/bytealg.IndexByteString", "internal/abi.NoEscape"], apart := false, narrowed := true }
def PctBackUptoSaid : Prop := pctBackUptoRow.holds Try.pinned (OpenSpec.upto pctBackSpec)

end Rows
end Go.Proofs.Ytpgpebpjehnooaa
