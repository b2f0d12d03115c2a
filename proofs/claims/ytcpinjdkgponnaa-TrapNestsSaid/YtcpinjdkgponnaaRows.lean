/-
  No cell of these rows narrows 'for every input' (looked for: loops, veiled, ifaces, maps, wideKeys, modest, calm, conditions, laid).
  DERIVED. THE GIVEN ROWS OF THIS SEAT. 4 by the template 'for every input the law returns true; each argument reads behind the call as it read before'; 0 by the template 'total and deterministic' (their statements: YtcpinjdkgponnaaTotals.lean).
  GIVEN WITH THE SEED: the statements are not yours to turn. If you find one false, say at which input.
  Laid BY PROGRAM, IN A SANDBOX (cutbox-rows.mjs): the forced cells as the released guide's own fill.sh prints them over the translation 97f09f4e6f4f6cec… (all of the seat's roots in one cut). By AI agents, Wed Nov 11 2026. No macro, syntax, notation, axiom, sorry.
-/
import Derived.Test.YtcpinjdkgponnaaChecked
import GoSem.Claim
import GoSem.ClaimJoined
import GoSem.ClaimMapViews
import Derived.JoinedTies
import Derived.KernelRfl
namespace Go.Proofs.Ytcpinjdkgponnaa
/- THE CELL 'sum', in the pinned program and in every row, IS THE sha256 OF THE DUMP (.gsa) THAT YtcpinjdkgponnaaProg.lean LOADS. Nothing in Lean hashes anything: it is a label: what it is worth is what the hold of that sum in a sandbox is worth. -/
noncomputable def Try.pinned : Pinned := { name := "ytcpinjdkgponnaa", sum := "97f09f4e6f4f6cec08e1673865e8c4a9fa9fee96984a0e64effd761584ce7889", checked := Try.checked }
namespace Rows
def none {H : Type} : Left H := { results := [], args := [] }

/-- 'porticolaw2.TrapRuns': WHATEVER THE INPUT: true; the input reads as it did. -/
def trapRunsSpec : ChangeSpec := { name := "trapRuns", fn := fun _ => fun
  | [] => { results := [.lit (.bool true)], args := [] }
  | _ => none }
def trapRunsRow : OpenClaim := { program := "ytcpinjdkgponnaa", sum := "97f09f4e6f4f6cec08e1673865e8c4a9fa9fee96984a0e64effd761584ce7889", func := "portico/porticolaw2.TrapRuns", spec := "trapRuns", unfollowed := true, recurses := true, apart := false }
def TrapRunsSaid : Prop := trapRunsRow.holds Try.pinned (OpenSpec.ofChange trapRunsSpec)

/-- ITS FALSE NEIGHBOUR: 'it returns false'. Refute it at one input. -/
def trapRunsWrong : ChangeSpec := { name := "trapRuns", fn := fun _ => fun
  | [] => { results := [.lit (.bool false)], args := [] }
  | _ => none }
def TrapRunsWrongFalsely : Prop := trapRunsRow.holds Try.pinned (OpenSpec.ofChange trapRunsWrong)

/-- 'porticolaw2.TrapCatches': WHATEVER THE INPUT: true; the input reads as it did. -/
def trapCatchesSpec : ChangeSpec := { name := "trapCatches", fn := fun _ => fun
  | [d1, d2, d3, d4] => { results := [.lit (.bool true)], args := [d1, d2, d3, d4] }
  | _ => none }
def trapCatchesRow : OpenClaim := { program := "ytcpinjdkgponnaa", sum := "97f09f4e6f4f6cec08e1673865e8c4a9fa9fee96984a0e64effd761584ce7889", func := "portico/porticolaw2.TrapCatches", spec := "trapCatches", unfollowed := true, recurses := true, apart := false }
def TrapCatchesSaid : Prop := trapCatchesRow.holds Try.pinned (OpenSpec.ofChange trapCatchesSpec)

/-- ITS FALSE NEIGHBOUR: 'it returns false'. Refute it at one input. -/
def trapCatchesWrong : ChangeSpec := { name := "trapCatches", fn := fun _ => fun
  | [d1, d2, d3, d4] => { results := [.lit (.bool false)], args := [d1, d2, d3, d4] }
  | _ => none }
def TrapCatchesWrongFalsely : Prop := trapCatchesRow.holds Try.pinned (OpenSpec.ofChange trapCatchesWrong)

/-- 'porticolaw2.TrapMany': WHATEVER THE INPUT: true; the input reads as it did. -/
def trapManySpec : ChangeSpec := { name := "trapMany", fn := fun _ => fun
  | [d1, d2] => { results := [.lit (.bool true)], args := [d1, d2] }
  | _ => none }
def trapManyRow : OpenClaim := { program := "ytcpinjdkgponnaa", sum := "97f09f4e6f4f6cec08e1673865e8c4a9fa9fee96984a0e64effd761584ce7889", func := "portico/porticolaw2.TrapMany", spec := "trapMany", unfollowed := true, recurses := true, apart := false }
def TrapManySaid : Prop := trapManyRow.holds Try.pinned (OpenSpec.ofChange trapManySpec)

/-- ITS FALSE NEIGHBOUR: 'it returns false'. Refute it at one input. -/
def trapManyWrong : ChangeSpec := { name := "trapMany", fn := fun _ => fun
  | [d1, d2] => { results := [.lit (.bool false)], args := [d1, d2] }
  | _ => none }
def TrapManyWrongFalsely : Prop := trapManyRow.holds Try.pinned (OpenSpec.ofChange trapManyWrong)

/-- 'porticolaw2.TrapNests': WHATEVER THE INPUT: true; the input reads as it did. -/
def trapNestsSpec : ChangeSpec := { name := "trapNests", fn := fun _ => fun
  | [d1, d2] => { results := [.lit (.bool true)], args := [d1, d2] }
  | _ => none }
def trapNestsRow : OpenClaim := { program := "ytcpinjdkgponnaa", sum := "97f09f4e6f4f6cec08e1673865e8c4a9fa9fee96984a0e64effd761584ce7889", func := "portico/porticolaw2.TrapNests", spec := "trapNests", unfollowed := true, recurses := true, apart := false }
def TrapNestsSaid : Prop := trapNestsRow.holds Try.pinned (OpenSpec.ofChange trapNestsSpec)

/-- ITS FALSE NEIGHBOUR: 'it returns false'. Refute it at one input. -/
def trapNestsWrong : ChangeSpec := { name := "trapNests", fn := fun _ => fun
  | [d1, d2] => { results := [.lit (.bool false)], args := [d1, d2] }
  | _ => none }
def TrapNestsWrongFalsely : Prop := trapNestsRow.holds Try.pinned (OpenSpec.ofChange trapNestsWrong)

/- THE SECOND FORM. 'bulk': how many values and letters a reading holds, each counted each time it is reached (what is shared counts as often as it is met; a slice's spare places count too). A statement '..UptoSaid' is the law's where the arguments, and the package variables that the reading takes, are together of bulk at most 1048576: NARROWER than '..Said'. Prove '..Said' where nothing that the law and all that it calls make is longer than what came in: it says more and counts as full. Else prove '..UptoSaid'. A law counts once. -/
mutual
def uptoBulk {H : Type} : DataW H → Nat
  | .lit (.string bytes) => bytes.length + 1
  | .lit _ => 1
  | .nil => 1
  | .ptr d => uptoBulk d + 1
  | .slice elems spare => uptoBulkAll elems + uptoBulkAll spare + 1
  | .agg parts => uptoBulkAll parts + 1
  | .iface _ d => uptoBulk d + 1
  | .map entries => uptoBulkEntries entries + 1
  | .held _ => 1
def uptoBulkAll {H : Type} : List (DataW H) → Nat
  | [] => 0
  | d :: r => uptoBulk d + uptoBulkAll r
def uptoBulkEntries {H : Type} : List (Lit × DataW H) → Nat
  | [] => 0
  | x :: r => uptoBulkEntry x + uptoBulkEntries r
def uptoBulkEntry {H : Type} : Lit × DataW H → Nat
  | (.string bytes, d) => bytes.length + uptoBulk d + 1
  | (_, d) => uptoBulk d + 1
 end
def uptoSmall : (H : Type) → List (DataW H) → Bool := fun _ ds => decide (uptoBulkAll ds ≤ 1048576)
def OpenSpec.upto (s : _root_.Go.ChangeSpec) : _root_.Go.OpenSpec := { _root_.Go.OpenSpec.ofChange s with cond := some uptoSmall }

/-- 'porticolaw2.TrapRuns', WHERE WHAT IT READS IS OF BULK AT MOST 1048576: true; the input reads as it did. -/
def trapRunsUptoRow : OpenClaim := { program := "ytcpinjdkgponnaa", sum := "97f09f4e6f4f6cec08e1673865e8c4a9fa9fee96984a0e64effd761584ce7889", func := "portico/porticolaw2.TrapRuns", spec := "trapRuns", unfollowed := true, recurses := true, apart := false, narrowed := true }
def TrapRunsUptoSaid : Prop := trapRunsUptoRow.holds Try.pinned (OpenSpec.upto trapRunsSpec)

/-- 'porticolaw2.TrapCatches', WHERE WHAT IT READS IS OF BULK AT MOST 1048576: true; the input reads as it did. -/
def trapCatchesUptoRow : OpenClaim := { program := "ytcpinjdkgponnaa", sum := "97f09f4e6f4f6cec08e1673865e8c4a9fa9fee96984a0e64effd761584ce7889", func := "portico/porticolaw2.TrapCatches", spec := "trapCatches", unfollowed := true, recurses := true, apart := false, narrowed := true }
def TrapCatchesUptoSaid : Prop := trapCatchesUptoRow.holds Try.pinned (OpenSpec.upto trapCatchesSpec)

/-- 'porticolaw2.TrapMany', WHERE WHAT IT READS IS OF BULK AT MOST 1048576: true; the input reads as it did. -/
def trapManyUptoRow : OpenClaim := { program := "ytcpinjdkgponnaa", sum := "97f09f4e6f4f6cec08e1673865e8c4a9fa9fee96984a0e64effd761584ce7889", func := "portico/porticolaw2.TrapMany", spec := "trapMany", unfollowed := true, recurses := true, apart := false, narrowed := true }
def TrapManyUptoSaid : Prop := trapManyUptoRow.holds Try.pinned (OpenSpec.upto trapManySpec)

/-- 'porticolaw2.TrapNests', WHERE WHAT IT READS IS OF BULK AT MOST 1048576: true; the input reads as it did. -/
def trapNestsUptoRow : OpenClaim := { program := "ytcpinjdkgponnaa", sum := "97f09f4e6f4f6cec08e1673865e8c4a9fa9fee96984a0e64effd761584ce7889", func := "portico/porticolaw2.TrapNests", spec := "trapNests", unfollowed := true, recurses := true, apart := false, narrowed := true }
def TrapNestsUptoSaid : Prop := trapNestsUptoRow.holds Try.pinned (OpenSpec.upto trapNestsSpec)

end Rows
end Go.Proofs.Ytcpinjdkgponnaa
