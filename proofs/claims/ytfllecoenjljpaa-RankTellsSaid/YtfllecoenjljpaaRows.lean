/-
  No cell of these rows narrows 'for every input' (looked for: loops, veiled, ifaces, maps, wideKeys, modest, calm, conditions, laid).
  DERIVED. THE GIVEN ROWS OF THIS SEAT. 4 by the template 'for every input the law returns true; each argument reads behind the call as it read before'; 0 by the template 'total and deterministic' (their statements: YtfllecoenjljpaaTotals.lean).
  GIVEN WITH THE SEED: the statements are not yours to turn. If you find one false, say at which input.
  Laid BY PROGRAM, IN A SANDBOX (cutbox-rows.mjs): the forced cells as the released guide's own fill.sh prints them over the translation fb650231889f635d… (all of the seat's roots in one cut). By AI agents, Wed Nov 11 2026. No macro, syntax, notation, axiom, sorry.
-/
import Derived.Test.YtfllecoenjljpaaChecked
import GoSem.Claim
import GoSem.ClaimJoined
import GoSem.ClaimMapViews
import Derived.JoinedTies
import Derived.KernelRfl
namespace Go.Proofs.Ytfllecoenjljpaa
/- THE CELL 'sum', in the pinned program and in every row, IS THE sha256 OF THE DUMP (.gsa) THAT YtfllecoenjljpaaProg.lean LOADS. Nothing in Lean hashes anything: it is a label: what it is worth is what the hold of that sum in a sandbox is worth. -/
noncomputable def Try.pinned : Pinned := { name := "ytfllecoenjljpaa", sum := "fb650231889f635d26210e8ed7c5875c0039a7c6406b52a0a63152e13ffa3752", checked := Try.checked }
namespace Rows
def none {H : Type} : Left H := { results := [], args := [] }

/-- 'porticolaw6.RankRuns': WHATEVER THE INPUT: true; the input reads as it did. -/
def rankRunsSpec : ChangeSpec := { name := "rankRuns", fn := fun _ => fun
  | [] => { results := [.lit (.bool true)], args := [] }
  | _ => none }
def rankRunsRow : OpenClaim := { program := "ytfllecoenjljpaa", sum := "fb650231889f635d26210e8ed7c5875c0039a7c6406b52a0a63152e13ffa3752", func := "portico/porticolaw6.RankRuns", spec := "rankRuns", apart := false }
def RankRunsSaid : Prop := rankRunsRow.holds Try.pinned (OpenSpec.ofChange rankRunsSpec)

/-- ITS FALSE NEIGHBOUR: 'it returns false'. Refute it at one input. -/
def rankRunsWrong : ChangeSpec := { name := "rankRuns", fn := fun _ => fun
  | [] => { results := [.lit (.bool false)], args := [] }
  | _ => none }
def RankRunsWrongFalsely : Prop := rankRunsRow.holds Try.pinned (OpenSpec.ofChange rankRunsWrong)

/-- 'porticolaw6.RankOrder': WHATEVER THE INPUT: true; the input reads as it did. -/
def rankOrderSpec : ChangeSpec := { name := "rankOrder", fn := fun _ => fun
  | [d1, d2, d3, d4] => { results := [.lit (.bool true)], args := [d1, d2, d3, d4] }
  | _ => none }
def rankOrderRow : OpenClaim := { program := "ytfllecoenjljpaa", sum := "fb650231889f635d26210e8ed7c5875c0039a7c6406b52a0a63152e13ffa3752", func := "portico/porticolaw6.RankOrder", spec := "rankOrder", apart := false }
def RankOrderSaid : Prop := rankOrderRow.holds Try.pinned (OpenSpec.ofChange rankOrderSpec)

/-- ITS FALSE NEIGHBOUR: 'it returns false'. Refute it at one input. -/
def rankOrderWrong : ChangeSpec := { name := "rankOrder", fn := fun _ => fun
  | [d1, d2, d3, d4] => { results := [.lit (.bool false)], args := [d1, d2, d3, d4] }
  | _ => none }
def RankOrderWrongFalsely : Prop := rankOrderRow.holds Try.pinned (OpenSpec.ofChange rankOrderWrong)

/-- 'porticolaw6.RankTells': WHATEVER THE INPUT: true; the input reads as it did. -/
def rankTellsSpec : ChangeSpec := { name := "rankTells", fn := fun _ => fun
  | [d1, d2] => { results := [.lit (.bool true)], args := [d1, d2] }
  | _ => none }
def rankTellsRow : OpenClaim := { program := "ytfllecoenjljpaa", sum := "fb650231889f635d26210e8ed7c5875c0039a7c6406b52a0a63152e13ffa3752", func := "portico/porticolaw6.RankTells", spec := "rankTells", unfollowed := true, recurses := true, apart := false }
def RankTellsSaid : Prop := rankTellsRow.holds Try.pinned (OpenSpec.ofChange rankTellsSpec)

/-- ITS FALSE NEIGHBOUR: 'it returns false'. Refute it at one input. -/
def rankTellsWrong : ChangeSpec := { name := "rankTells", fn := fun _ => fun
  | [d1, d2] => { results := [.lit (.bool false)], args := [d1, d2] }
  | _ => none }
def RankTellsWrongFalsely : Prop := rankTellsRow.holds Try.pinned (OpenSpec.ofChange rankTellsWrong)

/-- 'porticolaw6.RankSorted': WHATEVER THE INPUT: true; the input reads as it did. -/
def rankSortedSpec : ChangeSpec := { name := "rankSorted", fn := fun _ => fun
  | [d1, d2, d3] => { results := [.lit (.bool true)], args := [d1, d2, d3] }
  | _ => none }
def rankSortedRow : OpenClaim := { program := "ytfllecoenjljpaa", sum := "fb650231889f635d26210e8ed7c5875c0039a7c6406b52a0a63152e13ffa3752", func := "portico/porticolaw6.RankSorted", spec := "rankSorted", unfollowed := true, recurses := true, apart := false }
def RankSortedSaid : Prop := rankSortedRow.holds Try.pinned (OpenSpec.ofChange rankSortedSpec)

/-- ITS FALSE NEIGHBOUR: 'it returns false'. Refute it at one input. -/
def rankSortedWrong : ChangeSpec := { name := "rankSorted", fn := fun _ => fun
  | [d1, d2, d3] => { results := [.lit (.bool false)], args := [d1, d2, d3] }
  | _ => none }
def RankSortedWrongFalsely : Prop := rankSortedRow.holds Try.pinned (OpenSpec.ofChange rankSortedWrong)

/- THE SECOND FORM. 'bulk': how many values and letters a reading holds, each counted each time it is reached (what is shared counts as often as it is met; a slice's spare places count too). A statement '..UptoSaid' is the law's where the arguments, and the package variables that the reading takes, are together of bulk at most 1048576: NARROWER than '..Said'. Prove '..Said' where nothing that the law and all that it calls make is longer than what came in: it says more and counts as full. Else prove '..UptoSaid'. A law counts once. -/
mutual
def uptoBulk {H : Type} : DataW H → Nat
  | .lit (.string bytes) => bytes.length + 1
  | .lit _ => 1
  | .nil => 1
  | .ptr d => uptoBulk d + 1
  | .slice elems spare => uptoBulkAll elems + uptoBulkAll spare + 1
  | .agg parts => uptoBulkAll parts + 1
  | .iface _ d => uptoBulk d + 1
  | .map entries => uptoBulkEntries entries + 1
  | .held _ => 1
def uptoBulkAll {H : Type} : List (DataW H) → Nat
  | [] => 0
  | d :: r => uptoBulk d + uptoBulkAll r
def uptoBulkEntries {H : Type} : List (Lit × DataW H) → Nat
  | [] => 0
  | x :: r => uptoBulkEntry x + uptoBulkEntries r
def uptoBulkEntry {H : Type} : Lit × DataW H → Nat
  | (.string bytes, d) => bytes.length + uptoBulk d + 1
  | (_, d) => uptoBulk d + 1
 end
def uptoSmall : (H : Type) → List (DataW H) → Bool := fun _ ds => decide (uptoBulkAll ds ≤ 1048576)
def OpenSpec.upto (s : _root_.Go.ChangeSpec) : _root_.Go.OpenSpec := { _root_.Go.OpenSpec.ofChange s with cond := some uptoSmall }

/-- 'porticolaw6.RankRuns', WHERE WHAT IT READS IS OF BULK AT MOST 1048576: true; the input reads as it did. -/
def rankRunsUptoRow : OpenClaim := { program := "ytfllecoenjljpaa", sum := "fb650231889f635d26210e8ed7c5875c0039a7c6406b52a0a63152e13ffa3752", func := "portico/porticolaw6.RankRuns", spec := "rankRuns", apart := false, narrowed := true }
def RankRunsUptoSaid : Prop := rankRunsUptoRow.holds Try.pinned (OpenSpec.upto rankRunsSpec)

/-- 'porticolaw6.RankOrder', WHERE WHAT IT READS IS OF BULK AT MOST 1048576: true; the input reads as it did. -/
def rankOrderUptoRow : OpenClaim := { program := "ytfllecoenjljpaa", sum := "fb650231889f635d26210e8ed7c5875c0039a7c6406b52a0a63152e13ffa3752", func := "portico/porticolaw6.RankOrder", spec := "rankOrder", apart := false, narrowed := true }
def RankOrderUptoSaid : Prop := rankOrderUptoRow.holds Try.pinned (OpenSpec.upto rankOrderSpec)

/-- 'porticolaw6.RankTells', WHERE WHAT IT READS IS OF BULK AT MOST 1048576: true; the input reads as it did. -/
def rankTellsUptoRow : OpenClaim := { program := "ytfllecoenjljpaa", sum := "fb650231889f635d26210e8ed7c5875c0039a7c6406b52a0a63152e13ffa3752", func := "portico/porticolaw6.RankTells", spec := "rankTells", unfollowed := true, recurses := true, apart := false, narrowed := true }
def RankTellsUptoSaid : Prop := rankTellsUptoRow.holds Try.pinned (OpenSpec.upto rankTellsSpec)

/-- 'porticolaw6.RankSorted', WHERE WHAT IT READS IS OF BULK AT MOST 1048576: true; the input reads as it did. -/
def rankSortedUptoRow : OpenClaim := { program := "ytfllecoenjljpaa", sum := "fb650231889f635d26210e8ed7c5875c0039a7c6406b52a0a63152e13ffa3752", func := "portico/porticolaw6.RankSorted", spec := "rankSorted", unfollowed := true, recurses := true, apart := false, narrowed := true }
def RankSortedUptoSaid : Prop := rankSortedUptoRow.holds Try.pinned (OpenSpec.upto rankSortedSpec)

end Rows
end Go.Proofs.Ytfllecoenjljpaa
