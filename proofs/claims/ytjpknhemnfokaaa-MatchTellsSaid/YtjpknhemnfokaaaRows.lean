/-
  No cell of these rows narrows 'for every input' (looked for: loops, veiled, ifaces, maps, wideKeys, modest, calm, conditions, laid).
  DERIVED. THE GIVEN ROWS OF THIS SEAT. 3 by the template 'for every input the law returns true; each argument reads behind the call as it read before'; 0 by the template 'total and deterministic' (their statements: YtjpknhemnfokaaaTotals.lean).
  GIVEN WITH THE SEED: the statements are not yours to turn. If you find one false, say at which input.
  Laid BY PROGRAM, IN A SANDBOX (cutbox-rows.mjs): the forced cells as the released guide's own fill.sh prints them over the translation f348389b4584dc71… (all of the seat's roots in one cut). By AI agents, Wed Nov 11 2026. No macro, syntax, notation, axiom, sorry.
-/
import Derived.Test.YtjpknhemnfokaaaChecked
import GoSem.Claim
import GoSem.ClaimJoined
import GoSem.ClaimMapViews
import Derived.JoinedTies
import Derived.KernelRfl
namespace Go.Proofs.Ytjpknhemnfokaaa
/- THE CELL 'sum', in the pinned program and in every row, IS THE sha256 OF THE DUMP (.gsa) THAT YtjpknhemnfokaaaProg.lean LOADS. Nothing in Lean hashes anything: it is a label: what it is worth is what the hold of that sum in a sandbox is worth. -/
noncomputable def Try.pinned : Pinned := { name := "ytjpknhemnfokaaa", sum := "f348389b4584dc71a34a75df3cb23146f1a9336c11d5043045bf89df162dfce6", checked := Try.checked }
namespace Rows
def none {H : Type} : Left H := { results := [], args := [] }

/-- 'porticolaw14.MatchRuns': WHATEVER THE INPUT: true; the input reads as it did. -/
def matchRunsSpec : ChangeSpec := { name := "matchRuns", fn := fun _ => fun
  | [] => { results := [.lit (.bool true)], args := [] }
  | _ => none }
def matchRunsRow : OpenClaim := { program := "ytjpknhemnfokaaa", sum := "f348389b4584dc71a34a75df3cb23146f1a9336c11d5043045bf89df162dfce6", func := "portico/porticolaw14.MatchRuns", spec := "matchRuns", plainKeys := false, apart := false }
def MatchRunsSaid : Prop := matchRunsRow.holds Try.pinned (OpenSpec.ofChange matchRunsSpec)

/-- ITS FALSE NEIGHBOUR: 'it returns false'. Refute it at one input. -/
def matchRunsWrong : ChangeSpec := { name := "matchRuns", fn := fun _ => fun
  | [] => { results := [.lit (.bool false)], args := [] }
  | _ => none }
def MatchRunsWrongFalsely : Prop := matchRunsRow.holds Try.pinned (OpenSpec.ofChange matchRunsWrong)

/-- 'porticolaw14.MatchTells': WHATEVER THE INPUT: true; the input reads as it did. -/
def matchTellsSpec : ChangeSpec := { name := "matchTells", fn := fun _ => fun
  | [d1, d2] => { results := [.lit (.bool true)], args := [d1, d2] }
  | _ => none }
def matchTellsRow : OpenClaim := { program := "ytjpknhemnfokaaa", sum := "f348389b4584dc71a34a75df3cb23146f1a9336c11d5043045bf89df162dfce6", func := "portico/porticolaw14.MatchTells", spec := "matchTells", plainKeys := false, apart := false }
def MatchTellsSaid : Prop := matchTellsRow.holds Try.pinned (OpenSpec.ofChange matchTellsSpec)

/-- ITS FALSE NEIGHBOUR: 'it returns false'. Refute it at one input. -/
def matchTellsWrong : ChangeSpec := { name := "matchTells", fn := fun _ => fun
  | [d1, d2] => { results := [.lit (.bool false)], args := [d1, d2] }
  | _ => none }
def MatchTellsWrongFalsely : Prop := matchTellsRow.holds Try.pinned (OpenSpec.ofChange matchTellsWrong)

/-- 'porticolaw14.MatchTurned': WHATEVER THE INPUT: true; the input reads as it did. -/
def matchTurnedSpec : ChangeSpec := { name := "matchTurned", fn := fun _ => fun
  | [d1, d2, d3] => { results := [.lit (.bool true)], args := [d1, d2, d3] }
  | _ => none }
def matchTurnedRow : OpenClaim := { program := "ytjpknhemnfokaaa", sum := "f348389b4584dc71a34a75df3cb23146f1a9336c11d5043045bf89df162dfce6", func := "portico/porticolaw14.MatchTurned", spec := "matchTurned", plainKeys := false, apart := false }
def MatchTurnedSaid : Prop := matchTurnedRow.holds Try.pinned (OpenSpec.ofChange matchTurnedSpec)

/-- ITS FALSE NEIGHBOUR: 'it returns false'. Refute it at one input. -/
def matchTurnedWrong : ChangeSpec := { name := "matchTurned", fn := fun _ => fun
  | [d1, d2, d3] => { results := [.lit (.bool false)], args := [d1, d2, d3] }
  | _ => none }
def MatchTurnedWrongFalsely : Prop := matchTurnedRow.holds Try.pinned (OpenSpec.ofChange matchTurnedWrong)

/- THE SECOND FORM. 'bulk': how many values and letters a reading holds, each counted each time it is reached (what is shared counts as often as it is met; a slice's spare places count too). A statement '..UptoSaid' is the law's where the arguments, and the package variables that the reading takes, are together of bulk at most 1048576: NARROWER than '..Said'. Prove '..Said' where nothing that the law and all that it calls make is longer than what came in: it says more and counts as full. Else prove '..UptoSaid'. A law counts once. -/
mutual
def uptoBulk {H : Type} : DataW H → Nat
  | .lit (.string bytes) => bytes.length + 1
  | .lit _ => 1
  | .nil => 1
  | .ptr d => uptoBulk d + 1
  | .slice elems spare => uptoBulkAll elems + uptoBulkAll spare + 1
  | .agg parts => uptoBulkAll parts + 1
  | .iface _ d => uptoBulk d + 1
  | .map entries => uptoBulkEntries entries + 1
  | .held _ => 1
def uptoBulkAll {H : Type} : List (DataW H) → Nat
  | [] => 0
  | d :: r => uptoBulk d + uptoBulkAll r
def uptoBulkEntries {H : Type} : List (Lit × DataW H) → Nat
  | [] => 0
  | x :: r => uptoBulkEntry x + uptoBulkEntries r
def uptoBulkEntry {H : Type} : Lit × DataW H → Nat
  | (.string bytes, d) => bytes.length + uptoBulk d + 1
  | (_, d) => uptoBulk d + 1
 end
def uptoSmall : (H : Type) → List (DataW H) → Bool := fun _ ds => decide (uptoBulkAll ds ≤ 1048576)
def OpenSpec.upto (s : _root_.Go.ChangeSpec) : _root_.Go.OpenSpec := { _root_.Go.OpenSpec.ofChange s with cond := some uptoSmall }

/-- 'porticolaw14.MatchRuns', WHERE WHAT IT READS IS OF BULK AT MOST 1048576: true; the input reads as it did. -/
def matchRunsUptoRow : OpenClaim := { program := "ytjpknhemnfokaaa", sum := "f348389b4584dc71a34a75df3cb23146f1a9336c11d5043045bf89df162dfce6", func := "portico/porticolaw14.MatchRuns", spec := "matchRuns", plainKeys := false, apart := false, narrowed := true }
def MatchRunsUptoSaid : Prop := matchRunsUptoRow.holds Try.pinned (OpenSpec.upto matchRunsSpec)

/-- 'porticolaw14.MatchTells', WHERE WHAT IT READS IS OF BULK AT MOST 1048576: true; the input reads as it did. -/
def matchTellsUptoRow : OpenClaim := { program := "ytjpknhemnfokaaa", sum := "f348389b4584dc71a34a75df3cb23146f1a9336c11d5043045bf89df162dfce6", func := "portico/porticolaw14.MatchTells", spec := "matchTells", plainKeys := false, apart := false, narrowed := true }
def MatchTellsUptoSaid : Prop := matchTellsUptoRow.holds Try.pinned (OpenSpec.upto matchTellsSpec)

/-- 'porticolaw14.MatchTurned', WHERE WHAT IT READS IS OF BULK AT MOST 1048576: true; the input reads as it did. -/
def matchTurnedUptoRow : OpenClaim := { program := "ytjpknhemnfokaaa", sum := "f348389b4584dc71a34a75df3cb23146f1a9336c11d5043045bf89df162dfce6", func := "portico/porticolaw14.MatchTurned", spec := "matchTurned", plainKeys := false, apart := false, narrowed := true }
def MatchTurnedUptoSaid : Prop := matchTurnedUptoRow.holds Try.pinned (OpenSpec.upto matchTurnedSpec)

end Rows
end Go.Proofs.Ytjpknhemnfokaaa
