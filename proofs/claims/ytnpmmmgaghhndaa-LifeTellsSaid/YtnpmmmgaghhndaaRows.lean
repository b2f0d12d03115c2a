/-
  No cell of these rows narrows 'for every input' (looked for: loops, veiled, ifaces, maps, wideKeys, modest, calm, conditions, laid).
  DERIVED. THE GIVEN ROWS OF THIS SEAT. 5 by the template 'for every input the law returns true; each argument reads behind the call as it read before'; 0 by the template 'total and deterministic' (their statements: YtnpmmmgaghhndaaTotals.lean).
  GIVEN WITH THE SEED: the statements are not yours to turn. If you find one false, say at which input.
  Laid BY PROGRAM, IN A SANDBOX (cutbox-rows.mjs): the forced cells as the released guide's own fill.sh prints them over the translation b367605eb99cc92b… (all of the seat's roots in one cut). By AI agents, Wed Nov 11 2026. No macro, syntax, notation, axiom, sorry.
-/
import Derived.Test.YtnpmmmgaghhndaaChecked
import GoSem.Claim
import GoSem.ClaimJoined
import GoSem.ClaimMapViews
import Derived.JoinedTies
import Derived.KernelRfl
namespace Go.Proofs.Ytnpmmmgaghhndaa
/- THE CELL 'sum', in the pinned program and in every row, IS THE sha256 OF THE DUMP (.gsa) THAT YtnpmmmgaghhndaaProg.lean LOADS. Nothing in Lean hashes anything: it is a label: what it is worth is what the hold of that sum in a sandbox is worth. -/
noncomputable def Try.pinned : Pinned := { name := "ytnpmmmgaghhndaa", sum := "b367605eb99cc92b95a204446254e17a828e02b7534314e9b5be0466302023bf", checked := Try.checked }
namespace Rows
def none {H : Type} : Left H := { results := [], args := [] }

/-- 'porticolaw19.LifeRuns': WHATEVER THE INPUT: true; the input reads as it did. -/
def lifeRunsSpec : ChangeSpec := { name := "lifeRuns", fn := fun _ => fun
  | [] => { results := [.lit (.bool true)], args := [] }
  | _ => none }
def lifeRunsRow : OpenClaim := { program := "ytnpmmmgaghhndaa", sum := "b367605eb99cc92b95a204446254e17a828e02b7534314e9b5be0466302023bf", func := "portico/porticolaw19.LifeRuns", spec := "lifeRuns", recurses := true, apart := false }
def LifeRunsSaid : Prop := lifeRunsRow.holds Try.pinned (OpenSpec.ofChange lifeRunsSpec)

/-- ITS FALSE NEIGHBOUR: 'it returns false'. Refute it at one input. -/
def lifeRunsWrong : ChangeSpec := { name := "lifeRuns", fn := fun _ => fun
  | [] => { results := [.lit (.bool false)], args := [] }
  | _ => none }
def LifeRunsWrongFalsely : Prop := lifeRunsRow.holds Try.pinned (OpenSpec.ofChange lifeRunsWrong)

/-- 'porticolaw19.LifeTells': WHATEVER THE INPUT: true; the input reads as it did. -/
def lifeTellsSpec : ChangeSpec := { name := "lifeTells", fn := fun _ => fun
  | [d1, d2] => { results := [.lit (.bool true)], args := [d1, d2] }
  | _ => none }
def lifeTellsRow : OpenClaim := { program := "ytnpmmmgaghhndaa", sum := "b367605eb99cc92b95a204446254e17a828e02b7534314e9b5be0466302023bf", func := "portico/porticolaw19.LifeTells", spec := "lifeTells", recurses := true, apart := false }
def LifeTellsSaid : Prop := lifeTellsRow.holds Try.pinned (OpenSpec.ofChange lifeTellsSpec)

/-- ITS FALSE NEIGHBOUR: 'it returns false'. Refute it at one input. -/
def lifeTellsWrong : ChangeSpec := { name := "lifeTells", fn := fun _ => fun
  | [d1, d2] => { results := [.lit (.bool false)], args := [d1, d2] }
  | _ => none }
def LifeTellsWrongFalsely : Prop := lifeTellsRow.holds Try.pinned (OpenSpec.ofChange lifeTellsWrong)

/-- 'porticolaw19.LifeBegins': WHATEVER THE INPUT: true; the input reads as it did. -/
def lifeBeginsSpec : ChangeSpec := { name := "lifeBegins", fn := fun _ => fun
  | [d1, d2] => { results := [.lit (.bool true)], args := [d1, d2] }
  | _ => none }
def lifeBeginsRow : OpenClaim := { program := "ytnpmmmgaghhndaa", sum := "b367605eb99cc92b95a204446254e17a828e02b7534314e9b5be0466302023bf", func := "portico/porticolaw19.LifeBegins", spec := "lifeBegins", recurses := true, apart := false }
def LifeBeginsSaid : Prop := lifeBeginsRow.holds Try.pinned (OpenSpec.ofChange lifeBeginsSpec)

/-- ITS FALSE NEIGHBOUR: 'it returns false'. Refute it at one input. -/
def lifeBeginsWrong : ChangeSpec := { name := "lifeBegins", fn := fun _ => fun
  | [d1, d2] => { results := [.lit (.bool false)], args := [d1, d2] }
  | _ => none }
def LifeBeginsWrongFalsely : Prop := lifeBeginsRow.holds Try.pinned (OpenSpec.ofChange lifeBeginsWrong)

/-- 'porticolaw19.LifeWords': WHATEVER THE INPUT: true; the input reads as it did. -/
def lifeWordsSpec : ChangeSpec := { name := "lifeWords", fn := fun _ => fun
  | [d1, d2, d3, d4] => { results := [.lit (.bool true)], args := [d1, d2, d3, d4] }
  | _ => none }
def lifeWordsRow : OpenClaim := { program := "ytnpmmmgaghhndaa", sum := "b367605eb99cc92b95a204446254e17a828e02b7534314e9b5be0466302023bf", func := "portico/porticolaw19.LifeWords", spec := "lifeWords", recurses := true, apart := false }
def LifeWordsSaid : Prop := lifeWordsRow.holds Try.pinned (OpenSpec.ofChange lifeWordsSpec)

/-- ITS FALSE NEIGHBOUR: 'it returns false'. Refute it at one input. -/
def lifeWordsWrong : ChangeSpec := { name := "lifeWords", fn := fun _ => fun
  | [d1, d2, d3, d4] => { results := [.lit (.bool false)], args := [d1, d2, d3, d4] }
  | _ => none }
def LifeWordsWrongFalsely : Prop := lifeWordsRow.holds Try.pinned (OpenSpec.ofChange lifeWordsWrong)

/-- 'porticolaw19.LifeMixed': WHATEVER THE INPUT: true; the input reads as it did. -/
def lifeMixedSpec : ChangeSpec := { name := "lifeMixed", fn := fun _ => fun
  | [d1, d2, d3] => { results := [.lit (.bool true)], args := [d1, d2, d3] }
  | _ => none }
def lifeMixedRow : OpenClaim := { program := "ytnpmmmgaghhndaa", sum := "b367605eb99cc92b95a204446254e17a828e02b7534314e9b5be0466302023bf", func := "portico/porticolaw19.LifeMixed", spec := "lifeMixed", unfollowed := true, recurses := true, apart := false }
def LifeMixedSaid : Prop := lifeMixedRow.holds Try.pinned (OpenSpec.ofChange lifeMixedSpec)

/-- ITS FALSE NEIGHBOUR: 'it returns false'. Refute it at one input. -/
def lifeMixedWrong : ChangeSpec := { name := "lifeMixed", fn := fun _ => fun
  | [d1, d2, d3] => { results := [.lit (.bool false)], args := [d1, d2, d3] }
  | _ => none }
def LifeMixedWrongFalsely : Prop := lifeMixedRow.holds Try.pinned (OpenSpec.ofChange lifeMixedWrong)

/- THE SECOND FORM. 'bulk': how many values and letters a reading holds, each counted each time it is reached (what is shared counts as often as it is met; a slice's spare places count too). A statement '..UptoSaid' is the law's where the arguments, and the package variables that the reading takes, are together of bulk at most 1048576: NARROWER than '..Said'. Prove '..Said' where nothing that the law and all that it calls make is longer than what came in: it says more and counts as full. Else prove '..UptoSaid'. A law counts once. -/
mutual
def uptoBulk {H : Type} : DataW H → Nat
  | .lit (.string bytes) => bytes.length + 1
  | .lit _ => 1
  | .nil => 1
  | .ptr d => uptoBulk d + 1
  | .slice elems spare => uptoBulkAll elems + uptoBulkAll spare + 1
  | .agg parts => uptoBulkAll parts + 1
  | .iface _ d => uptoBulk d + 1
  | .map entries => uptoBulkEntries entries + 1
  | .held _ => 1
def uptoBulkAll {H : Type} : List (DataW H) → Nat
  | [] => 0
  | d :: r => uptoBulk d + uptoBulkAll r
def uptoBulkEntries {H : Type} : List (Lit × DataW H) → Nat
  | [] => 0
  | x :: r => uptoBulkEntry x + uptoBulkEntries r
def uptoBulkEntry {H : Type} : Lit × DataW H → Nat
  | (.string bytes, d) => bytes.length + uptoBulk d + 1
  | (_, d) => uptoBulk d + 1
 end
def uptoSmall : (H : Type) → List (DataW H) → Bool := fun _ ds => decide (uptoBulkAll ds ≤ 1048576)
def OpenSpec.upto (s : _root_.Go.ChangeSpec) : _root_.Go.OpenSpec := { _root_.Go.OpenSpec.ofChange s with cond := some uptoSmall }

/-- 'porticolaw19.LifeRuns', WHERE WHAT IT READS IS OF BULK AT MOST 1048576: true; the input reads as it did. -/
def lifeRunsUptoRow : OpenClaim := { program := "ytnpmmmgaghhndaa", sum := "b367605eb99cc92b95a204446254e17a828e02b7534314e9b5be0466302023bf", func := "portico/porticolaw19.LifeRuns", spec := "lifeRuns", recurses := true, apart := false, narrowed := true }
def LifeRunsUptoSaid : Prop := lifeRunsUptoRow.holds Try.pinned (OpenSpec.upto lifeRunsSpec)

/-- 'porticolaw19.LifeTells', WHERE WHAT IT READS IS OF BULK AT MOST 1048576: true; the input reads as it did. -/
def lifeTellsUptoRow : OpenClaim := { program := "ytnpmmmgaghhndaa", sum := "b367605eb99cc92b95a204446254e17a828e02b7534314e9b5be0466302023bf", func := "portico/porticolaw19.LifeTells", spec := "lifeTells", recurses := true, apart := false, narrowed := true }
def LifeTellsUptoSaid : Prop := lifeTellsUptoRow.holds Try.pinned (OpenSpec.upto lifeTellsSpec)

/-- 'porticolaw19.LifeBegins', WHERE WHAT IT READS IS OF BULK AT MOST 1048576: true; the input reads as it did. -/
def lifeBeginsUptoRow : OpenClaim := { program := "ytnpmmmgaghhndaa", sum := "b367605eb99cc92b95a204446254e17a828e02b7534314e9b5be0466302023bf", func := "portico/porticolaw19.LifeBegins", spec := "lifeBegins", recurses := true, apart := false, narrowed := true }
def LifeBeginsUptoSaid : Prop := lifeBeginsUptoRow.holds Try.pinned (OpenSpec.upto lifeBeginsSpec)

/-- 'porticolaw19.LifeWords', WHERE WHAT IT READS IS OF BULK AT MOST 1048576: true; the input reads as it did. -/
def lifeWordsUptoRow : OpenClaim := { program := "ytnpmmmgaghhndaa", sum := "b367605eb99cc92b95a204446254e17a828e02b7534314e9b5be0466302023bf", func := "portico/porticolaw19.LifeWords", spec := "lifeWords", recurses := true, apart := false, narrowed := true }
def LifeWordsUptoSaid : Prop := lifeWordsUptoRow.holds Try.pinned (OpenSpec.upto lifeWordsSpec)

/-- 'porticolaw19.LifeMixed', WHERE WHAT IT READS IS OF BULK AT MOST 1048576: true; the input reads as it did. -/
def lifeMixedUptoRow : OpenClaim := { program := "ytnpmmmgaghhndaa", sum := "b367605eb99cc92b95a204446254e17a828e02b7534314e9b5be0466302023bf", func := "portico/porticolaw19.LifeMixed", spec := "lifeMixed", unfollowed := true, recurses := true, apart := false, narrowed := true }
def LifeMixedUptoSaid : Prop := lifeMixedUptoRow.holds Try.pinned (OpenSpec.upto lifeMixedSpec)

end Rows
end Go.Proofs.Ytnpmmmgaghhndaa
