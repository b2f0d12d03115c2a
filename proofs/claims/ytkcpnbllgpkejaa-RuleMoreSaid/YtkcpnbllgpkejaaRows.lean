/-
  No cell of these rows narrows 'for every input' (looked for: loops, veiled, ifaces, maps, wideKeys, modest, calm, conditions, laid).
  DERIVED. THE GIVEN ROWS OF THIS SEAT. 4 by the template 'for every input the law returns true; each argument reads behind the call as it read before'; 0 by the template 'total and deterministic' (their statements: YtkcpnbllgpkejaaTotals.lean).
  GIVEN WITH THE SEED: the statements are not yours to turn. If you find one false, say at which input.
  Laid BY PROGRAM, IN A SANDBOX (cutbox-rows.mjs): the forced cells as the released guide's own fill.sh prints them over the translation 85acf17b195e3228… (all of the seat's roots in one cut). By AI agents, Wed Nov 11 2026. No macro, syntax, notation, axiom, sorry.
-/
import Derived.Test.YtkcpnbllgpkejaaChecked
import GoSem.Claim
import GoSem.ClaimJoined
import GoSem.ClaimMapViews
import Derived.JoinedTies
import Derived.KernelRfl
namespace Go.Proofs.Ytkcpnbllgpkejaa
/- THE CELL 'sum', in the pinned program and in every row, IS THE sha256 OF THE DUMP (.gsa) THAT YtkcpnbllgpkejaaProg.lean LOADS. Nothing in Lean hashes anything: it is a label: what it is worth is what the hold of that sum in a sandbox is worth. -/
noncomputable def Try.pinned : Pinned := { name := "ytkcpnbllgpkejaa", sum := "85acf17b195e322881bce9d3c482a809cd6de222d42a6bb38daa4b4367436a03", checked := Try.checked }
namespace Rows
def none {H : Type} : Left H := { results := [], args := [] }

/-- 'porticolaw9.RuleRuns': WHATEVER THE INPUT: true; the input reads as it did. -/
def ruleRunsSpec : ChangeSpec := { name := "ruleRuns", fn := fun _ => fun
  | [] => { results := [.lit (.bool true)], args := [] }
  | _ => none }
def ruleRunsRow : OpenClaim := { program := "ytkcpnbllgpkejaa", sum := "85acf17b195e322881bce9d3c482a809cd6de222d42a6bb38daa4b4367436a03", func := "portico/porticolaw9.RuleRuns", spec := "ruleRuns", apart := false }
def RuleRunsSaid : Prop := ruleRunsRow.holds Try.pinned (OpenSpec.ofChange ruleRunsSpec)

/-- ITS FALSE NEIGHBOUR: 'it returns false'. Refute it at one input. -/
def ruleRunsWrong : ChangeSpec := { name := "ruleRuns", fn := fun _ => fun
  | [] => { results := [.lit (.bool false)], args := [] }
  | _ => none }
def RuleRunsWrongFalsely : Prop := ruleRunsRow.holds Try.pinned (OpenSpec.ofChange ruleRunsWrong)

/-- 'porticolaw9.RuleFlags': WHATEVER THE INPUT: true; the input reads as it did. -/
def ruleFlagsSpec : ChangeSpec := { name := "ruleFlags", fn := fun _ => fun
  | [d1, d2, d3] => { results := [.lit (.bool true)], args := [d1, d2, d3] }
  | _ => none }
def ruleFlagsRow : OpenClaim := { program := "ytkcpnbllgpkejaa", sum := "85acf17b195e322881bce9d3c482a809cd6de222d42a6bb38daa4b4367436a03", func := "portico/porticolaw9.RuleFlags", spec := "ruleFlags", apart := false }
def RuleFlagsSaid : Prop := ruleFlagsRow.holds Try.pinned (OpenSpec.ofChange ruleFlagsSpec)

/-- ITS FALSE NEIGHBOUR: 'it returns false'. Refute it at one input. -/
def ruleFlagsWrong : ChangeSpec := { name := "ruleFlags", fn := fun _ => fun
  | [d1, d2, d3] => { results := [.lit (.bool false)], args := [d1, d2, d3] }
  | _ => none }
def RuleFlagsWrongFalsely : Prop := ruleFlagsRow.holds Try.pinned (OpenSpec.ofChange ruleFlagsWrong)

/-- 'porticolaw9.RuleMore': WHATEVER THE INPUT: true; the input reads as it did. -/
def ruleMoreSpec : ChangeSpec := { name := "ruleMore", fn := fun _ => fun
  | [d1, d2, d3, d4] => { results := [.lit (.bool true)], args := [d1, d2, d3, d4] }
  | _ => none }
def ruleMoreRow : OpenClaim := { program := "ytkcpnbllgpkejaa", sum := "85acf17b195e322881bce9d3c482a809cd6de222d42a6bb38daa4b4367436a03", func := "portico/porticolaw9.RuleMore", spec := "ruleMore", apart := false }
def RuleMoreSaid : Prop := ruleMoreRow.holds Try.pinned (OpenSpec.ofChange ruleMoreSpec)

/-- ITS FALSE NEIGHBOUR: 'it returns false'. Refute it at one input. -/
def ruleMoreWrong : ChangeSpec := { name := "ruleMore", fn := fun _ => fun
  | [d1, d2, d3, d4] => { results := [.lit (.bool false)], args := [d1, d2, d3, d4] }
  | _ => none }
def RuleMoreWrongFalsely : Prop := ruleMoreRow.holds Try.pinned (OpenSpec.ofChange ruleMoreWrong)

/-- 'porticolaw9.RuleTells': WHATEVER THE INPUT: true; the input reads as it did. -/
def ruleTellsSpec : ChangeSpec := { name := "ruleTells", fn := fun _ => fun
  | [d1, d2] => { results := [.lit (.bool true)], args := [d1, d2] }
  | _ => none }
def ruleTellsRow : OpenClaim := { program := "ytkcpnbllgpkejaa", sum := "85acf17b195e322881bce9d3c482a809cd6de222d42a6bb38daa4b4367436a03", func := "portico/porticolaw9.RuleTells", spec := "ruleTells", apart := false }
def RuleTellsSaid : Prop := ruleTellsRow.holds Try.pinned (OpenSpec.ofChange ruleTellsSpec)

/-- ITS FALSE NEIGHBOUR: 'it returns false'. Refute it at one input. -/
def ruleTellsWrong : ChangeSpec := { name := "ruleTells", fn := fun _ => fun
  | [d1, d2] => { results := [.lit (.bool false)], args := [d1, d2] }
  | _ => none }
def RuleTellsWrongFalsely : Prop := ruleTellsRow.holds Try.pinned (OpenSpec.ofChange ruleTellsWrong)

/- THE SECOND FORM. 'bulk': how many values and letters a reading holds, each counted each time it is reached (what is shared counts as often as it is met; a slice's spare places count too). A statement '..UptoSaid' is the law's where the arguments, and the package variables that the reading takes, are together of bulk at most 1048576: NARROWER than '..Said'. Prove '..Said' where nothing that the law and all that it calls make is longer than what came in: it says more and counts as full. Else prove '..UptoSaid'. A law counts once. -/
mutual
def uptoBulk {H : Type} : DataW H → Nat
  | .lit (.string bytes) => bytes.length + 1
  | .lit _ => 1
  | .nil => 1
  | .ptr d => uptoBulk d + 1
  | .slice elems spare => uptoBulkAll elems + uptoBulkAll spare + 1
  | .agg parts => uptoBulkAll parts + 1
  | .iface _ d => uptoBulk d + 1
  | .map entries => uptoBulkEntries entries + 1
  | .held _ => 1
def uptoBulkAll {H : Type} : List (DataW H) → Nat
  | [] => 0
  | d :: r => uptoBulk d + uptoBulkAll r
def uptoBulkEntries {H : Type} : List (Lit × DataW H) → Nat
  | [] => 0
  | x :: r => uptoBulkEntry x + uptoBulkEntries r
def uptoBulkEntry {H : Type} : Lit × DataW H → Nat
  | (.string bytes, d) => bytes.length + uptoBulk d + 1
  | (_, d) => uptoBulk d + 1
 end
def uptoSmall : (H : Type) → List (DataW H) → Bool := fun _ ds => decide (uptoBulkAll ds ≤ 1048576)
def OpenSpec.upto (s : _root_.Go.ChangeSpec) : _root_.Go.OpenSpec := { _root_.Go.OpenSpec.ofChange s with cond := some uptoSmall }

/-- 'porticolaw9.RuleRuns', WHERE WHAT IT READS IS OF BULK AT MOST 1048576: true; the input reads as it did. -/
def ruleRunsUptoRow : OpenClaim := { program := "ytkcpnbllgpkejaa", sum := "85acf17b195e322881bce9d3c482a809cd6de222d42a6bb38daa4b4367436a03", func := "portico/porticolaw9.RuleRuns", spec := "ruleRuns", apart := false, narrowed := true }
def RuleRunsUptoSaid : Prop := ruleRunsUptoRow.holds Try.pinned (OpenSpec.upto ruleRunsSpec)

/-- 'porticolaw9.RuleFlags', WHERE WHAT IT READS IS OF BULK AT MOST 1048576: true; the input reads as it did. -/
def ruleFlagsUptoRow : OpenClaim := { program := "ytkcpnbllgpkejaa", sum := "85acf17b195e322881bce9d3c482a809cd6de222d42a6bb38daa4b4367436a03", func := "portico/porticolaw9.RuleFlags", spec := "ruleFlags", apart := false, narrowed := true }
def RuleFlagsUptoSaid : Prop := ruleFlagsUptoRow.holds Try.pinned (OpenSpec.upto ruleFlagsSpec)

/-- 'porticolaw9.RuleMore', WHERE WHAT IT READS IS OF BULK AT MOST 1048576: true; the input reads as it did. -/
def ruleMoreUptoRow : OpenClaim := { program := "ytkcpnbllgpkejaa", sum := "85acf17b195e322881bce9d3c482a809cd6de222d42a6bb38daa4b4367436a03", func := "portico/porticolaw9.RuleMore", spec := "ruleMore", apart := false, narrowed := true }
def RuleMoreUptoSaid : Prop := ruleMoreUptoRow.holds Try.pinned (OpenSpec.upto ruleMoreSpec)

/-- 'porticolaw9.RuleTells', WHERE WHAT IT READS IS OF BULK AT MOST 1048576: true; the input reads as it did. -/
def ruleTellsUptoRow : OpenClaim := { program := "ytkcpnbllgpkejaa", sum := "85acf17b195e322881bce9d3c482a809cd6de222d42a6bb38daa4b4367436a03", func := "portico/porticolaw9.RuleTells", spec := "ruleTells", apart := false, narrowed := true }
def RuleTellsUptoSaid : Prop := ruleTellsUptoRow.holds Try.pinned (OpenSpec.upto ruleTellsSpec)

end Rows
end Go.Proofs.Ytkcpnbllgpkejaa
