/-
  No cell of these rows narrows 'for every input' (looked for: loops, veiled, ifaces, maps, wideKeys, modest, calm, conditions, laid).
  DERIVED. THE GIVEN ROWS OF THIS SEAT. 4 by the template 'for every input the law returns true; each argument reads behind the call as it read before'; 0 by the template 'total and deterministic' (their statements: YtemanoiaaaaopaaTotals.lean).
  GIVEN WITH THE SEED: the statements are not yours to turn. If you find one false, say at which input.
  Laid BY PROGRAM, IN A SANDBOX (cutbox-rows.mjs): the forced cells as the released guide's own fill.sh prints them over the translation b0e790c49e1b149f… (all of the seat's roots in one cut). By AI agents, Wed Nov 11 2026. No macro, syntax, notation, axiom, sorry.
-/
import Derived.Test.YtemanoiaaaaopaaChecked
import GoSem.Claim
import GoSem.ClaimJoined
import GoSem.ClaimMapViews
import Derived.JoinedTies
import Derived.KernelRfl
namespace Go.Proofs.Ytemanoiaaaaopaa
/- THE CELL 'sum', in the pinned program and in every row, IS THE sha256 OF THE DUMP (.gsa) THAT YtemanoiaaaaopaaProg.lean LOADS. Nothing in Lean hashes anything: it is a label: what it is worth is what the hold of that sum in a sandbox is worth. -/
noncomputable def Try.pinned : Pinned := { name := "ytemanoiaaaaopaa", sum := "b0e790c49e1b149f52592eccda0e1f30b275dcebdd3cd315e7d7a42c709db643", checked := Try.checked }
namespace Rows
def none {H : Type} : Left H := { results := [], args := [] }

/-- 'porticolaw1.ScrollRuns': WHATEVER THE INPUT: true; the input reads as it did. -/
def scrollRunsSpec : ChangeSpec := { name := "scrollRuns", fn := fun _ => fun
  | [] => { results := [.lit (.bool true)], args := [] }
  | _ => none }
def scrollRunsRow : OpenClaim := { program := "ytemanoiaaaaopaa", sum := "b0e790c49e1b149f52592eccda0e1f30b275dcebdd3cd315e7d7a42c709db643", func := "portico/porticolaw1.ScrollRuns", spec := "scrollRuns", inPlace := ["math.Float64bits", "math.Float64frombits"], unfollowed := true, recurses := true, apart := false }
def ScrollRunsSaid : Prop := scrollRunsRow.holds Try.pinned (OpenSpec.ofChange scrollRunsSpec)

/-- ITS FALSE NEIGHBOUR: 'it returns false'. Refute it at one input. -/
def scrollRunsWrong : ChangeSpec := { name := "scrollRuns", fn := fun _ => fun
  | [] => { results := [.lit (.bool false)], args := [] }
  | _ => none }
def ScrollRunsWrongFalsely : Prop := scrollRunsRow.holds Try.pinned (OpenSpec.ofChange scrollRunsWrong)

/-- 'porticolaw1.ScrollAdds': WHATEVER THE INPUT: true; the input reads as it did. -/
def scrollAddsSpec : ChangeSpec := { name := "scrollAdds", fn := fun _ => fun
  | [d1, d2, d3, d4] => { results := [.lit (.bool true)], args := [d1, d2, d3, d4] }
  | _ => none }
def scrollAddsRow : OpenClaim := { program := "ytemanoiaaaaopaa", sum := "b0e790c49e1b149f52592eccda0e1f30b275dcebdd3cd315e7d7a42c709db643", func := "portico/porticolaw1.ScrollAdds", spec := "scrollAdds", inPlace := ["math.Float64frombits", "math.Float64bits"], unfollowed := true, recurses := true, apart := false }
def ScrollAddsSaid : Prop := scrollAddsRow.holds Try.pinned (OpenSpec.ofChange scrollAddsSpec)

/-- ITS FALSE NEIGHBOUR: 'it returns false'. Refute it at one input. -/
def scrollAddsWrong : ChangeSpec := { name := "scrollAdds", fn := fun _ => fun
  | [d1, d2, d3, d4] => { results := [.lit (.bool false)], args := [d1, d2, d3, d4] }
  | _ => none }
def ScrollAddsWrongFalsely : Prop := scrollAddsRow.holds Try.pinned (OpenSpec.ofChange scrollAddsWrong)

/-- 'porticolaw1.ScrollCleans': WHATEVER THE INPUT: true; the input reads as it did. -/
def scrollCleansSpec : ChangeSpec := { name := "scrollCleans", fn := fun _ => fun
  | [d1, d2] => { results := [.lit (.bool true)], args := [d1, d2] }
  | _ => none }
def scrollCleansRow : OpenClaim := { program := "ytemanoiaaaaopaa", sum := "b0e790c49e1b149f52592eccda0e1f30b275dcebdd3cd315e7d7a42c709db643", func := "portico/porticolaw1.ScrollCleans", spec := "scrollCleans", inPlace := ["math.Float64frombits", "math.Float64bits"], unfollowed := true, recurses := true, apart := false }
def ScrollCleansSaid : Prop := scrollCleansRow.holds Try.pinned (OpenSpec.ofChange scrollCleansSpec)

/-- ITS FALSE NEIGHBOUR: 'it returns false'. Refute it at one input. -/
def scrollCleansWrong : ChangeSpec := { name := "scrollCleans", fn := fun _ => fun
  | [d1, d2] => { results := [.lit (.bool false)], args := [d1, d2] }
  | _ => none }
def ScrollCleansWrongFalsely : Prop := scrollCleansRow.holds Try.pinned (OpenSpec.ofChange scrollCleansWrong)

/-- 'porticolaw1.ScrollSteps': WHATEVER THE INPUT: true; the input reads as it did. -/
def scrollStepsSpec : ChangeSpec := { name := "scrollSteps", fn := fun _ => fun
  | [d1, d2] => { results := [.lit (.bool true)], args := [d1, d2] }
  | _ => none }
def scrollStepsRow : OpenClaim := { program := "ytemanoiaaaaopaa", sum := "b0e790c49e1b149f52592eccda0e1f30b275dcebdd3cd315e7d7a42c709db643", func := "portico/porticolaw1.ScrollSteps", spec := "scrollSteps", inPlace := ["math.Float64bits", "math.Float64frombits"], unfollowed := true, recurses := true, apart := false }
def ScrollStepsSaid : Prop := scrollStepsRow.holds Try.pinned (OpenSpec.ofChange scrollStepsSpec)

/-- ITS FALSE NEIGHBOUR: 'it returns false'. Refute it at one input. -/
def scrollStepsWrong : ChangeSpec := { name := "scrollSteps", fn := fun _ => fun
  | [d1, d2] => { results := [.lit (.bool false)], args := [d1, d2] }
  | _ => none }
def ScrollStepsWrongFalsely : Prop := scrollStepsRow.holds Try.pinned (OpenSpec.ofChange scrollStepsWrong)

/- THE SECOND FORM. 'bulk': how many values and letters a reading holds, each counted each time it is reached (what is shared counts as often as it is met; a slice's spare places count too). A statement '..UptoSaid' is the law's where the arguments, and the package variables that the reading takes, are together of bulk at most 1048576: NARROWER than '..Said'. Prove '..Said' where nothing that the law and all that it calls make is longer than what came in: it says more and counts as full. Else prove '..UptoSaid'. A law counts once. -/
mutual
def uptoBulk {H : Type} : DataW H → Nat
  | .lit (.string bytes) => bytes.length + 1
  | .lit _ => 1
  | .nil => 1
  | .ptr d => uptoBulk d + 1
  | .slice elems spare => uptoBulkAll elems + uptoBulkAll spare + 1
  | .agg parts => uptoBulkAll parts + 1
  | .iface _ d => uptoBulk d + 1
  | .map entries => uptoBulkEntries entries + 1
  | .held _ => 1
def uptoBulkAll {H : Type} : List (DataW H) → Nat
  | [] => 0
  | d :: r => uptoBulk d + uptoBulkAll r
def uptoBulkEntries {H : Type} : List (Lit × DataW H) → Nat
  | [] => 0
  | x :: r => uptoBulkEntry x + uptoBulkEntries r
def uptoBulkEntry {H : Type} : Lit × DataW H → Nat
  | (.string bytes, d) => bytes.length + uptoBulk d + 1
  | (_, d) => uptoBulk d + 1
 end
def uptoSmall : (H : Type) → List (DataW H) → Bool := fun _ ds => decide (uptoBulkAll ds ≤ 1048576)
def OpenSpec.upto (s : _root_.Go.ChangeSpec) : _root_.Go.OpenSpec := { _root_.Go.OpenSpec.ofChange s with cond := some uptoSmall }

/-- 'porticolaw1.ScrollRuns', WHERE WHAT IT READS IS OF BULK AT MOST 1048576: true; the input reads as it did. -/
def scrollRunsUptoRow : OpenClaim := { program := "ytemanoiaaaaopaa", sum := "b0e790c49e1b149f52592eccda0e1f30b275dcebdd3cd315e7d7a42c709db643", func := "portico/porticolaw1.ScrollRuns", spec := "scrollRuns", inPlace := ["math.Float64bits", "math.Float64frombits"], unfollowed := true, recurses := true, apart := false, narrowed := true }
def ScrollRunsUptoSaid : Prop := scrollRunsUptoRow.holds Try.pinned (OpenSpec.upto scrollRunsSpec)

/-- 'porticolaw1.ScrollAdds', WHERE WHAT IT READS IS OF BULK AT MOST 1048576: true; the input reads as it did. -/
def scrollAddsUptoRow : OpenClaim := { program := "ytemanoiaaaaopaa", sum := "b0e790c49e1b149f52592eccda0e1f30b275dcebdd3cd315e7d7a42c709db643", func := "portico/porticolaw1.ScrollAdds", spec := "scrollAdds", inPlace := ["math.Float64frombits", "math.Float64bits"], unfollowed := true, recurses := true, apart := false, narrowed := true }
def ScrollAddsUptoSaid : Prop := scrollAddsUptoRow.holds Try.pinned (OpenSpec.upto scrollAddsSpec)

/-- 'porticolaw1.ScrollCleans', WHERE WHAT IT READS IS OF BULK AT MOST 1048576: true; the input reads as it did. -/
def scrollCleansUptoRow : OpenClaim := { program := "ytemanoiaaaaopaa", sum := "b0e790c49e1b149f52592eccda0e1f30b275dcebdd3cd315e7d7a42c709db643", func := "portico/porticolaw1.ScrollCleans", spec := "scrollCleans", inPlace := ["math.Float64frombits", "math.Float64bits"], unfollowed := true, recurses := true, apart := false, narrowed := true }
def ScrollCleansUptoSaid : Prop := scrollCleansUptoRow.holds Try.pinned (OpenSpec.upto scrollCleansSpec)

/-- 'porticolaw1.ScrollSteps', WHERE WHAT IT READS IS OF BULK AT MOST 1048576: true; the input reads as it did. -/
def scrollStepsUptoRow : OpenClaim := { program := "ytemanoiaaaaopaa", sum := "b0e790c49e1b149f52592eccda0e1f30b275dcebdd3cd315e7d7a42c709db643", func := "portico/porticolaw1.ScrollSteps", spec := "scrollSteps", inPlace := ["math.Float64bits", "math.Float64frombits"], unfollowed := true, recurses := true, apart := false, narrowed := true }
def ScrollStepsUptoSaid : Prop := scrollStepsUptoRow.holds Try.pinned (OpenSpec.upto scrollStepsSpec)

end Rows
end Go.Proofs.Ytemanoiaaaaopaa
