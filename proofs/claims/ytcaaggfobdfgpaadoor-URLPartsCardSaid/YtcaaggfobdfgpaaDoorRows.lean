/-
  NARROWER THAN 'FOR EVERY INPUT', by the rows' own cells (each row's printed sentence says how): URLRuns: laid · URLBack: laid · URLTurned: laid · URLParts: laid · URLGet: laid · URLTells: laid.
  DERIVED. THE GIVEN ROWS OF THIS SEAT. 6 by the template 'for every input the law returns true; each argument reads behind the call as it read before'; 0 by the template 'total and deterministic' (their statements: YtcaaggfobdfgpaaDoorTotals.lean).
  GIVEN WITH THE SEED: the statements are not yours to turn. If you find one false, say at which input.
  Laid BY PROGRAM, IN A SANDBOX (cutbox-rows.mjs): the forced cells as the released guide's own fill.sh prints them over the translation 7ab81bca1058596a… (all of the seat's roots in one cut). By AI agents, Wed Nov 11 2026. No macro, syntax, notation, axiom, sorry.
-/
import Derived.Test.YtcaaggfobdfgpaaDoorChecked
import GoSem.PinnedTables
import GoSem.Claim
import GoSem.ClaimJoined
import GoSem.ClaimMapViews
import Derived.JoinedTies
import Derived.KernelRfl
namespace Go.Proofs.YtcaaggfobdfgpaaDoor
/- THE CELL 'sum', in the pinned program and in every row, IS THE sha256 OF THE DUMP (.gsa) THAT YtcaaggfobdfgpaaDoorProg.lean LOADS. Nothing in Lean hashes anything: it is a label: what it is worth is what the hold of that sum in a sandbox is worth. -/
noncomputable def Tryd.pinned : Pinned := { name := "ytcaaggfobdfgpaadoor", sum := "7ab81bca1058596a2fc1dc6fa09c2eaf7ec05cb66c0ed01d6bc2fc848c0a0ac7", checked := Tryd.checked }
namespace Rows
def none {H : Type} : Left H := { results := [], args := [] }

/- WHAT THE LISTED PACKAGE-LEVEL VARIABLES READ AS WHEN THE CALL BEGINS. Each datum BY PROGRAM (the guide's laid-datum.mjs) off the statement by which the dump's own 'gosem.cut.vars' lays the variable. In a bare row this is a premise. The card (YtcaaggfobdfgpaaDoorCards.lean) ties it to the program's text. -/
def laid_unicode_utf8_acceptRanges {H : Type} : DataW H := .agg [.agg [.lit (.int .u8 128), .lit (.int .u8 191)], .agg [.lit (.int .u8 160), .lit (.int .u8 191)], .agg [.lit (.int .u8 128), .lit (.int .u8 159)], .agg [.lit (.int .u8 144), .lit (.int .u8 191)], .agg [.lit (.int .u8 128), .lit (.int .u8 143)], .agg [.lit (.int .u8 0), .lit (.int .u8 0)], .agg [.lit (.int .u8 0), .lit (.int .u8 0)], .agg [.lit (.int .u8 0), .lit (.int .u8 0)], .agg [.lit (.int .u8 0), .lit (.int .u8 0)], .agg [.lit (.int .u8 0), .lit (.int .u8 0)], .agg [.lit (.int .u8 0), .lit (.int .u8 0)], .agg [.lit (.int .u8 0), .lit (.int .u8 0)], .agg [.lit (.int .u8 0), .lit (.int .u8 0)], .agg [.lit (.int .u8 0), .lit (.int .u8 0)], .agg [.lit (.int .u8 0), .lit (.int .u8 0)], .agg [.lit (.int .u8 0), .lit (.int .u8 0)]]
/-- One of Go's own tables, pinned by name: the form's constant. -/
def laid_unicode_utf8_first : DataW Unit := Go.Pinned.utf8First

/-- 'porticolaw4.URLRuns': WHATEVER THE INPUT: true; the input reads as it did. -/
def uRLRunsSpec : ChangeSpec := { name := "uRLRuns", fn := fun _ => fun
  | [] => { results := [.lit (.bool true)], args := [] }
  | _ => none }
def uRLRunsRow : OpenClaim := { program := "ytcaaggfobdfgpaadoor", sum := "7ab81bca1058596a2fc1dc6fa09c2eaf7ec05cb66c0ed01d6bc2fc848c0a0ac7", func := "portico/porticolaw4.URLRuns", spec := "uRLRuns", inPlace := ["internal/bytealg.IndexByteString", "internal/bytealg.IndexString", "internal/bytealg.CountString", "internal/abi.NoEscape"], named := ["internal/bytealg.MaxLen", "unicode/utf8.first", "unicode/utf8.acceptRanges"], apart := false, laid := [("unicode/utf8.acceptRanges", laid_unicode_utf8_acceptRanges), ("unicode/utf8.first", laid_unicode_utf8_first)] }
def URLRunsSaid : Prop := uRLRunsRow.holds Tryd.pinned (OpenSpec.ofChange uRLRunsSpec)

/-- ITS FALSE NEIGHBOUR: 'it returns false'. Refute it at one input. -/
def uRLRunsWrong : ChangeSpec := { name := "uRLRuns", fn := fun _ => fun
  | [] => { results := [.lit (.bool false)], args := [] }
  | _ => none }
def URLRunsWrongFalsely : Prop := uRLRunsRow.holds Tryd.pinned (OpenSpec.ofChange uRLRunsWrong)

/-- 'porticolaw4.URLBack': WHATEVER THE INPUT: true; the input reads as it did. -/
def uRLBackSpec : ChangeSpec := { name := "uRLBack", fn := fun _ => fun
  | [d1, d2, d3] => { results := [.lit (.bool true)], args := [d1, d2, d3] }
  | _ => none }
def uRLBackRow : OpenClaim := { program := "ytcaaggfobdfgpaadoor", sum := "7ab81bca1058596a2fc1dc6fa09c2eaf7ec05cb66c0ed01d6bc2fc848c0a0ac7", func := "portico/porticolaw4.URLBack", spec := "uRLBack", inPlace := ["internal/bytealg.IndexByteString", "internal/abi.NoEscape", "internal/bytealg.IndexString", "internal/bytealg.CountString"], named := ["internal/bytealg.MaxLen", "unicode/utf8.first", "unicode/utf8.acceptRanges"], apart := false, laid := [("unicode/utf8.acceptRanges", laid_unicode_utf8_acceptRanges), ("unicode/utf8.first", laid_unicode_utf8_first)] }
def URLBackSaid : Prop := uRLBackRow.holds Tryd.pinned (OpenSpec.ofChange uRLBackSpec)

/-- ITS FALSE NEIGHBOUR: 'it returns false'. Refute it at one input. -/
def uRLBackWrong : ChangeSpec := { name := "uRLBack", fn := fun _ => fun
  | [d1, d2, d3] => { results := [.lit (.bool false)], args := [d1, d2, d3] }
  | _ => none }
def URLBackWrongFalsely : Prop := uRLBackRow.holds Tryd.pinned (OpenSpec.ofChange uRLBackWrong)

/-- 'porticolaw4.URLTurned': WHATEVER THE INPUT: true; the input reads as it did. -/
def uRLTurnedSpec : ChangeSpec := { name := "uRLTurned", fn := fun _ => fun
  | [d1, d2, d3, d4] => { results := [.lit (.bool true)], args := [d1, d2, d3, d4] }
  | _ => none }
def uRLTurnedRow : OpenClaim := { program := "ytcaaggfobdfgpaadoor", sum := "7ab81bca1058596a2fc1dc6fa09c2eaf7ec05cb66c0ed01d6bc2fc848c0a0ac7", func := "portico/porticolaw4.URLTurned", spec := "uRLTurned", inPlace := ["internal/bytealg.IndexByteString", "internal/abi.NoEscape", "internal/bytealg.IndexString", "internal/bytealg.CountString"], named := ["internal/bytealg.MaxLen", "unicode/utf8.first", "unicode/utf8.acceptRanges"], apart := false, laid := [("unicode/utf8.acceptRanges", laid_unicode_utf8_acceptRanges), ("unicode/utf8.first", laid_unicode_utf8_first)] }
def URLTurnedSaid : Prop := uRLTurnedRow.holds Tryd.pinned (OpenSpec.ofChange uRLTurnedSpec)

/-- ITS FALSE NEIGHBOUR: 'it returns false'. Refute it at one input. -/
def uRLTurnedWrong : ChangeSpec := { name := "uRLTurned", fn := fun _ => fun
  | [d1, d2, d3, d4] => { results := [.lit (.bool false)], args := [d1, d2, d3, d4] }
  | _ => none }
def URLTurnedWrongFalsely : Prop := uRLTurnedRow.holds Tryd.pinned (OpenSpec.ofChange uRLTurnedWrong)

/-- 'porticolaw4.URLParts': WHATEVER THE INPUT: true; the input reads as it did. -/
def uRLPartsSpec : ChangeSpec := { name := "uRLParts", fn := fun _ => fun
  | [d1, d2, d3] => { results := [.lit (.bool true)], args := [d1, d2, d3] }
  | _ => none }
def uRLPartsRow : OpenClaim := { program := "ytcaaggfobdfgpaadoor", sum := "7ab81bca1058596a2fc1dc6fa09c2eaf7ec05cb66c0ed01d6bc2fc848c0a0ac7", func := "portico/porticolaw4.URLParts", spec := "uRLParts", inPlace := ["internal/bytealg.IndexByteString", "internal/abi.NoEscape", "internal/bytealg.IndexString", "internal/bytealg.CountString"], named := ["internal/bytealg.MaxLen", "unicode/utf8.first", "unicode/utf8.acceptRanges"], apart := false, laid := [("unicode/utf8.acceptRanges", laid_unicode_utf8_acceptRanges), ("unicode/utf8.first", laid_unicode_utf8_first)] }
def URLPartsSaid : Prop := uRLPartsRow.holds Tryd.pinned (OpenSpec.ofChange uRLPartsSpec)

/-- ITS FALSE NEIGHBOUR: 'it returns false'. Refute it at one input. -/
def uRLPartsWrong : ChangeSpec := { name := "uRLParts", fn := fun _ => fun
  | [d1, d2, d3] => { results := [.lit (.bool false)], args := [d1, d2, d3] }
  | _ => none }
def URLPartsWrongFalsely : Prop := uRLPartsRow.holds Tryd.pinned (OpenSpec.ofChange uRLPartsWrong)

/-- 'porticolaw4.URLGet': WHATEVER THE INPUT: true; the input reads as it did. -/
def uRLGetSpec : ChangeSpec := { name := "uRLGet", fn := fun _ => fun
  | [d1, d2, d3] => { results := [.lit (.bool true)], args := [d1, d2, d3] }
  | _ => none }
def uRLGetRow : OpenClaim := { program := "ytcaaggfobdfgpaadoor", sum := "7ab81bca1058596a2fc1dc6fa09c2eaf7ec05cb66c0ed01d6bc2fc848c0a0ac7", func := "portico/porticolaw4.URLGet", spec := "uRLGet", inPlace := ["internal/bytealg.IndexByteString", "internal/abi.NoEscape", "internal/bytealg.IndexString", "internal/bytealg.CountString"], named := ["internal/bytealg.MaxLen", "unicode/utf8.first", "unicode/utf8.acceptRanges"], apart := false, laid := [("unicode/utf8.acceptRanges", laid_unicode_utf8_acceptRanges), ("unicode/utf8.first", laid_unicode_utf8_first)] }
def URLGetSaid : Prop := uRLGetRow.holds Tryd.pinned (OpenSpec.ofChange uRLGetSpec)

/-- ITS FALSE NEIGHBOUR: 'it returns false'. Refute it at one input. -/
def uRLGetWrong : ChangeSpec := { name := "uRLGet", fn := fun _ => fun
  | [d1, d2, d3] => { results := [.lit (.bool false)], args := [d1, d2, d3] }
  | _ => none }
def URLGetWrongFalsely : Prop := uRLGetRow.holds Tryd.pinned (OpenSpec.ofChange uRLGetWrong)

/-- 'porticolaw4.URLTells': WHATEVER THE INPUT: true; the input reads as it did. -/
def uRLTellsSpec : ChangeSpec := { name := "uRLTells", fn := fun _ => fun
  | [d1, d2, d3, d4] => { results := [.lit (.bool true)], args := [d1, d2, d3, d4] }
  | _ => none }
def uRLTellsRow : OpenClaim := { program := "ytcaaggfobdfgpaadoor", sum := "7ab81bca1058596a2fc1dc6fa09c2eaf7ec05cb66c0ed01d6bc2fc848c0a0ac7", func := "portico/porticolaw4.URLTells", spec := "uRLTells", inPlace := ["internal/bytealg.IndexByteString", "internal/bytealg.IndexString", "internal/bytealg.CountString", "internal/abi.NoEscape"], named := ["internal/bytealg.MaxLen", "unicode/utf8.first", "unicode/utf8.acceptRanges"], apart := false, laid := [("unicode/utf8.acceptRanges", laid_unicode_utf8_acceptRanges), ("unicode/utf8.first", laid_unicode_utf8_first)] }
def URLTellsSaid : Prop := uRLTellsRow.holds Tryd.pinned (OpenSpec.ofChange uRLTellsSpec)

/-- ITS FALSE NEIGHBOUR: 'it returns false'. Refute it at one input. -/
def uRLTellsWrong : ChangeSpec := { name := "uRLTells", fn := fun _ => fun
  | [d1, d2, d3, d4] => { results := [.lit (.bool false)], args := [d1, d2, d3, d4] }
  | _ => none }
def URLTellsWrongFalsely : Prop := uRLTellsRow.holds Tryd.pinned (OpenSpec.ofChange uRLTellsWrong)

/- THE SECOND FORM. 'bulk': how many values and letters a reading holds, each counted each time it is reached (what is shared counts as often as it is met; a slice's spare places count too). A statement '..UptoSaid' is the law's where the arguments, and the package variables that the reading takes, are together of bulk at most 1048576: NARROWER than '..Said'. Prove '..Said' where nothing that the law and all that it calls make is longer than what came in: it says more and counts as full. Else prove '..UptoSaid'. A law counts once. -/
mutual
def uptoBulk {H : Type} : DataW H → Nat
  | .lit (.string bytes) => bytes.length + 1
  | .lit _ => 1
  | .nil => 1
  | .ptr d => uptoBulk d + 1
  | .slice elems spare => uptoBulkAll elems + uptoBulkAll spare + 1
  | .agg parts => uptoBulkAll parts + 1
  | .iface _ d => uptoBulk d + 1
  | .map entries => uptoBulkEntries entries + 1
  | .held _ => 1
def uptoBulkAll {H : Type} : List (DataW H) → Nat
  | [] => 0
  | d :: r => uptoBulk d + uptoBulkAll r
def uptoBulkEntries {H : Type} : List (Lit × DataW H) → Nat
  | [] => 0
  | x :: r => uptoBulkEntry x + uptoBulkEntries r
def uptoBulkEntry {H : Type} : Lit × DataW H → Nat
  | (.string bytes, d) => bytes.length + uptoBulk d + 1
  | (_, d) => uptoBulk d + 1
 end
def uptoSmall : (H : Type) → List (DataW H) → Bool := fun _ ds => decide (uptoBulkAll ds ≤ 1048576)
def OpenSpec.upto (s : _root_.Go.ChangeSpec) : _root_.Go.OpenSpec := { _root_.Go.OpenSpec.ofChange s with cond := some uptoSmall }

/-- 'porticolaw4.URLRuns', WHERE WHAT IT READS IS OF BULK AT MOST 1048576: true; the input reads as it did. -/
def uRLRunsUptoRow : OpenClaim := { program := "ytcaaggfobdfgpaadoor", sum := "7ab81bca1058596a2fc1dc6fa09c2eaf7ec05cb66c0ed01d6bc2fc848c0a0ac7", func := "portico/porticolaw4.URLRuns", spec := "uRLRuns", inPlace := ["internal/bytealg.IndexByteString", "internal/bytealg.IndexString", "internal/bytealg.CountString", "internal/abi.NoEscape"], named := ["internal/bytealg.MaxLen", "unicode/utf8.first", "unicode/utf8.acceptRanges"], apart := false, laid := [("unicode/utf8.acceptRanges", laid_unicode_utf8_acceptRanges), ("unicode/utf8.first", laid_unicode_utf8_first)], narrowed := true }
def URLRunsUptoSaid : Prop := uRLRunsUptoRow.holds Tryd.pinned (OpenSpec.upto uRLRunsSpec)

/-- 'porticolaw4.URLBack', WHERE WHAT IT READS IS OF BULK AT MOST 1048576: true; the input reads as it did. -/
def uRLBackUptoRow : OpenClaim := { program := "ytcaaggfobdfgpaadoor", sum := "7ab81bca1058596a2fc1dc6fa09c2eaf7ec05cb66c0ed01d6bc2fc848c0a0ac7", func := "portico/porticolaw4.URLBack", spec := "uRLBack", inPlace := ["internal/bytealg.IndexByteString", "internal/abi.NoEscape", "internal/bytealg.IndexString", "internal/bytealg.CountString"], named := ["internal/bytealg.MaxLen", "unicode/utf8.first", "unicode/utf8.acceptRanges"], apart := false, laid := [("unicode/utf8.acceptRanges", laid_unicode_utf8_acceptRanges), ("unicode/utf8.first", laid_unicode_utf8_first)], narrowed := true }
def URLBackUptoSaid : Prop := uRLBackUptoRow.holds Tryd.pinned (OpenSpec.upto uRLBackSpec)

/-- 'porticolaw4.URLTurned', WHERE WHAT IT READS IS OF BULK AT MOST 1048576: true; the input reads as it did. -/
def uRLTurnedUptoRow : OpenClaim := { program := "ytcaaggfobdfgpaadoor", sum := "7ab81bca1058596a2fc1dc6fa09c2eaf7ec05cb66c0ed01d6bc2fc848c0a0ac7", func := "portico/porticolaw4.URLTurned", spec := "uRLTurned", inPlace := ["internal/bytealg.IndexByteString", "internal/abi.NoEscape", "internal/bytealg.IndexString", "internal/bytealg.CountString"], named := ["internal/bytealg.MaxLen", "unicode/utf8.first", "unicode/utf8.acceptRanges"], apart := false, laid := [("unicode/utf8.acceptRanges", laid_unicode_utf8_acceptRanges), ("unicode/utf8.first", laid_unicode_utf8_first)], narrowed := true }
def URLTurnedUptoSaid : Prop := uRLTurnedUptoRow.holds Tryd.pinned (OpenSpec.upto uRLTurnedSpec)

/-- 'porticolaw4.URLParts', WHERE WHAT IT READS IS OF BULK AT MOST 1048576: true; the input reads as it did. -/
def uRLPartsUptoRow : OpenClaim := { program := "ytcaaggfobdfgpaadoor", sum := "7ab81bca1058596a2fc1dc6fa09c2eaf7ec05cb66c0ed01d6bc2fc848c0a0ac7", func := "portico/porticolaw4.URLParts", spec := "uRLParts", inPlace := ["internal/bytealg.IndexByteString", "internal/abi.NoEscape", "internal/bytealg.IndexString", "internal/bytealg.CountString"], named := ["internal/bytealg.MaxLen", "unicode/utf8.first", "unicode/utf8.acceptRanges"], apart := false, laid := [("unicode/utf8.acceptRanges", laid_unicode_utf8_acceptRanges), ("unicode/utf8.first", laid_unicode_utf8_first)], narrowed := true }
def URLPartsUptoSaid : Prop := uRLPartsUptoRow.holds Tryd.pinned (OpenSpec.upto uRLPartsSpec)

/-- 'porticolaw4.URLGet', WHERE WHAT IT READS IS OF BULK AT MOST 1048576: true; the input reads as it did. -/
def uRLGetUptoRow : OpenClaim := { program := "ytcaaggfobdfgpaadoor", sum := "7ab81bca1058596a2fc1dc6fa09c2eaf7ec05cb66c0ed01d6bc2fc848c0a0ac7", func := "portico/porticolaw4.URLGet", spec := "uRLGet", inPlace := ["internal/bytealg.IndexByteString", "internal/abi.NoEscape", "internal/bytealg.IndexString", "internal/bytealg.CountString"], named := ["internal/bytealg.MaxLen", "unicode/utf8.first", "unicode/utf8.acceptRanges"], apart := false, laid := [("unicode/utf8.acceptRanges", laid_unicode_utf8_acceptRanges), ("unicode/utf8.first", laid_unicode_utf8_first)], narrowed := true }
def URLGetUptoSaid : Prop := uRLGetUptoRow.holds Tryd.pinned (OpenSpec.upto uRLGetSpec)

/-- 'porticolaw4.URLTells', WHERE WHAT IT READS IS OF BULK AT MOST 1048576: true; the input reads as it did. -/
def uRLTellsUptoRow : OpenClaim := { program := "ytcaaggfobdfgpaadoor", sum := "7ab81bca1058596a2fc1dc6fa09c2eaf7ec05cb66c0ed01d6bc2fc848c0a0ac7", func := "portico/porticolaw4.URLTells", spec := "uRLTells", inPlace := ["internal/bytealg.IndexByteString", "internal/bytealg.IndexString", "internal/bytealg.CountString", "internal/abi.NoEscape"], named := ["internal/bytealg.MaxLen", "unicode/utf8.first", "unicode/utf8.acceptRanges"], apart := false, laid := [("unicode/utf8.acceptRanges", laid_unicode_utf8_acceptRanges), ("unicode/utf8.first", laid_unicode_utf8_first)], narrowed := true }
def URLTellsUptoSaid : Prop := uRLTellsUptoRow.holds Tryd.pinned (OpenSpec.upto uRLTellsSpec)

end Rows
end Go.Proofs.YtcaaggfobdfgpaaDoor
