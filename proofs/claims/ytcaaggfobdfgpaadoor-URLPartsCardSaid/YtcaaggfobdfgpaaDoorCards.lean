/-
  DERIVED. GIVEN WITH THE SEED: THE CARDS: each row of YtcaaggfobdfgpaaDoorRows.lean that lists a variable, with what it lists TIED to the program's text (the seventh form; the later family's looks); each row that meets fmt, with fmt's text TOLD by the authors' own Lean function (tested against real Go, not proved from fmt's source: count such statements apart). THE CARD IS WHAT COUNTS. Prove the row's statement (the work); the ties are given (YtcaaggfobdfgpaaDoorTie.lean); close each card by the builder's one call (the guide's Derived/Test/ToyasCard.lean, 'card_holds'). Laid BY PROGRAM, IN A SANDBOX (cutbox-door.mjs). By AI agents, Wed Nov 11 2026. No macro, syntax, notation, axiom, sorry.
-/
import Derived.Test.YtcaaggfobdfgpaaDoorRows
import GoSem.ClaimSeven
namespace Go.Proofs.YtcaaggfobdfgpaaDoor
namespace Rows

/-- THE TIED CARD OF 'porticolaw4.URLRuns'. -/
def uRLRunsCard : Claim7 := { stood := { row := uRLRunsRow, standIns := [], harness := (true, "e9847b35a1704661d8b303ab299baadde234e3bde69fa9ea550110cc288f1ea0"), looks := false }, kinds := [], alts := [], laidByText := true, laidKinds := [.data, .pinned], laidTests := true, laidLooks := .later }
def URLRunsCardSaid : Prop := Claim7.holds Tryd.pinned (.plain (OpenSpec.ofChange uRLRunsSpec)) uRLRunsCard

/-- THE TIED CARD OF 'porticolaw4.URLBack'. -/
def uRLBackCard : Claim7 := { stood := { row := uRLBackRow, standIns := [], harness := (true, "e9847b35a1704661d8b303ab299baadde234e3bde69fa9ea550110cc288f1ea0"), looks := false }, kinds := [], alts := [], laidByText := true, laidKinds := [.data, .pinned], laidTests := true, laidLooks := .later }
def URLBackCardSaid : Prop := Claim7.holds Tryd.pinned (.plain (OpenSpec.ofChange uRLBackSpec)) uRLBackCard

/-- THE TIED CARD OF 'porticolaw4.URLTurned'. -/
def uRLTurnedCard : Claim7 := { stood := { row := uRLTurnedRow, standIns := [], harness := (true, "e9847b35a1704661d8b303ab299baadde234e3bde69fa9ea550110cc288f1ea0"), looks := false }, kinds := [], alts := [], laidByText := true, laidKinds := [.data, .pinned], laidTests := true, laidLooks := .later }
def URLTurnedCardSaid : Prop := Claim7.holds Tryd.pinned (.plain (OpenSpec.ofChange uRLTurnedSpec)) uRLTurnedCard

/-- THE TIED CARD OF 'porticolaw4.URLParts'. -/
def uRLPartsCard : Claim7 := { stood := { row := uRLPartsRow, standIns := [], harness := (true, "e9847b35a1704661d8b303ab299baadde234e3bde69fa9ea550110cc288f1ea0"), looks := false }, kinds := [], alts := [], laidByText := true, laidKinds := [.data, .pinned], laidTests := true, laidLooks := .later }
def URLPartsCardSaid : Prop := Claim7.holds Tryd.pinned (.plain (OpenSpec.ofChange uRLPartsSpec)) uRLPartsCard

/-- THE TIED CARD OF 'porticolaw4.URLGet'. -/
def uRLGetCard : Claim7 := { stood := { row := uRLGetRow, standIns := [], harness := (true, "e9847b35a1704661d8b303ab299baadde234e3bde69fa9ea550110cc288f1ea0"), looks := false }, kinds := [], alts := [], laidByText := true, laidKinds := [.data, .pinned], laidTests := true, laidLooks := .later }
def URLGetCardSaid : Prop := Claim7.holds Tryd.pinned (.plain (OpenSpec.ofChange uRLGetSpec)) uRLGetCard

/-- THE TIED CARD OF 'porticolaw4.URLTells'. -/
def uRLTellsCard : Claim7 := { stood := { row := uRLTellsRow, standIns := [], harness := (true, "e9847b35a1704661d8b303ab299baadde234e3bde69fa9ea550110cc288f1ea0"), looks := false }, kinds := [], alts := [], laidByText := true, laidKinds := [.data, .pinned], laidTests := true, laidLooks := .later }
def URLTellsCardSaid : Prop := Claim7.holds Tryd.pinned (.plain (OpenSpec.ofChange uRLTellsSpec)) uRLTellsCard

/-- THE SECOND FORM's CARD OF 'porticolaw4.URLRuns'. -/
def uRLRunsUptoCard : Claim7 := { stood := { row := uRLRunsUptoRow, standIns := [], harness := (true, "e9847b35a1704661d8b303ab299baadde234e3bde69fa9ea550110cc288f1ea0"), looks := false }, kinds := [], alts := [], laidByText := true, laidKinds := [.data, .pinned], laidTests := true, laidLooks := .later }
def URLRunsUptoCardSaid : Prop := Claim7.holds Tryd.pinned (.plain (OpenSpec.upto uRLRunsSpec)) uRLRunsUptoCard

/-- THE SECOND FORM's CARD OF 'porticolaw4.URLBack'. -/
def uRLBackUptoCard : Claim7 := { stood := { row := uRLBackUptoRow, standIns := [], harness := (true, "e9847b35a1704661d8b303ab299baadde234e3bde69fa9ea550110cc288f1ea0"), looks := false }, kinds := [], alts := [], laidByText := true, laidKinds := [.data, .pinned], laidTests := true, laidLooks := .later }
def URLBackUptoCardSaid : Prop := Claim7.holds Tryd.pinned (.plain (OpenSpec.upto uRLBackSpec)) uRLBackUptoCard

/-- THE SECOND FORM's CARD OF 'porticolaw4.URLTurned'. -/
def uRLTurnedUptoCard : Claim7 := { stood := { row := uRLTurnedUptoRow, standIns := [], harness := (true, "e9847b35a1704661d8b303ab299baadde234e3bde69fa9ea550110cc288f1ea0"), looks := false }, kinds := [], alts := [], laidByText := true, laidKinds := [.data, .pinned], laidTests := true, laidLooks := .later }
def URLTurnedUptoCardSaid : Prop := Claim7.holds Tryd.pinned (.plain (OpenSpec.upto uRLTurnedSpec)) uRLTurnedUptoCard

/-- THE SECOND FORM's CARD OF 'porticolaw4.URLParts'. -/
def uRLPartsUptoCard : Claim7 := { stood := { row := uRLPartsUptoRow, standIns := [], harness := (true, "e9847b35a1704661d8b303ab299baadde234e3bde69fa9ea550110cc288f1ea0"), looks := false }, kinds := [], alts := [], laidByText := true, laidKinds := [.data, .pinned], laidTests := true, laidLooks := .later }
def URLPartsUptoCardSaid : Prop := Claim7.holds Tryd.pinned (.plain (OpenSpec.upto uRLPartsSpec)) uRLPartsUptoCard

/-- THE SECOND FORM's CARD OF 'porticolaw4.URLGet'. -/
def uRLGetUptoCard : Claim7 := { stood := { row := uRLGetUptoRow, standIns := [], harness := (true, "e9847b35a1704661d8b303ab299baadde234e3bde69fa9ea550110cc288f1ea0"), looks := false }, kinds := [], alts := [], laidByText := true, laidKinds := [.data, .pinned], laidTests := true, laidLooks := .later }
def URLGetUptoCardSaid : Prop := Claim7.holds Tryd.pinned (.plain (OpenSpec.upto uRLGetSpec)) uRLGetUptoCard

/-- THE SECOND FORM's CARD OF 'porticolaw4.URLTells'. -/
def uRLTellsUptoCard : Claim7 := { stood := { row := uRLTellsUptoRow, standIns := [], harness := (true, "e9847b35a1704661d8b303ab299baadde234e3bde69fa9ea550110cc288f1ea0"), looks := false }, kinds := [], alts := [], laidByText := true, laidKinds := [.data, .pinned], laidTests := true, laidLooks := .later }
def URLTellsUptoCardSaid : Prop := Claim7.holds Tryd.pinned (.plain (OpenSpec.upto uRLTellsSpec)) uRLTellsUptoCard
end Rows
end Go.Proofs.YtcaaggfobdfgpaaDoor
