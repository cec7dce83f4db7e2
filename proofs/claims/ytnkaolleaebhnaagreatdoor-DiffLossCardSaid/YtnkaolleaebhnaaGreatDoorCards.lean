/-
  DERIVED. GIVEN WITH THE SEED: THE CARDS: each row of YtnkaolleaebhnaaGreatDoorRows.lean that lists a variable, with what it lists TIED to the program's text (the seventh form; the later family's looks); each row that meets fmt, with fmt's text TOLD by the authors' own Lean function (tested against real Go, not proved from fmt's source: count such statements apart). THE CARD IS WHAT COUNTS. Prove the row's statement (the work); the ties are given (YtnkaolleaebhnaaGreatDoorTie.lean); close each card by the builder's one call (the guide's Derived/Test/ToyasCard.lean, 'card_holds'). Laid BY PROGRAM, IN A SANDBOX (cutbox-door.mjs). By AI agents, Wed Nov 11 2026. No macro, syntax, notation, axiom, sorry.
-/
import Derived.Test.YtnkaolleaebhnaaGreatDoorRows
import GoSem.ClaimSeven
namespace Go.Proofs.YtnkaolleaebhnaaGreatDoor
namespace Rows

/-- THE TIED CARD OF 'transhipmentlaw18.DiffOne'. -/
def diffOneCard : Claim7 := { stood := { row := diffOneRow, standIns := [], harness := (true, "16dc5b216e9e4ba74633c5eb29ed2d8ba72d9e2f4a073134c4cdc249a0f54b8c"), looks := false }, kinds := [], alts := [], laidByText := true, laidKinds := [.data, .pinned], laidTests := true, laidLooks := .later }
def DiffOneCardSaid : Prop := Claim7.holds Tryz.pinned (.plain (OpenSpec.ofChange diffOneSpec)) diffOneCard

/-- THE TIED CARD OF 'transhipmentlaw18.DiffNone'. -/
def diffNoneCard : Claim7 := { stood := { row := diffNoneRow, standIns := [], harness := (true, "16dc5b216e9e4ba74633c5eb29ed2d8ba72d9e2f4a073134c4cdc249a0f54b8c"), looks := false }, kinds := [], alts := [], laidByText := true, laidKinds := [.data, .pinned], laidTests := true, laidLooks := .later }
def DiffNoneCardSaid : Prop := Claim7.holds Tryz.pinned (.plain (OpenSpec.ofChange diffNoneSpec)) diffNoneCard

/-- THE TIED CARD OF 'transhipmentlaw18.DiffLoss'. -/
def diffLossCard : Claim7 := { stood := { row := diffLossRow, standIns := [], harness := (true, "16dc5b216e9e4ba74633c5eb29ed2d8ba72d9e2f4a073134c4cdc249a0f54b8c"), looks := false }, kinds := [], alts := [], laidByText := true, laidKinds := [.data, .pinned], laidTests := true, laidLooks := .later }
def DiffLossCardSaid : Prop := Claim7.holds Tryz.pinned (.plain (OpenSpec.ofChange diffLossSpec)) diffLossCard

/-- THE TIED CARD OF 'transhipmentlaw18.DiffTells'. -/
def diffTellsCard : Claim7 := { stood := { row := diffTellsRow, standIns := [], harness := (true, "16dc5b216e9e4ba74633c5eb29ed2d8ba72d9e2f4a073134c4cdc249a0f54b8c"), looks := false }, kinds := [], alts := [], laidByText := true, laidKinds := [.data, .data, .data, .data, .pinned], laidTests := true, laidLooks := .later }
def DiffTellsCardSaid : Prop := Claim7.holds Tryz.pinned (.plain (OpenSpec.ofChange diffTellsSpec)) diffTellsCard

/-- THE TIED CARD OF 'transhipmentlaw10.ConfigTexts'. -/
def configTextsCard : Claim7 := { stood := { row := configTextsRow, standIns := [], harness := (true, "16dc5b216e9e4ba74633c5eb29ed2d8ba72d9e2f4a073134c4cdc249a0f54b8c"), looks := false }, kinds := [], alts := [], laidByText := true, laidKinds := [.data, .data, .data, .data, .widerDeep, .data, .pinned], laidTests := true, laidLooks := .later }
def ConfigTextsCardSaid : Prop := Claim7.holds Tryz.pinned (.plain (OpenSpec.ofChange configTextsSpec)) configTextsCard

/-- THE TIED CARD OF 'transhipmentlaw10.ConfigMarks'. -/
def configMarksCard : Claim7 := { stood := { row := configMarksRow, standIns := [], harness := (true, "16dc5b216e9e4ba74633c5eb29ed2d8ba72d9e2f4a073134c4cdc249a0f54b8c"), looks := false }, kinds := [], alts := [], laidByText := true, laidKinds := [.data, .data, .data, .data, .widerDeep, .data, .pinned], laidTests := true, laidLooks := .later }
def ConfigMarksCardSaid : Prop := Claim7.holds Tryz.pinned (.plain (OpenSpec.ofChange configMarksSpec)) configMarksCard

/-- THE TIED CARD OF 'transhipmentlaw10.ConfigApart'. -/
def configApartCard : Claim7 := { stood := { row := configApartRow, standIns := [], harness := (true, "16dc5b216e9e4ba74633c5eb29ed2d8ba72d9e2f4a073134c4cdc249a0f54b8c"), looks := false }, kinds := [], alts := [], laidByText := true, laidKinds := [.data, .data, .data, .data, .widerDeep, .data, .pinned], laidTests := true, laidLooks := .later }
def ConfigApartCardSaid : Prop := Claim7.holds Tryz.pinned (.plain (OpenSpec.ofChange configApartSpec)) configApartCard

/-- THE SECOND FORM's CARD OF 'transhipmentlaw18.DiffOne'. -/
def diffOneUptoCard : Claim7 := { stood := { row := diffOneUptoRow, standIns := [], harness := (true, "16dc5b216e9e4ba74633c5eb29ed2d8ba72d9e2f4a073134c4cdc249a0f54b8c"), looks := false }, kinds := [], alts := [], laidByText := true, laidKinds := [.data, .pinned], laidTests := true, laidLooks := .later }
def DiffOneUptoCardSaid : Prop := Claim7.holds Tryz.pinned (.plain (OpenSpec.upto diffOneSpec)) diffOneUptoCard

/-- THE SECOND FORM's CARD OF 'transhipmentlaw18.DiffNone'. -/
def diffNoneUptoCard : Claim7 := { stood := { row := diffNoneUptoRow, standIns := [], harness := (true, "16dc5b216e9e4ba74633c5eb29ed2d8ba72d9e2f4a073134c4cdc249a0f54b8c"), looks := false }, kinds := [], alts := [], laidByText := true, laidKinds := [.data, .pinned], laidTests := true, laidLooks := .later }
def DiffNoneUptoCardSaid : Prop := Claim7.holds Tryz.pinned (.plain (OpenSpec.upto diffNoneSpec)) diffNoneUptoCard

/-- THE SECOND FORM's CARD OF 'transhipmentlaw18.DiffLoss'. -/
def diffLossUptoCard : Claim7 := { stood := { row := diffLossUptoRow, standIns := [], harness := (true, "16dc5b216e9e4ba74633c5eb29ed2d8ba72d9e2f4a073134c4cdc249a0f54b8c"), looks := false }, kinds := [], alts := [], laidByText := true, laidKinds := [.data, .pinned], laidTests := true, laidLooks := .later }
def DiffLossUptoCardSaid : Prop := Claim7.holds Tryz.pinned (.plain (OpenSpec.upto diffLossSpec)) diffLossUptoCard

/-- THE SECOND FORM's CARD OF 'transhipmentlaw18.DiffTells'. -/
def diffTellsUptoCard : Claim7 := { stood := { row := diffTellsUptoRow, standIns := [], harness := (true, "16dc5b216e9e4ba74633c5eb29ed2d8ba72d9e2f4a073134c4cdc249a0f54b8c"), looks := false }, kinds := [], alts := [], laidByText := true, laidKinds := [.data, .data, .data, .data, .pinned], laidTests := true, laidLooks := .later }
def DiffTellsUptoCardSaid : Prop := Claim7.holds Tryz.pinned (.plain (OpenSpec.upto diffTellsSpec)) diffTellsUptoCard

/-- THE SECOND FORM's CARD OF 'transhipmentlaw10.ConfigTexts'. -/
def configTextsUptoCard : Claim7 := { stood := { row := configTextsUptoRow, standIns := [], harness := (true, "16dc5b216e9e4ba74633c5eb29ed2d8ba72d9e2f4a073134c4cdc249a0f54b8c"), looks := false }, kinds := [], alts := [], laidByText := true, laidKinds := [.data, .data, .data, .data, .widerDeep, .data, .pinned], laidTests := true, laidLooks := .later }
def ConfigTextsUptoCardSaid : Prop := Claim7.holds Tryz.pinned (.plain (OpenSpec.upto configTextsSpec)) configTextsUptoCard

/-- THE SECOND FORM's CARD OF 'transhipmentlaw10.ConfigMarks'. -/
def configMarksUptoCard : Claim7 := { stood := { row := configMarksUptoRow, standIns := [], harness := (true, "16dc5b216e9e4ba74633c5eb29ed2d8ba72d9e2f4a073134c4cdc249a0f54b8c"), looks := false }, kinds := [], alts := [], laidByText := true, laidKinds := [.data, .data, .data, .data, .widerDeep, .data, .pinned], laidTests := true, laidLooks := .later }
def ConfigMarksUptoCardSaid : Prop := Claim7.holds Tryz.pinned (.plain (OpenSpec.upto configMarksSpec)) configMarksUptoCard

/-- THE SECOND FORM's CARD OF 'transhipmentlaw10.ConfigApart'. -/
def configApartUptoCard : Claim7 := { stood := { row := configApartUptoRow, standIns := [], harness := (true, "16dc5b216e9e4ba74633c5eb29ed2d8ba72d9e2f4a073134c4cdc249a0f54b8c"), looks := false }, kinds := [], alts := [], laidByText := true, laidKinds := [.data, .data, .data, .data, .widerDeep, .data, .pinned], laidTests := true, laidLooks := .later }
def ConfigApartUptoCardSaid : Prop := Claim7.holds Tryz.pinned (.plain (OpenSpec.upto configApartSpec)) configApartUptoCard
end Rows
end Go.Proofs.YtnkaolleaebhnaaGreatDoor
