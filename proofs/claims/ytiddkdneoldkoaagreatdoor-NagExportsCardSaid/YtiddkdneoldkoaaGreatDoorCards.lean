/-
  DERIVED. GIVEN WITH THE SEED: THE CARDS: each row of YtiddkdneoldkoaaGreatDoorRows.lean that lists a variable, with what it lists TIED to the program's text (the seventh form; the later family's looks); each row that meets fmt, with fmt's text TOLD by the authors' own Lean function (tested against real Go, not proved from fmt's source: count such statements apart). THE CARD IS WHAT COUNTS. Prove the row's statement (the work); the ties are given (YtiddkdneoldkoaaGreatDoorTie.lean); close each card by the builder's one call (the guide's Derived/Test/ToyasCard.lean, 'card_holds'). Laid BY PROGRAM, IN A SANDBOX (cutbox-door.mjs). By AI agents, Wed Nov 11 2026. No macro, syntax, notation, axiom, sorry.
-/
import Derived.Test.YtiddkdneoldkoaaGreatDoorRows
import GoSem.ClaimSeven
namespace Go.Proofs.YtiddkdneoldkoaaGreatDoor
namespace Rows

/-- THE TIED CARD OF 'transhipmentlaw18.DiffOne'. -/
def diffOneCard : Claim7 := { stood := { row := diffOneRow, standIns := [], harness := (true, "cd45e37b8aa834609e4f1070d9a783abe4f14363e7fef7293f412501837b8ada"), looks := false }, kinds := [], alts := [], laidByText := true, laidKinds := [.data, .pinned], laidTests := true, laidLooks := .later }
def DiffOneCardSaid : Prop := Claim7.holds Tryz.pinned (.plain (OpenSpec.ofChange diffOneSpec)) diffOneCard

/-- THE TIED CARD OF 'transhipmentlaw18.DiffNone'. -/
def diffNoneCard : Claim7 := { stood := { row := diffNoneRow, standIns := [], harness := (true, "cd45e37b8aa834609e4f1070d9a783abe4f14363e7fef7293f412501837b8ada"), looks := false }, kinds := [], alts := [], laidByText := true, laidKinds := [.data, .pinned], laidTests := true, laidLooks := .later }
def DiffNoneCardSaid : Prop := Claim7.holds Tryz.pinned (.plain (OpenSpec.ofChange diffNoneSpec)) diffNoneCard

/-- THE TIED CARD OF 'transhipmentlaw13.NagExports'. -/
def nagExportsCard : Claim7 := { stood := { row := nagExportsRow, standIns := [], harness := (true, "cd45e37b8aa834609e4f1070d9a783abe4f14363e7fef7293f412501837b8ada"), looks := false }, kinds := [], alts := [], laidByText := true, laidKinds := [.data, .data, .data, .data, .widerDeep, .pinned], laidTests := true, laidLooks := .later }
def NagExportsCardSaid : Prop := Claim7.holds Tryz.pinned (.plain (OpenSpec.ofChange nagExportsSpec)) nagExportsCard

/-- THE TIED CARD OF 'transhipmentlaw13.NagWhy'. -/
def nagWhyCard : Claim7 := { stood := { row := nagWhyRow, standIns := [], harness := (true, "cd45e37b8aa834609e4f1070d9a783abe4f14363e7fef7293f412501837b8ada"), looks := false }, kinds := [], alts := [], laidByText := true, laidKinds := [.data, .data, .data, .data, .widerDeep, .pinned], laidTests := true, laidLooks := .later }
def NagWhyCardSaid : Prop := Claim7.holds Tryz.pinned (.plain (OpenSpec.ofChange nagWhySpec)) nagWhyCard

/-- THE TIED CARD OF 'transhipmentlaw13.NagSmall'. -/
def nagSmallCard : Claim7 := { stood := { row := nagSmallRow, standIns := [], harness := (true, "cd45e37b8aa834609e4f1070d9a783abe4f14363e7fef7293f412501837b8ada"), looks := false }, kinds := [], alts := [], laidByText := true, laidKinds := [.data, .data, .data, .data, .widerDeep, .pinned], laidTests := true, laidLooks := .later }
def NagSmallCardSaid : Prop := Claim7.holds Tryz.pinned (.plain (OpenSpec.ofChange nagSmallSpec)) nagSmallCard

/-- THE TIED CARD OF 'transhipmentlaw13.NagApart'. -/
def nagApartCard : Claim7 := { stood := { row := nagApartRow, standIns := [], harness := (true, "cd45e37b8aa834609e4f1070d9a783abe4f14363e7fef7293f412501837b8ada"), looks := false }, kinds := [], alts := [], laidByText := true, laidKinds := [.data, .data, .data, .data, .widerDeep, .pinned], laidTests := true, laidLooks := .later }
def NagApartCardSaid : Prop := Claim7.holds Tryz.pinned (.plain (OpenSpec.ofChange nagApartSpec)) nagApartCard

/-- THE TIED CARD OF 'transhipmentlaw12.AmExports'. -/
def amExportsCard : Claim7 := { stood := { row := amExportsRow, standIns := [], harness := (true, "cd45e37b8aa834609e4f1070d9a783abe4f14363e7fef7293f412501837b8ada"), looks := false }, kinds := [], alts := [], laidByText := true, laidKinds := [.data, .data, .data, .data, .widerDeep, .pinned], laidTests := true, laidLooks := .later }
def AmExportsCardSaid : Prop := Claim7.holds Tryz.pinned (.plain (OpenSpec.ofChange amExportsSpec)) amExportsCard

/-- THE TIED CARD OF 'transhipmentlaw12.AmDeep'. -/
def amDeepCard : Claim7 := { stood := { row := amDeepRow, standIns := [], harness := (true, "cd45e37b8aa834609e4f1070d9a783abe4f14363e7fef7293f412501837b8ada"), looks := false }, kinds := [], alts := [], laidByText := true, laidKinds := [.data, .data, .data, .data, .widerDeep, .pinned], laidTests := true, laidLooks := .later }
def AmDeepCardSaid : Prop := Claim7.holds Tryz.pinned (.plain (OpenSpec.ofChange amDeepSpec)) amDeepCard

/-- THE TIED CARD OF 'transhipmentlaw12.AmRules'. -/
def amRulesCard : Claim7 := { stood := { row := amRulesRow, standIns := [], harness := (true, "cd45e37b8aa834609e4f1070d9a783abe4f14363e7fef7293f412501837b8ada"), looks := false }, kinds := [], alts := [], laidByText := true, laidKinds := [.data, .data, .data, .data, .widerDeep, .pinned], laidTests := true, laidLooks := .later }
def AmRulesCardSaid : Prop := Claim7.holds Tryz.pinned (.plain (OpenSpec.ofChange amRulesSpec)) amRulesCard

/-- THE TIED CARD OF 'transhipmentlaw10.ConfigMarks'. -/
def configMarksCard : Claim7 := { stood := { row := configMarksRow, standIns := [], harness := (true, "cd45e37b8aa834609e4f1070d9a783abe4f14363e7fef7293f412501837b8ada"), looks := false }, kinds := [], alts := [], laidByText := true, laidKinds := [.data, .data, .data, .data, .widerDeep, .data, .pinned], laidTests := true, laidLooks := .later }
def ConfigMarksCardSaid : Prop := Claim7.holds Tryz.pinned (.plain (OpenSpec.ofChange configMarksSpec)) configMarksCard

/-- THE TIED CARD OF 'transhipmentlaw12.AmApart'. -/
def amApartCard : Claim7 := { stood := { row := amApartRow, standIns := [], harness := (true, "cd45e37b8aa834609e4f1070d9a783abe4f14363e7fef7293f412501837b8ada"), looks := false }, kinds := [], alts := [], laidByText := true, laidKinds := [.data, .data, .data, .data, .widerDeep, .pinned], laidTests := true, laidLooks := .later }
def AmApartCardSaid : Prop := Claim7.holds Tryz.pinned (.plain (OpenSpec.ofChange amApartSpec)) amApartCard

/-- THE TIED CARD OF 'transhipmentlaw10.ConfigApart'. -/
def configApartCard : Claim7 := { stood := { row := configApartRow, standIns := [], harness := (true, "cd45e37b8aa834609e4f1070d9a783abe4f14363e7fef7293f412501837b8ada"), looks := false }, kinds := [], alts := [], laidByText := true, laidKinds := [.data, .data, .data, .data, .widerDeep, .data, .pinned], laidTests := true, laidLooks := .later }
def ConfigApartCardSaid : Prop := Claim7.holds Tryz.pinned (.plain (OpenSpec.ofChange configApartSpec)) configApartCard

/-- THE SECOND FORM's CARD OF 'transhipmentlaw18.DiffOne'. -/
def diffOneUptoCard : Claim7 := { stood := { row := diffOneUptoRow, standIns := [], harness := (true, "cd45e37b8aa834609e4f1070d9a783abe4f14363e7fef7293f412501837b8ada"), looks := false }, kinds := [], alts := [], laidByText := true, laidKinds := [.data, .pinned], laidTests := true, laidLooks := .later }
def DiffOneUptoCardSaid : Prop := Claim7.holds Tryz.pinned (.plain (OpenSpec.upto diffOneSpec)) diffOneUptoCard

/-- THE SECOND FORM's CARD OF 'transhipmentlaw18.DiffNone'. -/
def diffNoneUptoCard : Claim7 := { stood := { row := diffNoneUptoRow, standIns := [], harness := (true, "cd45e37b8aa834609e4f1070d9a783abe4f14363e7fef7293f412501837b8ada"), looks := false }, kinds := [], alts := [], laidByText := true, laidKinds := [.data, .pinned], laidTests := true, laidLooks := .later }
def DiffNoneUptoCardSaid : Prop := Claim7.holds Tryz.pinned (.plain (OpenSpec.upto diffNoneSpec)) diffNoneUptoCard

/-- THE SECOND FORM's CARD OF 'transhipmentlaw13.NagExports'. -/
def nagExportsUptoCard : Claim7 := { stood := { row := nagExportsUptoRow, standIns := [], harness := (true, "cd45e37b8aa834609e4f1070d9a783abe4f14363e7fef7293f412501837b8ada"), looks := false }, kinds := [], alts := [], laidByText := true, laidKinds := [.data, .data, .data, .data, .widerDeep, .pinned], laidTests := true, laidLooks := .later }
def NagExportsUptoCardSaid : Prop := Claim7.holds Tryz.pinned (.plain (OpenSpec.upto nagExportsSpec)) nagExportsUptoCard

/-- THE SECOND FORM's CARD OF 'transhipmentlaw13.NagWhy'. -/
def nagWhyUptoCard : Claim7 := { stood := { row := nagWhyUptoRow, standIns := [], harness := (true, "cd45e37b8aa834609e4f1070d9a783abe4f14363e7fef7293f412501837b8ada"), looks := false }, kinds := [], alts := [], laidByText := true, laidKinds := [.data, .data, .data, .data, .widerDeep, .pinned], laidTests := true, laidLooks := .later }
def NagWhyUptoCardSaid : Prop := Claim7.holds Tryz.pinned (.plain (OpenSpec.upto nagWhySpec)) nagWhyUptoCard

/-- THE SECOND FORM's CARD OF 'transhipmentlaw13.NagSmall'. -/
def nagSmallUptoCard : Claim7 := { stood := { row := nagSmallUptoRow, standIns := [], harness := (true, "cd45e37b8aa834609e4f1070d9a783abe4f14363e7fef7293f412501837b8ada"), looks := false }, kinds := [], alts := [], laidByText := true, laidKinds := [.data, .data, .data, .data, .widerDeep, .pinned], laidTests := true, laidLooks := .later }
def NagSmallUptoCardSaid : Prop := Claim7.holds Tryz.pinned (.plain (OpenSpec.upto nagSmallSpec)) nagSmallUptoCard

/-- THE SECOND FORM's CARD OF 'transhipmentlaw13.NagApart'. -/
def nagApartUptoCard : Claim7 := { stood := { row := nagApartUptoRow, standIns := [], harness := (true, "cd45e37b8aa834609e4f1070d9a783abe4f14363e7fef7293f412501837b8ada"), looks := false }, kinds := [], alts := [], laidByText := true, laidKinds := [.data, .data, .data, .data, .widerDeep, .pinned], laidTests := true, laidLooks := .later }
def NagApartUptoCardSaid : Prop := Claim7.holds Tryz.pinned (.plain (OpenSpec.upto nagApartSpec)) nagApartUptoCard

/-- THE SECOND FORM's CARD OF 'transhipmentlaw12.AmExports'. -/
def amExportsUptoCard : Claim7 := { stood := { row := amExportsUptoRow, standIns := [], harness := (true, "cd45e37b8aa834609e4f1070d9a783abe4f14363e7fef7293f412501837b8ada"), looks := false }, kinds := [], alts := [], laidByText := true, laidKinds := [.data, .data, .data, .data, .widerDeep, .pinned], laidTests := true, laidLooks := .later }
def AmExportsUptoCardSaid : Prop := Claim7.holds Tryz.pinned (.plain (OpenSpec.upto amExportsSpec)) amExportsUptoCard

/-- THE SECOND FORM's CARD OF 'transhipmentlaw12.AmDeep'. -/
def amDeepUptoCard : Claim7 := { stood := { row := amDeepUptoRow, standIns := [], harness := (true, "cd45e37b8aa834609e4f1070d9a783abe4f14363e7fef7293f412501837b8ada"), looks := false }, kinds := [], alts := [], laidByText := true, laidKinds := [.data, .data, .data, .data, .widerDeep, .pinned], laidTests := true, laidLooks := .later }
def AmDeepUptoCardSaid : Prop := Claim7.holds Tryz.pinned (.plain (OpenSpec.upto amDeepSpec)) amDeepUptoCard

/-- THE SECOND FORM's CARD OF 'transhipmentlaw12.AmRules'. -/
def amRulesUptoCard : Claim7 := { stood := { row := amRulesUptoRow, standIns := [], harness := (true, "cd45e37b8aa834609e4f1070d9a783abe4f14363e7fef7293f412501837b8ada"), looks := false }, kinds := [], alts := [], laidByText := true, laidKinds := [.data, .data, .data, .data, .widerDeep, .pinned], laidTests := true, laidLooks := .later }
def AmRulesUptoCardSaid : Prop := Claim7.holds Tryz.pinned (.plain (OpenSpec.upto amRulesSpec)) amRulesUptoCard

/-- THE SECOND FORM's CARD OF 'transhipmentlaw10.ConfigMarks'. -/
def configMarksUptoCard : Claim7 := { stood := { row := configMarksUptoRow, standIns := [], harness := (true, "cd45e37b8aa834609e4f1070d9a783abe4f14363e7fef7293f412501837b8ada"), looks := false }, kinds := [], alts := [], laidByText := true, laidKinds := [.data, .data, .data, .data, .widerDeep, .data, .pinned], laidTests := true, laidLooks := .later }
def ConfigMarksUptoCardSaid : Prop := Claim7.holds Tryz.pinned (.plain (OpenSpec.upto configMarksSpec)) configMarksUptoCard

/-- THE SECOND FORM's CARD OF 'transhipmentlaw12.AmApart'. -/
def amApartUptoCard : Claim7 := { stood := { row := amApartUptoRow, standIns := [], harness := (true, "cd45e37b8aa834609e4f1070d9a783abe4f14363e7fef7293f412501837b8ada"), looks := false }, kinds := [], alts := [], laidByText := true, laidKinds := [.data, .data, .data, .data, .widerDeep, .pinned], laidTests := true, laidLooks := .later }
def AmApartUptoCardSaid : Prop := Claim7.holds Tryz.pinned (.plain (OpenSpec.upto amApartSpec)) amApartUptoCard

/-- THE SECOND FORM's CARD OF 'transhipmentlaw10.ConfigApart'. -/
def configApartUptoCard : Claim7 := { stood := { row := configApartUptoRow, standIns := [], harness := (true, "cd45e37b8aa834609e4f1070d9a783abe4f14363e7fef7293f412501837b8ada"), looks := false }, kinds := [], alts := [], laidByText := true, laidKinds := [.data, .data, .data, .data, .widerDeep, .data, .pinned], laidTests := true, laidLooks := .later }
def ConfigApartUptoCardSaid : Prop := Claim7.holds Tryz.pinned (.plain (OpenSpec.upto configApartSpec)) configApartUptoCard
end Rows
end Go.Proofs.YtiddkdneoldkoaaGreatDoor
