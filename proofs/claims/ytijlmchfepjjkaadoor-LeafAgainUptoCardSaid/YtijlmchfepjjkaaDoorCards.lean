/-
  DERIVED. GIVEN WITH THE SEED: THE CARDS: each row of YtijlmchfepjjkaaDoorRows.lean that lists a variable, with what it lists TIED to the program's text (the seventh form; the later family's looks); each row that meets fmt, with fmt's text TOLD by the authors' own Lean function (tested against real Go, not proved from fmt's source: count such statements apart). THE CARD IS WHAT COUNTS. Prove the row's statement (the work); the ties are given (YtijlmchfepjjkaaDoorTie.lean); close each card by the builder's one call (the guide's Derived/Test/ToyasCard.lean, 'card_holds'). Laid BY PROGRAM, IN A SANDBOX (cutbox-door.mjs). By AI agents, Wed Nov 11 2026. No macro, syntax, notation, axiom, sorry.
-/
import Derived.Test.YtijlmchfepjjkaaDoorRows
import GoSem.ClaimSeven
namespace Go.Proofs.YtijlmchfepjjkaaDoor
namespace Rows

/-- THE TIED CARD OF 'seinelaw24.LeafAgain'. -/
def leafAgainCard : Claim7 := { stood := { row := leafAgainRow, standIns := [], harness := (true, "f278a344686028631fb0c7ffab601978e522d135c09e6968d464e7e001d522d0"), looks := true }, kinds := [], alts := [], laidByText := true, laidKinds := [.data, .data, .data, .data, .sentinel, .sentinel, .pinned], laidTests := true, laidLooks := .later }
def LeafAgainCardSaid : Prop := Claim7.holds Tryd.pinned (.plain (OpenSpec.ofChange leafAgainSpec)) leafAgainCard

/-- THE TIED CARD OF 'seinelaw24.LeafKinds'. -/
def leafKindsCard : Claim7 := { stood := { row := leafKindsRow, standIns := [], harness := (true, "f278a344686028631fb0c7ffab601978e522d135c09e6968d464e7e001d522d0"), looks := true }, kinds := [], alts := [], laidByText := true, laidKinds := [.data, .data, .data, .data, .sentinel, .sentinel, .pinned], laidTests := true, laidLooks := .later }
def LeafKindsCardSaid : Prop := Claim7.holds Tryd.pinned (.plain (OpenSpec.ofChange leafKindsSpec)) leafKindsCard

/-- THE TIED CARD OF 'seinelaw27.TableSays'. -/
def tableSaysCard : Claim7 := { stood := { row := tableSaysRow, standIns := [], harness := (true, "f278a344686028631fb0c7ffab601978e522d135c09e6968d464e7e001d522d0"), looks := true }, kinds := [], alts := [], laidByText := true, laidKinds := [.data, .data, .data, .data, .sentinel, .sentinel, .pinned], laidTests := true, laidLooks := .later }
def TableSaysCardSaid : Prop := Claim7.holds Tryd.pinned (.plain (OpenSpec.ofChange tableSaysSpec)) tableSaysCard

/-- THE TIED CARD OF 'seinelaw10.LiteralInts'. -/
def literalIntsCard : Claim7 := { stood := { row := literalIntsRow, standIns := [], harness := (true, "f278a344686028631fb0c7ffab601978e522d135c09e6968d464e7e001d522d0"), looks := true }, kinds := [], alts := [], laidByText := true, laidKinds := [.data, .data, .data, .data, .sentinel, .sentinel, .pinned], laidTests := true, laidLooks := .later }
def LiteralIntsCardSaid : Prop := Claim7.holds Tryd.pinned (.plain (OpenSpec.ofChange literalIntsSpec)) literalIntsCard

/-- THE TIED CARD OF 'seinelaw10.LiteralLists'. -/
def literalListsCard : Claim7 := { stood := { row := literalListsRow, standIns := [], harness := (true, "f278a344686028631fb0c7ffab601978e522d135c09e6968d464e7e001d522d0"), looks := true }, kinds := [], alts := [], laidByText := true, laidKinds := [.data, .data, .data, .data, .sentinel, .sentinel, .pinned], laidTests := true, laidLooks := .later }
def LiteralListsCardSaid : Prop := Claim7.holds Tryd.pinned (.plain (OpenSpec.ofChange literalListsSpec)) literalListsCard

/-- THE TIED CARD OF 'seinelaw10.LiteralBare'. -/
def literalBareCard : Claim7 := { stood := { row := literalBareRow, standIns := [], harness := (true, "f278a344686028631fb0c7ffab601978e522d135c09e6968d464e7e001d522d0"), looks := true }, kinds := [], alts := [], laidByText := true, laidKinds := [.data, .data, .data, .data, .sentinel, .sentinel, .pinned], laidTests := true, laidLooks := .later }
def LiteralBareCardSaid : Prop := Claim7.holds Tryd.pinned (.plain (OpenSpec.ofChange literalBareSpec)) literalBareCard

/-- THE TIED CARD OF 'seinelaw10.LiteralAlone'. -/
def literalAloneCard : Claim7 := { stood := { row := literalAloneRow, standIns := [], harness := (true, "f278a344686028631fb0c7ffab601978e522d135c09e6968d464e7e001d522d0"), looks := true }, kinds := [], alts := [], laidByText := true, laidKinds := [.data, .data, .data, .data, .sentinel, .sentinel, .pinned], laidTests := true, laidLooks := .later }
def LiteralAloneCardSaid : Prop := Claim7.holds Tryd.pinned (.plain (OpenSpec.ofChange literalAloneSpec)) literalAloneCard

/-- THE TIED CARD OF 'seinelaw10.LiteralNames'. -/
def literalNamesCard : Claim7 := { stood := { row := literalNamesRow, standIns := [], harness := (true, "f278a344686028631fb0c7ffab601978e522d135c09e6968d464e7e001d522d0"), looks := true }, kinds := [], alts := [], laidByText := true, laidKinds := [.data, .data, .data, .data, .sentinel, .sentinel, .pinned], laidTests := true, laidLooks := .later }
def LiteralNamesCardSaid : Prop := Claim7.holds Tryd.pinned (.plain (OpenSpec.ofChange literalNamesSpec)) literalNamesCard

/-- THE TIED CARD OF 'seinelaw23.CoerceLeft'. -/
def coerceLeftCard : Claim7 := { stood := { row := coerceLeftRow, standIns := [], harness := (true, "f278a344686028631fb0c7ffab601978e522d135c09e6968d464e7e001d522d0"), looks := true }, kinds := [], alts := [], laidByText := true, laidKinds := [.data, .data, .data, .data, .sentinel, .sentinel, .pinned], laidTests := true, laidLooks := .later }
def CoerceLeftCardSaid : Prop := Claim7.holds Tryd.pinned (.plain (OpenSpec.ofChange coerceLeftSpec)) coerceLeftCard

/-- THE TIED CARD OF 'seinelaw28.CommandMays'. -/
def commandMaysCard : Claim7 := { stood := { row := commandMaysRow, standIns := [], harness := (true, "f278a344686028631fb0c7ffab601978e522d135c09e6968d464e7e001d522d0"), looks := true }, kinds := [], alts := [], laidByText := true, laidKinds := [.data, .data, .data, .data, .sentinel, .sentinel, .pinned], laidTests := true, laidLooks := .later }
def CommandMaysCardSaid : Prop := Claim7.holds Tryd.pinned (.plain (OpenSpec.ofChange commandMaysSpec)) commandMaysCard

/-- THE TIED CARD OF 'seinelaw23.CoerceNulls'. -/
def coerceNullsCard : Claim7 := { stood := { row := coerceNullsRow, standIns := [], harness := (true, "f278a344686028631fb0c7ffab601978e522d135c09e6968d464e7e001d522d0"), looks := true }, kinds := [], alts := [], laidByText := true, laidKinds := [.data, .data, .data, .data, .sentinel, .sentinel, .pinned], laidTests := true, laidLooks := .later }
def CoerceNullsCardSaid : Prop := Claim7.holds Tryd.pinned (.plain (OpenSpec.ofChange coerceNullsSpec)) coerceNullsCard

/-- THE SECOND FORM's CARD OF 'seinelaw24.LeafAgain'. -/
def leafAgainUptoCard : Claim7 := { stood := { row := leafAgainUptoRow, standIns := [], harness := (true, "f278a344686028631fb0c7ffab601978e522d135c09e6968d464e7e001d522d0"), looks := true }, kinds := [], alts := [], laidByText := true, laidKinds := [.data, .data, .data, .data, .sentinel, .sentinel, .pinned], laidTests := true, laidLooks := .later }
def LeafAgainUptoCardSaid : Prop := Claim7.holds Tryd.pinned (.plain (OpenSpec.upto leafAgainSpec)) leafAgainUptoCard

/-- THE SECOND FORM's CARD OF 'seinelaw24.LeafKinds'. -/
def leafKindsUptoCard : Claim7 := { stood := { row := leafKindsUptoRow, standIns := [], harness := (true, "f278a344686028631fb0c7ffab601978e522d135c09e6968d464e7e001d522d0"), looks := true }, kinds := [], alts := [], laidByText := true, laidKinds := [.data, .data, .data, .data, .sentinel, .sentinel, .pinned], laidTests := true, laidLooks := .later }
def LeafKindsUptoCardSaid : Prop := Claim7.holds Tryd.pinned (.plain (OpenSpec.upto leafKindsSpec)) leafKindsUptoCard

/-- THE SECOND FORM's CARD OF 'seinelaw27.TableSays'. -/
def tableSaysUptoCard : Claim7 := { stood := { row := tableSaysUptoRow, standIns := [], harness := (true, "f278a344686028631fb0c7ffab601978e522d135c09e6968d464e7e001d522d0"), looks := true }, kinds := [], alts := [], laidByText := true, laidKinds := [.data, .data, .data, .data, .sentinel, .sentinel, .pinned], laidTests := true, laidLooks := .later }
def TableSaysUptoCardSaid : Prop := Claim7.holds Tryd.pinned (.plain (OpenSpec.upto tableSaysSpec)) tableSaysUptoCard

/-- THE SECOND FORM's CARD OF 'seinelaw10.LiteralInts'. -/
def literalIntsUptoCard : Claim7 := { stood := { row := literalIntsUptoRow, standIns := [], harness := (true, "f278a344686028631fb0c7ffab601978e522d135c09e6968d464e7e001d522d0"), looks := true }, kinds := [], alts := [], laidByText := true, laidKinds := [.data, .data, .data, .data, .sentinel, .sentinel, .pinned], laidTests := true, laidLooks := .later }
def LiteralIntsUptoCardSaid : Prop := Claim7.holds Tryd.pinned (.plain (OpenSpec.upto literalIntsSpec)) literalIntsUptoCard

/-- THE SECOND FORM's CARD OF 'seinelaw10.LiteralLists'. -/
def literalListsUptoCard : Claim7 := { stood := { row := literalListsUptoRow, standIns := [], harness := (true, "f278a344686028631fb0c7ffab601978e522d135c09e6968d464e7e001d522d0"), looks := true }, kinds := [], alts := [], laidByText := true, laidKinds := [.data, .data, .data, .data, .sentinel, .sentinel, .pinned], laidTests := true, laidLooks := .later }
def LiteralListsUptoCardSaid : Prop := Claim7.holds Tryd.pinned (.plain (OpenSpec.upto literalListsSpec)) literalListsUptoCard

/-- THE SECOND FORM's CARD OF 'seinelaw10.LiteralBare'. -/
def literalBareUptoCard : Claim7 := { stood := { row := literalBareUptoRow, standIns := [], harness := (true, "f278a344686028631fb0c7ffab601978e522d135c09e6968d464e7e001d522d0"), looks := true }, kinds := [], alts := [], laidByText := true, laidKinds := [.data, .data, .data, .data, .sentinel, .sentinel, .pinned], laidTests := true, laidLooks := .later }
def LiteralBareUptoCardSaid : Prop := Claim7.holds Tryd.pinned (.plain (OpenSpec.upto literalBareSpec)) literalBareUptoCard

/-- THE SECOND FORM's CARD OF 'seinelaw10.LiteralAlone'. -/
def literalAloneUptoCard : Claim7 := { stood := { row := literalAloneUptoRow, standIns := [], harness := (true, "f278a344686028631fb0c7ffab601978e522d135c09e6968d464e7e001d522d0"), looks := true }, kinds := [], alts := [], laidByText := true, laidKinds := [.data, .data, .data, .data, .sentinel, .sentinel, .pinned], laidTests := true, laidLooks := .later }
def LiteralAloneUptoCardSaid : Prop := Claim7.holds Tryd.pinned (.plain (OpenSpec.upto literalAloneSpec)) literalAloneUptoCard

/-- THE SECOND FORM's CARD OF 'seinelaw10.LiteralNames'. -/
def literalNamesUptoCard : Claim7 := { stood := { row := literalNamesUptoRow, standIns := [], harness := (true, "f278a344686028631fb0c7ffab601978e522d135c09e6968d464e7e001d522d0"), looks := true }, kinds := [], alts := [], laidByText := true, laidKinds := [.data, .data, .data, .data, .sentinel, .sentinel, .pinned], laidTests := true, laidLooks := .later }
def LiteralNamesUptoCardSaid : Prop := Claim7.holds Tryd.pinned (.plain (OpenSpec.upto literalNamesSpec)) literalNamesUptoCard

/-- THE SECOND FORM's CARD OF 'seinelaw23.CoerceLeft'. -/
def coerceLeftUptoCard : Claim7 := { stood := { row := coerceLeftUptoRow, standIns := [], harness := (true, "f278a344686028631fb0c7ffab601978e522d135c09e6968d464e7e001d522d0"), looks := true }, kinds := [], alts := [], laidByText := true, laidKinds := [.data, .data, .data, .data, .sentinel, .sentinel, .pinned], laidTests := true, laidLooks := .later }
def CoerceLeftUptoCardSaid : Prop := Claim7.holds Tryd.pinned (.plain (OpenSpec.upto coerceLeftSpec)) coerceLeftUptoCard

/-- THE SECOND FORM's CARD OF 'seinelaw28.CommandMays'. -/
def commandMaysUptoCard : Claim7 := { stood := { row := commandMaysUptoRow, standIns := [], harness := (true, "f278a344686028631fb0c7ffab601978e522d135c09e6968d464e7e001d522d0"), looks := true }, kinds := [], alts := [], laidByText := true, laidKinds := [.data, .data, .data, .data, .sentinel, .sentinel, .pinned], laidTests := true, laidLooks := .later }
def CommandMaysUptoCardSaid : Prop := Claim7.holds Tryd.pinned (.plain (OpenSpec.upto commandMaysSpec)) commandMaysUptoCard

/-- THE SECOND FORM's CARD OF 'seinelaw23.CoerceNulls'. -/
def coerceNullsUptoCard : Claim7 := { stood := { row := coerceNullsUptoRow, standIns := [], harness := (true, "f278a344686028631fb0c7ffab601978e522d135c09e6968d464e7e001d522d0"), looks := true }, kinds := [], alts := [], laidByText := true, laidKinds := [.data, .data, .data, .data, .sentinel, .sentinel, .pinned], laidTests := true, laidLooks := .later }
def CoerceNullsUptoCardSaid : Prop := Claim7.holds Tryd.pinned (.plain (OpenSpec.upto coerceNullsSpec)) coerceNullsUptoCard
end Rows
end Go.Proofs.YtijlmchfepjjkaaDoor
