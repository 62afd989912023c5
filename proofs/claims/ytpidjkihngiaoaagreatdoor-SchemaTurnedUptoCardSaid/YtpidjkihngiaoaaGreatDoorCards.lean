/-
  DERIVED. GIVEN WITH THE SEED: THE CARDS: each row of YtpidjkihngiaoaaGreatDoorRows.lean that lists a variable, with what it lists TIED to the program's text (the seventh form; the later family's looks); each row that meets fmt, with fmt's text TOLD by the authors' own Lean function (tested against real Go, not proved from fmt's source: count such statements apart). THE CARD IS WHAT COUNTS. Prove the row's statement (the work); the ties are given (YtpidjkihngiaoaaGreatDoorTie.lean); close each card by the builder's one call (the guide's Derived/Test/ToyasCard.lean, 'card_holds'). Laid BY PROGRAM, IN A SANDBOX (cutbox-door.mjs). By AI agents, Wed Nov 11 2026. No macro, syntax, notation, axiom, sorry.
-/
import Derived.Test.YtpidjkihngiaoaaGreatDoorRows
import GoSem.ClaimSeven
namespace Go.Proofs.YtpidjkihngiaoaaGreatDoor
namespace Rows

/-- THE TIED CARD OF 'seinelaw23.CoerceInputs'. -/
def coerceInputsCard : Claim7 := { stood := { row := coerceInputsRow, standIns := [], harness := (true, "920733dd00c61dc90937265a19711242dc9f0fdd44c9f0f4744fe6860b48bc10"), looks := true }, kinds := [], alts := [], laidByText := true, laidKinds := [.data, .data, .data, .data, .sentinel, .sentinel, .pinned], laidTests := true, laidLooks := .later }
def CoerceInputsCardSaid : Prop := Claim7.holds Tryz.pinned (.plain (OpenSpec.ofChange coerceInputsSpec)) coerceInputsCard

/-- THE TIED CARD OF 'seinelaw23.CoerceVars'. -/
def coerceVarsCard : Claim7 := { stood := { row := coerceVarsRow, standIns := [], harness := (true, "920733dd00c61dc90937265a19711242dc9f0fdd44c9f0f4744fe6860b48bc10"), looks := true }, kinds := [], alts := [], laidByText := true, laidKinds := [.data, .data, .data, .data, .sentinel, .sentinel, .pinned], laidTests := true, laidLooks := .later }
def CoerceVarsCardSaid : Prop := Claim7.holds Tryz.pinned (.plain (OpenSpec.ofChange coerceVarsSpec)) coerceVarsCard

/-- THE TIED CARD OF 'seinelaw11.SchemaChecks'. -/
def schemaChecksCard : Claim7 := { stood := { row := schemaChecksRow, standIns := [], harness := (true, "920733dd00c61dc90937265a19711242dc9f0fdd44c9f0f4744fe6860b48bc10"), looks := true }, kinds := [], alts := [], laidByText := true, laidKinds := [.data, .data, .data, .data, .sentinel, .sentinel, .pinned], laidTests := true, laidLooks := .later }
def SchemaChecksCardSaid : Prop := Claim7.holds Tryz.pinned (.plain (OpenSpec.ofChange schemaChecksSpec)) schemaChecksCard

/-- THE TIED CARD OF 'seinelaw11.SchemaTurned'. -/
def schemaTurnedCard : Claim7 := { stood := { row := schemaTurnedRow, standIns := [], harness := (true, "920733dd00c61dc90937265a19711242dc9f0fdd44c9f0f4744fe6860b48bc10"), looks := true }, kinds := [], alts := [], laidByText := true, laidKinds := [.data, .data, .data, .data, .sentinel, .sentinel, .pinned], laidTests := true, laidLooks := .later }
def SchemaTurnedCardSaid : Prop := Claim7.holds Tryz.pinned (.plain (OpenSpec.ofChange schemaTurnedSpec)) schemaTurnedCard

/-- THE TIED CARD OF 'seinelaw11.SchemaGrows'. -/
def schemaGrowsCard : Claim7 := { stood := { row := schemaGrowsRow, standIns := [], harness := (true, "920733dd00c61dc90937265a19711242dc9f0fdd44c9f0f4744fe6860b48bc10"), looks := true }, kinds := [], alts := [], laidByText := true, laidKinds := [.data, .data, .data, .data, .sentinel, .sentinel, .pinned], laidTests := true, laidLooks := .later }
def SchemaGrowsCardSaid : Prop := Claim7.holds Tryz.pinned (.plain (OpenSpec.ofChange schemaGrowsSpec)) schemaGrowsCard

/-- THE TIED CARD OF 'seinelaw11.SchemaDefaults'. -/
def schemaDefaultsCard : Claim7 := { stood := { row := schemaDefaultsRow, standIns := [], harness := (true, "920733dd00c61dc90937265a19711242dc9f0fdd44c9f0f4744fe6860b48bc10"), looks := true }, kinds := [], alts := [], laidByText := true, laidKinds := [.data, .data, .data, .data, .sentinel, .sentinel, .pinned], laidTests := true, laidLooks := .later }
def SchemaDefaultsCardSaid : Prop := Claim7.holds Tryz.pinned (.plain (OpenSpec.ofChange schemaDefaultsSpec)) schemaDefaultsCard

/-- THE TIED CARD OF 'seinelaw11.SchemaFaces'. -/
def schemaFacesCard : Claim7 := { stood := { row := schemaFacesRow, standIns := [], harness := (true, "920733dd00c61dc90937265a19711242dc9f0fdd44c9f0f4744fe6860b48bc10"), looks := true }, kinds := [], alts := [], laidByText := true, laidKinds := [.data, .data, .data, .data, .sentinel, .sentinel, .pinned], laidTests := true, laidLooks := .later }
def SchemaFacesCardSaid : Prop := Claim7.holds Tryz.pinned (.plain (OpenSpec.ofChange schemaFacesSpec)) schemaFacesCard

/-- THE TIED CARD OF 'seinelaw12.BindChecks'. -/
def bindChecksCard : Claim7 := { stood := { row := bindChecksRow, standIns := [], harness := (true, "920733dd00c61dc90937265a19711242dc9f0fdd44c9f0f4744fe6860b48bc10"), looks := true }, kinds := [], alts := [], laidByText := true, laidKinds := [.data, .data, .data, .data, .sentinel, .sentinel, .pinned], laidTests := true, laidLooks := .later }
def BindChecksCardSaid : Prop := Claim7.holds Tryz.pinned (.plain (OpenSpec.ofChange bindChecksSpec)) bindChecksCard

/-- THE TIED CARD OF 'seinelaw12.BindSplits'. -/
def bindSplitsCard : Claim7 := { stood := { row := bindSplitsRow, standIns := [], harness := (true, "920733dd00c61dc90937265a19711242dc9f0fdd44c9f0f4744fe6860b48bc10"), looks := true }, kinds := [], alts := [], laidByText := true, laidKinds := [.data, .data, .data, .data, .sentinel, .sentinel, .pinned], laidTests := true, laidLooks := .later }
def BindSplitsCardSaid : Prop := Claim7.holds Tryz.pinned (.plain (OpenSpec.ofChange bindSplitsSpec)) bindSplitsCard

/-- THE TIED CARD OF 'seinelaw12.BindGets'. -/
def bindGetsCard : Claim7 := { stood := { row := bindGetsRow, standIns := [], harness := (true, "920733dd00c61dc90937265a19711242dc9f0fdd44c9f0f4744fe6860b48bc10"), looks := true }, kinds := [], alts := [], laidByText := true, laidKinds := [.data, .data, .data, .data, .sentinel, .sentinel, .pinned], laidTests := true, laidLooks := .later }
def BindGetsCardSaid : Prop := Claim7.holds Tryz.pinned (.plain (OpenSpec.ofChange bindGetsSpec)) bindGetsCard

/-- THE TIED CARD OF 'seinelaw12.BindPlain'. -/
def bindPlainCard : Claim7 := { stood := { row := bindPlainRow, standIns := [], harness := (true, "920733dd00c61dc90937265a19711242dc9f0fdd44c9f0f4744fe6860b48bc10"), looks := true }, kinds := [], alts := [], laidByText := true, laidKinds := [.data, .data, .data, .data, .sentinel, .sentinel, .pinned], laidTests := true, laidLooks := .later }
def BindPlainCardSaid : Prop := Claim7.holds Tryz.pinned (.plain (OpenSpec.ofChange bindPlainSpec)) bindPlainCard

/-- THE TIED CARD OF 'seinelaw23.CoerceAgain'. -/
def coerceAgainCard : Claim7 := { stood := { row := coerceAgainRow, standIns := [], harness := (true, "920733dd00c61dc90937265a19711242dc9f0fdd44c9f0f4744fe6860b48bc10"), looks := true }, kinds := [], alts := [], laidByText := true, laidKinds := [.data, .data, .data, .data, .sentinel, .sentinel, .pinned], laidTests := true, laidLooks := .later }
def CoerceAgainCardSaid : Prop := Claim7.holds Tryz.pinned (.plain (OpenSpec.ofChange coerceAgainSpec)) coerceAgainCard

/-- THE TIED CARD OF 'seinelaw23.CoerceRight'. -/
def coerceRightCard : Claim7 := { stood := { row := coerceRightRow, standIns := [], harness := (true, "920733dd00c61dc90937265a19711242dc9f0fdd44c9f0f4744fe6860b48bc10"), looks := true }, kinds := [], alts := [], laidByText := true, laidKinds := [.data, .data, .data, .data, .sentinel, .sentinel, .pinned], laidTests := true, laidLooks := .later }
def CoerceRightCardSaid : Prop := Claim7.holds Tryz.pinned (.plain (OpenSpec.ofChange coerceRightSpec)) coerceRightCard

/-- THE SECOND FORM's CARD OF 'seinelaw23.CoerceInputs'. -/
def coerceInputsUptoCard : Claim7 := { stood := { row := coerceInputsUptoRow, standIns := [], harness := (true, "920733dd00c61dc90937265a19711242dc9f0fdd44c9f0f4744fe6860b48bc10"), looks := true }, kinds := [], alts := [], laidByText := true, laidKinds := [.data, .data, .data, .data, .sentinel, .sentinel, .pinned], laidTests := true, laidLooks := .later }
def CoerceInputsUptoCardSaid : Prop := Claim7.holds Tryz.pinned (.plain (OpenSpec.upto coerceInputsSpec)) coerceInputsUptoCard

/-- THE SECOND FORM's CARD OF 'seinelaw23.CoerceVars'. -/
def coerceVarsUptoCard : Claim7 := { stood := { row := coerceVarsUptoRow, standIns := [], harness := (true, "920733dd00c61dc90937265a19711242dc9f0fdd44c9f0f4744fe6860b48bc10"), looks := true }, kinds := [], alts := [], laidByText := true, laidKinds := [.data, .data, .data, .data, .sentinel, .sentinel, .pinned], laidTests := true, laidLooks := .later }
def CoerceVarsUptoCardSaid : Prop := Claim7.holds Tryz.pinned (.plain (OpenSpec.upto coerceVarsSpec)) coerceVarsUptoCard

/-- THE SECOND FORM's CARD OF 'seinelaw11.SchemaChecks'. -/
def schemaChecksUptoCard : Claim7 := { stood := { row := schemaChecksUptoRow, standIns := [], harness := (true, "920733dd00c61dc90937265a19711242dc9f0fdd44c9f0f4744fe6860b48bc10"), looks := true }, kinds := [], alts := [], laidByText := true, laidKinds := [.data, .data, .data, .data, .sentinel, .sentinel, .pinned], laidTests := true, laidLooks := .later }
def SchemaChecksUptoCardSaid : Prop := Claim7.holds Tryz.pinned (.plain (OpenSpec.upto schemaChecksSpec)) schemaChecksUptoCard

/-- THE SECOND FORM's CARD OF 'seinelaw11.SchemaTurned'. -/
def schemaTurnedUptoCard : Claim7 := { stood := { row := schemaTurnedUptoRow, standIns := [], harness := (true, "920733dd00c61dc90937265a19711242dc9f0fdd44c9f0f4744fe6860b48bc10"), looks := true }, kinds := [], alts := [], laidByText := true, laidKinds := [.data, .data, .data, .data, .sentinel, .sentinel, .pinned], laidTests := true, laidLooks := .later }
def SchemaTurnedUptoCardSaid : Prop := Claim7.holds Tryz.pinned (.plain (OpenSpec.upto schemaTurnedSpec)) schemaTurnedUptoCard

/-- THE SECOND FORM's CARD OF 'seinelaw11.SchemaGrows'. -/
def schemaGrowsUptoCard : Claim7 := { stood := { row := schemaGrowsUptoRow, standIns := [], harness := (true, "920733dd00c61dc90937265a19711242dc9f0fdd44c9f0f4744fe6860b48bc10"), looks := true }, kinds := [], alts := [], laidByText := true, laidKinds := [.data, .data, .data, .data, .sentinel, .sentinel, .pinned], laidTests := true, laidLooks := .later }
def SchemaGrowsUptoCardSaid : Prop := Claim7.holds Tryz.pinned (.plain (OpenSpec.upto schemaGrowsSpec)) schemaGrowsUptoCard

/-- THE SECOND FORM's CARD OF 'seinelaw11.SchemaDefaults'. -/
def schemaDefaultsUptoCard : Claim7 := { stood := { row := schemaDefaultsUptoRow, standIns := [], harness := (true, "920733dd00c61dc90937265a19711242dc9f0fdd44c9f0f4744fe6860b48bc10"), looks := true }, kinds := [], alts := [], laidByText := true, laidKinds := [.data, .data, .data, .data, .sentinel, .sentinel, .pinned], laidTests := true, laidLooks := .later }
def SchemaDefaultsUptoCardSaid : Prop := Claim7.holds Tryz.pinned (.plain (OpenSpec.upto schemaDefaultsSpec)) schemaDefaultsUptoCard

/-- THE SECOND FORM's CARD OF 'seinelaw11.SchemaFaces'. -/
def schemaFacesUptoCard : Claim7 := { stood := { row := schemaFacesUptoRow, standIns := [], harness := (true, "920733dd00c61dc90937265a19711242dc9f0fdd44c9f0f4744fe6860b48bc10"), looks := true }, kinds := [], alts := [], laidByText := true, laidKinds := [.data, .data, .data, .data, .sentinel, .sentinel, .pinned], laidTests := true, laidLooks := .later }
def SchemaFacesUptoCardSaid : Prop := Claim7.holds Tryz.pinned (.plain (OpenSpec.upto schemaFacesSpec)) schemaFacesUptoCard

/-- THE SECOND FORM's CARD OF 'seinelaw12.BindChecks'. -/
def bindChecksUptoCard : Claim7 := { stood := { row := bindChecksUptoRow, standIns := [], harness := (true, "920733dd00c61dc90937265a19711242dc9f0fdd44c9f0f4744fe6860b48bc10"), looks := true }, kinds := [], alts := [], laidByText := true, laidKinds := [.data, .data, .data, .data, .sentinel, .sentinel, .pinned], laidTests := true, laidLooks := .later }
def BindChecksUptoCardSaid : Prop := Claim7.holds Tryz.pinned (.plain (OpenSpec.upto bindChecksSpec)) bindChecksUptoCard

/-- THE SECOND FORM's CARD OF 'seinelaw12.BindSplits'. -/
def bindSplitsUptoCard : Claim7 := { stood := { row := bindSplitsUptoRow, standIns := [], harness := (true, "920733dd00c61dc90937265a19711242dc9f0fdd44c9f0f4744fe6860b48bc10"), looks := true }, kinds := [], alts := [], laidByText := true, laidKinds := [.data, .data, .data, .data, .sentinel, .sentinel, .pinned], laidTests := true, laidLooks := .later }
def BindSplitsUptoCardSaid : Prop := Claim7.holds Tryz.pinned (.plain (OpenSpec.upto bindSplitsSpec)) bindSplitsUptoCard

/-- THE SECOND FORM's CARD OF 'seinelaw12.BindGets'. -/
def bindGetsUptoCard : Claim7 := { stood := { row := bindGetsUptoRow, standIns := [], harness := (true, "920733dd00c61dc90937265a19711242dc9f0fdd44c9f0f4744fe6860b48bc10"), looks := true }, kinds := [], alts := [], laidByText := true, laidKinds := [.data, .data, .data, .data, .sentinel, .sentinel, .pinned], laidTests := true, laidLooks := .later }
def BindGetsUptoCardSaid : Prop := Claim7.holds Tryz.pinned (.plain (OpenSpec.upto bindGetsSpec)) bindGetsUptoCard

/-- THE SECOND FORM's CARD OF 'seinelaw12.BindPlain'. -/
def bindPlainUptoCard : Claim7 := { stood := { row := bindPlainUptoRow, standIns := [], harness := (true, "920733dd00c61dc90937265a19711242dc9f0fdd44c9f0f4744fe6860b48bc10"), looks := true }, kinds := [], alts := [], laidByText := true, laidKinds := [.data, .data, .data, .data, .sentinel, .sentinel, .pinned], laidTests := true, laidLooks := .later }
def BindPlainUptoCardSaid : Prop := Claim7.holds Tryz.pinned (.plain (OpenSpec.upto bindPlainSpec)) bindPlainUptoCard

/-- THE SECOND FORM's CARD OF 'seinelaw23.CoerceAgain'. -/
def coerceAgainUptoCard : Claim7 := { stood := { row := coerceAgainUptoRow, standIns := [], harness := (true, "920733dd00c61dc90937265a19711242dc9f0fdd44c9f0f4744fe6860b48bc10"), looks := true }, kinds := [], alts := [], laidByText := true, laidKinds := [.data, .data, .data, .data, .sentinel, .sentinel, .pinned], laidTests := true, laidLooks := .later }
def CoerceAgainUptoCardSaid : Prop := Claim7.holds Tryz.pinned (.plain (OpenSpec.upto coerceAgainSpec)) coerceAgainUptoCard

/-- THE SECOND FORM's CARD OF 'seinelaw23.CoerceRight'. -/
def coerceRightUptoCard : Claim7 := { stood := { row := coerceRightUptoRow, standIns := [], harness := (true, "920733dd00c61dc90937265a19711242dc9f0fdd44c9f0f4744fe6860b48bc10"), looks := true }, kinds := [], alts := [], laidByText := true, laidKinds := [.data, .data, .data, .data, .sentinel, .sentinel, .pinned], laidTests := true, laidLooks := .later }
def CoerceRightUptoCardSaid : Prop := Claim7.holds Tryz.pinned (.plain (OpenSpec.upto coerceRightSpec)) coerceRightUptoCard
end Rows
end Go.Proofs.YtpidjkihngiaoaaGreatDoor
