/-
  DERIVED. GIVEN WITH THE SEED: THE CARDS: each row of YtijlmchfepjjkaaGreatDoorRows.lean that lists a variable, with what it lists TIED to the program's text (the seventh form; the later family's looks); each row that meets fmt, with fmt's text TOLD by the authors' own Lean function (tested against real Go, not proved from fmt's source: count such statements apart). THE CARD IS WHAT COUNTS. Prove the row's statement (the work); the ties are given (YtijlmchfepjjkaaGreatDoorTie.lean); close each card by the builder's one call (the guide's Derived/Test/ToyasCard.lean, 'card_holds'). Laid BY PROGRAM, IN A SANDBOX (cutbox-door.mjs). By AI agents, Wed Nov 11 2026. No macro, syntax, notation, axiom, sorry.
-/
import Derived.Test.YtijlmchfepjjkaaGreatDoorRows
import GoSem.ClaimSeven
namespace Go.Proofs.YtijlmchfepjjkaaGreatDoor
namespace Rows

/-- THE TIED CARD OF 'seinelaw10.LiteralSpots'. -/
def literalSpotsCard : Claim7 := { stood := { row := literalSpotsRow, standIns := [], harness := (true, "d7b35c4bd445bfd2f47744d0f80dca54bebb33433cdfa17013a37ce3a71b35b7"), looks := true }, kinds := [], alts := [], laidByText := true, laidKinds := [.data, .data, .data, .data, .sentinel, .sentinel, .pinned], laidTests := true, laidLooks := .later }
def LiteralSpotsCardSaid : Prop := Claim7.holds Tryz.pinned (.plain (OpenSpec.ofChange literalSpotsSpec)) literalSpotsCard

/-- THE TIED CARD OF 'seinelaw23.CoerceInputs'. -/
def coerceInputsCard : Claim7 := { stood := { row := coerceInputsRow, standIns := [], harness := (true, "d7b35c4bd445bfd2f47744d0f80dca54bebb33433cdfa17013a37ce3a71b35b7"), looks := true }, kinds := [], alts := [], laidByText := true, laidKinds := [.data, .data, .data, .data, .sentinel, .sentinel, .pinned], laidTests := true, laidLooks := .later }
def CoerceInputsCardSaid : Prop := Claim7.holds Tryz.pinned (.plain (OpenSpec.ofChange coerceInputsSpec)) coerceInputsCard

/-- THE TIED CARD OF 'seinelaw23.CoerceVars'. -/
def coerceVarsCard : Claim7 := { stood := { row := coerceVarsRow, standIns := [], harness := (true, "d7b35c4bd445bfd2f47744d0f80dca54bebb33433cdfa17013a37ce3a71b35b7"), looks := true }, kinds := [], alts := [], laidByText := true, laidKinds := [.data, .data, .data, .data, .sentinel, .sentinel, .pinned], laidTests := true, laidLooks := .later }
def CoerceVarsCardSaid : Prop := Claim7.holds Tryz.pinned (.plain (OpenSpec.ofChange coerceVarsSpec)) coerceVarsCard

/-- THE SECOND FORM's CARD OF 'seinelaw10.LiteralSpots'. -/
def literalSpotsUptoCard : Claim7 := { stood := { row := literalSpotsUptoRow, standIns := [], harness := (true, "d7b35c4bd445bfd2f47744d0f80dca54bebb33433cdfa17013a37ce3a71b35b7"), looks := true }, kinds := [], alts := [], laidByText := true, laidKinds := [.data, .data, .data, .data, .sentinel, .sentinel, .pinned], laidTests := true, laidLooks := .later }
def LiteralSpotsUptoCardSaid : Prop := Claim7.holds Tryz.pinned (.plain (OpenSpec.upto literalSpotsSpec)) literalSpotsUptoCard

/-- THE SECOND FORM's CARD OF 'seinelaw23.CoerceInputs'. -/
def coerceInputsUptoCard : Claim7 := { stood := { row := coerceInputsUptoRow, standIns := [], harness := (true, "d7b35c4bd445bfd2f47744d0f80dca54bebb33433cdfa17013a37ce3a71b35b7"), looks := true }, kinds := [], alts := [], laidByText := true, laidKinds := [.data, .data, .data, .data, .sentinel, .sentinel, .pinned], laidTests := true, laidLooks := .later }
def CoerceInputsUptoCardSaid : Prop := Claim7.holds Tryz.pinned (.plain (OpenSpec.upto coerceInputsSpec)) coerceInputsUptoCard

/-- THE SECOND FORM's CARD OF 'seinelaw23.CoerceVars'. -/
def coerceVarsUptoCard : Claim7 := { stood := { row := coerceVarsUptoRow, standIns := [], harness := (true, "d7b35c4bd445bfd2f47744d0f80dca54bebb33433cdfa17013a37ce3a71b35b7"), looks := true }, kinds := [], alts := [], laidByText := true, laidKinds := [.data, .data, .data, .data, .sentinel, .sentinel, .pinned], laidTests := true, laidLooks := .later }
def CoerceVarsUptoCardSaid : Prop := Claim7.holds Tryz.pinned (.plain (OpenSpec.upto coerceVarsSpec)) coerceVarsUptoCard
end Rows
end Go.Proofs.YtijlmchfepjjkaaGreatDoor
