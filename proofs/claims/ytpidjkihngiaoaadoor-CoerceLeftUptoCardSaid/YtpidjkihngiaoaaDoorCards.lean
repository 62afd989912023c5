/-
  DERIVED. GIVEN WITH THE SEED: THE CARDS: each row of YtpidjkihngiaoaaDoorRows.lean that lists a variable, with what it lists TIED to the program's text (the seventh form; the later family's looks); each row that meets fmt, with fmt's text TOLD by the authors' own Lean function (tested against real Go, not proved from fmt's source: count such statements apart). THE CARD IS WHAT COUNTS. Prove the row's statement (the work); the ties are given (YtpidjkihngiaoaaDoorTie.lean); close each card by the builder's one call (the guide's Derived/Test/ToyasCard.lean, 'card_holds'). Laid BY PROGRAM, IN A SANDBOX (cutbox-door.mjs). By AI agents, Wed Nov 11 2026. No macro, syntax, notation, axiom, sorry.
-/
import Derived.Test.YtpidjkihngiaoaaDoorRows
import GoSem.ClaimSeven
namespace Go.Proofs.YtpidjkihngiaoaaDoor
namespace Rows

/-- THE TIED CARD OF 'seinelaw23.CoerceLeft'. -/
def coerceLeftCard : Claim7 := { stood := { row := coerceLeftRow, standIns := [], harness := (true, "d1a07ad1c6fe87fcebd912e8b5375325e9b6e700b7021285edfa66092492abaa"), looks := true }, kinds := [], alts := [], laidByText := true, laidKinds := [.data, .data, .data, .data, .sentinel, .sentinel, .pinned], laidTests := true, laidLooks := .later }
def CoerceLeftCardSaid : Prop := Claim7.holds Tryd.pinned (.plain (OpenSpec.ofChange coerceLeftSpec)) coerceLeftCard

/-- THE TIED CARD OF 'seinelaw23.CoerceNulls'. -/
def coerceNullsCard : Claim7 := { stood := { row := coerceNullsRow, standIns := [], harness := (true, "d1a07ad1c6fe87fcebd912e8b5375325e9b6e700b7021285edfa66092492abaa"), looks := true }, kinds := [], alts := [], laidByText := true, laidKinds := [.data, .data, .data, .data, .sentinel, .sentinel, .pinned], laidTests := true, laidLooks := .later }
def CoerceNullsCardSaid : Prop := Claim7.holds Tryd.pinned (.plain (OpenSpec.ofChange coerceNullsSpec)) coerceNullsCard

/-- THE SECOND FORM's CARD OF 'seinelaw23.CoerceLeft'. -/
def coerceLeftUptoCard : Claim7 := { stood := { row := coerceLeftUptoRow, standIns := [], harness := (true, "d1a07ad1c6fe87fcebd912e8b5375325e9b6e700b7021285edfa66092492abaa"), looks := true }, kinds := [], alts := [], laidByText := true, laidKinds := [.data, .data, .data, .data, .sentinel, .sentinel, .pinned], laidTests := true, laidLooks := .later }
def CoerceLeftUptoCardSaid : Prop := Claim7.holds Tryd.pinned (.plain (OpenSpec.upto coerceLeftSpec)) coerceLeftUptoCard

/-- THE SECOND FORM's CARD OF 'seinelaw23.CoerceNulls'. -/
def coerceNullsUptoCard : Claim7 := { stood := { row := coerceNullsUptoRow, standIns := [], harness := (true, "d1a07ad1c6fe87fcebd912e8b5375325e9b6e700b7021285edfa66092492abaa"), looks := true }, kinds := [], alts := [], laidByText := true, laidKinds := [.data, .data, .data, .data, .sentinel, .sentinel, .pinned], laidTests := true, laidLooks := .later }
def CoerceNullsUptoCardSaid : Prop := Claim7.holds Tryd.pinned (.plain (OpenSpec.upto coerceNullsSpec)) coerceNullsUptoCard
end Rows
end Go.Proofs.YtpidjkihngiaoaaDoor
