/-
  DERIVED. GIVEN WITH THE SEED: THE CARDS: each row of YtgghkkeejagfkaaGreatDoorRows.lean that lists a variable, with what it lists TIED to the program's text (the seventh form; the later family's looks); each row that meets fmt, with fmt's text TOLD by the authors' own Lean function (tested against real Go, not proved from fmt's source: count such statements apart). THE CARD IS WHAT COUNTS. Prove the row's statement (the work); the ties are given (YtgghkkeejagfkaaGreatDoorTie.lean); close each card by the builder's one call (the guide's Derived/Test/ToyasCard.lean, 'card_holds'). Laid BY PROGRAM, IN A SANDBOX (cutbox-door.mjs). By AI agents, Wed Nov 11 2026. No macro, syntax, notation, axiom, sorry.
-/
import Derived.Test.YtgghkkeejagfkaaGreatDoorRows
import GoSem.ClaimSeven
namespace Go.Proofs.YtgghkkeejagfkaaGreatDoor
namespace Rows

/-- THE TIED CARD OF 'seinelaw11.SchemaChecks'. -/
def schemaChecksCard : Claim7 := { stood := { row := schemaChecksRow, standIns := [], harness := (true, "f8e236ef9047c8a50eb5558f80fd93b36f90a61a5790479d300443caacc00c11"), looks := true }, kinds := [], alts := [], laidByText := true, laidKinds := [.data, .data, .data, .data, .sentinel, .sentinel, .pinned], laidTests := true, laidLooks := .later }
def SchemaChecksCardSaid : Prop := Claim7.holds Tryz.pinned (.plain (OpenSpec.ofChange schemaChecksSpec)) schemaChecksCard

/-- THE TIED CARD OF 'seinelaw12.BindChecks'. -/
def bindChecksCard : Claim7 := { stood := { row := bindChecksRow, standIns := [], harness := (true, "f8e236ef9047c8a50eb5558f80fd93b36f90a61a5790479d300443caacc00c11"), looks := true }, kinds := [], alts := [], laidByText := true, laidKinds := [.data, .data, .data, .data, .sentinel, .sentinel, .pinned], laidTests := true, laidLooks := .later }
def BindChecksCardSaid : Prop := Claim7.holds Tryz.pinned (.plain (OpenSpec.ofChange bindChecksSpec)) bindChecksCard

/-- THE TIED CARD OF 'seinelaw33.EvalCmds'. -/
def evalCmdsCard : Claim7 := { stood := { row := evalCmdsRow, standIns := [], harness := (true, "f8e236ef9047c8a50eb5558f80fd93b36f90a61a5790479d300443caacc00c11"), looks := true }, kinds := [], alts := [], laidByText := true, laidKinds := [.data, .data, .data, .data, .sentinel, .sentinel, .pinned], laidTests := true, laidLooks := .later }
def EvalCmdsCardSaid : Prop := Claim7.holds Tryz.pinned (.plain (OpenSpec.ofChange evalCmdsSpec)) evalCmdsCard

/-- THE SECOND FORM's CARD OF 'seinelaw11.SchemaChecks'. -/
def schemaChecksUptoCard : Claim7 := { stood := { row := schemaChecksUptoRow, standIns := [], harness := (true, "f8e236ef9047c8a50eb5558f80fd93b36f90a61a5790479d300443caacc00c11"), looks := true }, kinds := [], alts := [], laidByText := true, laidKinds := [.data, .data, .data, .data, .sentinel, .sentinel, .pinned], laidTests := true, laidLooks := .later }
def SchemaChecksUptoCardSaid : Prop := Claim7.holds Tryz.pinned (.plain (OpenSpec.upto schemaChecksSpec)) schemaChecksUptoCard

/-- THE SECOND FORM's CARD OF 'seinelaw12.BindChecks'. -/
def bindChecksUptoCard : Claim7 := { stood := { row := bindChecksUptoRow, standIns := [], harness := (true, "f8e236ef9047c8a50eb5558f80fd93b36f90a61a5790479d300443caacc00c11"), looks := true }, kinds := [], alts := [], laidByText := true, laidKinds := [.data, .data, .data, .data, .sentinel, .sentinel, .pinned], laidTests := true, laidLooks := .later }
def BindChecksUptoCardSaid : Prop := Claim7.holds Tryz.pinned (.plain (OpenSpec.upto bindChecksSpec)) bindChecksUptoCard

/-- THE SECOND FORM's CARD OF 'seinelaw33.EvalCmds'. -/
def evalCmdsUptoCard : Claim7 := { stood := { row := evalCmdsUptoRow, standIns := [], harness := (true, "f8e236ef9047c8a50eb5558f80fd93b36f90a61a5790479d300443caacc00c11"), looks := true }, kinds := [], alts := [], laidByText := true, laidKinds := [.data, .data, .data, .data, .sentinel, .sentinel, .pinned], laidTests := true, laidLooks := .later }
def EvalCmdsUptoCardSaid : Prop := Claim7.holds Tryz.pinned (.plain (OpenSpec.upto evalCmdsSpec)) evalCmdsUptoCard
end Rows
end Go.Proofs.YtgghkkeejagfkaaGreatDoor
