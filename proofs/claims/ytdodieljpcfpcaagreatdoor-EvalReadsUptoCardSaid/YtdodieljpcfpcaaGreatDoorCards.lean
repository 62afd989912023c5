/-
  DERIVED. GIVEN WITH THE SEED: THE CARDS: each row of YtdodieljpcfpcaaGreatDoorRows.lean that lists a variable, with what it lists TIED to the program's text (the seventh form; the later family's looks); each row that meets fmt, with fmt's text TOLD by the authors' own Lean function (tested against real Go, not proved from fmt's source: count such statements apart). THE CARD IS WHAT COUNTS. Prove the row's statement (the work); the ties are given (YtdodieljpcfpcaaGreatDoorTie.lean); close each card by the builder's one call (the guide's Derived/Test/ToyasCard.lean, 'card_holds'). Laid BY PROGRAM, IN A SANDBOX (cutbox-door.mjs). By AI agents, Wed Nov 11 2026. No macro, syntax, notation, axiom, sorry.
-/
import Derived.Test.YtdodieljpcfpcaaGreatDoorRows
import GoSem.ClaimSeven
namespace Go.Proofs.YtdodieljpcfpcaaGreatDoor
namespace Rows

/-- THE TIED CARD OF 'seinelaw33.EvalReads'. -/
def evalReadsCard : Claim7 := { stood := { row := evalReadsRow, standIns := [], harness := (true, "7735758d93726e52eeb67f9705633bc40f57df287ad6135c887ab8fa38a188a0"), looks := true }, kinds := [], alts := [], laidByText := true, laidKinds := [.data, .data, .data, .data, .sentinel, .sentinel, .pinned], laidTests := true, laidLooks := .later }
def EvalReadsCardSaid : Prop := Claim7.holds Tryz.pinned (.plain (OpenSpec.ofChange evalReadsSpec)) evalReadsCard

/-- THE SECOND FORM's CARD OF 'seinelaw33.EvalReads'. -/
def evalReadsUptoCard : Claim7 := { stood := { row := evalReadsUptoRow, standIns := [], harness := (true, "7735758d93726e52eeb67f9705633bc40f57df287ad6135c887ab8fa38a188a0"), looks := true }, kinds := [], alts := [], laidByText := true, laidKinds := [.data, .data, .data, .data, .sentinel, .sentinel, .pinned], laidTests := true, laidLooks := .later }
def EvalReadsUptoCardSaid : Prop := Claim7.holds Tryz.pinned (.plain (OpenSpec.upto evalReadsSpec)) evalReadsUptoCard
end Rows
end Go.Proofs.YtdodieljpcfpcaaGreatDoor
