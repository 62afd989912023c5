/-
  DERIVED. GIVEN WITH THE SEED: THE CARDS: each row of YtimbiifcnhgcoaaGreatDoorRows.lean that lists a variable, with what it lists TIED to the program's text (the seventh form; the later family's looks); each row that meets fmt, with fmt's text TOLD by the authors' own Lean function (tested against real Go, not proved from fmt's source: count such statements apart). THE CARD IS WHAT COUNTS. Prove the row's statement (the work); the ties are given (YtimbiifcnhgcoaaGreatDoorTie.lean); close each card by the builder's one call (the guide's Derived/Test/ToyasCard.lean, 'card_holds'). Laid BY PROGRAM, IN A SANDBOX (cutbox-door.mjs). By AI agents, Wed Nov 11 2026. No macro, syntax, notation, axiom, sorry.
-/
import Derived.Test.YtimbiifcnhgcoaaGreatDoorRows
import GoSem.ClaimSeven
namespace Go.Proofs.YtimbiifcnhgcoaaGreatDoor
namespace Rows

/-- THE TIED CARD OF 'seinelaw33.EvalKeys'. -/
def evalKeysCard : Claim7 := { stood := { row := evalKeysRow, standIns := [], harness := (true, "be58cffff84999395d08eb57f6ee4400bb51c47231a00be4cc766385e270d5cc"), looks := true }, kinds := [], alts := [], laidByText := true, laidKinds := [.data, .data, .data, .data, .sentinel, .sentinel, .pinned], laidTests := true, laidLooks := .later }
def EvalKeysCardSaid : Prop := Claim7.holds Tryz.pinned (.plain (OpenSpec.ofChange evalKeysSpec)) evalKeysCard

/-- THE SECOND FORM's CARD OF 'seinelaw33.EvalKeys'. -/
def evalKeysUptoCard : Claim7 := { stood := { row := evalKeysUptoRow, standIns := [], harness := (true, "be58cffff84999395d08eb57f6ee4400bb51c47231a00be4cc766385e270d5cc"), looks := true }, kinds := [], alts := [], laidByText := true, laidKinds := [.data, .data, .data, .data, .sentinel, .sentinel, .pinned], laidTests := true, laidLooks := .later }
def EvalKeysUptoCardSaid : Prop := Claim7.holds Tryz.pinned (.plain (OpenSpec.upto evalKeysSpec)) evalKeysUptoCard
end Rows
end Go.Proofs.YtimbiifcnhgcoaaGreatDoor
