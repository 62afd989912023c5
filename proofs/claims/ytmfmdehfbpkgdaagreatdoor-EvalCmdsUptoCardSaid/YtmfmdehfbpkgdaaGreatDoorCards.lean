/-
  DERIVED. GIVEN WITH THE SEED: THE CARDS: each row of YtmfmdehfbpkgdaaGreatDoorRows.lean that lists a variable, with what it lists TIED to the program's text (the seventh form; the later family's looks); each row that meets fmt, with fmt's text TOLD by the authors' own Lean function (tested against real Go, not proved from fmt's source: count such statements apart). THE CARD IS WHAT COUNTS. Prove the row's statement (the work); the ties are given (YtmfmdehfbpkgdaaGreatDoorTie.lean); close each card by the builder's one call (the guide's Derived/Test/ToyasCard.lean, 'card_holds'). Laid BY PROGRAM, IN A SANDBOX (cutbox-door.mjs). By AI agents, Wed Nov 11 2026. No macro, syntax, notation, axiom, sorry.
-/
import Derived.Test.YtmfmdehfbpkgdaaGreatDoorRows
import GoSem.ClaimSeven
namespace Go.Proofs.YtmfmdehfbpkgdaaGreatDoor
namespace Rows

/-- THE TIED CARD OF 'seinelaw33.EvalCmds'. -/
def evalCmdsCard : Claim7 := { stood := { row := evalCmdsRow, standIns := [], harness := (true, "6aec0a47a6efbada8886dabfdf67a92f1cd508a94f1568eeb0dafbcb318d0129"), looks := true }, kinds := [], alts := [], laidByText := true, laidKinds := [.data, .data, .data, .data, .sentinel, .sentinel, .pinned], laidTests := true, laidLooks := .later }
def EvalCmdsCardSaid : Prop := Claim7.holds Tryz.pinned (.plain (OpenSpec.ofChange evalCmdsSpec)) evalCmdsCard

/-- THE SECOND FORM's CARD OF 'seinelaw33.EvalCmds'. -/
def evalCmdsUptoCard : Claim7 := { stood := { row := evalCmdsUptoRow, standIns := [], harness := (true, "6aec0a47a6efbada8886dabfdf67a92f1cd508a94f1568eeb0dafbcb318d0129"), looks := true }, kinds := [], alts := [], laidByText := true, laidKinds := [.data, .data, .data, .data, .sentinel, .sentinel, .pinned], laidTests := true, laidLooks := .later }
def EvalCmdsUptoCardSaid : Prop := Claim7.holds Tryz.pinned (.plain (OpenSpec.upto evalCmdsSpec)) evalCmdsUptoCard
end Rows
end Go.Proofs.YtmfmdehfbpkgdaaGreatDoor
