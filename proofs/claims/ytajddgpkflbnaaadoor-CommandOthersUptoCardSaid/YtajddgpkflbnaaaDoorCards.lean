/-
  DERIVED. GIVEN WITH THE SEED: THE CARDS: each row of YtajddgpkflbnaaaDoorRows.lean that lists a variable, with what it lists TIED to the program's text (the seventh form; the later family's looks); each row that meets fmt, with fmt's text TOLD by the authors' own Lean function (tested against real Go, not proved from fmt's source: count such statements apart). THE CARD IS WHAT COUNTS. Prove the row's statement (the work); the ties are given (YtajddgpkflbnaaaDoorTie.lean); close each card by the builder's one call (the guide's Derived/Test/ToyasCard.lean, 'card_holds'). Laid BY PROGRAM, IN A SANDBOX (cutbox-door.mjs). By AI agents, Wed Nov 11 2026. No macro, syntax, notation, axiom, sorry.
-/
import Derived.Test.YtajddgpkflbnaaaDoorRows
import GoSem.ClaimSeven
namespace Go.Proofs.YtajddgpkflbnaaaDoor
namespace Rows

/-- THE TIED CARD OF 'seinelaw24.LeafAgain'. -/
def leafAgainCard : Claim7 := { stood := { row := leafAgainRow, standIns := [], harness := (true, "18515b3852e20d9c21d78937688d8891d809d0756b034e86418d087a2b76fa5d"), looks := true }, kinds := [], alts := [], laidByText := true, laidKinds := [.data, .data, .data, .data, .sentinel, .sentinel, .pinned], laidTests := true, laidLooks := .later }
def LeafAgainCardSaid : Prop := Claim7.holds Tryd.pinned (.plain (OpenSpec.ofChange leafAgainSpec)) leafAgainCard

/-- THE TIED CARD OF 'seinelaw24.LeafKinds'. -/
def leafKindsCard : Claim7 := { stood := { row := leafKindsRow, standIns := [], harness := (true, "18515b3852e20d9c21d78937688d8891d809d0756b034e86418d087a2b76fa5d"), looks := true }, kinds := [], alts := [], laidByText := true, laidKinds := [.data, .data, .data, .data, .sentinel, .sentinel, .pinned], laidTests := true, laidLooks := .later }
def LeafKindsCardSaid : Prop := Claim7.holds Tryd.pinned (.plain (OpenSpec.ofChange leafKindsSpec)) leafKindsCard

/-- THE TIED CARD OF 'seinelaw27.TablePuts'. -/
def tablePutsCard : Claim7 := { stood := { row := tablePutsRow, standIns := [], harness := (true, "18515b3852e20d9c21d78937688d8891d809d0756b034e86418d087a2b76fa5d"), looks := true }, kinds := [], alts := [], laidByText := true, laidKinds := [.data, .data, .data, .data, .sentinel, .sentinel, .pinned], laidTests := true, laidLooks := .later }
def TablePutsCardSaid : Prop := Claim7.holds Tryd.pinned (.plain (OpenSpec.ofChange tablePutsSpec)) tablePutsCard

/-- THE TIED CARD OF 'seinelaw27.TableKeeps'. -/
def tableKeepsCard : Claim7 := { stood := { row := tableKeepsRow, standIns := [], harness := (true, "18515b3852e20d9c21d78937688d8891d809d0756b034e86418d087a2b76fa5d"), looks := true }, kinds := [], alts := [], laidByText := true, laidKinds := [.data, .data, .data, .data, .sentinel, .sentinel, .pinned], laidTests := true, laidLooks := .later }
def TableKeepsCardSaid : Prop := Claim7.holds Tryd.pinned (.plain (OpenSpec.ofChange tableKeepsSpec)) tableKeepsCard

/-- THE TIED CARD OF 'seinelaw27.TableMays'. -/
def tableMaysCard : Claim7 := { stood := { row := tableMaysRow, standIns := [], harness := (true, "18515b3852e20d9c21d78937688d8891d809d0756b034e86418d087a2b76fa5d"), looks := true }, kinds := [], alts := [], laidByText := true, laidKinds := [.data, .data, .data, .data, .sentinel, .sentinel, .pinned], laidTests := true, laidLooks := .later }
def TableMaysCardSaid : Prop := Claim7.holds Tryd.pinned (.plain (OpenSpec.ofChange tableMaysSpec)) tableMaysCard

/-- THE TIED CARD OF 'seinelaw27.TableSays'. -/
def tableSaysCard : Claim7 := { stood := { row := tableSaysRow, standIns := [], harness := (true, "18515b3852e20d9c21d78937688d8891d809d0756b034e86418d087a2b76fa5d"), looks := true }, kinds := [], alts := [], laidByText := true, laidKinds := [.data, .data, .data, .data, .sentinel, .sentinel, .pinned], laidTests := true, laidLooks := .later }
def TableSaysCardSaid : Prop := Claim7.holds Tryd.pinned (.plain (OpenSpec.ofChange tableSaysSpec)) tableSaysCard

/-- THE TIED CARD OF 'seinelaw28.CommandMays'. -/
def commandMaysCard : Claim7 := { stood := { row := commandMaysRow, standIns := [], harness := (true, "18515b3852e20d9c21d78937688d8891d809d0756b034e86418d087a2b76fa5d"), looks := true }, kinds := [], alts := [], laidByText := true, laidKinds := [.data, .data, .data, .data, .sentinel, .sentinel, .pinned], laidTests := true, laidLooks := .later }
def CommandMaysCardSaid : Prop := Claim7.holds Tryd.pinned (.plain (OpenSpec.ofChange commandMaysSpec)) commandMaysCard

/-- THE TIED CARD OF 'seinelaw28.CommandOthers'. -/
def commandOthersCard : Claim7 := { stood := { row := commandOthersRow, standIns := [], harness := (true, "18515b3852e20d9c21d78937688d8891d809d0756b034e86418d087a2b76fa5d"), looks := true }, kinds := [], alts := [], laidByText := true, laidKinds := [.data, .data, .data, .data, .sentinel, .sentinel, .pinned], laidTests := true, laidLooks := .later }
def CommandOthersCardSaid : Prop := Claim7.holds Tryd.pinned (.plain (OpenSpec.ofChange commandOthersSpec)) commandOthersCard

/-- THE TIED CARD OF 'seinelaw28.CommandPuts'. -/
def commandPutsCard : Claim7 := { stood := { row := commandPutsRow, standIns := [], harness := (true, "18515b3852e20d9c21d78937688d8891d809d0756b034e86418d087a2b76fa5d"), looks := true }, kinds := [], alts := [], laidByText := true, laidKinds := [.data, .data, .data, .data, .sentinel, .sentinel, .pinned], laidTests := true, laidLooks := .later }
def CommandPutsCardSaid : Prop := Claim7.holds Tryd.pinned (.plain (OpenSpec.ofChange commandPutsSpec)) commandPutsCard

/-- THE SECOND FORM's CARD OF 'seinelaw24.LeafAgain'. -/
def leafAgainUptoCard : Claim7 := { stood := { row := leafAgainUptoRow, standIns := [], harness := (true, "18515b3852e20d9c21d78937688d8891d809d0756b034e86418d087a2b76fa5d"), looks := true }, kinds := [], alts := [], laidByText := true, laidKinds := [.data, .data, .data, .data, .sentinel, .sentinel, .pinned], laidTests := true, laidLooks := .later }
def LeafAgainUptoCardSaid : Prop := Claim7.holds Tryd.pinned (.plain (OpenSpec.upto leafAgainSpec)) leafAgainUptoCard

/-- THE SECOND FORM's CARD OF 'seinelaw24.LeafKinds'. -/
def leafKindsUptoCard : Claim7 := { stood := { row := leafKindsUptoRow, standIns := [], harness := (true, "18515b3852e20d9c21d78937688d8891d809d0756b034e86418d087a2b76fa5d"), looks := true }, kinds := [], alts := [], laidByText := true, laidKinds := [.data, .data, .data, .data, .sentinel, .sentinel, .pinned], laidTests := true, laidLooks := .later }
def LeafKindsUptoCardSaid : Prop := Claim7.holds Tryd.pinned (.plain (OpenSpec.upto leafKindsSpec)) leafKindsUptoCard

/-- THE SECOND FORM's CARD OF 'seinelaw27.TablePuts'. -/
def tablePutsUptoCard : Claim7 := { stood := { row := tablePutsUptoRow, standIns := [], harness := (true, "18515b3852e20d9c21d78937688d8891d809d0756b034e86418d087a2b76fa5d"), looks := true }, kinds := [], alts := [], laidByText := true, laidKinds := [.data, .data, .data, .data, .sentinel, .sentinel, .pinned], laidTests := true, laidLooks := .later }
def TablePutsUptoCardSaid : Prop := Claim7.holds Tryd.pinned (.plain (OpenSpec.upto tablePutsSpec)) tablePutsUptoCard

/-- THE SECOND FORM's CARD OF 'seinelaw27.TableKeeps'. -/
def tableKeepsUptoCard : Claim7 := { stood := { row := tableKeepsUptoRow, standIns := [], harness := (true, "18515b3852e20d9c21d78937688d8891d809d0756b034e86418d087a2b76fa5d"), looks := true }, kinds := [], alts := [], laidByText := true, laidKinds := [.data, .data, .data, .data, .sentinel, .sentinel, .pinned], laidTests := true, laidLooks := .later }
def TableKeepsUptoCardSaid : Prop := Claim7.holds Tryd.pinned (.plain (OpenSpec.upto tableKeepsSpec)) tableKeepsUptoCard

/-- THE SECOND FORM's CARD OF 'seinelaw27.TableMays'. -/
def tableMaysUptoCard : Claim7 := { stood := { row := tableMaysUptoRow, standIns := [], harness := (true, "18515b3852e20d9c21d78937688d8891d809d0756b034e86418d087a2b76fa5d"), looks := true }, kinds := [], alts := [], laidByText := true, laidKinds := [.data, .data, .data, .data, .sentinel, .sentinel, .pinned], laidTests := true, laidLooks := .later }
def TableMaysUptoCardSaid : Prop := Claim7.holds Tryd.pinned (.plain (OpenSpec.upto tableMaysSpec)) tableMaysUptoCard

/-- THE SECOND FORM's CARD OF 'seinelaw27.TableSays'. -/
def tableSaysUptoCard : Claim7 := { stood := { row := tableSaysUptoRow, standIns := [], harness := (true, "18515b3852e20d9c21d78937688d8891d809d0756b034e86418d087a2b76fa5d"), looks := true }, kinds := [], alts := [], laidByText := true, laidKinds := [.data, .data, .data, .data, .sentinel, .sentinel, .pinned], laidTests := true, laidLooks := .later }
def TableSaysUptoCardSaid : Prop := Claim7.holds Tryd.pinned (.plain (OpenSpec.upto tableSaysSpec)) tableSaysUptoCard

/-- THE SECOND FORM's CARD OF 'seinelaw28.CommandMays'. -/
def commandMaysUptoCard : Claim7 := { stood := { row := commandMaysUptoRow, standIns := [], harness := (true, "18515b3852e20d9c21d78937688d8891d809d0756b034e86418d087a2b76fa5d"), looks := true }, kinds := [], alts := [], laidByText := true, laidKinds := [.data, .data, .data, .data, .sentinel, .sentinel, .pinned], laidTests := true, laidLooks := .later }
def CommandMaysUptoCardSaid : Prop := Claim7.holds Tryd.pinned (.plain (OpenSpec.upto commandMaysSpec)) commandMaysUptoCard

/-- THE SECOND FORM's CARD OF 'seinelaw28.CommandOthers'. -/
def commandOthersUptoCard : Claim7 := { stood := { row := commandOthersUptoRow, standIns := [], harness := (true, "18515b3852e20d9c21d78937688d8891d809d0756b034e86418d087a2b76fa5d"), looks := true }, kinds := [], alts := [], laidByText := true, laidKinds := [.data, .data, .data, .data, .sentinel, .sentinel, .pinned], laidTests := true, laidLooks := .later }
def CommandOthersUptoCardSaid : Prop := Claim7.holds Tryd.pinned (.plain (OpenSpec.upto commandOthersSpec)) commandOthersUptoCard

/-- THE SECOND FORM's CARD OF 'seinelaw28.CommandPuts'. -/
def commandPutsUptoCard : Claim7 := { stood := { row := commandPutsUptoRow, standIns := [], harness := (true, "18515b3852e20d9c21d78937688d8891d809d0756b034e86418d087a2b76fa5d"), looks := true }, kinds := [], alts := [], laidByText := true, laidKinds := [.data, .data, .data, .data, .sentinel, .sentinel, .pinned], laidTests := true, laidLooks := .later }
def CommandPutsUptoCardSaid : Prop := Claim7.holds Tryd.pinned (.plain (OpenSpec.upto commandPutsSpec)) commandPutsUptoCard
end Rows
end Go.Proofs.YtajddgpkflbnaaaDoor
