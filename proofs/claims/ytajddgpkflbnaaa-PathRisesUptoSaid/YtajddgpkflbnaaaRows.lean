/-
  NARROWER THAN 'FOR EVERY INPUT', by the rows' own cells (each row's printed sentence says how): CommandSays: loops · CommandRefused: loops · CommandAdds: loops · StorePlays: loops · StoreReads: loops · StoreReplays: loops.
  DERIVED. THE GIVEN ROWS OF THIS SEAT. 8 by the template 'for every input the law returns true; each argument reads behind the call as it read before'; 0 by the template 'total and deterministic' (their statements: YtajddgpkflbnaaaTotals.lean).
  GIVEN WITH THE SEED: the statements are not yours to turn. If you find one false, say at which input.
  Laid BY PROGRAM, IN A SANDBOX (cutbox-rows.mjs): the forced cells as the released guide's own fill.sh prints them over the translation 17ead6797a6b16f9… (all of the seat's roots in one cut). By AI agents, Wed Nov 11 2026. No macro, syntax, notation, axiom, sorry.
-/
import Derived.Test.YtajddgpkflbnaaaChecked
import GoSem.Claim
import GoSem.ClaimJoined
import GoSem.ClaimMapViews
import Derived.JoinedTies
import Derived.KernelRfl
namespace Go.Proofs.Ytajddgpkflbnaaa
/- THE CELL 'sum', in the pinned program and in every row, IS THE sha256 OF THE DUMP (.gsa) THAT YtajddgpkflbnaaaProg.lean LOADS. Nothing in Lean hashes anything: it is a label: what it is worth is what the hold of that sum in a sandbox is worth. -/
noncomputable def Try.pinned : Pinned := { name := "ytajddgpkflbnaaa", sum := "17ead6797a6b16f9c2307b360318839f12c37d74c47c3323075d724b1c1a6122", checked := Try.checked }
namespace Rows
def none {H : Type} : Left H := { results := [], args := [] }

/-- 'seinelaw28.CommandSays': WHATEVER THE INPUT: true; the input reads as it did. -/
def commandSaysSpec : ChangeSpec := { name := "commandSays", fn := fun _ => fun
  | [d1, d2] => { results := [.lit (.bool true)], args := [d1, d2] }
  | _ => none }
def commandSaysRow : OpenClaim := { program := "ytajddgpkflbnaaa", sum := "17ead6797a6b16f9c2307b360318839f12c37d74c47c3323075d724b1c1a6122", func := "seine/seinelaw28.CommandSays", spec := "commandSays", unfollowed := true, recurses := true, loops := true, apart := false }
def CommandSaysSaid : Prop := commandSaysRow.holds Try.pinned (OpenSpec.ofChange commandSaysSpec)

/-- ITS FALSE NEIGHBOUR: 'it returns false'. Refute it at one input. -/
def commandSaysWrong : ChangeSpec := { name := "commandSays", fn := fun _ => fun
  | [d1, d2] => { results := [.lit (.bool false)], args := [d1, d2] }
  | _ => none }
def CommandSaysWrongFalsely : Prop := commandSaysRow.holds Try.pinned (OpenSpec.ofChange commandSaysWrong)

/-- 'seinelaw28.CommandRefused': WHATEVER THE INPUT: true; the input reads as it did. -/
def commandRefusedSpec : ChangeSpec := { name := "commandRefused", fn := fun _ => fun
  | [d1, d2] => { results := [.lit (.bool true)], args := [d1, d2] }
  | _ => none }
def commandRefusedRow : OpenClaim := { program := "ytajddgpkflbnaaa", sum := "17ead6797a6b16f9c2307b360318839f12c37d74c47c3323075d724b1c1a6122", func := "seine/seinelaw28.CommandRefused", spec := "commandRefused", unfollowed := true, recurses := true, loops := true, apart := false }
def CommandRefusedSaid : Prop := commandRefusedRow.holds Try.pinned (OpenSpec.ofChange commandRefusedSpec)

/-- ITS FALSE NEIGHBOUR: 'it returns false'. Refute it at one input. -/
def commandRefusedWrong : ChangeSpec := { name := "commandRefused", fn := fun _ => fun
  | [d1, d2] => { results := [.lit (.bool false)], args := [d1, d2] }
  | _ => none }
def CommandRefusedWrongFalsely : Prop := commandRefusedRow.holds Try.pinned (OpenSpec.ofChange commandRefusedWrong)

/-- 'seinelaw28.CommandAdds': WHATEVER THE INPUT: true; the input reads as it did. -/
def commandAddsSpec : ChangeSpec := { name := "commandAdds", fn := fun _ => fun
  | [d1, d2, d3, d4] => { results := [.lit (.bool true)], args := [d1, d2, d3, d4] }
  | _ => none }
def commandAddsRow : OpenClaim := { program := "ytajddgpkflbnaaa", sum := "17ead6797a6b16f9c2307b360318839f12c37d74c47c3323075d724b1c1a6122", func := "seine/seinelaw28.CommandAdds", spec := "commandAdds", unfollowed := true, recurses := true, loops := true, apart := false }
def CommandAddsSaid : Prop := commandAddsRow.holds Try.pinned (OpenSpec.ofChange commandAddsSpec)

/-- ITS FALSE NEIGHBOUR: 'it returns false'. Refute it at one input. -/
def commandAddsWrong : ChangeSpec := { name := "commandAdds", fn := fun _ => fun
  | [d1, d2, d3, d4] => { results := [.lit (.bool false)], args := [d1, d2, d3, d4] }
  | _ => none }
def CommandAddsWrongFalsely : Prop := commandAddsRow.holds Try.pinned (OpenSpec.ofChange commandAddsWrong)

/-- 'seinelaw26.PathSorts': WHATEVER THE INPUT: true; the input reads as it did. -/
def pathSortsSpec : ChangeSpec := { name := "pathSorts", fn := fun _ => fun
  | [d] => { results := [.lit (.bool true)], args := [d] }
  | _ => none }
def pathSortsRow : OpenClaim := { program := "ytajddgpkflbnaaa", sum := "17ead6797a6b16f9c2307b360318839f12c37d74c47c3323075d724b1c1a6122", func := "seine/seinelaw26.PathSorts", spec := "pathSorts", unfollowed := true, recurses := true, apart := false }
def PathSortsSaid : Prop := pathSortsRow.holds Try.pinned (OpenSpec.ofChange pathSortsSpec)

/-- ITS FALSE NEIGHBOUR: 'it returns false'. Refute it at one input. -/
def pathSortsWrong : ChangeSpec := { name := "pathSorts", fn := fun _ => fun
  | [d] => { results := [.lit (.bool false)], args := [d] }
  | _ => none }
def PathSortsWrongFalsely : Prop := pathSortsRow.holds Try.pinned (OpenSpec.ofChange pathSortsWrong)

/-- 'seinelaw26.PathRises': WHATEVER THE INPUT: true; the input reads as it did. -/
def pathRisesSpec : ChangeSpec := { name := "pathRises", fn := fun _ => fun
  | [d] => { results := [.lit (.bool true)], args := [d] }
  | _ => none }
def pathRisesRow : OpenClaim := { program := "ytajddgpkflbnaaa", sum := "17ead6797a6b16f9c2307b360318839f12c37d74c47c3323075d724b1c1a6122", func := "seine/seinelaw26.PathRises", spec := "pathRises", unfollowed := true, recurses := true, apart := false }
def PathRisesSaid : Prop := pathRisesRow.holds Try.pinned (OpenSpec.ofChange pathRisesSpec)

/-- ITS FALSE NEIGHBOUR: 'it returns false'. Refute it at one input. -/
def pathRisesWrong : ChangeSpec := { name := "pathRises", fn := fun _ => fun
  | [d] => { results := [.lit (.bool false)], args := [d] }
  | _ => none }
def PathRisesWrongFalsely : Prop := pathRisesRow.holds Try.pinned (OpenSpec.ofChange pathRisesWrong)

/-- 'seinelaw29.StorePlays': WHATEVER THE INPUT: true; the input reads as it did. -/
def storePlaysSpec : ChangeSpec := { name := "storePlays", fn := fun _ => fun
  | [d1, d2] => { results := [.lit (.bool true)], args := [d1, d2] }
  | _ => none }
def storePlaysRow : OpenClaim := { program := "ytajddgpkflbnaaa", sum := "17ead6797a6b16f9c2307b360318839f12c37d74c47c3323075d724b1c1a6122", func := "seine/seinelaw29.StorePlays", spec := "storePlays", unfollowed := true, recurses := true, loops := true, apart := false }
def StorePlaysSaid : Prop := storePlaysRow.holds Try.pinned (OpenSpec.ofChange storePlaysSpec)

/-- ITS FALSE NEIGHBOUR: 'it returns false'. Refute it at one input. -/
def storePlaysWrong : ChangeSpec := { name := "storePlays", fn := fun _ => fun
  | [d1, d2] => { results := [.lit (.bool false)], args := [d1, d2] }
  | _ => none }
def StorePlaysWrongFalsely : Prop := storePlaysRow.holds Try.pinned (OpenSpec.ofChange storePlaysWrong)

/-- 'seinelaw29.StoreReads': WHATEVER THE INPUT: true; the input reads as it did. -/
def storeReadsSpec : ChangeSpec := { name := "storeReads", fn := fun _ => fun
  | [d1, d2] => { results := [.lit (.bool true)], args := [d1, d2] }
  | _ => none }
def storeReadsRow : OpenClaim := { program := "ytajddgpkflbnaaa", sum := "17ead6797a6b16f9c2307b360318839f12c37d74c47c3323075d724b1c1a6122", func := "seine/seinelaw29.StoreReads", spec := "storeReads", unfollowed := true, recurses := true, loops := true, apart := false }
def StoreReadsSaid : Prop := storeReadsRow.holds Try.pinned (OpenSpec.ofChange storeReadsSpec)

/-- ITS FALSE NEIGHBOUR: 'it returns false'. Refute it at one input. -/
def storeReadsWrong : ChangeSpec := { name := "storeReads", fn := fun _ => fun
  | [d1, d2] => { results := [.lit (.bool false)], args := [d1, d2] }
  | _ => none }
def StoreReadsWrongFalsely : Prop := storeReadsRow.holds Try.pinned (OpenSpec.ofChange storeReadsWrong)

/-- 'seinelaw29.StoreReplays': WHATEVER THE INPUT: true; the input reads as it did. -/
def storeReplaysSpec : ChangeSpec := { name := "storeReplays", fn := fun _ => fun
  | [d1, d2] => { results := [.lit (.bool true)], args := [d1, d2] }
  | _ => none }
def storeReplaysRow : OpenClaim := { program := "ytajddgpkflbnaaa", sum := "17ead6797a6b16f9c2307b360318839f12c37d74c47c3323075d724b1c1a6122", func := "seine/seinelaw29.StoreReplays", spec := "storeReplays", unfollowed := true, recurses := true, loops := true, apart := false }
def StoreReplaysSaid : Prop := storeReplaysRow.holds Try.pinned (OpenSpec.ofChange storeReplaysSpec)

/-- ITS FALSE NEIGHBOUR: 'it returns false'. Refute it at one input. -/
def storeReplaysWrong : ChangeSpec := { name := "storeReplays", fn := fun _ => fun
  | [d1, d2] => { results := [.lit (.bool false)], args := [d1, d2] }
  | _ => none }
def StoreReplaysWrongFalsely : Prop := storeReplaysRow.holds Try.pinned (OpenSpec.ofChange storeReplaysWrong)

/- THE SECOND FORM. 'bulk': how many values and letters a reading holds, each counted each time it is reached (what is shared counts as often as it is met; a slice's spare places count too). A statement '..UptoSaid' is the law's where the arguments, and the package variables that the reading takes, are together of bulk at most 1048576: NARROWER than '..Said'. Prove '..Said' where nothing that the law and all that it calls make is longer than what came in: it says more and counts as full. Else prove '..UptoSaid'. A law counts once. -/
mutual
def uptoBulk {H : Type} : DataW H → Nat
  | .lit (.string bytes) => bytes.length + 1
  | .lit _ => 1
  | .nil => 1
  | .ptr d => uptoBulk d + 1
  | .slice elems spare => uptoBulkAll elems + uptoBulkAll spare + 1
  | .agg parts => uptoBulkAll parts + 1
  | .iface _ d => uptoBulk d + 1
  | .map entries => uptoBulkEntries entries + 1
  | .held _ => 1
def uptoBulkAll {H : Type} : List (DataW H) → Nat
  | [] => 0
  | d :: r => uptoBulk d + uptoBulkAll r
def uptoBulkEntries {H : Type} : List (Lit × DataW H) → Nat
  | [] => 0
  | x :: r => uptoBulkEntry x + uptoBulkEntries r
def uptoBulkEntry {H : Type} : Lit × DataW H → Nat
  | (.string bytes, d) => bytes.length + uptoBulk d + 1
  | (_, d) => uptoBulk d + 1
 end
def uptoSmall : (H : Type) → List (DataW H) → Bool := fun _ ds => decide (uptoBulkAll ds ≤ 1048576)
def OpenSpec.upto (s : _root_.Go.ChangeSpec) : _root_.Go.OpenSpec := { _root_.Go.OpenSpec.ofChange s with cond := some uptoSmall }

/-- 'seinelaw28.CommandSays', WHERE WHAT IT READS IS OF BULK AT MOST 1048576: true; the input reads as it did. -/
def commandSaysUptoRow : OpenClaim := { program := "ytajddgpkflbnaaa", sum := "17ead6797a6b16f9c2307b360318839f12c37d74c47c3323075d724b1c1a6122", func := "seine/seinelaw28.CommandSays", spec := "commandSays", unfollowed := true, recurses := true, loops := true, apart := false, narrowed := true }
def CommandSaysUptoSaid : Prop := commandSaysUptoRow.holds Try.pinned (OpenSpec.upto commandSaysSpec)

/-- 'seinelaw28.CommandRefused', WHERE WHAT IT READS IS OF BULK AT MOST 1048576: true; the input reads as it did. -/
def commandRefusedUptoRow : OpenClaim := { program := "ytajddgpkflbnaaa", sum := "17ead6797a6b16f9c2307b360318839f12c37d74c47c3323075d724b1c1a6122", func := "seine/seinelaw28.CommandRefused", spec := "commandRefused", unfollowed := true, recurses := true, loops := true, apart := false, narrowed := true }
def CommandRefusedUptoSaid : Prop := commandRefusedUptoRow.holds Try.pinned (OpenSpec.upto commandRefusedSpec)

/-- 'seinelaw28.CommandAdds', WHERE WHAT IT READS IS OF BULK AT MOST 1048576: true; the input reads as it did. -/
def commandAddsUptoRow : OpenClaim := { program := "ytajddgpkflbnaaa", sum := "17ead6797a6b16f9c2307b360318839f12c37d74c47c3323075d724b1c1a6122", func := "seine/seinelaw28.CommandAdds", spec := "commandAdds", unfollowed := true, recurses := true, loops := true, apart := false, narrowed := true }
def CommandAddsUptoSaid : Prop := commandAddsUptoRow.holds Try.pinned (OpenSpec.upto commandAddsSpec)

/-- 'seinelaw26.PathSorts', WHERE WHAT IT READS IS OF BULK AT MOST 1048576: true; the input reads as it did. -/
def pathSortsUptoRow : OpenClaim := { program := "ytajddgpkflbnaaa", sum := "17ead6797a6b16f9c2307b360318839f12c37d74c47c3323075d724b1c1a6122", func := "seine/seinelaw26.PathSorts", spec := "pathSorts", unfollowed := true, recurses := true, apart := false, narrowed := true }
def PathSortsUptoSaid : Prop := pathSortsUptoRow.holds Try.pinned (OpenSpec.upto pathSortsSpec)

/-- 'seinelaw26.PathRises', WHERE WHAT IT READS IS OF BULK AT MOST 1048576: true; the input reads as it did. -/
def pathRisesUptoRow : OpenClaim := { program := "ytajddgpkflbnaaa", sum := "17ead6797a6b16f9c2307b360318839f12c37d74c47c3323075d724b1c1a6122", func := "seine/seinelaw26.PathRises", spec := "pathRises", unfollowed := true, recurses := true, apart := false, narrowed := true }
def PathRisesUptoSaid : Prop := pathRisesUptoRow.holds Try.pinned (OpenSpec.upto pathRisesSpec)

/-- 'seinelaw29.StorePlays', WHERE WHAT IT READS IS OF BULK AT MOST 1048576: true; the input reads as it did. -/
def storePlaysUptoRow : OpenClaim := { program := "ytajddgpkflbnaaa", sum := "17ead6797a6b16f9c2307b360318839f12c37d74c47c3323075d724b1c1a6122", func := "seine/seinelaw29.StorePlays", spec := "storePlays", unfollowed := true, recurses := true, loops := true, apart := false, narrowed := true }
def StorePlaysUptoSaid : Prop := storePlaysUptoRow.holds Try.pinned (OpenSpec.upto storePlaysSpec)

/-- 'seinelaw29.StoreReads', WHERE WHAT IT READS IS OF BULK AT MOST 1048576: true; the input reads as it did. -/
def storeReadsUptoRow : OpenClaim := { program := "ytajddgpkflbnaaa", sum := "17ead6797a6b16f9c2307b360318839f12c37d74c47c3323075d724b1c1a6122", func := "seine/seinelaw29.StoreReads", spec := "storeReads", unfollowed := true, recurses := true, loops := true, apart := false, narrowed := true }
def StoreReadsUptoSaid : Prop := storeReadsUptoRow.holds Try.pinned (OpenSpec.upto storeReadsSpec)

/-- 'seinelaw29.StoreReplays', WHERE WHAT IT READS IS OF BULK AT MOST 1048576: true; the input reads as it did. -/
def storeReplaysUptoRow : OpenClaim := { program := "ytajddgpkflbnaaa", sum := "17ead6797a6b16f9c2307b360318839f12c37d74c47c3323075d724b1c1a6122", func := "seine/seinelaw29.StoreReplays", spec := "storeReplays", unfollowed := true, recurses := true, loops := true, apart := false, narrowed := true }
def StoreReplaysUptoSaid : Prop := storeReplaysUptoRow.holds Try.pinned (OpenSpec.upto storeReplaysSpec)

end Rows
end Go.Proofs.Ytajddgpkflbnaaa
