/-
  Plain data of the program's package api, as abstract values. No statement stands here.
-/
import Derived.Test.YtijlmchfepjjkaaGreatDoorTable
import Derived.Test.YtijlmchfepjjkaaGreatDoorAvLaw
import Derived.Test.YtijlmchfepjjkaaGreatDoorAvGo
namespace Go.Proofs.YtijlmchfepjjkaaGreatDoor
open Go Go.Av

abbrev Str := List UInt8

theorem closedL_map {α : Type} {f : α → AV} (h : ∀ x, (f x).closed = true) : ∀ l : List α, AV.closedL (l.map f) = true
  | [] => rfl
  | x :: l => by simp [AV.closedL, h x, closedL_map h l]

theorem slice_closed {xs : List AV} (h : AV.closedL xs = true) : (AV.slice xs .no).closed = true := by simp [AV.closed, h]

/-- Ordinary numbers. -/
theorem reads_str (n : Nat) : ReadN Tryz.prog n 9 false (fun x : Str => .str x) (fun x => x.length + 1) (fun _ => True) := ReadN.string Tryz.underlying9
theorem reads_int (n : Nat) : ReadN Tryz.prog n 3 false (fun x : Int => .int .i64 x) (fun _ => 1) (fun x => (Lit.int .i64 x).wf = true) := ReadN.int Tryz.underlying3

end Go.Proofs.YtijlmchfepjjkaaGreatDoor
