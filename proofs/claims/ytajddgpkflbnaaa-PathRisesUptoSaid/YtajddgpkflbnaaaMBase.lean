/-
  Plain data of the program's package api, as abstract values. No statement stands here.
-/
import Derived.Test.YtajddgpkflbnaaaTable
import Derived.Test.YtajddgpkflbnaaaAvLaw
namespace Go.Proofs.Ytajddgpkflbnaaa
open Go Go.Av

abbrev Str := List UInt8

structure Step where
  name : Str
  at_ : Int
def Step.enc (a : Step) : AV := .agg [.str a.name, .int .i64 a.at_]
abbrev Path := List Step
def Path.enc (p : Path) : AV := .slice (p.map Step.enc) .no

def stepFs : List Field := [{ name := "Name", type := 9, offset := 0, embedded := false, tag := "", pkgPath := "", byteOffset := 0 }, { name := "At", type := 3, offset := 1, embedded := false, tag := "", pkgPath := "", byteOffset := 16 }]
theorem eq_step : EqT Try.prog 110 stepFs := ⟨Try.underlying110, by kernel_rfl, by kernel_rfl, by decide⟩

theorem closedL_map {α : Type} {f : α → AV} (h : ∀ x, (f x).closed = true) : ∀ l : List α, AV.closedL (l.map f) = true
  | [] => rfl
  | x :: l => by simp [AV.closedL, h x, closedL_map h l]

theorem Step.closed (a : Step) : a.enc.closed = true := rfl
theorem Step.closedL (l : List Step) : AV.closedL (l.map Step.enc) = true := closedL_map Step.closed l
theorem Step.fits (a : Step) : Av.fits true 2 a.enc = true := rfl
theorem Step.fitsAll (l : List Step) : Av.fitsAll true 2 (l.map Step.enc) = true := fitsAll_map Step.fits l
theorem slice_closed {xs : List AV} (h : AV.closedL xs = true) : (AV.slice xs .no).closed = true := by simp [AV.closed, h]

/-- Ordinary numbers. -/
theorem reads_str (n : Nat) : ReadN Try.prog n 9 false (fun x : Str => .str x) (fun x => x.length + 1) (fun _ => True) := ReadN.string Try.underlying9
theorem reads_int (n : Nat) : ReadN Try.prog n 3 false (fun x : Int => .int .i64 x) (fun _ => 1) (fun x => (Lit.int .i64 x).wf = true) := ReadN.int Try.underlying3

def Step.size (a : Step) : Nat := a.name.length + 3
def Step.ok (a : Step) : Prop := (Lit.int .i64 a.at_).wf = true
theorem reads_step : ∀ n : Nat, ReadN Try.prog n 110 true Step.enc Step.size Step.ok
  | 0 => fun _ _ _ fuel _ _ _ h1 h2 => by
    cases fuel with
    | zero => simp [DataW.trod] at h2
    | succ m => omega
  | n + 1 => (ReadN.struct Try.underlying110 (by kernel_rfl)
      (ReadF.cons (c := 1) rfl (by kernel_rfl) (one_cell fun _ => rfl) (reads_str n)
        (ReadF.cons (c := 1) rfl (by kernel_rfl) (one_cell fun _ => rfl) (reads_int n) ReadF.nil))).map
      (fun x => (⟨x.1, x.2.1⟩ : Step)) (fun _ => rfl) (fun x => by simp only [Step.size]; omega) (fun x h => h.2.1)
theorem reads_path : ∀ n : Nat, ReadN Try.prog n 58 false Path.enc (fun l => sumSize Step.size l + 1) (fun l => ∀ x ∈ l, Step.ok x)
  | 0 => fun _ _ _ fuel _ _ _ h1 h2 => by
    cases fuel with
    | zero => simp [DataW.trod] at h2
    | succ m => omega
  | n + 1 => ReadN.slice Try.underlying58 (c := 2) (by kernel_rfl) (by decide) (reads_step n)
end Go.Proofs.Ytajddgpkflbnaaa
