/-
  The program's tables, rows, commands, as abstract values; how they are read.
-/
import Derived.Test.YtajddgpkflbnaaaDoorMValS
namespace Go.Proofs.YtajddgpkflbnaaaDoor
open Go Go.Av
set_option maxRecDepth 100000
set_option linter.unusedVariables false

structure Row where
  key : Str
  typ : Str
  cols : List Mem
  broken : Bool
def Row.cells (r : Row) : List AV := [.str r.key, .str r.typ, .slice (r.cols.map Mem.enc) .no, .bool r.broken]
def Row.enc (r : Row) : AV := .agg r.cells
structure Tbl where
  name : Str
  rows : List Row
def Tbl.enc (t : Tbl) : AV := .agg [.str t.name, .slice (t.rows.map Row.enc) .no]
structure Need where
  table : Str
  key : Str
def Need.enc (n : Need) : AV := .agg [.str n.table, .str n.key]
structure Got where
  row : Row
  is : Bool
  e : Int
def Got.enc (g : Got) : AV := .agg [.str g.row.key, .str g.row.typ, .slice (g.row.cols.map Mem.enc) .no, .bool g.row.broken, .bool g.is, .int .i64 g.e]
structure Cmd where
  name : Str
  table : Str
  col : Str
  typ : Str
  args : List Mem
def Cmd.enc (c : Cmd) : AV := .agg [.str c.name, .str c.table, .str c.col, .str c.typ, .slice (c.args.map Mem.enc) .no]
def Tbls.enc (l : List Tbl) : AV := .slice (l.map Tbl.enc) .no

theorem Row.closed (r : Row) : r.enc.closed = true := by simp [Row.enc, Row.cells, AV.closed, AV.closedL, Mem.closedL]
theorem Row.closedL (l : List Row) : AV.closedL (l.map Row.enc) = true := closedL_map Row.closed l
theorem Tbl.closed (t : Tbl) : t.enc.closed = true := by simp [Tbl.enc, AV.closed, AV.closedL, Row.closedL]
theorem Tbl.closedL (l : List Tbl) : AV.closedL (l.map Tbl.enc) = true := closedL_map Tbl.closed l
theorem Need.closed (n : Need) : n.enc.closed = true := rfl
theorem Got.closed (g : Got) : g.enc.closed = true := by simp [Got.enc, AV.closed, AV.closedL, Mem.closedL]
theorem Cmd.closed (c : Cmd) : c.enc.closed = true := by simp [Cmd.enc, AV.closed, AV.closedL, Mem.closedL]
theorem Tbls.closed (l : List Tbl) : (Tbls.enc l).closed = true := by simp [Tbls.enc, AV.closed, Tbl.closedL]
theorem Row.lowL (n m : Nat) (l : List Row) : AV.lowL n m (l.map Row.enc) = true := AV.lowL_of_closed n m _ (Row.closedL l)
theorem Tbl.lowL (n m : Nat) (l : List Tbl) : AV.lowL n m (l.map Tbl.enc) = true := AV.lowL_of_closed n m _ (Tbl.closedL l)
theorem Row.fits (r : Row) : Av.fits true 4 r.enc = true := rfl
theorem Tbl.fits (t : Tbl) : Av.fits true 2 t.enc = true := rfl
theorem Row.fitsAll (l : List Row) : Av.fitsAll true 4 (l.map Row.enc) = true := fitsAll_map Row.fits l
theorem Tbl.fitsAll (l : List Tbl) : Av.fitsAll true 2 (l.map Tbl.enc) = true := fitsAll_map Tbl.fits l
theorem Mem.fitsAll (l : List Mem) : Av.fitsAll true 6 (l.map Mem.enc) = true := fitsAll_map Mem.fits l

def Row.size (r : Row) : Nat := r.key.length + r.typ.length + sumSize Mem.size r.cols + 4
def Tbl.size (t : Tbl) : Nat := t.name.length + sumSize Row.size t.rows + 2
def Cmd.size (c : Cmd) : Nat := c.name.length + c.table.length + c.col.length + c.typ.length + sumSize Mem.size c.args + 5
def Row.ok (r : Row) : Prop := ∀ m ∈ r.cols, m.ok
def Tbl.ok (t : Tbl) : Prop := ∀ r ∈ t.rows, r.ok
def Cmd.ok (c : Cmd) : Prop := ∀ m ∈ c.args, m.ok

theorem reads_bool (n : Nat) : ReadN Tryd.prog n 4 false (fun x : Bool => .bool x) (fun _ => 1) (fun _ => True) := ReadN.bool Tryd.underlying4
theorem reads_row : ∀ n : Nat, ReadN Tryd.prog n 42 true Row.enc Row.size Row.ok
  | 0 => ReadN.zero
  | n + 1 => (ReadN.struct Tryd.underlying42 (by kernel_rfl)
      (ReadF.cons (c := 1) rfl (by kernel_rfl) (one_cell fun _ => rfl) (reads_str n)
        (ReadF.cons (c := 1) rfl (by kernel_rfl) (one_cell fun _ => rfl) (reads_str n)
          (ReadF.cons (c := 1) rfl (by kernel_rfl) (one_cell fun _ => rfl) (reads_mems n)
            (ReadF.cons (c := 1) rfl (by kernel_rfl) (one_cell fun _ => rfl) (reads_bool n) ReadF.nil))))).map
      (fun x => (⟨x.1, x.2.1, x.2.2.1, x.2.2.2.1⟩ : Row)) (fun _ => rfl) (fun x => by simp only [Row.size]; omega) (fun x h => h.2.2.1)
theorem reads_rows : ∀ n : Nat, ReadN Tryd.prog n 59 false (fun l => .slice (l.map Row.enc) .no) (fun l => sumSize Row.size l + 1) (fun l => ∀ x ∈ l, x.ok)
  | 0 => ReadN.zero
  | n + 1 => ReadN.slice Tryd.underlying59 (c := 4) (by kernel_rfl) (by decide) (reads_row n)
theorem reads_tbl : ∀ n : Nat, ReadN Tryd.prog n 61 true Tbl.enc Tbl.size Tbl.ok
  | 0 => ReadN.zero
  | n + 1 => (ReadN.struct Tryd.underlying61 (by kernel_rfl)
      (ReadF.cons (c := 1) rfl (by kernel_rfl) (one_cell fun _ => rfl) (reads_str n)
        (ReadF.cons (c := 1) rfl (by kernel_rfl) (one_cell fun _ => rfl) (reads_rows n) ReadF.nil))).map
      (fun x => (⟨x.1, x.2.1⟩ : Tbl)) (fun _ => rfl) (fun x => by simp only [Tbl.size]; omega) (fun x h => h.2.1)
theorem reads_tbls : ∀ n : Nat, ReadN Tryd.prog n 40 false Tbls.enc (fun l => sumSize Tbl.size l + 1) (fun l => ∀ x ∈ l, x.ok)
  | 0 => ReadN.zero
  | n + 1 => ReadN.slice Tryd.underlying40 (c := 2) (by kernel_rfl) (by decide) (reads_tbl n)
theorem reads_cmd : ∀ n : Nat, ReadN Tryd.prog n 65 true Cmd.enc Cmd.size Cmd.ok
  | 0 => ReadN.zero
  | n + 1 => (ReadN.struct Tryd.underlying65 (by kernel_rfl)
      (ReadF.cons (c := 1) rfl (by kernel_rfl) (one_cell fun _ => rfl) (reads_str n)
        (ReadF.cons (c := 1) rfl (by kernel_rfl) (one_cell fun _ => rfl) (reads_str n)
          (ReadF.cons (c := 1) rfl (by kernel_rfl) (one_cell fun _ => rfl) (reads_str n)
            (ReadF.cons (c := 1) rfl (by kernel_rfl) (one_cell fun _ => rfl) (reads_str n)
              (ReadF.cons (c := 1) rfl (by kernel_rfl) (one_cell fun _ => rfl) (reads_mems n) ReadF.nil)))))).map
      (fun x => (⟨x.1, x.2.1, x.2.2.1, x.2.2.2.1, x.2.2.2.2.1⟩ : Cmd)) (fun _ => rfl) (fun x => by simp only [Cmd.size]; omega) (fun x h => h.2.2.2.2.1)
end Go.Proofs.YtajddgpkflbnaaaDoor
