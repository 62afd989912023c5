/-
  The program's types, parameters, fields, definitions, schemas, as abstract values; how they are read.
-/
import Derived.Test.YtijlmchfepjjkaaGreatDoorMValL
namespace Go.Proofs.YtijlmchfepjjkaaGreatDoor
open Go Go.Av
set_option maxRecDepth 100000
set_option linter.unusedVariables false

/-- Lists of texts. -/
abbrev strsE (l : List Str) : AV := .slice (l.map AV.str) .no
structure Typ where
  name : Str
  lists : Int
  musts : Int
  deriving DecidableEq
def Typ.enc (t : Typ) : AV := .agg [.str t.name, .int .i64 t.lists, .int .i64 t.musts]
structure Dirc where
  name : Str
  args : List Mem
def Dirc.enc (d : Dirc) : AV := .agg [.str d.name, .slice (d.args.map Mem.enc) .no]
structure Par where
  name : Str
  t : Typ
  has : Bool
  d : Val
def Par.enc (p : Par) : AV := .agg [.str p.name, .str p.t.name, .int .i64 p.t.lists, .int .i64 p.t.musts, .bool p.has, .int .i64 p.d.kind, .int .i64 p.d.n, .str p.d.s, .slice p.d.lv .no, .slice p.d.mv .no]
structure Fld where
  name : Str
  params : List Par
  t : Typ
  dirs : List Dirc
def Fld.enc (f : Fld) : AV := .agg [.str f.name, .slice (f.params.map Par.enc) .no, .str f.t.name, .int .i64 f.t.lists, .int .i64 f.t.musts, .slice (f.dirs.map Dirc.enc) .no]
structure Dfn where
  kind : Int
  name : Str
  faces : List Str
  fields : List Fld
  parts : List Str
  params : List Par
def Dfn.enc (d : Dfn) : AV := .agg [.int .i64 d.kind, .str d.name, .slice (d.faces.map AV.str) .no, .slice (d.fields.map Fld.enc) .no, .slice (d.parts.map AV.str) .no, .slice (d.params.map Par.enc) .no]
structure Sch where
  defs : List Dfn
  query : Str
  mutation : Str
def Sch.enc (s : Sch) : AV := .agg [.slice (s.defs.map Dfn.enc) .no, .str s.query, .str s.mutation]
structure Spt where
  var : Str
  t : Typ
  has : Bool
  deriving DecidableEq
def Spt.enc (x : Spt) : AV := .agg [.str x.var, .str x.t.name, .int .i64 x.t.lists, .int .i64 x.t.musts, .bool x.has]

theorem str_closedL (l : List Str) : AV.closedL (l.map AV.str) = true := closedL_map (fun _ => rfl) l
theorem int_closedL (l : List Int) : AV.closedL (l.map (AV.int .i64)) = true := closedL_map (fun _ => rfl) l
@[simp] theorem lowL_int (n m : Nat) (l : List Int) : AV.lowL n m (List.map (AV.int .i64) l) = true := AV.lowL_of_closed n m _ (int_closedL l)
theorem Typ.closed (t : Typ) : t.enc.closed = true := rfl
theorem Dirc.closed (d : Dirc) : d.enc.closed = true := by simp [Dirc.enc, AV.closed, AV.closedL, Mem.closedL]
theorem Dirc.closedL (l : List Dirc) : AV.closedL (l.map Dirc.enc) = true := closedL_map Dirc.closed l
theorem Par.closed (p : Par) : p.enc.closed = true := by simp [Par.enc, AV.closed, AV.closedL, Val.lv_closed, Val.mv_closed]
theorem Par.closedL (l : List Par) : AV.closedL (l.map Par.enc) = true := closedL_map Par.closed l
theorem Fld.closed (f : Fld) : f.enc.closed = true := by simp [Fld.enc, AV.closed, AV.closedL, Par.closedL, Dirc.closedL]
theorem Fld.closedL (l : List Fld) : AV.closedL (l.map Fld.enc) = true := closedL_map Fld.closed l
theorem Dfn.closed (d : Dfn) : d.enc.closed = true := by simp [Dfn.enc, AV.closed, AV.closedL, Par.closedL, Fld.closedL, str_closedL]
theorem Dfn.closedL (l : List Dfn) : AV.closedL (l.map Dfn.enc) = true := closedL_map Dfn.closed l
theorem Sch.closed (s : Sch) : s.enc.closed = true := by simp [Sch.enc, AV.closed, AV.closedL, Dfn.closedL]
theorem Spt.closed (x : Spt) : x.enc.closed = true := rfl
theorem Spt.closedL (l : List Spt) : AV.closedL (l.map Spt.enc) = true := closedL_map Spt.closed l
@[simp] theorem lowL_str (n m : Nat) (l : List _) : AV.lowL n m (List.map AV.str l) = true := AV.lowL_of_closed n m _ (str_closedL l)
@[simp] theorem lowL_Dirc (n m : Nat) (l : List _) : AV.lowL n m (List.map Dirc.enc l) = true := AV.lowL_of_closed n m _ (Dirc.closedL l)
@[simp] theorem lowL_Par (n m : Nat) (l : List _) : AV.lowL n m (List.map Par.enc l) = true := AV.lowL_of_closed n m _ (Par.closedL l)
@[simp] theorem lowL_Fld (n m : Nat) (l : List _) : AV.lowL n m (List.map Fld.enc l) = true := AV.lowL_of_closed n m _ (Fld.closedL l)
@[simp] theorem lowL_Dfn (n m : Nat) (l : List _) : AV.lowL n m (List.map Dfn.enc l) = true := AV.lowL_of_closed n m _ (Dfn.closedL l)
@[simp] theorem lowL_Spt (n m : Nat) (l : List _) : AV.lowL n m (List.map Spt.enc l) = true := AV.lowL_of_closed n m _ (Spt.closedL l)
@[simp] theorem lowL_mem (n m : Nat) (l : List _) : AV.lowL n m (List.map Mem.enc l) = true := AV.lowL_of_closed n m _ (Mem.closedL l)
@[simp] theorem lowL_val (n m : Nat) (l : List Val) : AV.lowL n m (List.map Val.enc l) = true := AV.lowL_of_closed n m _ (Val.closedL' l)
@[simp] theorem lowL_lv (n m : Nat) (v : Val) : AV.lowL n m v.lv = true := AV.lowL_of_closed n m _ v.lv_closed
@[simp] theorem lowL_mv (n m : Nat) (v : Val) : AV.lowL n m v.mv = true := AV.lowL_of_closed n m _ v.mv_closed
@[simp] theorem low_Typ (n m : Nat) (x : Typ) : (Typ.enc x).low n m = true := AV.low_of_closed n m _ (Typ.closed x)
@[simp] theorem low_Dirc (n m : Nat) (x : Dirc) : (Dirc.enc x).low n m = true := AV.low_of_closed n m _ (Dirc.closed x)
@[simp] theorem low_Par (n m : Nat) (x : Par) : (Par.enc x).low n m = true := AV.low_of_closed n m _ (Par.closed x)
@[simp] theorem low_Fld (n m : Nat) (x : Fld) : (Fld.enc x).low n m = true := AV.low_of_closed n m _ (Fld.closed x)
@[simp] theorem low_Dfn (n m : Nat) (x : Dfn) : (Dfn.enc x).low n m = true := AV.low_of_closed n m _ (Dfn.closed x)
@[simp] theorem low_Sch (n m : Nat) (x : Sch) : (Sch.enc x).low n m = true := AV.low_of_closed n m _ (Sch.closed x)
@[simp] theorem low_Spt (n m : Nat) (x : Spt) : (Spt.enc x).low n m = true := AV.low_of_closed n m _ (Spt.closed x)
@[simp] theorem low_Val (n m : Nat) (x : Val) : (Val.enc x).low n m = true := AV.low_of_closed n m _ (Val.closed x)
@[simp] theorem low_Mem (n m : Nat) (x : Mem) : (Mem.enc x).low n m = true := AV.low_of_closed n m _ (Mem.closed x)

theorem Typ.fits (t : Typ) : Av.fits true 3 t.enc = true := rfl
theorem Dirc.fits (d : Dirc) : Av.fits true 2 d.enc = true := rfl
theorem Dirc.fitsAll (l : List Dirc) : Av.fitsAll true 2 (l.map Dirc.enc) = true := fitsAll_map Dirc.fits l
theorem Par.fits (d : Par) : Av.fits true 10 d.enc = true := rfl
theorem Par.fitsAll (l : List Par) : Av.fitsAll true 10 (l.map Par.enc) = true := fitsAll_map Par.fits l
theorem Fld.fits (d : Fld) : Av.fits true 6 d.enc = true := rfl
theorem Fld.fitsAll (l : List Fld) : Av.fitsAll true 6 (l.map Fld.enc) = true := fitsAll_map Fld.fits l
theorem Dfn.fits (d : Dfn) : Av.fits true 6 d.enc = true := rfl
theorem Dfn.fitsAll (l : List Dfn) : Av.fitsAll true 6 (l.map Dfn.enc) = true := fitsAll_map Dfn.fits l
theorem Spt.fits (d : Spt) : Av.fits true 5 d.enc = true := rfl
theorem Spt.fitsAll (l : List Spt) : Av.fitsAll true 5 (l.map Spt.enc) = true := fitsAll_map Spt.fits l
theorem str_fitsAll (l : List Str) : Av.fitsAll false 1 (l.map AV.str) = true := fitsAll_map (fun _ => rfl) l

def Typ.size (t : Typ) : Nat := t.name.length + 4
def Dirc.size (d : Dirc) : Nat := d.name.length + sumSize Mem.size d.args + 3
def Par.size (p : Par) : Nat := p.name.length + p.t.size + p.d.size + 3
def Fld.size (f : Fld) : Nat := f.name.length + sumSize Par.size f.params + f.t.size + sumSize Dirc.size f.dirs + 4
def strsSize (l : List Str) : Nat := sumSize (fun s : Str => s.length + 1) l + 1
def Dfn.size (d : Dfn) : Nat := d.name.length + strsSize d.faces + sumSize Fld.size d.fields + strsSize d.parts + sumSize Par.size d.params + 5
def Sch.size (s : Sch) : Nat := sumSize Dfn.size s.defs + s.query.length + s.mutation.length + 4
def Dirc.ok (d : Dirc) : Prop := ∀ m ∈ d.args, m.ok
def Par.ok (p : Par) : Prop := p.d.ok
def Fld.ok (f : Fld) : Prop := (∀ p ∈ f.params, p.ok) ∧ ∀ d ∈ f.dirs, d.ok
def Dfn.ok (d : Dfn) : Prop := (∀ f ∈ d.fields, f.ok) ∧ ∀ p ∈ d.params, p.ok
def Sch.ok (s : Sch) : Prop := ∀ d ∈ s.defs, d.ok

theorem reads_bool' (n : Nat) : ReadN Tryz.prog n 4 false (fun x : Bool => .bool x) (fun _ => 1) (fun _ => True) := ReadN.bool Tryz.underlying4
theorem reads_strs : ∀ n : Nat, ReadN Tryz.prog n 69 false (fun l : List Str => .slice (l.map AV.str) .no) (fun l => sumSize (fun x : Str => x.length + 1) l + 1) (fun l => ∀ x ∈ l, True)
  | 0 => ReadN.zero
  | n + 1 => ReadN.slice Tryz.underlying69 (c := 1) (by kernel_rfl) (by decide) (reads_str n)
theorem reads_typ : ∀ n : Nat, ReadN Tryz.prog n 26 true Typ.enc Typ.size (fun _ => True)
  | 0 => ReadN.zero
  | n + 1 => (ReadN.struct Tryz.underlying26 (by kernel_rfl)
      (ReadF.cons (c := 1) rfl (by kernel_rfl) (one_cell fun _ => rfl) (reads_str n)
        (ReadF.cons (c := 1) rfl (by kernel_rfl) (one_cell fun _ => rfl) (reads_int n)
          (ReadF.cons (c := 1) rfl (by kernel_rfl) (one_cell fun _ => rfl) (reads_int n) ReadF.nil)))).map
      (fun x => (⟨x.1, x.2.1, x.2.2.1⟩ : Typ)) (fun _ => rfl) (fun x => by simp only [Typ.size]; omega) (fun x h => trivial)
theorem reads_dir : ∀ n : Nat, ReadN Tryz.prog n 113 true Dirc.enc Dirc.size Dirc.ok
  | 0 => ReadN.zero
  | n + 1 => (ReadN.struct Tryz.underlying113 (by kernel_rfl)
      (ReadF.cons (c := 1) rfl (by kernel_rfl) (one_cell fun _ => rfl) (reads_str n)
        (ReadF.cons (c := 1) rfl (by kernel_rfl) (one_cell fun _ => rfl) (reads_mems n) ReadF.nil))).map
      (fun x => (⟨x.1, x.2.1⟩ : Dirc)) (fun _ => rfl) (fun x => by simp only [Dirc.size]; omega) (fun x h => h.2.1)
theorem reads_dirs : ∀ n : Nat, ReadN Tryz.prog n 46 false (fun l => .slice (l.map Dirc.enc) .no) (fun l => sumSize Dirc.size l + 1) (fun l => ∀ x ∈ l, x.ok)
  | 0 => ReadN.zero
  | n + 1 => ReadN.slice Tryz.underlying46 (c := 2) (by kernel_rfl) (by decide) (reads_dir n)
theorem reads_par : ∀ n : Nat, ReadN Tryz.prog n 79 true Par.enc Par.size Par.ok
  | 0 => ReadN.zero
  | n + 1 => (ReadN.struct Tryz.underlying79 (by kernel_rfl)
      (ReadF.cons (c := 1) rfl (by kernel_rfl) (one_cell fun _ => rfl) (reads_str n)
        (ReadF.cons (c := 3) rfl (by kernel_rfl) (flat_cells fun _ => ⟨_, rfl⟩) (reads_typ n)
          (ReadF.cons (c := 1) rfl (by kernel_rfl) (one_cell fun _ => rfl) (reads_bool' n)
            (ReadF.cons (c := 5) rfl (by kernel_rfl) (flat_cells fun _ => ⟨_, rfl⟩) (reads_val n) ReadF.nil))))).map
      (fun x => (⟨x.1, x.2.1, x.2.2.1, x.2.2.2.1⟩ : Par)) (fun _ => rfl) (fun x => by simp only [Par.size]; omega) (fun x h => h.2.2.2.1)
theorem reads_pars : ∀ n : Nat, ReadN Tryz.prog n 71 false (fun l => .slice (l.map Par.enc) .no) (fun l => sumSize Par.size l + 1) (fun l => ∀ x ∈ l, x.ok)
  | 0 => ReadN.zero
  | n + 1 => ReadN.slice Tryz.underlying71 (c := 10) (by kernel_rfl) (by decide) (reads_par n)
theorem reads_fld : ∀ n : Nat, ReadN Tryz.prog n 99 true Fld.enc Fld.size Fld.ok
  | 0 => ReadN.zero
  | n + 1 => (ReadN.struct Tryz.underlying99 (by kernel_rfl)
      (ReadF.cons (c := 1) rfl (by kernel_rfl) (one_cell fun _ => rfl) (reads_str n)
        (ReadF.cons (c := 1) rfl (by kernel_rfl) (one_cell fun _ => rfl) (reads_pars n)
          (ReadF.cons (c := 3) rfl (by kernel_rfl) (flat_cells fun _ => ⟨_, rfl⟩) (reads_typ n)
            (ReadF.cons (c := 1) rfl (by kernel_rfl) (one_cell fun _ => rfl) (reads_dirs n) ReadF.nil))))).map
      (fun x => (⟨x.1, x.2.1, x.2.2.1, x.2.2.2.1⟩ : Fld)) (fun _ => rfl) (fun x => by simp only [Fld.size]; omega) (fun x h => ⟨h.2.1, h.2.2.2.1⟩)
theorem reads_flds : ∀ n : Nat, ReadN Tryz.prog n 70 false (fun l => .slice (l.map Fld.enc) .no) (fun l => sumSize Fld.size l + 1) (fun l => ∀ x ∈ l, x.ok)
  | 0 => ReadN.zero
  | n + 1 => ReadN.slice Tryz.underlying70 (c := 6) (by kernel_rfl) (by decide) (reads_fld n)
theorem reads_dfn : ∀ n : Nat, ReadN Tryz.prog n 73 true Dfn.enc Dfn.size Dfn.ok
  | 0 => ReadN.zero
  | n + 1 => (ReadN.struct Tryz.underlying73 (by kernel_rfl)
      (ReadF.cons (c := 1) rfl (by kernel_rfl) (one_cell fun _ => rfl) (reads_int n)
        (ReadF.cons (c := 1) rfl (by kernel_rfl) (one_cell fun _ => rfl) (reads_str n)
          (ReadF.cons (c := 1) rfl (by kernel_rfl) (one_cell fun _ => rfl) (reads_strs n)
            (ReadF.cons (c := 1) rfl (by kernel_rfl) (one_cell fun _ => rfl) (reads_flds n)
              (ReadF.cons (c := 1) rfl (by kernel_rfl) (one_cell fun _ => rfl) (reads_strs n)
                (ReadF.cons (c := 1) rfl (by kernel_rfl) (one_cell fun _ => rfl) (reads_pars n) ReadF.nil))))))).map
      (fun x => (⟨x.1, x.2.1, x.2.2.1, x.2.2.2.1, x.2.2.2.2.1, x.2.2.2.2.2.1⟩ : Dfn)) (fun _ => rfl) (fun x => by simp only [Dfn.size, strsSize]; omega) (fun x h => ⟨h.2.2.2.1, h.2.2.2.2.2.1⟩)
theorem reads_dfns : ∀ n : Nat, ReadN Tryz.prog n 22 false (fun l => .slice (l.map Dfn.enc) .no) (fun l => sumSize Dfn.size l + 1) (fun l => ∀ x ∈ l, x.ok)
  | 0 => ReadN.zero
  | n + 1 => ReadN.slice Tryz.underlying22 (c := 6) (by kernel_rfl) (by decide) (reads_dfn n)
theorem reads_sch : ∀ n : Nat, ReadN Tryz.prog n 24 true Sch.enc Sch.size Sch.ok
  | 0 => ReadN.zero
  | n + 1 => (ReadN.struct Tryz.underlying24 (by kernel_rfl)
      (ReadF.cons (c := 1) rfl (by kernel_rfl) (one_cell fun _ => rfl) (reads_dfns n)
        (ReadF.cons (c := 1) rfl (by kernel_rfl) (one_cell fun _ => rfl) (reads_str n)
          (ReadF.cons (c := 1) rfl (by kernel_rfl) (one_cell fun _ => rfl) (reads_str n) ReadF.nil)))).map
      (fun x => (⟨x.1, x.2.1, x.2.2.1⟩ : Sch)) (fun _ => rfl) (fun x => by simp only [Sch.size]; omega) (fun x h => h.1)
end Go.Proofs.YtijlmchfepjjkaaGreatDoor
