/-
  Contracts and plain facts for a law, joined.
-/
import Derived.Test.YtegakkonlhmeaaaTable
import Derived.Test.YtegakkonlhmeaaaAvLaw
import Derived.Test.YtegakkonlhmeaaaAvGo
import Derived.Test.YtegakkonlhmeaaaAvMap
set_option maxRecDepth 100000
set_option maxHeartbeats 16000000
set_option linter.unusedVariables false
set_option linter.unusedSimpArgs false
set_option linter.unusedSectionVars false
namespace Go.Proofs.Ytegakkonlhmeaaa
open Go Go.Av
abbrev Str := List UInt8
theorem closedL_map {α : Type} {f : α → AV} (h : ∀ x, (f x).closed = true) : ∀ l : List α, AV.closedL (l.map f) = true
  | [] => rfl
  | x :: l => by simp [AV.closedL, h x, closedL_map h l]
theorem reads_str (n : Nat) : ReadN Try.prog n 9 false (fun x : Str => .str x) (fun x => x.length + 1) (fun _ => True) := ReadN.string Try.underlying9
theorem reads_int (n : Nat) : ReadN Try.prog n 3 false (fun x : Int => .int .i64 x) (fun _ => 1) (fun x => (Lit.int .i64 x).wf = true) := ReadN.int Try.underlying3
mutual
inductive Val where
  | mk (kind n : Int) (s : Str) (l : List Val) (m : List Mem)
inductive Mem where
  | mk (name : Str) (v : Val)
end
def Val.kind : Val → Int
  | .mk k _ _ _ _ => k
def Val.n : Val → Int
  | .mk _ n _ _ _ => n
def Val.s : Val → Str
  | .mk _ _ s _ _ => s
def Val.l : Val → List Val
  | .mk _ _ _ l _ => l
def Val.m : Val → List Mem
  | .mk _ _ _ _ m => m
def Mem.name : Mem → Str
  | .mk n _ => n
def Mem.v : Mem → Val
  | .mk _ v => v
mutual
def Val.lv : Val → List AV
  | .mk _ _ _ l _ => Val.goL l
def Val.mv : Val → List AV
  | .mk _ _ _ _ m => Val.goM m
def Val.goL : List Val → List AV
  | [] => []
  | v :: l => .agg [.int .i64 v.kind, .int .i64 v.n, .str v.s, .slice (Val.lv v) .no, .slice (Val.mv v) .no] :: Val.goL l
def Val.goM : List Mem → List AV
  | [] => []
  | .mk name v :: l => .agg [.str name, .int .i64 v.kind, .int .i64 v.n, .str v.s, .slice (Val.lv v) .no, .slice (Val.mv v) .no] :: Val.goM l
end
def Val.enc (v : Val) : AV := .agg [.int .i64 v.kind, .int .i64 v.n, .str v.s, .slice v.lv .no, .slice v.mv .no]
def Mem.enc (m : Mem) : AV := .agg [.str m.name, .int .i64 m.v.kind, .int .i64 m.v.n, .str m.v.s, .slice m.v.lv .no, .slice m.v.mv .no]
theorem Val.goL_eq : ∀ l : List Val, Val.goL l = l.map Val.enc
  | [] => by simp [Val.goL]
  | v :: l => by rw [Val.goL, Val.goL_eq l]; rfl
theorem Val.goM_eq : ∀ l : List Mem, Val.goM l = l.map Mem.enc
  | [] => by simp [Val.goM]
  | .mk n v :: l => by rw [Val.goM, Val.goM_eq l]; rfl
theorem Val.lv_eq (v : Val) : v.lv = v.l.map Val.enc := by cases v; rw [Val.lv, Val.goL_eq]; rfl
theorem Val.mv_eq (v : Val) : v.mv = v.m.map Mem.enc := by cases v; rw [Val.mv, Val.goM_eq]; rfl
theorem Val.lv_len (v : Val) : v.lv.length = v.l.length := by rw [Val.lv_eq, List.length_map]
theorem Val.mv_len (v : Val) : v.mv.length = v.m.length := by rw [Val.mv_eq, List.length_map]
theorem Val.lv_get {v : Val} {k : Nat} (h : k < v.l.length) : v.lv[k]? = some v.l[k].enc := by rw [Val.lv_eq]; simp [h]
theorem Val.mv_get {v : Val} {k : Nat} (h : k < v.m.length) : v.mv[k]? = some v.m[k].enc := by rw [Val.mv_eq]; simp [h]
mutual
theorem Val.closed : ∀ v : Val, v.enc.closed = true
  | .mk k n s l m => by
    simp only [Val.enc, AV.closed, AV.closedL, Bool.and_true, Bool.true_and]
    rw [Val.lv, Val.mv, Val.closedL l, Val.closedM m]
    rfl
theorem Val.closedL : ∀ l : List Val, AV.closedL (Val.goL l) = true
  | [] => by simp [Val.goL, AV.closedL]
  | v :: l => by
    have h1 := Val.closed v
    have h2 := Val.closedL l
    rw [Val.goL, AV.closedL, h2, Bool.and_true]
    exact h1
theorem Val.closedM : ∀ l : List Mem, AV.closedL (Val.goM l) = true
  | [] => by simp [Val.goM, AV.closedL]
  | .mk n v :: l => by
    have h1 := Val.closed v
    have h2 := Val.closedM l
    rw [Val.goM, AV.closedL, h2, Bool.and_true]
    simpa only [Val.enc, AV.closed, AV.closedL, Bool.and_true, Bool.true_and] using h1
end
theorem Val.lv_closed (v : Val) : AV.closedL v.lv = true := by cases v; rw [Val.lv]; exact Val.closedL _
theorem Val.mv_closed (v : Val) : AV.closedL v.mv = true := by cases v; rw [Val.mv]; exact Val.closedM _
theorem Mem.closed (m : Mem) : m.enc.closed = true := by
  simp only [Mem.enc, AV.closed, AV.closedL, Val.lv_closed, Val.mv_closed]; rfl
theorem Val.fits (v : Val) : Av.fits true 5 v.enc = true := rfl
theorem Mem.fits (m : Mem) : Av.fits true 6 m.enc = true := rfl
mutual
def Val.size : Val → Nat
  | .mk _ _ s l m => s.length + Val.sizeL l + Val.sizeM m + 6
def Val.sizeL : List Val → Nat
  | [] => 0
  | v :: l => Val.size v + Val.sizeL l
def Val.sizeM : List Mem → Nat
  | [] => 0
  | .mk n v :: l => n.length + 2 + Val.size v + Val.sizeM l
end
def Mem.size (m : Mem) : Nat := m.name.length + 2 + m.v.size
theorem Val.sizeL_eq : ∀ l : List Val, Val.sizeL l = sumSize Val.size l
  | [] => by simp [Val.sizeL, sumSize]
  | v :: l => by rw [Val.sizeL, sumSize, Val.sizeL_eq l]
theorem Val.sizeM_eq : ∀ l : List Mem, Val.sizeM l = sumSize Mem.size l
  | [] => by simp [Val.sizeM, sumSize]
  | .mk n v :: l => by rw [Val.sizeM, sumSize, Val.sizeM_eq l]; rfl
theorem Val.size_eq (v : Val) : v.size = v.s.length + sumSize Val.size v.l + sumSize Mem.size v.m + 6 := by
  cases v; rw [Val.size, Val.sizeL_eq, Val.sizeM_eq]; rfl
theorem Val.size_pos (v : Val) : 1 ≤ v.size := by rw [Val.size_eq]; omega
theorem Mem.size_pos (m : Mem) : 1 ≤ m.size := by unfold Mem.size; omega
theorem Val.size_l {v : Val} {k : Nat} (h : k < v.l.length) : v.l[k].size < v.size := by
  have := sumSize_mem (size := Val.size) (List.getElem_mem h)
  rw [v.size_eq]; omega
theorem Val.size_m {v : Val} {k : Nat} (h : k < v.m.length) : v.m[k].v.size < v.size := by
  have := sumSize_mem (size := Mem.size) (List.getElem_mem h)
  have h2 : v.m[k].size = v.m[k].name.length + 2 + v.m[k].v.size := rfl
  rw [v.size_eq]; omega
theorem Val.l_len (v : Val) : v.l.length ≤ v.size := by
  have := sumSize_length Val.size_pos v.l
  rw [v.size_eq]; omega
theorem Val.m_len (v : Val) : v.m.length ≤ v.size := by
  have := sumSize_length Mem.size_pos v.m
  rw [v.size_eq]; omega
mutual
def Val.ok : Val → Prop
  | .mk k n _ l m => (Lit.int .i64 k).wf = true ∧ (Lit.int .i64 n).wf = true ∧ Val.okL l ∧ Val.okM m
def Val.okL : List Val → Prop
  | [] => True
  | v :: l => Val.ok v ∧ Val.okL l
def Val.okM : List Mem → Prop
  | [] => True
  | .mk _ v :: l => Val.ok v ∧ Val.okM l
end
def Mem.ok (m : Mem) : Prop := m.v.ok
theorem Val.okL_of : ∀ {l : List Val}, (∀ x ∈ l, x.ok) → Val.okL l
  | [], _ => by rw [Val.okL]; trivial
  | v :: l, h => by rw [Val.okL]; exact ⟨h v (by simp), Val.okL_of fun x hx => h x (by simp [hx])⟩
theorem Val.okM_of : ∀ {l : List Mem}, (∀ x ∈ l, x.ok) → Val.okM l
  | [], _ => by rw [Val.okM]; trivial
  | .mk n v :: l, h => by rw [Val.okM]; exact ⟨h (.mk n v) (by simp), Val.okM_of fun x hx => h x (by simp [hx])⟩
theorem reads_i64 (n : Nat) : ReadN Try.prog n 2 false (fun x : Int => .int .i64 x) (fun _ => 1) (fun x => (Lit.int .i64 x).wf = true) := ReadN.int Try.underlying2
theorem ReadN.zero {P : Program} {t : TypeId} {agg : Bool} {α : Type} {enc : α → AV} {size : α → Nat} {ok : α → Prop} : ReadN P 0 t agg enc size ok := fun _ _ _ fuel _ _ _ h1 h2 => by
  cases fuel with
  | zero => simp [DataW.trod] at h2
  | succ m => omega
theorem reads_all : ∀ n : Nat, ReadN Try.prog n 30 true Val.enc Val.size Val.ok ∧ ReadN Try.prog n 27 false (fun l => .slice (l.map Val.enc) .no) (fun l => sumSize Val.size l + 1) (fun l => ∀ x ∈ l, x.ok) ∧
    ReadN Try.prog n 32 true Mem.enc Mem.size Mem.ok ∧ ReadN Try.prog n 28 false (fun l => .slice (l.map Mem.enc) .no) (fun l => sumSize Mem.size l + 1) (fun l => ∀ x ∈ l, x.ok)
  | 0 => ⟨ReadN.zero, ReadN.zero, ReadN.zero, ReadN.zero⟩
  | n + 1 => by
    obtain ⟨h1, h2, h3, h4⟩ := reads_all n
    refine ⟨?_, ReadN.slice Try.underlying27 (c := 5) (by kernel_rfl) (by decide) h1, ?_, ReadN.slice Try.underlying28 (c := 6) (by kernel_rfl) (by decide) h3⟩
    · refine (ReadN.struct Try.underlying30 (by kernel_rfl)
        (ReadF.cons (c := 1) rfl (by kernel_rfl) (one_cell fun _ => rfl) (reads_int n)
          (ReadF.cons (c := 1) rfl (by kernel_rfl) (one_cell fun _ => rfl) (reads_i64 n)
            (ReadF.cons (c := 1) rfl (by kernel_rfl) (one_cell fun _ => rfl) (reads_str n)
              (ReadF.cons (c := 1) rfl (by kernel_rfl) (one_cell fun _ => rfl) h2
                (ReadF.cons (c := 1) rfl (by kernel_rfl) (one_cell fun _ => rfl) h4 ReadF.nil)))))).map
        (fun x => Val.mk x.1 x.2.1 x.2.2.1 x.2.2.2.1 x.2.2.2.2.1) (fun x => ?_) (fun x => ?_) (fun x h => ?_)
      · simp only [Val.enc, Val.lv, Val.mv, Val.goL_eq, Val.goM_eq]; rfl
      · simp only [Val.size, Val.sizeL_eq, Val.sizeM_eq]; omega
      · rw [Val.ok]; exact ⟨h.1, h.2.1, Val.okL_of h.2.2.2.1, Val.okM_of h.2.2.2.2.1⟩
    · refine (ReadN.struct Try.underlying32 (by kernel_rfl)
        (ReadF.cons (c := 1) rfl (by kernel_rfl) (one_cell fun _ => rfl) (reads_str n)
          (ReadF.cons (c := 5) rfl (by kernel_rfl) (flat_cells fun _ => ⟨_, rfl⟩) h1 ReadF.nil))).map
        (fun x => Mem.mk x.1 x.2.1) (fun x => ?_) (fun x => ?_) (fun x h => h.2.1)
      · rfl
      · show Mem.size _ ≤ _; unfold Mem.size; simp only [Mem.name, Mem.v]; omega
theorem reads_mems (n : Nat) : ReadN Try.prog n 28 false (fun l => .slice (l.map Mem.enc) .no) (fun l => sumSize Mem.size l + 1) (fun l => ∀ x ∈ l, x.ok) := (reads_all n).2.2.2
mutual
def sameV : Val → Val → Bool
  | .mk k n s l m, .mk k' n' s' l' m' => k == k' && n == n' && s == s' && sameL l l' && sameM m m'
def sameL : List Val → List Val → Bool
  | [], [] => true
  | a :: l, b :: l' => sameV a b && sameL l l'
  | _, _ => false
def sameM : List Mem → List Mem → Bool
  | [], [] => true
  | .mk n a :: l, .mk n' b :: l' => n == n' && sameV a b && sameM l l'
  | _, _ => false
end
theorem Val.low (n m : Nat) (v : Val) : v.enc.low n m = true := AV.low_of_closed n m _ v.closed
theorem sameV_eq (a b : Val) : sameV a b = (a.kind == b.kind && a.n == b.n && a.s == b.s && sameL a.l b.l && sameM a.m b.m) := by cases a; cases b; rw [sameV]; rfl
theorem sameL_len : ∀ {p q : List Val}, p.length ≠ q.length → sameL p q = false
  | [], [], h => absurd rfl h
  | [], _ :: _, _ => by rw [sameL] <;> simp
  | _ :: _, [], _ => by rw [sameL] <;> simp
  | a :: p, b :: q, h => by rw [sameL, sameL_len (p := p) (q := q) (by simpa using h), Bool.and_false]
theorem sameM_len : ∀ {p q : List Mem}, p.length ≠ q.length → sameM p q = false
  | [], [], h => absurd rfl h
  | [], _ :: _, _ => by rw [sameM] <;> simp
  | .mk _ _ :: _, [], _ => by rw [sameM] <;> simp
  | .mk _ _ :: p, .mk _ _ :: q, h => by rw [sameM, sameM_len (p := p) (q := q) (by simpa using h), Bool.and_false]
theorem sameL_drop {a b : List Val} {k : Nat} (h1 : k < a.length) (h2 : k < b.length) : sameL (a.drop k) (b.drop k) = (sameV a[k] b[k] && sameL (a.drop (k + 1)) (b.drop (k + 1))) := by
  rw [List.drop_eq_getElem_cons h1, List.drop_eq_getElem_cons h2, sameL]
theorem sameM_drop {a b : List Mem} {k : Nat} (h1 : k < a.length) (h2 : k < b.length) : sameM (a.drop k) (b.drop k) = (a[k].name == b[k].name && sameV a[k].v b[k].v && sameM (a.drop (k + 1)) (b.drop (k + 1))) := by
  rw [List.drop_eq_getElem_cons h1, List.drop_eq_getElem_cons h2]
  cases a[k]; cases b[k]
  rw [sameM]; rfl
theorem map_get' {α : Type} {f : α → AV} {l : List α} {k : Nat} (h : k < l.length) : (l.map f)[k]? = some (f l[k]) := by simp [h]
theorem Mem.closedL (l : List Mem) : AV.closedL (l.map Mem.enc) = true := closedL_map Mem.closed l
theorem Val.closedL' (l : List Val) : AV.closedL (l.map Val.enc) = true := closedL_map Val.closed l
theorem Mem.lowL (n m : Nat) (l : List Mem) : AV.lowL n m (l.map Mem.enc) = true := AV.lowL_of_closed n m _ (Mem.closedL l)
theorem Val.lowL' (n m : Nat) (l : List Val) : AV.lowL n m (l.map Val.enc) = true := AV.lowL_of_closed n m _ (Val.closedL' l)
end Go.Proofs.Ytegakkonlhmeaaa
namespace Go.Proofs.Ytegakkonlhmeaaa
open Go Go.Av
attribute [local irreducible] HCode AOps PFn AFn Av.Step TStep
end Go.Proofs.Ytegakkonlhmeaaa
namespace Go.Proofs.Ytegakkonlhmeaaa
open Go Go.Av
structure Row where
  key : Str
  typ : Str
  cols : List Mem
  broken : Bool
def Row.cells (r : Row) : List AV := [.str r.key, .str r.typ, .slice (r.cols.map Mem.enc) .no, .bool r.broken]
def Row.enc (r : Row) : AV := .agg r.cells
structure Tbl where
  name : Str
  rows : List Row
def Tbl.enc (t : Tbl) : AV := .agg [.str t.name, .slice (t.rows.map Row.enc) .no]
structure Need where
  table : Str
  key : Str
def Need.enc (n : Need) : AV := .agg [.str n.table, .str n.key]
structure Got where
  row : Row
  is : Bool
  e : Int
def Got.enc (g : Got) : AV := .agg [.str g.row.key, .str g.row.typ, .slice (g.row.cols.map Mem.enc) .no, .bool g.row.broken, .bool g.is, .int .i64 g.e]
structure Cmd where
  name : Str
  table : Str
  col : Str
  typ : Str
  args : List Mem
def Cmd.enc (c : Cmd) : AV := .agg [.str c.name, .str c.table, .str c.col, .str c.typ, .slice (c.args.map Mem.enc) .no]
def Tbls.enc (l : List Tbl) : AV := .slice (l.map Tbl.enc) .no
theorem Row.closed (r : Row) : r.enc.closed = true := by simp [Row.enc, Row.cells, AV.closed, AV.closedL, Mem.closedL]
theorem Row.closedL (l : List Row) : AV.closedL (l.map Row.enc) = true := closedL_map Row.closed l
theorem Tbl.closed (t : Tbl) : t.enc.closed = true := by simp [Tbl.enc, AV.closed, AV.closedL, Row.closedL]
theorem Tbl.closedL (l : List Tbl) : AV.closedL (l.map Tbl.enc) = true := closedL_map Tbl.closed l
theorem Need.closed (n : Need) : n.enc.closed = true := rfl
theorem Got.closed (g : Got) : g.enc.closed = true := by simp [Got.enc, AV.closed, AV.closedL, Mem.closedL]
theorem Cmd.closed (c : Cmd) : c.enc.closed = true := by simp [Cmd.enc, AV.closed, AV.closedL, Mem.closedL]
theorem Tbls.closed (l : List Tbl) : (Tbls.enc l).closed = true := by simp [Tbls.enc, AV.closed, Tbl.closedL]
theorem Row.lowL (n m : Nat) (l : List Row) : AV.lowL n m (l.map Row.enc) = true := AV.lowL_of_closed n m _ (Row.closedL l)
theorem Tbl.lowL (n m : Nat) (l : List Tbl) : AV.lowL n m (l.map Tbl.enc) = true := AV.lowL_of_closed n m _ (Tbl.closedL l)
theorem Row.fits (r : Row) : Av.fits true 4 r.enc = true := rfl
theorem Tbl.fits (t : Tbl) : Av.fits true 2 t.enc = true := rfl
theorem Row.fitsAll (l : List Row) : Av.fitsAll true 4 (l.map Row.enc) = true := fitsAll_map Row.fits l
theorem Tbl.fitsAll (l : List Tbl) : Av.fitsAll true 2 (l.map Tbl.enc) = true := fitsAll_map Tbl.fits l
theorem Mem.fitsAll (l : List Mem) : Av.fitsAll true 6 (l.map Mem.enc) = true := fitsAll_map Mem.fits l
def Row.size (r : Row) : Nat := r.key.length + r.typ.length + sumSize Mem.size r.cols + 4
def Tbl.size (t : Tbl) : Nat := t.name.length + sumSize Row.size t.rows + 2
def Cmd.size (c : Cmd) : Nat := c.name.length + c.table.length + c.col.length + c.typ.length + sumSize Mem.size c.args + 5
def Row.ok (r : Row) : Prop := ∀ m ∈ r.cols, m.ok
def Tbl.ok (t : Tbl) : Prop := ∀ r ∈ t.rows, r.ok
def Cmd.ok (c : Cmd) : Prop := ∀ m ∈ c.args, m.ok
theorem reads_bool (n : Nat) : ReadN Try.prog n 4 false (fun x : Bool => .bool x) (fun _ => 1) (fun _ => True) := ReadN.bool Try.underlying4
theorem reads_row : ∀ n : Nat, ReadN Try.prog n 36 true Row.enc Row.size Row.ok
  | 0 => ReadN.zero
  | n + 1 => (ReadN.struct Try.underlying36 (by kernel_rfl)
      (ReadF.cons (c := 1) rfl (by kernel_rfl) (one_cell fun _ => rfl) (reads_str n)
        (ReadF.cons (c := 1) rfl (by kernel_rfl) (one_cell fun _ => rfl) (reads_str n)
          (ReadF.cons (c := 1) rfl (by kernel_rfl) (one_cell fun _ => rfl) (reads_mems n)
            (ReadF.cons (c := 1) rfl (by kernel_rfl) (one_cell fun _ => rfl) (reads_bool n) ReadF.nil))))).map
      (fun x => (⟨x.1, x.2.1, x.2.2.1, x.2.2.2.1⟩ : Row)) (fun _ => rfl) (fun x => by simp only [Row.size]; omega) (fun x h => h.2.2.1)
theorem reads_rows : ∀ n : Nat, ReadN Try.prog n 51 false (fun l => .slice (l.map Row.enc) .no) (fun l => sumSize Row.size l + 1) (fun l => ∀ x ∈ l, x.ok)
  | 0 => ReadN.zero
  | n + 1 => ReadN.slice Try.underlying51 (c := 4) (by kernel_rfl) (by decide) (reads_row n)
theorem reads_tbl : ∀ n : Nat, ReadN Try.prog n 53 true Tbl.enc Tbl.size Tbl.ok
  | 0 => ReadN.zero
  | n + 1 => (ReadN.struct Try.underlying53 (by kernel_rfl)
      (ReadF.cons (c := 1) rfl (by kernel_rfl) (one_cell fun _ => rfl) (reads_str n)
        (ReadF.cons (c := 1) rfl (by kernel_rfl) (one_cell fun _ => rfl) (reads_rows n) ReadF.nil))).map
      (fun x => (⟨x.1, x.2.1⟩ : Tbl)) (fun _ => rfl) (fun x => by simp only [Tbl.size]; omega) (fun x h => h.2.1)
theorem reads_tbls : ∀ n : Nat, ReadN Try.prog n 22 false Tbls.enc (fun l => sumSize Tbl.size l + 1) (fun l => ∀ x ∈ l, x.ok)
  | 0 => ReadN.zero
  | n + 1 => ReadN.slice Try.underlying22 (c := 2) (by kernel_rfl) (by decide) (reads_tbl n)
def idxFrom {α : Type} (p : α → Bool) : List α → Nat → Int
  | [], _ => -1
  | x :: l, k => if p x then (k : Int) else idxFrom p l (k + 1)
theorem idxFrom_drop {α : Type} {p : α → Bool} {l : List α} {k : Nat} (h : k < l.length) : idxFrom p (l.drop k) k = if p l[k] then (k : Int) else idxFrom p (l.drop (k + 1)) (k + 1) := by
  rw [List.drop_eq_getElem_cons h, idxFrom]
theorem idxFrom_spec {α : Type} (p : α → Bool) : ∀ (l : List α) (k : Nat), (idxFrom p l k = -1 ∧ l.find? p = none) ∨ ∃ (j : Nat) (h : j < l.length), idxFrom p l k = ((k + j : Nat) : Int) ∧ l.find? p = some l[j]
  | [], k => .inl ⟨rfl, rfl⟩
  | x :: l, k => by
    by_cases e : p x = true
    · exact .inr ⟨0, by simp, by simp [idxFrom, e], by simp [e]⟩
    · rcases idxFrom_spec p l (k + 1) with ⟨h1, h2⟩ | ⟨j, h, h1, h2⟩
      · exact .inl ⟨by simp [idxFrom, e, h1], by simp [List.find?, e, h2]⟩
      · exact .inr ⟨j + 1, by simpa using h, by simp [idxFrom, e, h1]; omega, by simp [List.find?, e, h2]⟩
end Go.Proofs.Ytegakkonlhmeaaa
namespace Go.Proofs.Ytegakkonlhmeaaa
open Go Go.Av
attribute [local irreducible] HCode AOps PFn AFn Av.Step TStep
theorem cloneM (l : List Mem) (h : l.length ≤ 1048576) : PFn Try.prog 29 [.slice (l.map Mem.enc) .no] (.slice (l.map Mem.enc) .no) := by
  have hl : (l.map Mem.enc).length = l.length := List.length_map ..
  refine AFn.plain (by simp [AV.closed, Mem.closedL]) (by simp [AV.closed, AV.closedL, Mem.closedL]) (AFn.enter [2] Try.func29 rfl rfl rfl rfl rfl (by decide) ?_)
  refine HCode.split_nil 0 rfl (fun hn => ?_) ?_
  · repeat' first | refine .seq ?_ | refine .rg ?_ | refine .rd ?_ | refine .block ?_ | refine .scope ?_ | refine .skip ?_ | refine .label ?_ | refine .exit ?_ | refine .ret ?_ | refine .ct ?_ | refine .cf ?_ | refine .cy ?_ | refine .cn ?_ | (refine .cond rfl ?_ ?_ <;> intro hc) | refine A.nil_seq ?_ | refine .nl ?_ | refine .dd ?_ | refine .ys ?_ | refine .no ?_ | (refine A.guard rfl ?_ ?_ <;> intro hc) | refine .lb ?_ | refine .ln ?_ | refine .ls ?_ | refine .pv ?_ | refine .ix ?_ | refine .pt ?_ | refine .pf ?_ | refine .bx ?_ | refine .al ?_ | refine .st ?_ | refine .ad ?_ | refine .sb ?_ | refine .mf ?_ | refine .cl ?_ | refine .cw ?_ | refine .ck ?_ | refine A.isnil rfl rfl rfl ?_ | fail
    exact Fin.ret1 rfl (Weak.no (WeakL.eq hn.symm))
  · repeat' first | refine .seq ?_ | refine .rg ?_ | refine .rd ?_ | refine .block ?_ | refine .scope ?_ | refine .skip ?_ | refine .label ?_ | refine .exit ?_ | refine .ret ?_ | refine .ct ?_ | refine .cf ?_ | refine .cy ?_ | refine .cn ?_ | (refine .cond rfl ?_ ?_ <;> intro hc) | refine A.nil_seq ?_ | refine .nl ?_ | refine .dd ?_ | refine .ys ?_ | refine .no ?_ | (refine A.guard rfl ?_ ?_ <;> intro hc) | refine .lb ?_ | refine .ln ?_ | refine .ls ?_ | refine .pv ?_ | refine .ix ?_ | refine .pt ?_ | refine .pf ?_ | refine .bx ?_ | refine .al ?_ | refine .st ?_ | refine .ad ?_ | refine .sb ?_ | refine .mf ?_ | refine .cl ?_ | refine .cw ?_ | refine .ck ?_ | refine A.notnil rfl rfl rfl ?_ | refine A.append_new (n := 0) rfl rfl rfl rfl rfl rfl rfl rfl rfl rfl (Mem.fitsAll l) (by dsimp only; omega) (by omega) rfl ?_ | fail
    exact Fin.ret1 rfl (Weak.no (WeakL.eq (List.nil_append _)))
theorem twin (r : Row) (h : r.cols.length ≤ 1048576) : PFn Try.prog 19 [r.enc] r.enc := by
  refine AFn.plain (Row.closed r) (by simp [AV.closedL, Row.closed]) (AFn.enterR [.cell 2 36] Try.func19 rfl rfl rfl rfl rfl ?_)
  have hc := cloneM r.cols h
  repeat' first | refine .seq ?_ | refine .rg ?_ | refine .rd ?_ | refine .block ?_ | refine .scope ?_ | refine .skip ?_ | refine .label ?_ | refine .exit ?_ | refine .ret ?_ | refine .ct ?_ | refine .cf ?_ | refine .cy ?_ | refine .cn ?_ | (refine .cond rfl ?_ ?_ <;> intro hc) | refine A.nil_seq ?_ | refine .nl ?_ | refine .dd ?_ | refine .ys ?_ | refine .no ?_ | (refine A.guard rfl ?_ ?_ <;> intro hc) | refine .lb ?_ | refine .ln ?_ | refine .ls ?_ | refine .pv ?_ | refine .ix ?_ | refine .pt ?_ | refine .pf ?_ | refine .bx ?_ | refine .al ?_ | refine .st ?_ | refine .ad ?_ | refine .sb ?_ | refine .mf ?_ | refine .cl ?_ | refine .cw ?_ | refine .ck ?_ | refine A.call rfl hc (WeakL.refl _) ?_ | fail
  exact FinR.ret1 rfl (Weak.refl _)
theorem indexRow (l : List Row) (f : FuncId) (c : AV) (p : Row → Bool) (hl : l.length ≤ 9223372036854775807) (hcl : c.closed = true) (hf : ∀ x ∈ l, PFn Try.prog f [x.enc, c] (.bool (p x))) :
    PFn Try.prog 27 [.slice (l.map Row.enc) .no, .fn (.func f) [] [c]] (.int .i64 (idxFrom p l 0)) := by
  refine AFn.plain rfl (by simp [AV.closed, AV.closedL, Row.closedL, hcl]) (AFn.enter [4] Try.func27 rfl rfl rfl rfl rfl (by decide) ?_)
  repeat' first | refine .seq ?_ | refine .rg ?_ | refine .rd ?_ | refine .block ?_ | refine .scope ?_ | refine .skip ?_ | refine .label ?_ | refine .exit ?_ | refine .ret ?_ | refine .ct ?_ | refine .cf ?_ | refine .cy ?_ | refine .cn ?_ | (refine .cond rfl ?_ ?_ <;> intro hc) | refine A.nil_seq ?_ | refine .nl ?_ | refine .dd ?_ | refine .ys ?_ | refine .no ?_ | (refine A.guard rfl ?_ ?_ <;> intro hc) | refine .lb ?_ | refine .ln ?_ | refine .ls ?_ | refine .pv ?_ | refine .ix ?_ | refine .pt ?_ | refine .pf ?_ | refine .bx ?_ | refine .al ?_ | refine .st ?_ | refine .ad ?_ | refine .sb ?_ | refine .mf ?_ | refine .cl ?_ | refine .cw ?_ | refine .ck ?_ | fail
  change HCode _ _ _ _ _ _ _
  refine HCode.loop (fun n s σ => ∃ k : Nat, n = l.length - k ∧ k ≤ l.length ∧ idxFrom p l 0 = idxFrom p (l.drop k) k ∧ σ = ⟨[], []⟩ ∧
    s = [(8, .int .i64 k), (7, .int .i64 l.length), (0, .slice (l.map Row.enc) .no), (1, .fn (.func f) [] [c])])
    (s0 := [(8, .int .i64 (0 : Nat)), (7, .int .i64 l.length), (0, .slice (l.map Row.enc) .no), (1, .fn (.func f) [] [c])])
    ⟨rfl, rfl, rfl, rfl, trivial⟩ ⟨0, rfl, Nat.zero_le _, rfl, rfl, rfl⟩ ?_
  rintro n s σ ⟨k, rfl, hk, hp, rfl, rfl⟩
  by_cases h1 : k < l.length
  · have d1 : decide ((k : Int) < (l.length : Int)) = true := by simp [h1]
    have x1 := map_get' (f := Row.enc) h1
    have hcc := hf l[k] (List.getElem_mem h1)
    repeat' first | refine .seq ?_ | refine .rg ?_ | refine .rd ?_ | refine .block ?_ | refine .scope ?_ | refine .skip ?_ | refine .label ?_ | refine .exit ?_ | refine .ret ?_ | refine .ct ?_ | refine .cf ?_ | refine .cy ?_ | refine .cn ?_ | (refine .cond rfl ?_ ?_ <;> intro hc) | refine A.nil_seq ?_ | refine .nl ?_ | refine .dd ?_ | refine .ys ?_ | refine .no ?_ | (refine A.guard rfl ?_ ?_ <;> intro hc) | refine .lb ?_ | refine .ln ?_ | refine .ls ?_ | refine .pv ?_ | refine .ix ?_ | refine .pt ?_ | refine .pf ?_ | refine .bx ?_ | refine .al ?_ | refine .st ?_ | refine .ad ?_ | refine .sb ?_ | refine .mf ?_ | refine .cl ?_ | refine .cw ?_ | refine .ck ?_ | refine A.callw rfl rfl hcc (WeakL.refl _) ?_ | fail
    · refine Fin.ret1 rfl (Weak.eq ?_)
      rw [hp, idxFrom_drop h1, if_pos hc]
    · refine ⟨l.length - (k + 1), by omega, [(8, .int .i64 ((k + 1 : Nat) : Int)), (7, .int .i64 l.length), (0, .slice (l.map Row.enc) .no), (1, .fn (.func f) [] [c])],
        ⟨rfl, rfl, rfl, rfl, trivial⟩, by simp [belowS, AV.low, AV.lowL, Row.lowL, AV.low_of_closed _ _ _ hcl], rfl, k + 1, rfl, by omega, by rw [hp, idxFrom_drop h1, if_neg (by simp [hc])], rfl, rfl⟩
  · have d1 : decide ((k : Int) < (l.length : Int)) = false := by simp; omega
    repeat' first | refine .seq ?_ | refine .rg ?_ | refine .rd ?_ | refine .block ?_ | refine .scope ?_ | refine .skip ?_ | refine .label ?_ | refine .exit ?_ | refine .ret ?_ | refine .ct ?_ | refine .cf ?_ | refine .cy ?_ | refine .cn ?_ | (refine .cond rfl ?_ ?_ <;> intro hc) | refine A.nil_seq ?_ | refine .nl ?_ | refine .dd ?_ | refine .ys ?_ | refine .no ?_ | (refine A.guard rfl ?_ ?_ <;> intro hc) | refine .lb ?_ | refine .ln ?_ | refine .ls ?_ | refine .pv ?_ | refine .ix ?_ | refine .pt ?_ | refine .pf ?_ | refine .bx ?_ | refine .al ?_ | refine .st ?_ | refine .ad ?_ | refine .sb ?_ | refine .mf ?_ | refine .cl ?_ | refine .cw ?_ | refine .ck ?_ | fail
    refine Fin.ret1 rfl (Weak.eq ?_)
    rw [hp, List.drop_eq_nil_of_le (by omega), idxFrom]
theorem placeIs (r : Row) (key : Str) : PFn Try.prog 28 [r.enc, .rptr (.str key)] (.bool (r.key == key)) := by
  refine AFn.plain rfl (by simp [AV.closedL, Row.closed, AV.closed]) (AFn.enter [3] Try.func28 rfl rfl rfl rfl rfl (by decide) ?_)
  repeat' first | refine .seq ?_ | refine .rg ?_ | refine .rd ?_ | refine .block ?_ | refine .scope ?_ | refine .skip ?_ | refine .label ?_ | refine .exit ?_ | refine .ret ?_ | refine .ct ?_ | refine .cf ?_ | refine .cy ?_ | refine .cn ?_ | (refine .cond rfl ?_ ?_ <;> intro hc) | refine A.nil_seq ?_ | refine .nl ?_ | refine .dd ?_ | refine .ys ?_ | refine .no ?_ | (refine A.guard rfl ?_ ?_ <;> intro hc) | refine .lb ?_ | refine .ln ?_ | refine .ls ?_ | refine .pv ?_ | refine .ix ?_ | refine .pt ?_ | refine .pf ?_ | refine .bx ?_ | refine .al ?_ | refine .st ?_ | refine .ad ?_ | refine .sb ?_ | refine .mf ?_ | refine .cl ?_ | refine .cw ?_ | refine .ck ?_ | fail
  exact Fin.ret1 rfl (Weak.refl _)
theorem Fin.ret2 {t1 t2 : Nat} {s : Slots} {v1 v2 r : AV} (h1 : lk? s t1 = some v1) (h2 : lk? s t2 = some v2) (hw : Weak (.tup [v1, v2]) r) : ∃ v', AEnd.ret (resAV s [t1, t2]) = .ret v' ∧ Weak v' r :=
  ⟨_, rfl, by rw [show resAV s [t1, t2] = .tup [v1, v2] by unfold resAV; simp only [List.map_cons, List.map_nil, lk_of h1, lk_of h2]]; exact hw⟩
def placeFrom (name key : Str) : List Tbl → Nat → Int × Int
  | [], _ => (-1, -1)
  | t :: l, k => if t.name == name then ((k : Int), idxFrom (fun r : Row => r.key == key) t.rows 0) else placeFrom name key l (k + 1)
theorem placeFrom_drop {name key : Str} {l : List Tbl} {k : Nat} (h : k < l.length) :
    placeFrom name key (l.drop k) k = if l[k].name == name then ((k : Int), idxFrom (fun r : Row => r.key == key) l[k].rows 0) else placeFrom name key (l.drop (k + 1)) (k + 1) := by
  rw [List.drop_eq_getElem_cons h, placeFrom]
theorem place (l : List Tbl) (name key : Str) (hl : l.length ≤ 9223372036854775807) (hr : ∀ t ∈ l, t.rows.length ≤ 9223372036854775807) :
    PFn Try.prog 18 [Tbls.enc l, .str name, .str key] (.tup [.int .i64 (placeFrom name key l 0).1, .int .i64 (placeFrom name key l 0).2]) := by
  refine AFn.plain rfl (by simp [AV.closedL, Tbls.closed, AV.closed]) (AFn.enter [6, 7] Try.func18 rfl rfl rfl rfl rfl (by decide) ?_)
  repeat' first | refine A.box_r rfl rfl ?_ | refine .seq ?_ | refine .rg ?_ | refine .rd ?_ | refine .block ?_ | refine .scope ?_ | refine .skip ?_ | refine .label ?_ | refine .exit ?_ | refine .ret ?_ | refine .ct ?_ | refine .cf ?_ | refine .cy ?_ | refine .cn ?_ | (refine .cond rfl ?_ ?_ <;> intro hc) | refine A.nil_seq ?_ | refine .nl ?_ | refine .dd ?_ | refine .ys ?_ | refine .no ?_ | (refine A.guard rfl ?_ ?_ <;> intro hc) | refine .lb ?_ | refine .ln ?_ | refine .ls ?_ | refine .pv ?_ | refine .ix ?_ | refine .pt ?_ | refine .pf ?_ | refine .bx ?_ | refine .al ?_ | refine .st ?_ | refine .ad ?_ | refine .sb ?_ | refine .mf ?_ | refine .cl ?_ | refine .cw ?_ | refine .ck ?_ | fail
  change HCode _ _ _ _ _ _ _
  refine HCode.loop (fun n s σ => ∃ k : Nat, n = l.length - k ∧ k ≤ l.length ∧ placeFrom name key l 0 = placeFrom name key (l.drop k) k ∧ σ = ⟨[], []⟩ ∧
    s = [(14, .int .i64 k), (13, .int .i64 l.length), (12, Tbls.enc l), (8, .int .i64 (-1)), (9, .int .i64 (-1)), (5, .rptr (.str key)), (1, .str name)])
    (s0 := [(14, .int .i64 (0 : Nat)), (13, .int .i64 l.length), (12, Tbls.enc l), (8, .int .i64 (-1)), (9, .int .i64 (-1)), (5, .rptr (.str key)), (1, .str name)])
    ⟨rfl, rfl, rfl, rfl, rfl, rfl, rfl, trivial⟩ ⟨0, rfl, Nat.zero_le _, rfl, rfl, rfl⟩ ?_
  rintro n s σ ⟨k, rfl, hk, hp, rfl, rfl⟩
  by_cases h1 : k < l.length
  · have d1 : decide ((k : Int) < (l.length : Int)) = true := by simp [h1]
    have x1 := map_get' (f := Tbl.enc) h1
    have hcc := indexRow l[k].rows 28 (.rptr (.str key)) (fun r => r.key == key) (hr _ (List.getElem_mem h1)) rfl (fun x _ => placeIs x key)
    repeat' first | refine .seq ?_ | refine .rg ?_ | refine .rd ?_ | refine .block ?_ | refine .scope ?_ | refine .skip ?_ | refine .label ?_ | refine .exit ?_ | refine .ret ?_ | refine .ct ?_ | refine .cf ?_ | refine .cy ?_ | refine .cn ?_ | (refine .cond rfl ?_ ?_ <;> intro hc) | refine A.nil_seq ?_ | refine .nl ?_ | refine .dd ?_ | refine .ys ?_ | refine .no ?_ | (refine A.guard rfl ?_ ?_ <;> intro hc) | refine .lb ?_ | refine .ln ?_ | refine .ls ?_ | refine .pv ?_ | refine .ix ?_ | refine .pt ?_ | refine .pf ?_ | refine .bx ?_ | refine .al ?_ | refine .st ?_ | refine .ad ?_ | refine .sb ?_ | refine .mf ?_ | refine .cl ?_ | refine .cw ?_ | refine .ck ?_ | refine A.makeFunc rfl rfl ?_ | refine A.call rfl hcc (WeakL.refl _) ?_ | fail
    · refine ⟨l.length - (k + 1), by omega, [(14, .int .i64 ((k + 1 : Nat) : Int)), (13, .int .i64 l.length), (12, Tbls.enc l), (8, .int .i64 (-1)), (9, .int .i64 (-1)), (5, .rptr (.str key)), (1, .str name)],
        ⟨rfl, rfl, rfl, rfl, rfl, rfl, rfl, trivial⟩, by simp [belowS, AV.low, Tbls.enc, Tbl.lowL], rfl, k + 1, rfl, by omega, by rw [hp, placeFrom_drop h1, if_neg (by simpa using hc)], rfl, rfl⟩
    · refine Fin.ret2 rfl rfl (Weak.eq ?_)
      rw [hp, placeFrom_drop h1, if_pos (by simpa using hc)]
  · have d1 : decide ((k : Int) < (l.length : Int)) = false := by simp; omega
    repeat' first | refine .seq ?_ | refine .rg ?_ | refine .rd ?_ | refine .block ?_ | refine .scope ?_ | refine .skip ?_ | refine .label ?_ | refine .exit ?_ | refine .ret ?_ | refine .ct ?_ | refine .cf ?_ | refine .cy ?_ | refine .cn ?_ | (refine .cond rfl ?_ ?_ <;> intro hc) | refine A.nil_seq ?_ | refine .nl ?_ | refine .dd ?_ | refine .ys ?_ | refine .no ?_ | (refine A.guard rfl ?_ ?_ <;> intro hc) | refine .lb ?_ | refine .ln ?_ | refine .ls ?_ | refine .pv ?_ | refine .ix ?_ | refine .pt ?_ | refine .pf ?_ | refine .bx ?_ | refine .al ?_ | refine .st ?_ | refine .ad ?_ | refine .sb ?_ | refine .mf ?_ | refine .cl ?_ | refine .cw ?_ | refine .ck ?_ | fail
    refine Fin.ret2 rfl rfl (Weak.eq ?_)
    rw [hp, List.drop_eq_nil_of_le (by omega), placeFrom]
theorem placeFrom_spec (name key : Str) : ∀ (l : List Tbl) (k : Nat), (placeFrom name key l k = (-1, -1) ∧ l.find? (fun t => t.name == name) = none) ∨
    ∃ (j : Nat) (h : j < l.length), placeFrom name key l k = (((k + j : Nat) : Int), idxFrom (fun r : Row => r.key == key) l[j].rows 0) ∧ l.find? (fun t => t.name == name) = some l[j]
  | [], k => .inl ⟨rfl, rfl⟩
  | x :: l, k => by
    by_cases e : (x.name == name) = true
    · exact .inr ⟨0, by simp, by simp only [placeFrom, if_pos e]; simp, by simp only [List.find?, e]; rfl⟩
    · have e' : (x.name == name) = false := by simpa using e
      rcases placeFrom_spec name key l (k + 1) with ⟨h1, h2⟩ | ⟨j, h, h1, h2⟩
      · exact .inl ⟨by simp only [placeFrom, if_neg e, h1], by simp only [List.find?, e', h2]⟩
      · refine .inr ⟨j + 1, by simpa using h, ?_, by simp only [List.find?, e', h2]; rfl⟩
        simp only [placeFrom, if_neg e, h1]
        simp
        omega
def noRow : Row := ⟨[], [], [], false⟩
def gotNone : Got := ⟨noRow, false, 0⟩
def gotOf (r : Row) : Got := if r.broken then ⟨noRow, false, 10⟩ else ⟨r, true, 0⟩
def findG (l : List Tbl) (n : Need) : Got :=
  match l.find? (fun t => t.name == n.table) with
  | none => gotNone
  | some t => match t.rows.find? (fun r => r.key == n.key) with
    | none => gotNone
    | some r => gotOf r
theorem weak_got {r : Row} {b : Bool} {e : Int} {t : Tk} {cs : List AV} (h : cs = r.cols.map Mem.enc) : Weak (.agg [.str r.key, .str r.typ, .slice cs t, .bool r.broken, .bool b, .int .i64 e]) (Got.enc ⟨r, b, e⟩) := by
  subst h
  exact Weak.agg (WeakL.cons (Weak.refl _) (WeakL.cons (Weak.refl _) (WeakL.cons (Weak.no (WeakL.refl _)) (WeakL.refl _))))
theorem find (l : List Tbl) (n : Need) (hl : l.length ≤ 9223372036854775807) (hr : ∀ t ∈ l, t.rows.length ≤ 9223372036854775807) (hcl : ∀ t ∈ l, ∀ r ∈ t.rows, r.cols.length ≤ 1048576) :
    PFn Try.prog 12 [Tbls.enc l, n.enc] (findG l n).enc := by
  refine AFn.plain (Got.closed _) (by simp [AV.closedL, Tbls.closed, Need.closed]) (AFn.enterR [.cell 4 44] Try.func12 rfl rfl rfl rfl rfl ?_)
  have hp := place l n.table n.key hl hr
  rcases placeFrom_spec n.table n.key l 0 with ⟨h1, h2⟩ | ⟨i, hi, h1, h2⟩
  · rw [h1] at hp
    repeat' first | refine .seq ?_ | refine .rg ?_ | refine .rd ?_ | refine .block ?_ | refine .scope ?_ | refine .skip ?_ | refine .label ?_ | refine .exit ?_ | refine .ret ?_ | refine .ct ?_ | refine .cf ?_ | refine .cy ?_ | refine .cn ?_ | (refine .cond rfl ?_ ?_ <;> intro hc) | refine A.nil_seq ?_ | refine .nl ?_ | refine .dd ?_ | refine .ys ?_ | refine .no ?_ | (refine A.guard rfl ?_ ?_ <;> intro hc) | refine .lb ?_ | refine .ln ?_ | refine .ls ?_ | refine .pv ?_ | refine .ix ?_ | refine .pt ?_ | refine .pf ?_ | refine .bx ?_ | refine .al ?_ | refine .st ?_ | refine .ad ?_ | refine .sb ?_ | refine .mf ?_ | refine .cl ?_ | refine .cw ?_ | refine .ck ?_ | refine A.call rfl hp (WeakL.refl _) ?_ | fail
    refine FinR.ret1 rfl ?_
    have e : findG l n = gotNone := by rw [findG, h2]
    rw [e]
    exact weak_got (r := noRow) rfl
  · rw [h1] at hp
    simp only [Nat.zero_add] at hp
    rcases idxFrom_spec (fun r : Row => r.key == n.key) l[i].rows 0 with ⟨h3, h4⟩ | ⟨k, hk, h3, h4⟩
    · rw [h3] at hp
      repeat' first | refine .seq ?_ | refine .rg ?_ | refine .rd ?_ | refine .block ?_ | refine .scope ?_ | refine .skip ?_ | refine .label ?_ | refine .exit ?_ | refine .ret ?_ | refine .ct ?_ | refine .cf ?_ | refine .cy ?_ | refine .cn ?_ | (refine .cond rfl ?_ ?_ <;> intro hc) | refine A.nil_seq ?_ | refine .nl ?_ | refine .dd ?_ | refine .ys ?_ | refine .no ?_ | (refine A.guard rfl ?_ ?_ <;> intro hc) | refine .lb ?_ | refine .ln ?_ | refine .ls ?_ | refine .pv ?_ | refine .ix ?_ | refine .pt ?_ | refine .pf ?_ | refine .bx ?_ | refine .al ?_ | refine .st ?_ | refine .ad ?_ | refine .sb ?_ | refine .mf ?_ | refine .cl ?_ | refine .cw ?_ | refine .ck ?_ | refine A.call rfl hp (WeakL.refl _) ?_ | fail
      refine FinR.ret1 rfl ?_
      have e : findG l n = gotNone := by rw [findG, h2]; simp only [h4]
      rw [e]
      exact weak_got (r := noRow) rfl
    · rw [h3] at hp
      simp only [Nat.zero_add] at hp
      have x1 := map_get' (f := Tbl.enc) hi
      have x2 := map_get' (f := Row.enc) hk
      have d1 : decide ((k : Int) < 0) = false := by simp
      have ht := twin l[i].rows[k] (hcl _ (List.getElem_mem hi) _ (List.getElem_mem hk))
      repeat' first | refine .seq ?_ | refine .rg ?_ | refine .rd ?_ | refine .block ?_ | refine .scope ?_ | refine .skip ?_ | refine .label ?_ | refine .exit ?_ | refine .ret ?_ | refine .ct ?_ | refine .cf ?_ | refine .cy ?_ | refine .cn ?_ | (refine .cond rfl ?_ ?_ <;> intro hc) | refine A.nil_seq ?_ | refine .nl ?_ | refine .dd ?_ | refine .ys ?_ | refine .no ?_ | (refine A.guard rfl ?_ ?_ <;> intro hc) | refine .lb ?_ | refine .ln ?_ | refine .ls ?_ | refine .pv ?_ | refine .ix ?_ | refine .pt ?_ | refine .pf ?_ | refine .bx ?_ | refine .al ?_ | refine .st ?_ | refine .ad ?_ | refine .sb ?_ | refine .mf ?_ | refine .cl ?_ | refine .cw ?_ | refine .ck ?_ | refine A.call rfl hp (WeakL.refl _) ?_ | refine A.call rfl ht (WeakL.refl _) ?_ | fail
      all_goals refine FinR.ret1 rfl ?_
      · have e : findG l n = ⟨noRow, false, 10⟩ := by rw [findG, h2]; simp only [h4, gotOf]; rw [if_pos hc]
        rw [e]
        exact weak_got (r := noRow) rfl
      · have e : findG l n = ⟨l[i].rows[k], true, 0⟩ := by rw [findG, h2]; simp only [h4, gotOf]; rw [if_neg (by simp [hc])]
        rw [e]
        exact weak_got rfl
end Go.Proofs.Ytegakkonlhmeaaa
