/-
  The package value: Get, Int, Text.
  The package command: put, add, do, Do; value: Get, Int, Text; table: Col.
  The package command: add.
  Alike in all: a row, tables, with itself.
  The statements' helpers: Size, Light, copies.
-/
import Derived.Test.YtijlmchfepjjkaaDoorGTableSays1
import Derived.Test.YtijlmchfepjjkaaDoorGTableSays2
namespace Go.Proofs.YtijlmchfepjjkaaDoor
open Go Go.Av
set_option maxRecDepth 100000
set_option maxHeartbeats 8000000
set_option linter.unusedVariables false
set_option linter.unusedSimpArgs false
attribute [local irreducible] HCode AOps PFn AFn Av.Step TStep

def val0 : Val := .mk 0 0 [] [] []
def intV (n : Int) : Val := .mk 2 n [] [] []
def textV (s : Str) : Val := .mk 4 0 s [] []
def getG (name : Str) : List Mem → Val × Bool
  | [] => (val0, false)
  | m :: l => if m.name == name then (m.v, true) else getG name l
theorem getG_drop {name : Str} {l : List Mem} {k : Nat} (h : k < l.length) : getG name (l.drop k) = if l[k].name == name then (l[k].v, true) else getG name (l.drop (k + 1)) := by
  rw [List.drop_eq_getElem_cons h, getG]
theorem lv_mk (k n : Int) (s : Str) (m : List Mem) : (Val.mk k n s [] m).lv = [] := by rw [Val.lv, Val.goL]
theorem mv_mk (k n : Int) (s : Str) (l : List Val) : (Val.mk k n s l []).mv = [] := by rw [Val.mv, Val.goM]
theorem weak_flatV {k n : Int} {s : Str} {t1 t2 : Tk} : Weak (.agg [.int .i64 k, .int .i64 n, .str s, .slice [] t1, .slice [] t2]) (Val.mk k n s [] []).enc := by
  unfold Val.enc
  rw [lv_mk, mv_mk]
  exact Weak.agg (WeakL.cons (Weak.refl _) (WeakL.cons (Weak.refl _) (WeakL.cons (Weak.refl _) (WeakL.cons (Weak.no (WeakL.refl _)) (WeakL.cons (Weak.no (WeakL.refl _)) (WeakL.refl _))))))
def zeroV : List AV := [.int .i64 0, .int .i64 0, .str [], .slice [] .nil, .slice [] .nil]

theorem get (name : Str) (l : List Mem) (hl : l.length ≤ 9223372036854775807) : PFn Tryd.prog 52 [.str name, .slice (l.map Mem.enc) .no] (.tup [(getG name l).1.enc, .bool (getG name l).2]) := by
  refine AFn.plain (by simp [AV.closed, AV.closedL, Val.closed]) (by simp [AV.closed, AV.closedL, Mem.closedL]) (AFn.enterR [.cell 4 28, .tmp 5] Tryd.func52 rfl rfl rfl rfl rfl ?_)
  repeat' first
    | refine .seq ?_ | refine .rg ?_ | refine .rd ?_ | refine .block ?_ | refine .scope ?_ | refine .skip ?_ | refine .label ?_ | refine .exit ?_ | refine .ret ?_
    | refine .ct ?_ | refine .cf ?_ | refine .cy ?_ | refine .cn ?_ | (refine .cond rfl ?_ ?_ <;> intro hc)
    | refine A.nil_seq ?_ | refine .nl ?_ | refine .dd ?_ | refine .ys ?_ | refine .no ?_ | (refine A.guard rfl ?_ ?_ <;> intro hc)
    | refine .lb ?_ | refine .ln ?_ | refine .ls ?_ | refine .pv ?_ | refine .ix ?_ | refine .pt ?_ | refine .pf ?_ | refine .bx ?_ | refine .al ?_ | refine .st ?_ | refine .ad ?_ | refine .sb ?_ | refine .mf ?_ | refine .cl ?_ | refine .cw ?_ | refine .ck ?_ | fail
  change HCode _ _ _ _ _ _ _
  refine HCode.loop (fun n s σ => ∃ k : Nat, n = l.length - k ∧ k ≤ l.length ∧ getG name l = getG name (l.drop k) ∧ σ = ⟨[.cells zeroV], []⟩ ∧
    s = [(10, .int .i64 k), (9, .int .i64 l.length), (8, .slice (l.map Mem.enc) .no), (0, .str name), (4, .ptr 0 0)])
    (s0 := [(10, .int .i64 (0 : Nat)), (9, .int .i64 l.length), (8, .slice (l.map Mem.enc) .no), (0, .str name), (4, .ptr 0 0)])
    ⟨rfl, rfl, rfl, rfl, rfl, trivial⟩ ⟨0, rfl, Nat.zero_le _, rfl, rfl, rfl⟩ ?_
  rintro n s σ ⟨k, rfl, hk, hp, rfl, rfl⟩
  by_cases h1 : k < l.length
  · have d1 : decide ((k : Int) < (l.length : Int)) = true := by simp [h1]
    have x1 := map_get' (f := Mem.enc) h1
    repeat' first
      | refine .seq ?_ | refine .rg ?_ | refine .rd ?_ | refine .block ?_ | refine .scope ?_ | refine .skip ?_ | refine .label ?_ | refine .exit ?_ | refine .ret ?_
      | refine .ct ?_ | refine .cf ?_ | refine .cy ?_ | refine .cn ?_ | (refine .cond rfl ?_ ?_ <;> intro hc)
      | refine A.nil_seq ?_ | refine .nl ?_ | refine .dd ?_ | refine .ys ?_ | refine .no ?_ | (refine A.guard rfl ?_ ?_ <;> intro hc)
      | refine .lb ?_ | refine .ln ?_ | refine .ls ?_ | refine .pv ?_ | refine .ix ?_ | refine .pt ?_ | refine .pf ?_ | refine .bx ?_ | refine .al ?_ | refine .st ?_ | refine .ad ?_ | refine .sb ?_ | refine .mf ?_ | refine .cl ?_ | refine .cw ?_ | refine .ck ?_ | fail
    · refine FinR.ret1 rfl (Weak.eq ?_)
      rw [hp, getG_drop h1, if_pos hc]; rfl
    · refine ⟨l.length - (k + 1), by omega, [(10, .int .i64 ((k + 1 : Nat) : Int)), (9, .int .i64 l.length), (8, .slice (l.map Mem.enc) .no), (0, .str name), (4, .ptr 0 0)],
        ⟨rfl, rfl, rfl, rfl, rfl, trivial⟩, by simp [belowS, AV.low, Mem.lowL], rfl, k + 1, rfl, by omega, by rw [hp, getG_drop h1, if_neg (by simp [hc])], rfl, rfl⟩
  · have d1 : decide ((k : Int) < (l.length : Int)) = false := by simp; omega
    repeat' first
      | refine .seq ?_ | refine .rg ?_ | refine .rd ?_ | refine .block ?_ | refine .scope ?_ | refine .skip ?_ | refine .label ?_ | refine .exit ?_ | refine .ret ?_
      | refine .ct ?_ | refine .cf ?_ | refine .cy ?_ | refine .cn ?_ | (refine .cond rfl ?_ ?_ <;> intro hc)
      | refine A.nil_seq ?_ | refine .nl ?_ | refine .dd ?_ | refine .ys ?_ | refine .no ?_ | (refine A.guard rfl ?_ ?_ <;> intro hc)
      | refine .lb ?_ | refine .ln ?_ | refine .ls ?_ | refine .pv ?_ | refine .ix ?_ | refine .pt ?_ | refine .pf ?_ | refine .bx ?_ | refine .al ?_ | refine .st ?_ | refine .ad ?_ | refine .sb ?_ | refine .mf ?_ | refine .cl ?_ | refine .cw ?_ | refine .ck ?_ | fail
    refine FinR.ret1 rfl ?_
    rw [hp, List.drop_eq_nil_of_le (by omega), getG]
    exact Weak.tup (WeakL.cons weak_flatV (WeakL.refl _))
theorem int_ (n : Int) : PFn Tryd.prog 34 [.int .i64 n] (intV n).enc := by
  refine AFn.plain (Val.closed _) rfl (AFn.enterR [.cell 2 28] Tryd.func34 rfl rfl rfl rfl rfl ?_)
  repeat' first
    | refine .seq ?_ | refine .rg ?_ | refine .rd ?_ | refine .block ?_ | refine .scope ?_ | refine .skip ?_ | refine .label ?_ | refine .exit ?_ | refine .ret ?_
    | refine .ct ?_ | refine .cf ?_ | refine .cy ?_ | refine .cn ?_ | (refine .cond rfl ?_ ?_ <;> intro hc)
    | refine A.nil_seq ?_ | refine .nl ?_ | refine .dd ?_ | refine .ys ?_ | refine .no ?_ | (refine A.guard rfl ?_ ?_ <;> intro hc)
    | refine .lb ?_ | refine .ln ?_ | refine .ls ?_ | refine .pv ?_ | refine .ix ?_ | refine .pt ?_ | refine .pf ?_ | refine .bx ?_ | refine .al ?_ | refine .st ?_ | refine .ad ?_ | refine .sb ?_ | refine .mf ?_ | refine .cl ?_ | refine .cw ?_ | refine .ck ?_ | fail
  exact FinR.ret1 rfl weak_flatV
theorem text (n : Str) : PFn Tryd.prog 35 [.str n] (textV n).enc := by
  refine AFn.plain (Val.closed _) rfl (AFn.enterR [.cell 2 28] Tryd.func35 rfl rfl rfl rfl rfl ?_)
  repeat' first
    | refine .seq ?_ | refine .rg ?_ | refine .rd ?_ | refine .block ?_ | refine .scope ?_ | refine .skip ?_ | refine .label ?_ | refine .exit ?_ | refine .ret ?_
    | refine .ct ?_ | refine .cf ?_ | refine .cy ?_ | refine .cn ?_ | (refine .cond rfl ?_ ?_ <;> intro hc)
    | refine A.nil_seq ?_ | refine .nl ?_ | refine .dd ?_ | refine .ys ?_ | refine .no ?_ | (refine A.guard rfl ?_ ?_ <;> intro hc)
    | refine .lb ?_ | refine .ln ?_ | refine .ls ?_ | refine .pv ?_ | refine .ix ?_ | refine .pt ?_ | refine .pf ?_ | refine .bx ?_ | refine .al ?_ | refine .st ?_ | refine .ad ?_ | refine .sb ?_ | refine .mf ?_ | refine .cl ?_ | refine .cw ?_ | refine .ck ?_ | fail
  exact FinR.ret1 rfl weak_flatV
end Go.Proofs.YtijlmchfepjjkaaDoor
namespace Go.Proofs.YtijlmchfepjjkaaDoor
open Go Go.Av
set_option maxRecDepth 100000
set_option maxHeartbeats 8000000
set_option linter.unusedVariables false
set_option linter.unusedSimpArgs false
attribute [local irreducible] HCode AOps PFn AFn Av.Step TStep

def colG (r : Row) (name : Str) : Val := (getG name r.cols).1
theorem col (r : Row) (name : Str) (hl : r.cols.length ≤ 9223372036854775807) : PFn Tryd.prog 30 [r.enc, .str name] (colG r name).enc := by
  refine AFn.plain (Val.closed _) (by simp [AV.closedL, AV.closed, Row.closed]) (AFn.enterR [.cell 4 28] Tryd.func30 rfl rfl rfl rfl rfl ?_)
  have hg := get name r.cols hl
  repeat' first
    | refine A.box_r rfl rfl ?_
    | refine .seq ?_ | refine .rg ?_ | refine .rd ?_ | refine .block ?_ | refine .scope ?_ | refine .skip ?_ | refine .label ?_ | refine .exit ?_ | refine .ret ?_
    | refine .ct ?_ | refine .cf ?_ | refine .cy ?_ | refine .cn ?_ | (refine .cond rfl ?_ ?_ <;> intro hc)
    | refine A.nil_seq ?_ | refine .nl ?_ | refine .dd ?_ | refine .ys ?_ | refine .no ?_ | (refine A.guard rfl ?_ ?_ <;> intro hc)
    | refine .lb ?_ | refine .ln ?_ | refine .ls ?_ | refine .pv ?_ | refine .ix ?_ | refine .pt ?_ | refine .pf ?_ | refine .bx ?_ | refine .al ?_ | refine .st ?_ | refine .ad ?_ | refine .sb ?_ | refine .mf ?_ | refine .cl ?_ | refine .cw ?_ | refine .ck ?_
    | refine A.call rfl hg (WeakL.refl _) ?_ | fail
  exact FinR.ret1 rfl (Weak.refl _)
def withinB (n : Int) : Bool := decide (-2147483648 ≤ n) && decide (n ≤ 2147483647)
theorem within (n : Int) : PFn Tryd.prog 142 [.int .i64 n] (.bool (withinB n)) := by
  refine AFn.plain rfl rfl (AFn.enter [2] Tryd.func142 rfl rfl rfl rfl rfl (by decide) ?_)
  repeat' first
    | refine .seq ?_ | refine .rg ?_ | refine .rd ?_ | refine .block ?_ | refine .scope ?_ | refine .skip ?_ | refine .label ?_ | refine .exit ?_ | refine .ret ?_
    | refine .ct ?_ | refine .cf ?_ | refine .cy ?_ | refine .cn ?_ | (refine .cond rfl ?_ ?_ <;> intro hc)
    | refine A.nil_seq ?_ | refine .nl ?_ | refine .dd ?_ | refine .ys ?_ | refine .no ?_ | (refine A.guard rfl ?_ ?_ <;> intro hc)
    | refine .lb ?_ | refine .ln ?_ | refine .ls ?_ | refine .pv ?_ | refine .ix ?_ | refine .pt ?_ | refine .pf ?_ | refine .bx ?_ | refine .al ?_ | refine .st ?_ | refine .ad ?_ | refine .sb ?_ | refine .mf ?_ | refine .cl ?_ | refine .cw ?_ | refine .ck ?_ | fail
  all_goals refine Fin.ret1 rfl (Weak.eq ?_)
  all_goals first | (simp_all [withinB]; done) | (simp_all [withinB]; omega)
def sPut : Str := [112, 117, 116]
def sCut : Str := [99, 117, 116]
def sAdd : Str := [97, 100, 100]
def sBurn : Str := [98, 117, 114, 110]
def sKey : Str := [107, 101, 121]
def sBy : Str := [98, 121]
def knownG (n : Str) : Bool := n == sPut || n == sCut || n == sAdd || n == sBurn
theorem known (n : Str) : PFn Tryd.prog 93 [.str n] (.bool (knownG n)) := by
  refine AFn.plain rfl rfl (AFn.enter [2] Tryd.func93 rfl rfl rfl rfl rfl (by decide) ?_)
  repeat' first
    | refine .seq ?_ | refine .rg ?_ | refine .rd ?_ | refine .block ?_ | refine .scope ?_ | refine .skip ?_ | refine .label ?_ | refine .exit ?_ | refine .ret ?_
    | refine .ct ?_ | refine .cf ?_ | refine .cy ?_ | refine .cn ?_ | (refine .cond rfl ?_ ?_ <;> intro hc)
    | refine A.nil_seq ?_ | refine .nl ?_ | refine .dd ?_ | refine .ys ?_ | refine .no ?_ | (refine A.guard rfl ?_ ?_ <;> intro hc)
    | refine .lb ?_ | refine .ln ?_ | refine .ls ?_ | refine .pv ?_ | refine .ix ?_ | refine .pt ?_ | refine .pf ?_ | refine .bx ?_ | refine .al ?_ | refine .st ?_ | refine .ad ?_ | refine .sb ?_ | refine .mf ?_ | refine .cl ?_ | refine .cw ?_ | refine .ck ?_ | fail
  all_goals refine Fin.ret1 rfl (Weak.eq ?_)
  all_goals simp_all [knownG, sPut, sCut, sAdd, sBurn]

def putCols : List Mem → List Mem → List Mem
  | [], cols => cols
  | m :: args, cols => putCols args (if m.name != sKey then setG cols m.name m.v else cols)
theorem putCols_drop {l cols : List Mem} {k : Nat} (h : k < l.length) : putCols (l.drop k) cols = putCols (l.drop (k + 1)) (if l[k].name != sKey then setG cols l[k].name l[k].v else cols) := by
  rw [List.drop_eq_getElem_cons h, putCols]
theorem setG_len (l : List Mem) (n : Str) (v : Val) : (setG l n v).length ≤ l.length + 1 := by
  unfold setG
  split
  · simp
  · unfold modAt; split <;> simp
theorem putCols_len : ∀ (args cols : List Mem), (putCols args cols).length ≤ cols.length + args.length
  | [], cols => by simp [putCols]
  | m :: args, cols => by
    rw [putCols]
    have h1 := putCols_len args (if m.name != sKey then setG cols m.name m.v else cols)
    have h2 := setG_len cols m.name m.v
    simp only [List.length_cons]
    split at h1 <;> simp_all <;> omega

/-- Tables that are not too large. -/
structure Fine (B : Nat) (l : List Tbl) : Prop where
  len : l.length ≤ B
  rows : ∀ t ∈ l, t.rows.length ≤ B
  cols : ∀ t ∈ l, ∀ r ∈ t.rows, r.cols.length ≤ B

def putRow (c : Cmd) (key : Str) (g : Got) : Row :=
  let r := if g.is then g.row else ⟨key, c.typ, [], false⟩
  { r with cols := putCols c.args r.cols }
theorem putF (l : List Tbl) (c : Cmd) (key : Str) (g : Got) (hf : Fine 1048576 l) (hc : g.row.cols.length + c.args.length ≤ 1048576) :
    PFn Tryd.prog 123 [Tbls.enc l, c.enc, .str key, g.enc] (.tup [Tbls.enc (putG l c.table (putRow c key g)), (textV key).enc, .int .i64 0]) := by
  refine AFn.plain (by simp [AV.closed, AV.closedL, Val.closed, Tbls.closed]) (by simp [AV.closed, AV.closedL, Tbls.closed, Cmd.closed, Got.closed]) (AFn.enterR [.tmp 8, .cell 9 28, .tmp 10] Tryd.func123 rfl rfl rfl rfl rfl ?_)
  obtain ⟨r0, hr0⟩ : ∃ r0 : Row, r0 = if g.is then g.row else ⟨key, c.typ, [], false⟩ := ⟨_, rfl⟩
  have hpr : putRow c key g = { r0 with cols := putCols c.args r0.cols } := by unfold putRow; rw [hr0]
  have hr0l : r0.cols.length + c.args.length ≤ 1048576 := by
    rw [hr0]
    split
    · exact hc
    · simp only [List.length_nil]; omega
  have hpl := putCols_len c.args r0.cols
  have hput := put l c.table (putRow c key g) hf.len hf.rows hf.cols (by rw [hpr]; dsimp only; omega)
  have htx := text key
  rw [hpr] at hput ⊢
  cases hgi : g.is
  · have hr1 : r0 = ⟨key, c.typ, [], false⟩ := by rw [hr0, hgi]; rfl
    rw [hr1] at hput hr0l hpl ⊢
    clear hr1 hr0 hpr
    have dg : (!g.is) = true := by rw [hgi]; rfl
    repeat' first
      | refine A.box_r rfl rfl ?_
      | refine .seq ?_ | refine .rg ?_ | refine .rd ?_ | refine .block ?_ | refine .scope ?_ | refine .skip ?_ | refine .label ?_ | refine .exit ?_ | refine .ret ?_
      | refine .ct ?_ | refine .cf ?_ | refine .cy ?_ | refine .cn ?_ | (refine .cond rfl ?_ ?_ <;> intro hc)
      | refine A.nil_seq ?_ | refine .nl ?_ | refine .dd ?_ | refine .ys ?_ | refine .no ?_ | (refine A.guard rfl ?_ ?_ <;> intro hc)
      | refine .lb ?_ | refine .ln ?_ | refine .ls ?_ | refine .pv ?_ | refine .ix ?_ | refine .pt ?_ | refine .pf ?_ | refine .bx ?_ | refine .al ?_ | refine .st ?_ | refine .ad ?_ | refine .sb ?_ | refine .mf ?_ | refine .cl ?_ | refine .cw ?_ | refine .ck ?_
      | fail | fail
    change HCode _ _ _ _ _ _ _
    refine HCode.turnB 1 2 rfl rfl (Turn.weak (Weak.no (WeakL.refl _))) rfl ?_
    refine HCode.loop (fun n s σ => ∃ (k : Nat) (cols : List Mem), n = c.args.length - k ∧ k ≤ c.args.length ∧ cols.length + (c.args.length - k) ≤ 1048576 ∧ putCols c.args (⟨key, c.typ, [], false⟩ : Row).cols = putCols (c.args.drop k) cols ∧
      σ = ⟨[.cells zeroV, .cells [.str (⟨key, c.typ, [], false⟩ : Row).key, .str (⟨key, c.typ, [], false⟩ : Row).typ, .slice (cols.map Mem.enc) .no, .bool (⟨key, c.typ, [], false⟩ : Row).broken]], []⟩ ∧
      s = [(26, .int .i64 k), (25, .int .i64 c.args.length), (24, .slice (c.args.map Mem.enc) .no), (0, Tbls.enc l), (5, .rptr c.enc), (2, .str key), (11, .ptr 1 0), (9, .ptr 0 0)])
      (s0 := [(26, .int .i64 (0 : Nat)), (25, .int .i64 c.args.length), (24, .slice (c.args.map Mem.enc) .no), (0, Tbls.enc l), (5, .rptr c.enc), (2, .str key), (11, .ptr 1 0), (9, .ptr 0 0)])
      ⟨rfl, rfl, rfl, rfl, rfl, rfl, rfl, rfl, trivial⟩ ⟨0, (⟨key, c.typ, [], false⟩ : Row).cols, rfl, Nat.zero_le _, (by rw [Nat.sub_zero]; exact hr0l), rfl, rfl, rfl⟩ ?_
    rintro n s σ ⟨k, cols, rfl, hk, hcl, hp, rfl, rfl⟩
    by_cases h1 : k < c.args.length
    · have d1 : decide ((k : Int) < (c.args.length : Int)) = true := by simp [h1]
      have x1 := map_get' (f := Mem.enc) h1
      have hset := set cols c.args[k].name c.args[k].v (by omega)
      have hsl := setG_len cols c.args[k].name c.args[k].v
      repeat' first
        | refine .seq ?_ | refine .rg ?_ | refine .rd ?_ | refine .block ?_ | refine .scope ?_ | refine .skip ?_ | refine .label ?_ | refine .exit ?_ | refine .ret ?_
        | refine .ct ?_ | refine .cf ?_ | refine .cy ?_ | refine .cn ?_ | (refine .cond rfl ?_ ?_ <;> intro hc)
        | refine A.nil_seq ?_ | refine .nl ?_ | refine .dd ?_ | refine .ys ?_ | refine .no ?_ | (refine A.guard rfl ?_ ?_ <;> intro hc)
        | refine .lb ?_ | refine .ln ?_ | refine .ls ?_ | refine .pv ?_ | refine .ix ?_ | refine .pt ?_ | refine .pf ?_ | refine .bx ?_ | refine .al ?_ | refine .st ?_ | refine .ad ?_ | refine .sb ?_ | refine .mf ?_ | refine .cl ?_ | refine .cw ?_ | refine .ck ?_
        | refine A.call rfl hset (WeakL.refl _) ?_ | fail
      · refine ⟨c.args.length - (k + 1), by omega, [(26, .int .i64 ((k + 1 : Nat) : Int)), (25, .int .i64 c.args.length), (24, .slice (c.args.map Mem.enc) .no), (0, Tbls.enc l), (5, .rptr c.enc), (2, .str key), (11, .ptr 1 0), (9, .ptr 0 0)],
          ⟨rfl, rfl, rfl, rfl, rfl, rfl, rfl, rfl, trivial⟩, by simp [belowS, AV.low, AV.lowL, Mem.lowL, Tbl.lowL, Tbls.enc, Cmd.enc], by simp [belowB, belowT, Ob.low, AV.low, AV.lowL, Mem.lowL, zeroV], k + 1, setG cols c.args[k].name c.args[k].v, rfl, by omega, by omega, ?_, rfl, rfl⟩
        rw [hp, putCols_drop h1, if_pos (by simpa [sKey] using hc)]
      · refine ⟨c.args.length - (k + 1), by omega, [(26, .int .i64 ((k + 1 : Nat) : Int)), (25, .int .i64 c.args.length), (24, .slice (c.args.map Mem.enc) .no), (0, Tbls.enc l), (5, .rptr c.enc), (2, .str key), (11, .ptr 1 0), (9, .ptr 0 0)],
          ⟨rfl, rfl, rfl, rfl, rfl, rfl, rfl, rfl, trivial⟩, by simp [belowS, AV.low, AV.lowL, Mem.lowL, Tbl.lowL, Tbls.enc, Cmd.enc], by simp [belowB, belowT, Ob.low, AV.low, AV.lowL, Mem.lowL, zeroV], k + 1, cols, rfl, by omega, by omega, ?_, rfl, rfl⟩
        rw [hp, putCols_drop h1, if_neg (by simpa [sKey] using hc)]
    · have d1 : decide ((k : Int) < (c.args.length : Int)) = false := by simp; omega
      rw [List.drop_eq_nil_of_le (by omega), putCols] at hp
      rw [hp] at hput ⊢
      repeat' first
        | refine .seq ?_ | refine .rg ?_ | refine .rd ?_ | refine .block ?_ | refine .scope ?_ | refine .skip ?_ | refine .label ?_ | refine .exit ?_ | refine .ret ?_
        | refine .ct ?_ | refine .cf ?_ | refine .cy ?_ | refine .cn ?_ | (refine .cond rfl ?_ ?_ <;> intro hc)
        | refine A.nil_seq ?_ | refine .nl ?_ | refine .dd ?_ | refine .ys ?_ | refine .no ?_ | (refine A.guard rfl ?_ ?_ <;> intro hc)
        | refine .lb ?_ | refine .ln ?_ | refine .ls ?_ | refine .pv ?_ | refine .ix ?_ | refine .pt ?_ | refine .pf ?_ | refine .bx ?_ | refine .al ?_ | refine .st ?_ | refine .ad ?_ | refine .sb ?_ | refine .mf ?_ | refine .cl ?_ | refine .cw ?_ | refine .ck ?_
        | refine A.call rfl hput (WeakL.refl _) ?_ | refine A.call rfl htx (WeakL.refl _) ?_ | fail
      exact FinR.ret1 rfl (Weak.refl _)
  · have hr1 : r0 = g.row := by rw [hr0, hgi]; rfl
    rw [hr1] at hput hr0l hpl ⊢
    clear hr1 hr0 hpr
    have dg : (!g.is) = false := by rw [hgi]; rfl
    repeat' first
      | refine A.box_r rfl rfl ?_
      | refine .seq ?_ | refine .rg ?_ | refine .rd ?_ | refine .block ?_ | refine .scope ?_ | refine .skip ?_ | refine .label ?_ | refine .exit ?_ | refine .ret ?_
      | refine .ct ?_ | refine .cf ?_ | refine .cy ?_ | refine .cn ?_ | (refine .cond rfl ?_ ?_ <;> intro hc)
      | refine A.nil_seq ?_ | refine .nl ?_ | refine .dd ?_ | refine .ys ?_ | refine .no ?_ | (refine A.guard rfl ?_ ?_ <;> intro hc)
      | refine .lb ?_ | refine .ln ?_ | refine .ls ?_ | refine .pv ?_ | refine .ix ?_ | refine .pt ?_ | refine .pf ?_ | refine .bx ?_ | refine .al ?_ | refine .st ?_ | refine .ad ?_ | refine .sb ?_ | refine .mf ?_ | refine .cl ?_ | refine .cw ?_ | refine .ck ?_
      | fail | fail
    change HCode _ _ _ _ _ _ _
    skip
    refine HCode.loop (fun n s σ => ∃ (k : Nat) (cols : List Mem), n = c.args.length - k ∧ k ≤ c.args.length ∧ cols.length + (c.args.length - k) ≤ 1048576 ∧ putCols c.args (g.row : Row).cols = putCols (c.args.drop k) cols ∧
      σ = ⟨[.cells zeroV, .cells [.str (g.row : Row).key, .str (g.row : Row).typ, .slice (cols.map Mem.enc) .no, .bool (g.row : Row).broken]], []⟩ ∧
      s = [(26, .int .i64 k), (25, .int .i64 c.args.length), (24, .slice (c.args.map Mem.enc) .no), (0, Tbls.enc l), (5, .rptr c.enc), (2, .str key), (11, .ptr 1 0), (9, .ptr 0 0)])
      (s0 := [(26, .int .i64 (0 : Nat)), (25, .int .i64 c.args.length), (24, .slice (c.args.map Mem.enc) .no), (0, Tbls.enc l), (5, .rptr c.enc), (2, .str key), (11, .ptr 1 0), (9, .ptr 0 0)])
      ⟨rfl, rfl, rfl, rfl, rfl, rfl, rfl, rfl, trivial⟩ ⟨0, (g.row : Row).cols, rfl, Nat.zero_le _, (by rw [Nat.sub_zero]; exact hr0l), rfl, rfl, rfl⟩ ?_
    rintro n s σ ⟨k, cols, rfl, hk, hcl, hp, rfl, rfl⟩
    by_cases h1 : k < c.args.length
    · have d1 : decide ((k : Int) < (c.args.length : Int)) = true := by simp [h1]
      have x1 := map_get' (f := Mem.enc) h1
      have hset := set cols c.args[k].name c.args[k].v (by omega)
      have hsl := setG_len cols c.args[k].name c.args[k].v
      repeat' first
        | refine .seq ?_ | refine .rg ?_ | refine .rd ?_ | refine .block ?_ | refine .scope ?_ | refine .skip ?_ | refine .label ?_ | refine .exit ?_ | refine .ret ?_
        | refine .ct ?_ | refine .cf ?_ | refine .cy ?_ | refine .cn ?_ | (refine .cond rfl ?_ ?_ <;> intro hc)
        | refine A.nil_seq ?_ | refine .nl ?_ | refine .dd ?_ | refine .ys ?_ | refine .no ?_ | (refine A.guard rfl ?_ ?_ <;> intro hc)
        | refine .lb ?_ | refine .ln ?_ | refine .ls ?_ | refine .pv ?_ | refine .ix ?_ | refine .pt ?_ | refine .pf ?_ | refine .bx ?_ | refine .al ?_ | refine .st ?_ | refine .ad ?_ | refine .sb ?_ | refine .mf ?_ | refine .cl ?_ | refine .cw ?_ | refine .ck ?_
        | refine A.call rfl hset (WeakL.refl _) ?_ | fail
      · refine ⟨c.args.length - (k + 1), by omega, [(26, .int .i64 ((k + 1 : Nat) : Int)), (25, .int .i64 c.args.length), (24, .slice (c.args.map Mem.enc) .no), (0, Tbls.enc l), (5, .rptr c.enc), (2, .str key), (11, .ptr 1 0), (9, .ptr 0 0)],
          ⟨rfl, rfl, rfl, rfl, rfl, rfl, rfl, rfl, trivial⟩, by simp [belowS, AV.low, AV.lowL, Mem.lowL, Tbl.lowL, Tbls.enc, Cmd.enc], by simp [belowB, belowT, Ob.low, AV.low, AV.lowL, Mem.lowL, zeroV], k + 1, setG cols c.args[k].name c.args[k].v, rfl, by omega, by omega, ?_, rfl, rfl⟩
        rw [hp, putCols_drop h1, if_pos (by simpa [sKey] using hc)]
      · refine ⟨c.args.length - (k + 1), by omega, [(26, .int .i64 ((k + 1 : Nat) : Int)), (25, .int .i64 c.args.length), (24, .slice (c.args.map Mem.enc) .no), (0, Tbls.enc l), (5, .rptr c.enc), (2, .str key), (11, .ptr 1 0), (9, .ptr 0 0)],
          ⟨rfl, rfl, rfl, rfl, rfl, rfl, rfl, rfl, trivial⟩, by simp [belowS, AV.low, AV.lowL, Mem.lowL, Tbl.lowL, Tbls.enc, Cmd.enc], by simp [belowB, belowT, Ob.low, AV.low, AV.lowL, Mem.lowL, zeroV], k + 1, cols, rfl, by omega, by omega, ?_, rfl, rfl⟩
        rw [hp, putCols_drop h1, if_neg (by simpa [sKey] using hc)]
    · have d1 : decide ((k : Int) < (c.args.length : Int)) = false := by simp; omega
      rw [List.drop_eq_nil_of_le (by omega), putCols] at hp
      rw [hp] at hput ⊢
      repeat' first
        | refine .seq ?_ | refine .rg ?_ | refine .rd ?_ | refine .block ?_ | refine .scope ?_ | refine .skip ?_ | refine .label ?_ | refine .exit ?_ | refine .ret ?_
        | refine .ct ?_ | refine .cf ?_ | refine .cy ?_ | refine .cn ?_ | (refine .cond rfl ?_ ?_ <;> intro hc)
        | refine A.nil_seq ?_ | refine .nl ?_ | refine .dd ?_ | refine .ys ?_ | refine .no ?_ | (refine A.guard rfl ?_ ?_ <;> intro hc)
        | refine .lb ?_ | refine .ln ?_ | refine .ls ?_ | refine .pv ?_ | refine .ix ?_ | refine .pt ?_ | refine .pf ?_ | refine .bx ?_ | refine .al ?_ | refine .st ?_ | refine .ad ?_ | refine .sb ?_ | refine .mf ?_ | refine .cl ?_ | refine .cw ?_ | refine .ck ?_
        | refine A.call rfl hput (WeakL.refl _) ?_ | refine A.call rfl htx (WeakL.refl _) ?_ | fail
      exact FinR.ret1 rfl (Weak.refl _)

end Go.Proofs.YtijlmchfepjjkaaDoor
namespace Go.Proofs.YtijlmchfepjjkaaDoor
open Go Go.Av
set_option maxRecDepth 100000
set_option maxHeartbeats 8000000
set_option linter.unusedVariables false
set_option linter.unusedSimpArgs false
attribute [local irreducible] HCode AOps PFn AFn Av.Step TStep

def wrap64 (n : Int) : Int := IntKind.i64.wrap n
def addG (l : List Tbl) (c : Cmd) (r : Row) : List Tbl × Val × Int :=
  let b := (getG sBy c.args).1
  let w := colG r c.col
  if b.kind != 2 then (l, val0, 1)
  else if w.kind != 2 then (l, val0, 7)
  else if !withinB b.n || !withinB w.n || !withinB (wrap64 (b.n + w.n)) then (l, val0, 8)
  else (putG l c.table { r with cols := setG r.cols c.col (intV (wrap64 (b.n + w.n))) }, intV (wrap64 (b.n + w.n)), 0)
theorem tup_closed {l : List Tbl} {v : Val} {e : Int} : (AV.tup [Tbls.enc l, v.enc, .int .i64 e]).closed = true := by simp [AV.closed, AV.closedL, Val.closed, Tbls.closed]
theorem weak_res {l : List Tbl} {n : Int} {e : Int} {s : Str} {k : Int} {t1 t2 : Tk} : Weak (.tup [Tbls.enc l, .agg [.int .i64 k, .int .i64 n, .str s, .slice [] t1, .slice [] t2], .int .i64 e]) (.tup [Tbls.enc l, (Val.mk k n s [] []).enc, .int .i64 e]) :=
  Weak.tup (WeakL.cons (Weak.refl _) (WeakL.cons weak_flatV (WeakL.refl _)))

theorem addF (l : List Tbl) (c : Cmd) (r : Row) (hf : Fine 1048576 l) (hc : r.cols.length + 1 ≤ 1048576) (ha : c.args.length ≤ 1048576) :
    PFn Tryd.prog 124 [Tbls.enc l, c.enc, r.enc] (.tup [Tbls.enc (addG l c r).1, (addG l c r).2.1.enc, .int .i64 (addG l c r).2.2]) := by
  refine AFn.plain tup_closed (by simp [AV.closed, AV.closedL, Tbls.closed, Cmd.closed, Row.closed]) (AFn.enterR [.tmp 6, .cell 7 28, .tmp 8] Tryd.func124 rfl rfl rfl rfl rfl ?_)
  have hg := get sBy c.args (by omega)
  have hcol := col r c.col (by omega)
  have hw1 := within (getG sBy c.args).1.n
  have hw2 := within (colG r c.col).n
  have hw3 := within (wrap64 ((getG sBy c.args).1.n + (colG r c.col).n))
  have hint := int_ (wrap64 ((getG sBy c.args).1.n + (colG r c.col).n))
  have hset := set r.cols c.col (intV (wrap64 ((getG sBy c.args).1.n + (colG r c.col).n))) (by omega)
  have hsl := setG_len r.cols c.col (intV (wrap64 ((getG sBy c.args).1.n + (colG r c.col).n)))
  have hput := put l c.table { r with cols := setG r.cols c.col (intV (wrap64 ((getG sBy c.args).1.n + (colG r c.col).n))) } hf.len hf.rows hf.cols (by dsimp only; omega)
  repeat' first
    | refine .seq ?_ | refine .rg ?_ | refine .rd ?_ | refine .block ?_ | refine .scope ?_ | refine .skip ?_ | refine .label ?_ | refine .exit ?_ | refine .ret ?_
    | refine .ct ?_ | refine .cf ?_ | refine .cy ?_ | refine .cn ?_ | (refine .cond rfl ?_ ?_ <;> intro hc)
    | refine A.nil_seq ?_ | refine .nl ?_ | refine .dd ?_ | refine .ys ?_ | refine .no ?_ | (refine A.guard rfl ?_ ?_ <;> intro hc)
    | refine .lb ?_ | refine .ln ?_ | refine .ls ?_ | refine .pv ?_ | refine .ix ?_ | refine .pt ?_ | refine .pf ?_ | refine .bx ?_ | refine .al ?_ | refine .st ?_ | refine .ad ?_ | refine .sb ?_ | refine .mf ?_ | refine .cl ?_ | refine .cw ?_ | refine .ck ?_
    | refine A.call rfl hg (WeakL.refl _) ?_ | refine A.call rfl hcol (WeakL.refl _) ?_ | refine A.call rfl hw1 (WeakL.refl _) ?_ | refine A.call rfl hw2 (WeakL.refl _) ?_ | refine A.add rfl rfl ?_ | refine A.call rfl hw3 (WeakL.refl _) ?_ | refine A.call rfl hint (WeakL.refl _) ?_ | refine A.call rfl hset (WeakL.refl _) ?_ | refine A.call rfl hput (WeakL.refl _) ?_ | fail
  all_goals clear hg hcol hw1 hw2 hw3 hint hset hput hsl
  all_goals refine FinR.ret1 rfl ?_
  all_goals unfold addG
  all_goals dsimp only
  all_goals (repeat' split) <;> first | exact weak_res | exact Weak.refl _ | (exfalso; simp_all; done)
end Go.Proofs.YtijlmchfepjjkaaDoor
namespace Go.Proofs.YtijlmchfepjjkaaDoor
open Go Go.Av
set_option maxRecDepth 100000
set_option maxHeartbeats 8000000
set_option linter.unusedVariables false
set_option linter.unusedSimpArgs false
attribute [local irreducible] HCode AOps PFn AFn Av.Step TStep

mutual
theorem sameV_refl : ∀ v : Val, sameV v v = true
  | .mk k n s l m => by rw [sameV, sameL_refl l, sameM_refl m]; simp
theorem sameL_refl : ∀ l : List Val, sameL l l = true
  | [] => by rw [sameL]
  | v :: l => by rw [sameL, sameV_refl v, sameL_refl l]; rfl
theorem sameM_refl : ∀ l : List Mem, sameM l l = true
  | [] => by rw [sameM]
  | .mk n v :: l => by rw [sameM, sameV_refl v, sameM_refl l]; simp
end
theorem members (a b : List Mem) (h : sumSize Mem.size a ≤ 9223372036854775807) : PFn Tryd.prog 83 [.slice (a.map Mem.enc) .no, .slice (b.map Mem.enc) .no] (.bool (sameM a b)) :=
  members1 (sumSize Mem.size a) (fun x y hx => same1 x y (by omega)) a b (by have := sumSize_length Mem.size_pos a; omega) (fun x hx => by have := sumSize_mem (size := Mem.size) hx; have h2 : x.size = x.name.length + 2 + x.v.size := rfl; omega)
theorem sameSelf (v : Val) (h : v.size ≤ 9223372036854775807) : PFn Tryd.prog 29 [v.enc, v.enc] (.bool true) := by
  have := same1 v v h
  rwa [sameV_refl] at this

theorem sameRow (r : Row) (h : sumSize Mem.size r.cols ≤ 9223372036854775807) : PFn Tryd.prog 82 [r.enc, r.enc] (.bool true) := by
  refine AFn.plain rfl (by simp [AV.closedL, Row.closed]) (AFn.enter [4] Tryd.func82 rfl rfl rfl rfl rfl (by decide) ?_)
  have hm := members r.cols r.cols h
  rw [sameM_refl] at hm
  have e1 : (r.key == r.key) = true := by simp
  have e2 : (r.typ == r.typ) = true := by simp
  have e3 : (r.broken == r.broken) = true := by simp
  repeat' first
    | refine A.box_r rfl rfl ?_
    | refine .seq ?_ | refine .rg ?_ | refine .rd ?_ | refine .block ?_ | refine .scope ?_ | refine .skip ?_ | refine .label ?_ | refine .exit ?_ | refine .ret ?_
    | refine .ct ?_ | refine .cf ?_ | refine .cy ?_ | refine .cn ?_ | (refine .cond rfl ?_ ?_ <;> intro hc)
    | refine A.nil_seq ?_ | refine .nl ?_ | refine .dd ?_ | refine .ys ?_ | refine .no ?_ | (refine A.guard rfl ?_ ?_ <;> intro hc)
    | refine .lb ?_ | refine .ln ?_ | refine .ls ?_ | refine .pv ?_ | refine .ix ?_ | refine .pt ?_ | refine .pf ?_ | refine .bx ?_ | refine .al ?_ | refine .st ?_ | refine .ad ?_ | refine .sb ?_ | refine .mf ?_ | refine .cl ?_ | refine .cw ?_ | refine .ck ?_
    | refine A.call rfl hm (WeakL.refl _) ?_ | fail
  all_goals exact Fin.ret1 rfl (Weak.refl _)

theorem sameTables (l : List Tbl) (hl : l.length ≤ 9223372036854775807) (hr : ∀ t ∈ l, t.rows.length ≤ 9223372036854775807) (hs : ∀ t ∈ l, ∀ r ∈ t.rows, sumSize Mem.size r.cols ≤ 9223372036854775807) :
    PFn Tryd.prog 32 [Tbls.enc l, Tbls.enc l] (.bool true) := by
  refine AFn.plain rfl (by simp [AV.closedL, Tbls.closed]) (AFn.enter [4] Tryd.func32 rfl rfl rfl rfl rfl (by decide) ?_)
  have e0 : ((l.length : Int) != (l.length : Int)) = false := by simp
  repeat' first
    | refine .seq ?_ | refine .rg ?_ | refine .rd ?_ | refine .block ?_ | refine .scope ?_ | refine .skip ?_ | refine .label ?_ | refine .exit ?_ | refine .ret ?_
    | refine .ct ?_ | refine .cf ?_ | refine .cy ?_ | refine .cn ?_ | (refine .cond rfl ?_ ?_ <;> intro hc)
    | refine A.nil_seq ?_ | refine .nl ?_ | refine .dd ?_ | refine .ys ?_ | refine .no ?_ | (refine A.guard rfl ?_ ?_ <;> intro hc)
    | refine .lb ?_ | refine .ln ?_ | refine .ls ?_ | refine .pv ?_ | refine .ix ?_ | refine .pt ?_ | refine .pf ?_ | refine .bx ?_ | refine .al ?_ | refine .st ?_ | refine .ad ?_ | refine .sb ?_ | refine .mf ?_ | refine .cl ?_ | refine .cw ?_ | refine .ck ?_ | fail
  change HCode _ _ _ _ _ _ _
  refine HCode.loop (fun n s σ => ∃ k : Nat, n = l.length - k ∧ k ≤ l.length ∧ σ = ⟨[], []⟩ ∧ s = [(5, .int .i64 k), (0, Tbls.enc l), (1, Tbls.enc l)])
    (s0 := [(5, .int .i64 (0 : Nat)), (0, Tbls.enc l), (1, Tbls.enc l)]) ⟨rfl, rfl, rfl, trivial⟩ ⟨0, rfl, Nat.zero_le _, rfl, rfl⟩ ?_
  rintro n s σ ⟨k, rfl, hk, rfl, rfl⟩
  by_cases h1 : k < l.length
  · have d1 : decide ((k : Int) < (l.length : Int)) = true := by simp [h1]
    have x1 := map_get' (f := Tbl.enc) h1
    have e1 : (l[k].name != l[k].name) = false := by simp
    have hrl := hr _ (List.getElem_mem h1)
    have e2 : ((l[k].rows.length : Int) != (l[k].rows.length : Int)) = false := by simp
    repeat' first
      | refine .seq ?_ | refine .rg ?_ | refine .rd ?_ | refine .block ?_ | refine .scope ?_ | refine .skip ?_ | refine .label ?_ | refine .exit ?_ | refine .ret ?_
      | refine .ct ?_ | refine .cf ?_ | refine .cy ?_ | refine .cn ?_ | (refine .cond rfl ?_ ?_ <;> intro hc)
      | refine A.nil_seq ?_ | refine .nl ?_ | refine .dd ?_ | refine .ys ?_ | refine .no ?_ | (refine A.guard rfl ?_ ?_ <;> intro hc)
      | refine .lb ?_ | refine .ln ?_ | refine .ls ?_ | refine .pv ?_ | refine .ix ?_ | refine .pt ?_ | refine .pf ?_ | refine .bx ?_ | refine .al ?_ | refine .st ?_ | refine .ad ?_ | refine .sb ?_ | refine .mf ?_ | refine .cl ?_ | refine .cw ?_ | refine .ck ?_ | fail
    change HCode _ _ _ _ _ _ _
    refine HCode.loop (fun n s σ => ∃ j : Nat, n = l[k].rows.length - j ∧ j ≤ l[k].rows.length ∧ σ = ⟨[], []⟩ ∧ s = [(6, .int .i64 j), (5, .int .i64 k), (0, Tbls.enc l), (1, Tbls.enc l)])
      (s0 := [(6, .int .i64 (0 : Nat)), (5, .int .i64 k), (0, Tbls.enc l), (1, Tbls.enc l)]) ⟨rfl, rfl, rfl, rfl, trivial⟩ ⟨0, rfl, Nat.zero_le _, rfl, rfl⟩ ?_
    rintro n s σ ⟨j, rfl, hj, rfl, rfl⟩
    by_cases h2 : j < l[k].rows.length
    · have d2 : decide ((j : Int) < (l[k].rows.length : Int)) = true := by simp [h2]
      have x2 := map_get' (f := Row.enc) h2
      have hrow := sameRow l[k].rows[j] (hs _ (List.getElem_mem h1) _ (List.getElem_mem h2))
      repeat' first
        | refine .seq ?_ | refine .rg ?_ | refine .rd ?_ | refine .block ?_ | refine .scope ?_ | refine .skip ?_ | refine .label ?_ | refine .exit ?_ | refine .ret ?_
        | refine .ct ?_ | refine .cf ?_ | refine .cy ?_ | refine .cn ?_ | (refine .cond rfl ?_ ?_ <;> intro hc)
        | refine A.nil_seq ?_ | refine .nl ?_ | refine .dd ?_ | refine .ys ?_ | refine .no ?_ | (refine A.guard rfl ?_ ?_ <;> intro hc)
        | refine .lb ?_ | refine .ln ?_ | refine .ls ?_ | refine .pv ?_ | refine .ix ?_ | refine .pt ?_ | refine .pf ?_ | refine .bx ?_ | refine .al ?_ | refine .st ?_ | refine .ad ?_ | refine .sb ?_ | refine .mf ?_ | refine .cl ?_ | refine .cw ?_ | refine .ck ?_
        | refine A.call rfl hrow (WeakL.refl _) ?_ | fail
      exact ⟨l[k].rows.length - (j + 1), by omega, [(6, .int .i64 ((j + 1 : Nat) : Int)), (5, .int .i64 k), (0, Tbls.enc l), (1, Tbls.enc l)],
        ⟨rfl, rfl, rfl, rfl, trivial⟩, by simp [belowS, AV.low, Tbls.enc, Tbl.lowL], rfl, j + 1, rfl, by omega, rfl, rfl⟩
    · have d2 : decide ((j : Int) < (l[k].rows.length : Int)) = false := by simp; omega
      repeat' first
        | refine .seq ?_ | refine .rg ?_ | refine .rd ?_ | refine .block ?_ | refine .scope ?_ | refine .skip ?_ | refine .label ?_ | refine .exit ?_ | refine .ret ?_
        | refine .ct ?_ | refine .cf ?_ | refine .cy ?_ | refine .cn ?_ | (refine .cond rfl ?_ ?_ <;> intro hc)
        | refine A.nil_seq ?_ | refine .nl ?_ | refine .dd ?_ | refine .ys ?_ | refine .no ?_ | (refine A.guard rfl ?_ ?_ <;> intro hc)
        | refine .lb ?_ | refine .ln ?_ | refine .ls ?_ | refine .pv ?_ | refine .ix ?_ | refine .pt ?_ | refine .pf ?_ | refine .bx ?_ | refine .al ?_ | refine .st ?_ | refine .ad ?_ | refine .sb ?_ | refine .mf ?_ | refine .cl ?_ | refine .cw ?_ | refine .ck ?_ | fail
      exact ⟨l.length - (k + 1), by omega, [(5, .int .i64 ((k + 1 : Nat) : Int)), (0, Tbls.enc l), (1, Tbls.enc l)],
        ⟨rfl, rfl, rfl, trivial⟩, by simp [belowS, AV.low, Tbls.enc, Tbl.lowL], rfl, k + 1, rfl, by omega, rfl, rfl⟩
  · have d1 : decide ((k : Int) < (l.length : Int)) = false := by simp; omega
    repeat' first
      | refine .seq ?_ | refine .rg ?_ | refine .rd ?_ | refine .block ?_ | refine .scope ?_ | refine .skip ?_ | refine .label ?_ | refine .exit ?_ | refine .ret ?_
      | refine .ct ?_ | refine .cf ?_ | refine .cy ?_ | refine .cn ?_ | (refine .cond rfl ?_ ?_ <;> intro hc)
      | refine A.nil_seq ?_ | refine .nl ?_ | refine .dd ?_ | refine .ys ?_ | refine .no ?_ | (refine A.guard rfl ?_ ?_ <;> intro hc)
      | refine .lb ?_ | refine .ln ?_ | refine .ls ?_ | refine .pv ?_ | refine .ix ?_ | refine .pt ?_ | refine .pf ?_ | refine .bx ?_ | refine .al ?_ | refine .st ?_ | refine .ad ?_ | refine .sb ?_ | refine .mf ?_ | refine .cl ?_ | refine .cw ?_ | refine .ck ?_ | fail
    exact Fin.ret1 rfl (Weak.refl _)
end Go.Proofs.YtijlmchfepjjkaaDoor
namespace Go.Proofs.YtijlmchfepjjkaaDoor
open Go Go.Av
set_option maxRecDepth 100000
set_option maxHeartbeats 8000000
set_option linter.unusedVariables false
set_option linter.unusedSimpArgs false
attribute [local irreducible] HCode AOps PFn AFn Av.Step TStep

def w64 (n : Int) : Int := IntKind.i64.wrap n
mutual
/-- Size of the parts of a value, as the helper counts. -/
def szV : Val → Int
  | .mk _ _ s l m => szM m (szL l (w64 (1 + s.length)))
def szL : List Val → Int → Int
  | [], n => n
  | v :: l, n => szL l (w64 (n + szV v))
def szM : List Mem → Int → Int
  | [], n => n
  | .mk name v :: l, n => szM l (w64 (w64 (n + name.length) + szV v))
end
theorem szL_drop {l : List Val} {k : Nat} (h : k < l.length) (n : Int) : szL (l.drop k) n = szL (l.drop (k + 1)) (w64 (n + szV l[k])) := by
  rw [List.drop_eq_getElem_cons h, szL]
theorem szM_drop {l : List Mem} {k : Nat} (h : k < l.length) (n : Int) : szM (l.drop k) n = szM (l.drop (k + 1)) (w64 (w64 (n + l[k].name.length) + szV l[k].v)) := by
  rw [List.drop_eq_getElem_cons h]
  cases l[k]
  rw [szM]; rfl
theorem szV_eq (v : Val) : szV v = szM v.m (szL v.l (w64 (1 + v.s.length))) := by cases v; rw [szV]; rfl
theorem lvG {v : Val} {k : Nat} (h : k < v.l.length) : v.lv[k]? = some v.l[k].enc := Val.lv_get h

theorem size_aux : ∀ (N : Nat) (v : Val), v.size ≤ N → N ≤ 9223372036854775807 → PFn Tryd.prog 15 [v.enc] (.int .i64 (szV v))
  | 0, v, h, _ => by have := v.size_pos; omega
  | N + 1, v, h, hN => by
    have ih := fun (x : Val) (hx : x.size ≤ N) => size_aux N x hx (by omega)
    refine AFn.plain rfl (by simp [AV.closedL, Val.closed]) (AFn.enter [2] Tryd.func15 rfl rfl rfl rfl rfl (by decide) ?_)
    have la := v.l_len
    have ma := v.m_len
    repeat' first
      | refine A.box_r rfl rfl ?_
      | refine .seq ?_ | refine .rg ?_ | refine .rd ?_ | refine .block ?_ | refine .scope ?_ | refine .skip ?_ | refine .label ?_ | refine .exit ?_ | refine .ret ?_
      | refine .ct ?_ | refine .cf ?_ | refine .cy ?_ | refine .cn ?_ | (refine .cond rfl ?_ ?_ <;> intro hc)
      | refine A.nil_seq ?_ | refine .nl ?_ | refine .dd ?_ | refine .ys ?_ | refine .no ?_ | (refine A.guard rfl ?_ ?_ <;> intro hc)
      | refine .lb ?_ | refine .ln ?_ | refine .ls ?_ | refine .pv ?_ | refine .ix ?_ | refine .pt ?_ | refine .pf ?_ | refine .bx ?_ | refine .al ?_ | refine .st ?_ | refine .ad ?_ | refine .sb ?_ | refine .mf ?_ | refine .cl ?_ | refine .cw ?_ | refine .ck ?_
      | refine A.add rfl rfl ?_ | fail
    change HCode _ _ _ _ _ _ _
    refine HCode.loop (fun n s σ => ∃ (k : Nat) (c : Int), n = v.l.length - k ∧ k ≤ v.l.length ∧ szL v.l (w64 (1 + v.s.length)) = szL (v.l.drop k) c ∧ σ = ⟨[], []⟩ ∧ s = [(4, .int .i64 k), (3, .int .i64 c), (1, .rptr v.enc)])
      (s0 := [(4, .int .i64 (0 : Nat)), (3, .int .i64 (w64 (1 + v.s.length))), (1, .rptr v.enc)]) ⟨rfl, rfl, rfl, trivial⟩ ⟨0, _, rfl, Nat.zero_le _, rfl, rfl, rfl⟩ ?_
    rintro n s σ ⟨k, c, rfl, hk, hp, rfl, rfl⟩
    have hll := v.lv_len
    by_cases h1 : k < v.l.length
    · have d1 : decide ((k : Int) < (v.lv.length : Int)) = true := by simp [h1, hll]
      have x1 := Val.lv_get h1
      have hcc := ih v.l[k] (by have := Val.size_l h1; omega)
      repeat' first
        | refine .seq ?_ | refine .rg ?_ | refine .rd ?_ | refine .block ?_ | refine .scope ?_ | refine .skip ?_ | refine .label ?_ | refine .exit ?_ | refine .ret ?_
        | refine .ct ?_ | refine .cf ?_ | refine .cy ?_ | refine .cn ?_ | (refine .cond rfl ?_ ?_ <;> intro hc)
        | refine A.nil_seq ?_ | refine .nl ?_ | refine .dd ?_ | refine .ys ?_ | refine .no ?_ | (refine A.guard rfl ?_ ?_ <;> intro hc)
        | refine .lb ?_ | refine .ln ?_ | refine .ls ?_ | refine .pv ?_ | refine .ix ?_ | refine .pt ?_ | refine .pf ?_ | refine .bx ?_ | refine .al ?_ | refine .st ?_ | refine .ad ?_ | refine .sb ?_ | refine .mf ?_ | refine .cl ?_ | refine .cw ?_ | refine .ck ?_
        | refine A.len rfl rfl rfl rfl ?_ | refine A.call rfl hcc (WeakL.refl _) ?_ | refine A.add rfl rfl ?_ | fail
      exact ⟨v.l.length - (k + 1), by omega, [(4, .int .i64 ((k + 1 : Nat) : Int)), (3, .int .i64 (w64 (c + szV v.l[k]))), (1, .rptr v.enc)],
        ⟨rfl, rfl, rfl, trivial⟩, by simp [belowS, AV.low, Val.low], rfl, k + 1, _, rfl, by omega, by rw [hp, szL_drop h1], rfl, rfl⟩
    · have d1 : decide ((k : Int) < (v.lv.length : Int)) = false := by simp [hll]; omega
      rw [List.drop_eq_nil_of_le (by omega), szL] at hp
      repeat' first
        | refine .seq ?_ | refine .rg ?_ | refine .rd ?_ | refine .block ?_ | refine .scope ?_ | refine .skip ?_ | refine .label ?_ | refine .exit ?_ | refine .ret ?_
        | refine .ct ?_ | refine .cf ?_ | refine .cy ?_ | refine .cn ?_ | (refine .cond rfl ?_ ?_ <;> intro hc)
        | refine A.nil_seq ?_ | refine .nl ?_ | refine .dd ?_ | refine .ys ?_ | refine .no ?_ | (refine A.guard rfl ?_ ?_ <;> intro hc)
        | refine .lb ?_ | refine .ln ?_ | refine .ls ?_ | refine .pv ?_ | refine .ix ?_ | refine .pt ?_ | refine .pf ?_ | refine .bx ?_ | refine .al ?_ | refine .st ?_ | refine .ad ?_ | refine .sb ?_ | refine .mf ?_ | refine .cl ?_ | refine .cw ?_ | refine .ck ?_
        | refine A.len rfl rfl rfl rfl ?_ | fail
      change HCode _ _ _ _ _ _ _
      refine HCode.loop (fun n s σ => ∃ (k : Nat) (c' : Int), n = v.m.length - k ∧ k ≤ v.m.length ∧ szM v.m c = szM (v.m.drop k) c' ∧ σ = ⟨[], []⟩ ∧ s = [(5, .int .i64 k), (3, .int .i64 c'), (1, .rptr v.enc)])
        (s0 := [(5, .int .i64 (0 : Nat)), (3, .int .i64 c), (1, .rptr v.enc)]) ⟨rfl, rfl, rfl, trivial⟩ ⟨0, _, rfl, Nat.zero_le _, rfl, rfl, rfl⟩ ?_
      rintro n s σ ⟨k2, c2, rfl, hk2, hp2, rfl, rfl⟩
      have hml := v.mv_len
      by_cases h2 : k2 < v.m.length
      · have d2 : decide ((k2 : Int) < (v.mv.length : Int)) = true := by simp [h2, hml]
        have x2 := Val.mv_get h2
        have hcc := ih v.m[k2].v (by have := Val.size_m h2; omega)
        repeat' first
          | refine .seq ?_ | refine .rg ?_ | refine .rd ?_ | refine .block ?_ | refine .scope ?_ | refine .skip ?_ | refine .label ?_ | refine .exit ?_ | refine .ret ?_
          | refine .ct ?_ | refine .cf ?_ | refine .cy ?_ | refine .cn ?_ | (refine .cond rfl ?_ ?_ <;> intro hc)
          | refine A.nil_seq ?_ | refine .nl ?_ | refine .dd ?_ | refine .ys ?_ | refine .no ?_ | (refine A.guard rfl ?_ ?_ <;> intro hc)
          | refine .lb ?_ | refine .ln ?_ | refine .ls ?_ | refine .pv ?_ | refine .ix ?_ | refine .pt ?_ | refine .pf ?_ | refine .bx ?_ | refine .al ?_ | refine .st ?_ | refine .ad ?_ | refine .sb ?_ | refine .mf ?_ | refine .cl ?_ | refine .cw ?_ | refine .ck ?_
          | refine A.len rfl rfl rfl rfl ?_ | refine A.call rfl hcc (WeakL.refl _) ?_ | refine A.add rfl rfl ?_ | fail
        exact ⟨v.m.length - (k2 + 1), by omega, [(5, .int .i64 ((k2 + 1 : Nat) : Int)), (3, .int .i64 (w64 (w64 (c2 + v.m[k2].name.length) + szV v.m[k2].v))), (1, .rptr v.enc)],
          ⟨rfl, rfl, rfl, trivial⟩, by simp [belowS, AV.low, Val.low], rfl, k2 + 1, _, rfl, by omega, by rw [hp2, szM_drop h2], rfl, rfl⟩
      · have d2 : decide ((k2 : Int) < (v.mv.length : Int)) = false := by simp [hml]; omega
        rw [List.drop_eq_nil_of_le (by omega), szM] at hp2
        repeat' first
          | refine .seq ?_ | refine .rg ?_ | refine .rd ?_ | refine .block ?_ | refine .scope ?_ | refine .skip ?_ | refine .label ?_ | refine .exit ?_ | refine .ret ?_
          | refine .ct ?_ | refine .cf ?_ | refine .cy ?_ | refine .cn ?_ | (refine .cond rfl ?_ ?_ <;> intro hc)
          | refine A.nil_seq ?_ | refine .nl ?_ | refine .dd ?_ | refine .ys ?_ | refine .no ?_ | (refine A.guard rfl ?_ ?_ <;> intro hc)
          | refine .lb ?_ | refine .ln ?_ | refine .ls ?_ | refine .pv ?_ | refine .ix ?_ | refine .pt ?_ | refine .pf ?_ | refine .bx ?_ | refine .al ?_ | refine .st ?_ | refine .ad ?_ | refine .sb ?_ | refine .mf ?_ | refine .cl ?_ | refine .cw ?_ | refine .ck ?_
          | refine A.len rfl rfl rfl rfl ?_ | fail
        refine Fin.ret1 rfl (Weak.eq ?_)
        rw [szV_eq, hp, hp2]
theorem sizeF (v : Val) (h : v.size ≤ 9223372036854775807) : PFn Tryd.prog 15 [v.enc] (.int .i64 (szV v)) := size_aux v.size v (Nat.le_refl _) h

def memsV (l : List Mem) : Val := .mk 0 0 [] [] l
theorem weak_mems {l : List Mem} {t1 t2 : Tk} : Weak (.agg [.int .i64 0, .int .i64 0, .str [], .slice [] t1, .slice (l.map Mem.enc) t2]) (memsV l).enc := by
  have h1 : (memsV l).lv = [] := by rw [memsV, Val.lv, Val.goL]
  have h2 : (memsV l).mv = l.map Mem.enc := by rw [memsV, Val.mv, Val.goM_eq]
  unfold Val.enc
  rw [h1, h2]
  exact Weak.agg (WeakL.cons (Weak.refl _) (WeakL.cons (Weak.refl _) (WeakL.cons (Weak.refl _) (WeakL.cons (Weak.no (WeakL.refl _)) (WeakL.cons (Weak.no (WeakL.refl _)) (WeakL.refl _))))))
theorem memsV_size (l : List Mem) : (memsV l).size = sumSize Mem.size l + 6 := by rw [memsV, Val.size, Val.sizeL_eq, Val.sizeM_eq, sumSize]; simp
def lightRowI (r : Row) : Int := w64 (w64 (w64 (1 + r.key.length) + r.typ.length) + szV (memsV r.cols))
theorem lightRow (r : Row) (h : sumSize Mem.size r.cols ≤ 1048576) : PFn Tryd.prog 71 [r.enc] (.int .i64 (lightRowI r)) := by
  refine AFn.plain rfl (by simp [AV.closedL, Row.closed]) (AFn.enter [2] Tryd.func71 rfl rfl rfl rfl rfl (by decide) ?_)
  have hs := sizeF (memsV r.cols) (by rw [memsV_size]; omega)
  repeat' first
    | refine A.box_r rfl rfl ?_
    | refine .seq ?_ | refine .rg ?_ | refine .rd ?_ | refine .block ?_ | refine .scope ?_ | refine .skip ?_ | refine .label ?_ | refine .exit ?_ | refine .ret ?_
    | refine .ct ?_ | refine .cf ?_ | refine .cy ?_ | refine .cn ?_ | (refine .cond rfl ?_ ?_ <;> intro hc)
    | refine A.nil_seq ?_ | refine .nl ?_ | refine .dd ?_ | refine .ys ?_ | refine .no ?_ | (refine A.guard rfl ?_ ?_ <;> intro hc)
    | refine .lb ?_ | refine .ln ?_ | refine .ls ?_ | refine .pv ?_ | refine .ix ?_ | refine .pt ?_ | refine .pf ?_ | refine .bx ?_ | refine .al ?_ | refine .st ?_ | refine .ad ?_ | refine .sb ?_ | refine .mf ?_ | refine .cl ?_ | refine .cw ?_ | refine .ck ?_
    | refine A.add rfl rfl ?_ | refine A.call rfl hs (WeakL.cons weak_mems (WeakL.refl _)) ?_ | fail
  exact Fin.ret1 rfl (Weak.refl _)
def lightCmd (c : Cmd) : Bool := decide (w64 (w64 (w64 (w64 (c.name.length + c.table.length) + c.col.length) + c.typ.length) + szV (memsV c.args)) ≤ 2000)
theorem lightC (c : Cmd) (h : sumSize Mem.size c.args ≤ 1048576) : PFn Tryd.prog 53 [c.enc] (.bool (lightCmd c)) := by
  refine AFn.plain rfl (by simp [AV.closedL, Cmd.closed]) (AFn.enter [2] Tryd.func53 rfl rfl rfl rfl rfl (by decide) ?_)
  have hs := sizeF (memsV c.args) (by rw [memsV_size]; omega)
  repeat' first
    | refine A.box_r rfl rfl ?_
    | refine .seq ?_ | refine .rg ?_ | refine .rd ?_ | refine .block ?_ | refine .scope ?_ | refine .skip ?_ | refine .label ?_ | refine .exit ?_ | refine .ret ?_
    | refine .ct ?_ | refine .cf ?_ | refine .cy ?_ | refine .cn ?_ | (refine .cond rfl ?_ ?_ <;> intro hc)
    | refine A.nil_seq ?_ | refine .nl ?_ | refine .dd ?_ | refine .ys ?_ | refine .no ?_ | (refine A.guard rfl ?_ ?_ <;> intro hc)
    | refine .lb ?_ | refine .ln ?_ | refine .ls ?_ | refine .pv ?_ | refine .ix ?_ | refine .pt ?_ | refine .pf ?_ | refine .bx ?_ | refine .al ?_ | refine .st ?_ | refine .ad ?_ | refine .sb ?_ | refine .mf ?_ | refine .cl ?_ | refine .cw ?_ | refine .ck ?_
    | refine A.add rfl rfl ?_ | refine A.call rfl hs (WeakL.cons weak_mems (WeakL.refl _)) ?_ | fail
  exact Fin.ret1 rfl (Weak.refl _)
def lightRows : List Row → Int → Int
  | [], n => n
  | r :: l, n => lightRows l (w64 (n + lightRowI r))
theorem lightRows_drop {l : List Row} {k : Nat} (h : k < l.length) (n : Int) : lightRows (l.drop k) n = lightRows (l.drop (k + 1)) (w64 (n + lightRowI l[k])) := by
  rw [List.drop_eq_getElem_cons h, lightRows]
def lightTs : List Tbl → Int → Int
  | [], n => n
  | t :: l, n => lightTs l (lightRows t.rows (w64 (w64 (n + 1) + t.name.length)))
theorem lightTs_drop {l : List Tbl} {k : Nat} (h : k < l.length) (n : Int) : lightTs (l.drop k) n = lightTs (l.drop (k + 1)) (lightRows l[k].rows (w64 (w64 (n + 1) + l[k].name.length))) := by
  rw [List.drop_eq_getElem_cons h, lightTs]
def lightT (l : List Tbl) : Bool := decide (lightTs l 0 ≤ 4000)
theorem light (l : List Tbl) (hl : l.length ≤ 1048576) (hr : ∀ t ∈ l, t.rows.length ≤ 1048576) (hs : ∀ t ∈ l, ∀ r ∈ t.rows, sumSize Mem.size r.cols ≤ 1048576) : PFn Tryd.prog 21 [Tbls.enc l] (.bool (lightT l)) := by
  refine AFn.plain rfl (by simp [AV.closedL, Tbls.closed]) (AFn.enter [2] Tryd.func21 rfl rfl rfl rfl rfl (by decide) ?_)
  repeat' first
    | refine .seq ?_ | refine .rg ?_ | refine .rd ?_ | refine .block ?_ | refine .scope ?_ | refine .skip ?_ | refine .label ?_ | refine .exit ?_ | refine .ret ?_
    | refine .ct ?_ | refine .cf ?_ | refine .cy ?_ | refine .cn ?_ | (refine .cond rfl ?_ ?_ <;> intro hc)
    | refine A.nil_seq ?_ | refine .nl ?_ | refine .dd ?_ | refine .ys ?_ | refine .no ?_ | (refine A.guard rfl ?_ ?_ <;> intro hc)
    | refine .lb ?_ | refine .ln ?_ | refine .ls ?_ | refine .pv ?_ | refine .ix ?_ | refine .pt ?_ | refine .pf ?_ | refine .bx ?_ | refine .al ?_ | refine .st ?_ | refine .ad ?_ | refine .sb ?_ | refine .mf ?_ | refine .cl ?_ | refine .cw ?_ | refine .ck ?_ | fail
  change HCode _ _ _ _ _ _ _
  refine HCode.loop (fun n s σ => ∃ (k : Nat) (c : Int), n = l.length - k ∧ k ≤ l.length ∧ lightTs l 0 = lightTs (l.drop k) c ∧ σ = ⟨[], []⟩ ∧ s = [(4, .int .i64 k), (3, .int .i64 c), (0, Tbls.enc l)])
    (s0 := [(4, .int .i64 (0 : Nat)), (3, .int .i64 0), (0, Tbls.enc l)]) ⟨rfl, rfl, rfl, trivial⟩ ⟨0, _, rfl, Nat.zero_le _, rfl, rfl, rfl⟩ ?_
  rintro n s σ ⟨k, c, rfl, hk, hp, rfl, rfl⟩
  by_cases h1 : k < l.length
  · have d1 : decide ((k : Int) < (l.length : Int)) = true := by simp [h1]
    have x1 := map_get' (f := Tbl.enc) h1
    have hrl := hr _ (List.getElem_mem h1)
    rw [lightTs_drop h1] at hp
    repeat' first
      | refine .seq ?_ | refine .rg ?_ | refine .rd ?_ | refine .block ?_ | refine .scope ?_ | refine .skip ?_ | refine .label ?_ | refine .exit ?_ | refine .ret ?_
      | refine .ct ?_ | refine .cf ?_ | refine .cy ?_ | refine .cn ?_ | (refine .cond rfl ?_ ?_ <;> intro hc)
      | refine A.nil_seq ?_ | refine .nl ?_ | refine .dd ?_ | refine .ys ?_ | refine .no ?_ | (refine A.guard rfl ?_ ?_ <;> intro hc)
      | refine .lb ?_ | refine .ln ?_ | refine .ls ?_ | refine .pv ?_ | refine .ix ?_ | refine .pt ?_ | refine .pf ?_ | refine .bx ?_ | refine .al ?_ | refine .st ?_ | refine .ad ?_ | refine .sb ?_ | refine .mf ?_ | refine .cl ?_ | refine .cw ?_ | refine .ck ?_
      | refine A.add rfl rfl ?_ | fail
    change HCode _ _ _ _ _ _ _
    refine HCode.loop (fun n s σ => ∃ (j : Nat) (c' : Int), n = l[k].rows.length - j ∧ j ≤ l[k].rows.length ∧ lightRows l[k].rows (w64 (w64 (c + 1) + l[k].name.length)) = lightRows (l[k].rows.drop j) c' ∧ σ = ⟨[], []⟩ ∧ s = [(5, .int .i64 j), (3, .int .i64 c'), (4, .int .i64 k), (0, Tbls.enc l)])
      (s0 := [(5, .int .i64 (0 : Nat)), (3, .int .i64 (w64 (w64 (c + 1) + l[k].name.length))), (4, .int .i64 k), (0, Tbls.enc l)]) ⟨rfl, rfl, rfl, rfl, trivial⟩ ⟨0, _, rfl, Nat.zero_le _, rfl, rfl, rfl⟩ ?_
    rintro n s σ ⟨j, c', rfl, hj, hp2, rfl, rfl⟩
    by_cases h2 : j < l[k].rows.length
    · have d2 : decide ((j : Int) < (l[k].rows.length : Int)) = true := by simp [h2]
      have x2 := map_get' (f := Row.enc) h2
      have hlr := lightRow l[k].rows[j] (hs _ (List.getElem_mem h1) _ (List.getElem_mem h2))
      repeat' first
        | refine .seq ?_ | refine .rg ?_ | refine .rd ?_ | refine .block ?_ | refine .scope ?_ | refine .skip ?_ | refine .label ?_ | refine .exit ?_ | refine .ret ?_
        | refine .ct ?_ | refine .cf ?_ | refine .cy ?_ | refine .cn ?_ | (refine .cond rfl ?_ ?_ <;> intro hc)
        | refine A.nil_seq ?_ | refine .nl ?_ | refine .dd ?_ | refine .ys ?_ | refine .no ?_ | (refine A.guard rfl ?_ ?_ <;> intro hc)
        | refine .lb ?_ | refine .ln ?_ | refine .ls ?_ | refine .pv ?_ | refine .ix ?_ | refine .pt ?_ | refine .pf ?_ | refine .bx ?_ | refine .al ?_ | refine .st ?_ | refine .ad ?_ | refine .sb ?_ | refine .mf ?_ | refine .cl ?_ | refine .cw ?_ | refine .ck ?_
        | refine A.call rfl hlr (WeakL.refl _) ?_ | refine A.add rfl rfl ?_ | fail
      exact ⟨l[k].rows.length - (j + 1), by omega, [(5, .int .i64 ((j + 1 : Nat) : Int)), (3, .int .i64 (w64 (c' + lightRowI l[k].rows[j]))), (4, .int .i64 k), (0, Tbls.enc l)],
        ⟨rfl, rfl, rfl, rfl, trivial⟩, by simp [belowS, AV.low, Tbls.enc, Tbl.lowL], rfl, j + 1, _, rfl, by omega, by rw [hp2, lightRows_drop h2], rfl, rfl⟩
    · have d2 : decide ((j : Int) < (l[k].rows.length : Int)) = false := by simp; omega
      rw [List.drop_eq_nil_of_le (by omega), lightRows] at hp2
      rw [hp2] at hp
      repeat' first
        | refine .seq ?_ | refine .rg ?_ | refine .rd ?_ | refine .block ?_ | refine .scope ?_ | refine .skip ?_ | refine .label ?_ | refine .exit ?_ | refine .ret ?_
        | refine .ct ?_ | refine .cf ?_ | refine .cy ?_ | refine .cn ?_ | (refine .cond rfl ?_ ?_ <;> intro hc)
        | refine A.nil_seq ?_ | refine .nl ?_ | refine .dd ?_ | refine .ys ?_ | refine .no ?_ | (refine A.guard rfl ?_ ?_ <;> intro hc)
        | refine .lb ?_ | refine .ln ?_ | refine .ls ?_ | refine .pv ?_ | refine .ix ?_ | refine .pt ?_ | refine .pf ?_ | refine .bx ?_ | refine .al ?_ | refine .st ?_ | refine .ad ?_ | refine .sb ?_ | refine .mf ?_ | refine .cl ?_ | refine .cw ?_ | refine .ck ?_ | fail
      exact ⟨l.length - (k + 1), by omega, [(4, .int .i64 ((k + 1 : Nat) : Int)), (3, .int .i64 c'), (0, Tbls.enc l)],
        ⟨rfl, rfl, rfl, trivial⟩, by simp [belowS, AV.low, Tbls.enc, Tbl.lowL], rfl, k + 1, _, rfl, by omega, hp, rfl, rfl⟩
  · have d1 : decide ((k : Int) < (l.length : Int)) = false := by simp; omega
    rw [List.drop_eq_nil_of_le (by omega), lightTs] at hp
    repeat' first
      | refine .seq ?_ | refine .rg ?_ | refine .rd ?_ | refine .block ?_ | refine .scope ?_ | refine .skip ?_ | refine .label ?_ | refine .exit ?_ | refine .ret ?_
      | refine .ct ?_ | refine .cf ?_ | refine .cy ?_ | refine .cn ?_ | (refine .cond rfl ?_ ?_ <;> intro hc)
      | refine A.nil_seq ?_ | refine .nl ?_ | refine .dd ?_ | refine .ys ?_ | refine .no ?_ | (refine A.guard rfl ?_ ?_ <;> intro hc)
      | refine .lb ?_ | refine .ln ?_ | refine .ls ?_ | refine .pv ?_ | refine .ix ?_ | refine .pt ?_ | refine .pf ?_ | refine .bx ?_ | refine .al ?_ | refine .st ?_ | refine .ad ?_ | refine .sb ?_ | refine .mf ?_ | refine .cl ?_ | refine .cw ?_ | refine .ck ?_ | fail
    refine Fin.ret1 rfl (Weak.eq ?_)
    unfold lightT
    rw [hp]
end Go.Proofs.YtijlmchfepjjkaaDoor
