/-
  Contracts and plain facts for a law, joined.
-/
import Derived.Test.YtegakkonlhmeaaaGPA1
import Derived.Test.YtegakkonlhmeaaaGPA2
set_option maxRecDepth 100000
set_option maxHeartbeats 16000000
set_option linter.unusedVariables false
set_option linter.unusedSimpArgs false
set_option linter.unusedSectionVars false
namespace Go.Proofs.Ytegakkonlhmeaaa
open Go Go.Av
attribute [local irreducible] HCode AOps PFn AFn Av.Step TStep
def val0 : Val := .mk 0 0 [] [] []
def intV (n : Int) : Val := .mk 2 n [] [] []
def textV (s : Str) : Val := .mk 4 0 s [] []
def getG (name : Str) : List Mem → Val × Bool
  | [] => (val0, false)
  | m :: l => if m.name == name then (m.v, true) else getG name l
theorem getG_drop {name : Str} {l : List Mem} {k : Nat} (h : k < l.length) : getG name (l.drop k) = if l[k].name == name then (l[k].v, true) else getG name (l.drop (k + 1)) := by
  rw [List.drop_eq_getElem_cons h, getG]
theorem lv_mk (k n : Int) (s : Str) (m : List Mem) : (Val.mk k n s [] m).lv = [] := by rw [Val.lv, Val.goL]
theorem mv_mk (k n : Int) (s : Str) (l : List Val) : (Val.mk k n s l []).mv = [] := by rw [Val.mv, Val.goM]
theorem weak_flatV {k n : Int} {s : Str} {t1 t2 : Tk} : Weak (.agg [.int .i64 k, .int .i64 n, .str s, .slice [] t1, .slice [] t2]) (Val.mk k n s [] []).enc := by
  unfold Val.enc
  rw [lv_mk, mv_mk]
  exact Weak.agg (WeakL.cons (Weak.refl _) (WeakL.cons (Weak.refl _) (WeakL.cons (Weak.refl _) (WeakL.cons (Weak.no (WeakL.refl _)) (WeakL.cons (Weak.no (WeakL.refl _)) (WeakL.refl _))))))
def zeroV : List AV := [.int .i64 0, .int .i64 0, .str [], .slice [] .nil, .slice [] .nil]
theorem get (name : Str) (l : List Mem) (hl : l.length ≤ 9223372036854775807) : PFn Try.prog 25 [.str name, .slice (l.map Mem.enc) .no] (.tup [(getG name l).1.enc, .bool (getG name l).2]) := by
  refine AFn.plain (by simp [AV.closed, AV.closedL, Val.closed]) (by simp [AV.closed, AV.closedL, Mem.closedL]) (AFn.enterR [.cell 4 30, .tmp 5] Try.func25 rfl rfl rfl rfl rfl ?_)
  repeat' first | refine .seq ?_ | refine .rg ?_ | refine .rd ?_ | refine .block ?_ | refine .scope ?_ | refine .skip ?_ | refine .label ?_ | refine .exit ?_ | refine .ret ?_ | refine .ct ?_ | refine .cf ?_ | refine .cy ?_ | refine .cn ?_ | (refine .cond rfl ?_ ?_ <;> intro hc) | refine A.nil_seq ?_ | refine .nl ?_ | refine .dd ?_ | refine .ys ?_ | refine .no ?_ | (refine A.guard rfl ?_ ?_ <;> intro hc) | refine .lb ?_ | refine .ln ?_ | refine .ls ?_ | refine .pv ?_ | refine .ix ?_ | refine .pt ?_ | refine .pf ?_ | refine .bx ?_ | refine .al ?_ | refine .st ?_ | refine .ad ?_ | refine .sb ?_ | refine .mf ?_ | refine .cl ?_ | refine .cw ?_ | refine .ck ?_ | fail
  change HCode _ _ _ _ _ _ _
  refine HCode.loop (fun n s σ => ∃ k : Nat, n = l.length - k ∧ k ≤ l.length ∧ getG name l = getG name (l.drop k) ∧ σ = ⟨[.cells zeroV], []⟩ ∧
    s = [(10, .int .i64 k), (9, .int .i64 l.length), (8, .slice (l.map Mem.enc) .no), (0, .str name), (4, .ptr 0 0)])
    (s0 := [(10, .int .i64 (0 : Nat)), (9, .int .i64 l.length), (8, .slice (l.map Mem.enc) .no), (0, .str name), (4, .ptr 0 0)])
    ⟨rfl, rfl, rfl, rfl, rfl, trivial⟩ ⟨0, rfl, Nat.zero_le _, rfl, rfl, rfl⟩ ?_
  rintro n s σ ⟨k, rfl, hk, hp, rfl, rfl⟩
  by_cases h1 : k < l.length
  · have d1 : decide ((k : Int) < (l.length : Int)) = true := by simp [h1]
    have x1 := map_get' (f := Mem.enc) h1
    repeat' first | refine .seq ?_ | refine .rg ?_ | refine .rd ?_ | refine .block ?_ | refine .scope ?_ | refine .skip ?_ | refine .label ?_ | refine .exit ?_ | refine .ret ?_ | refine .ct ?_ | refine .cf ?_ | refine .cy ?_ | refine .cn ?_ | (refine .cond rfl ?_ ?_ <;> intro hc) | refine A.nil_seq ?_ | refine .nl ?_ | refine .dd ?_ | refine .ys ?_ | refine .no ?_ | (refine A.guard rfl ?_ ?_ <;> intro hc) | refine .lb ?_ | refine .ln ?_ | refine .ls ?_ | refine .pv ?_ | refine .ix ?_ | refine .pt ?_ | refine .pf ?_ | refine .bx ?_ | refine .al ?_ | refine .st ?_ | refine .ad ?_ | refine .sb ?_ | refine .mf ?_ | refine .cl ?_ | refine .cw ?_ | refine .ck ?_ | fail
    · refine FinR.ret1 rfl (Weak.eq ?_)
      rw [hp, getG_drop h1, if_pos hc]; rfl
    · refine ⟨l.length - (k + 1), by omega, [(10, .int .i64 ((k + 1 : Nat) : Int)), (9, .int .i64 l.length), (8, .slice (l.map Mem.enc) .no), (0, .str name), (4, .ptr 0 0)],
        ⟨rfl, rfl, rfl, rfl, rfl, trivial⟩, by simp [belowS, AV.low, Mem.lowL], rfl, k + 1, rfl, by omega, by rw [hp, getG_drop h1, if_neg (by simp [hc])], rfl, rfl⟩
  · have d1 : decide ((k : Int) < (l.length : Int)) = false := by simp; omega
    repeat' first | refine .seq ?_ | refine .rg ?_ | refine .rd ?_ | refine .block ?_ | refine .scope ?_ | refine .skip ?_ | refine .label ?_ | refine .exit ?_ | refine .ret ?_ | refine .ct ?_ | refine .cf ?_ | refine .cy ?_ | refine .cn ?_ | (refine .cond rfl ?_ ?_ <;> intro hc) | refine A.nil_seq ?_ | refine .nl ?_ | refine .dd ?_ | refine .ys ?_ | refine .no ?_ | (refine A.guard rfl ?_ ?_ <;> intro hc) | refine .lb ?_ | refine .ln ?_ | refine .ls ?_ | refine .pv ?_ | refine .ix ?_ | refine .pt ?_ | refine .pf ?_ | refine .bx ?_ | refine .al ?_ | refine .st ?_ | refine .ad ?_ | refine .sb ?_ | refine .mf ?_ | refine .cl ?_ | refine .cw ?_ | refine .ck ?_ | fail
    refine FinR.ret1 rfl ?_
    rw [hp, List.drop_eq_nil_of_le (by omega), getG]
    exact Weak.tup (WeakL.cons weak_flatV (WeakL.refl _))
theorem int_ (n : Int) : PFn Try.prog 9 [.int .i64 n] (intV n).enc := by
  refine AFn.plain (Val.closed _) rfl (AFn.enterR [.cell 2 30] Try.func9 rfl rfl rfl rfl rfl ?_)
  repeat' first | refine .seq ?_ | refine .rg ?_ | refine .rd ?_ | refine .block ?_ | refine .scope ?_ | refine .skip ?_ | refine .label ?_ | refine .exit ?_ | refine .ret ?_ | refine .ct ?_ | refine .cf ?_ | refine .cy ?_ | refine .cn ?_ | (refine .cond rfl ?_ ?_ <;> intro hc) | refine A.nil_seq ?_ | refine .nl ?_ | refine .dd ?_ | refine .ys ?_ | refine .no ?_ | (refine A.guard rfl ?_ ?_ <;> intro hc) | refine .lb ?_ | refine .ln ?_ | refine .ls ?_ | refine .pv ?_ | refine .ix ?_ | refine .pt ?_ | refine .pf ?_ | refine .bx ?_ | refine .al ?_ | refine .st ?_ | refine .ad ?_ | refine .sb ?_ | refine .mf ?_ | refine .cl ?_ | refine .cw ?_ | refine .ck ?_ | fail
  exact FinR.ret1 rfl weak_flatV
theorem text (n : Str) : PFn Try.prog 10 [.str n] (textV n).enc := by
  refine AFn.plain (Val.closed _) rfl (AFn.enterR [.cell 2 30] Try.func10 rfl rfl rfl rfl rfl ?_)
  repeat' first | refine .seq ?_ | refine .rg ?_ | refine .rd ?_ | refine .block ?_ | refine .scope ?_ | refine .skip ?_ | refine .label ?_ | refine .exit ?_ | refine .ret ?_ | refine .ct ?_ | refine .cf ?_ | refine .cy ?_ | refine .cn ?_ | (refine .cond rfl ?_ ?_ <;> intro hc) | refine A.nil_seq ?_ | refine .nl ?_ | refine .dd ?_ | refine .ys ?_ | refine .no ?_ | (refine A.guard rfl ?_ ?_ <;> intro hc) | refine .lb ?_ | refine .ln ?_ | refine .ls ?_ | refine .pv ?_ | refine .ix ?_ | refine .pt ?_ | refine .pf ?_ | refine .bx ?_ | refine .al ?_ | refine .st ?_ | refine .ad ?_ | refine .sb ?_ | refine .mf ?_ | refine .cl ?_ | refine .cw ?_ | refine .ck ?_ | fail
  exact FinR.ret1 rfl weak_flatV
def colG (r : Row) (name : Str) : Val := (getG name r.cols).1
theorem col (r : Row) (name : Str) (hl : r.cols.length ≤ 9223372036854775807) : PFn Try.prog 14 [r.enc, .str name] (colG r name).enc := by
  refine AFn.plain (Val.closed _) (by simp [AV.closedL, AV.closed, Row.closed]) (AFn.enterR [.cell 4 30] Try.func14 rfl rfl rfl rfl rfl ?_)
  have hg := get name r.cols hl
  repeat' first | refine A.box_r rfl rfl ?_ | refine .seq ?_ | refine .rg ?_ | refine .rd ?_ | refine .block ?_ | refine .scope ?_ | refine .skip ?_ | refine .label ?_ | refine .exit ?_ | refine .ret ?_ | refine .ct ?_ | refine .cf ?_ | refine .cy ?_ | refine .cn ?_ | (refine .cond rfl ?_ ?_ <;> intro hc) | refine A.nil_seq ?_ | refine .nl ?_ | refine .dd ?_ | refine .ys ?_ | refine .no ?_ | (refine A.guard rfl ?_ ?_ <;> intro hc) | refine .lb ?_ | refine .ln ?_ | refine .ls ?_ | refine .pv ?_ | refine .ix ?_ | refine .pt ?_ | refine .pf ?_ | refine .bx ?_ | refine .al ?_ | refine .st ?_ | refine .ad ?_ | refine .sb ?_ | refine .mf ?_ | refine .cl ?_ | refine .cw ?_ | refine .ck ?_ | refine A.call rfl hg (WeakL.refl _) ?_ | fail
  exact FinR.ret1 rfl (Weak.refl _)
def withinB (n : Int) : Bool := decide (-2147483648 ≤ n) && decide (n ≤ 2147483647)
theorem within (n : Int) : PFn Try.prog 35 [.int .i64 n] (.bool (withinB n)) := by
  refine AFn.plain rfl rfl (AFn.enter [2] Try.func35 rfl rfl rfl rfl rfl (by decide) ?_)
  repeat' first | refine .seq ?_ | refine .rg ?_ | refine .rd ?_ | refine .block ?_ | refine .scope ?_ | refine .skip ?_ | refine .label ?_ | refine .exit ?_ | refine .ret ?_ | refine .ct ?_ | refine .cf ?_ | refine .cy ?_ | refine .cn ?_ | (refine .cond rfl ?_ ?_ <;> intro hc) | refine A.nil_seq ?_ | refine .nl ?_ | refine .dd ?_ | refine .ys ?_ | refine .no ?_ | (refine A.guard rfl ?_ ?_ <;> intro hc) | refine .lb ?_ | refine .ln ?_ | refine .ls ?_ | refine .pv ?_ | refine .ix ?_ | refine .pt ?_ | refine .pf ?_ | refine .bx ?_ | refine .al ?_ | refine .st ?_ | refine .ad ?_ | refine .sb ?_ | refine .mf ?_ | refine .cl ?_ | refine .cw ?_ | refine .ck ?_ | fail
  all_goals refine Fin.ret1 rfl (Weak.eq ?_)
  all_goals first | (simp_all [withinB]; done) | (simp_all [withinB]; omega)
def sPut : Str := [112, 117, 116]
def sCut : Str := [99, 117, 116]
def sAdd : Str := [97, 100, 100]
def sBurn : Str := [98, 117, 114, 110]
def sKey : Str := [107, 101, 121]
def sBy : Str := [98, 121]
def knownG (n : Str) : Bool := n == sPut || n == sCut || n == sAdd || n == sBurn
theorem known (n : Str) : PFn Try.prog 16 [.str n] (.bool (knownG n)) := by
  refine AFn.plain rfl rfl (AFn.enter [2] Try.func16 rfl rfl rfl rfl rfl (by decide) ?_)
  repeat' first | refine .seq ?_ | refine .rg ?_ | refine .rd ?_ | refine .block ?_ | refine .scope ?_ | refine .skip ?_ | refine .label ?_ | refine .exit ?_ | refine .ret ?_ | refine .ct ?_ | refine .cf ?_ | refine .cy ?_ | refine .cn ?_ | (refine .cond rfl ?_ ?_ <;> intro hc) | refine A.nil_seq ?_ | refine .nl ?_ | refine .dd ?_ | refine .ys ?_ | refine .no ?_ | (refine A.guard rfl ?_ ?_ <;> intro hc) | refine .lb ?_ | refine .ln ?_ | refine .ls ?_ | refine .pv ?_ | refine .ix ?_ | refine .pt ?_ | refine .pf ?_ | refine .bx ?_ | refine .al ?_ | refine .st ?_ | refine .ad ?_ | refine .sb ?_ | refine .mf ?_ | refine .cl ?_ | refine .cw ?_ | refine .ck ?_ | fail
  all_goals refine Fin.ret1 rfl (Weak.eq ?_)
  all_goals simp_all [knownG, sPut, sCut, sAdd, sBurn]
def putCols : List Mem → List Mem → List Mem
  | [], cols => cols
  | m :: args, cols => putCols args (if m.name != sKey then setG cols m.name m.v else cols)
theorem putCols_drop {l cols : List Mem} {k : Nat} (h : k < l.length) : putCols (l.drop k) cols = putCols (l.drop (k + 1)) (if l[k].name != sKey then setG cols l[k].name l[k].v else cols) := by
  rw [List.drop_eq_getElem_cons h, putCols]
theorem setG_len (l : List Mem) (n : Str) (v : Val) : (setG l n v).length ≤ l.length + 1 := by
  unfold setG
  split
  · simp
  · unfold modAt; split <;> simp
theorem putCols_len : ∀ (args cols : List Mem), (putCols args cols).length ≤ cols.length + args.length
  | [], cols => by simp [putCols]
  | m :: args, cols => by
    rw [putCols]
    have h1 := putCols_len args (if m.name != sKey then setG cols m.name m.v else cols)
    have h2 := setG_len cols m.name m.v
    simp only [List.length_cons]
    split at h1 <;> simp_all <;> omega
structure Fine (B : Nat) (l : List Tbl) : Prop where
  len : l.length ≤ B
  rows : ∀ t ∈ l, t.rows.length ≤ B
  cols : ∀ t ∈ l, ∀ r ∈ t.rows, r.cols.length ≤ B
def putRow (c : Cmd) (key : Str) (g : Got) : Row :=
  let r := if g.is then g.row else ⟨key, c.typ, [], false⟩
  { r with cols := putCols c.args r.cols }
theorem putF (l : List Tbl) (c : Cmd) (key : Str) (g : Got) (hf : Fine 1048576 l) (hc : g.row.cols.length + c.args.length ≤ 1048576) :
    PFn Try.prog 30 [Tbls.enc l, c.enc, .str key, g.enc] (.tup [Tbls.enc (putG l c.table (putRow c key g)), (textV key).enc, .int .i64 0]) := by
  refine AFn.plain (by simp [AV.closed, AV.closedL, Val.closed, Tbls.closed]) (by simp [AV.closed, AV.closedL, Tbls.closed, Cmd.closed, Got.closed]) (AFn.enterR [.tmp 8, .cell 9 30, .tmp 10] Try.func30 rfl rfl rfl rfl rfl ?_)
  obtain ⟨r0, hr0⟩ : ∃ r0 : Row, r0 = if g.is then g.row else ⟨key, c.typ, [], false⟩ := ⟨_, rfl⟩
  have hpr : putRow c key g = { r0 with cols := putCols c.args r0.cols } := by unfold putRow; rw [hr0]
  have hr0l : r0.cols.length + c.args.length ≤ 1048576 := by
    rw [hr0]
    split
    · exact hc
    · simp only [List.length_nil]; omega
  have hpl := putCols_len c.args r0.cols
  have hput := put l c.table (putRow c key g) hf.len hf.rows hf.cols (by rw [hpr]; dsimp only; omega)
  have htx := text key
  rw [hpr] at hput ⊢
  cases hgi : g.is
  · have hr1 : r0 = ⟨key, c.typ, [], false⟩ := by rw [hr0, hgi]; rfl
    rw [hr1] at hput hr0l hpl ⊢
    clear hr1 hr0 hpr
    have dg : (!g.is) = true := by rw [hgi]; rfl
    repeat' first | refine A.box_r rfl rfl ?_ | refine .seq ?_ | refine .rg ?_ | refine .rd ?_ | refine .block ?_ | refine .scope ?_ | refine .skip ?_ | refine .label ?_ | refine .exit ?_ | refine .ret ?_ | refine .ct ?_ | refine .cf ?_ | refine .cy ?_ | refine .cn ?_ | (refine .cond rfl ?_ ?_ <;> intro hc) | refine A.nil_seq ?_ | refine .nl ?_ | refine .dd ?_ | refine .ys ?_ | refine .no ?_ | (refine A.guard rfl ?_ ?_ <;> intro hc) | refine .lb ?_ | refine .ln ?_ | refine .ls ?_ | refine .pv ?_ | refine .ix ?_ | refine .pt ?_ | refine .pf ?_ | refine .bx ?_ | refine .al ?_ | refine .st ?_ | refine .ad ?_ | refine .sb ?_ | refine .mf ?_ | refine .cl ?_ | refine .cw ?_ | refine .ck ?_ | fail | fail
    change HCode _ _ _ _ _ _ _
    refine HCode.turnB 1 2 rfl rfl (Turn.weak (Weak.no (WeakL.refl _))) rfl ?_
    refine HCode.loop (fun n s σ => ∃ (k : Nat) (cols : List Mem), n = c.args.length - k ∧ k ≤ c.args.length ∧ cols.length + (c.args.length - k) ≤ 1048576 ∧ putCols c.args (⟨key, c.typ, [], false⟩ : Row).cols = putCols (c.args.drop k) cols ∧
      σ = ⟨[.cells zeroV, .cells [.str (⟨key, c.typ, [], false⟩ : Row).key, .str (⟨key, c.typ, [], false⟩ : Row).typ, .slice (cols.map Mem.enc) .no, .bool (⟨key, c.typ, [], false⟩ : Row).broken]], []⟩ ∧
      s = [(26, .int .i64 k), (25, .int .i64 c.args.length), (24, .slice (c.args.map Mem.enc) .no), (0, Tbls.enc l), (5, .rptr c.enc), (2, .str key), (11, .ptr 1 0), (9, .ptr 0 0)])
      (s0 := [(26, .int .i64 (0 : Nat)), (25, .int .i64 c.args.length), (24, .slice (c.args.map Mem.enc) .no), (0, Tbls.enc l), (5, .rptr c.enc), (2, .str key), (11, .ptr 1 0), (9, .ptr 0 0)])
      ⟨rfl, rfl, rfl, rfl, rfl, rfl, rfl, rfl, trivial⟩ ⟨0, (⟨key, c.typ, [], false⟩ : Row).cols, rfl, Nat.zero_le _, (by rw [Nat.sub_zero]; exact hr0l), rfl, rfl, rfl⟩ ?_
    rintro n s σ ⟨k, cols, rfl, hk, hcl, hp, rfl, rfl⟩
    by_cases h1 : k < c.args.length
    · have d1 : decide ((k : Int) < (c.args.length : Int)) = true := by simp [h1]
      have x1 := map_get' (f := Mem.enc) h1
      have hset := set cols c.args[k].name c.args[k].v (by omega)
      have hsl := setG_len cols c.args[k].name c.args[k].v
      repeat' first | refine .seq ?_ | refine .rg ?_ | refine .rd ?_ | refine .block ?_ | refine .scope ?_ | refine .skip ?_ | refine .label ?_ | refine .exit ?_ | refine .ret ?_ | refine .ct ?_ | refine .cf ?_ | refine .cy ?_ | refine .cn ?_ | (refine .cond rfl ?_ ?_ <;> intro hc) | refine A.nil_seq ?_ | refine .nl ?_ | refine .dd ?_ | refine .ys ?_ | refine .no ?_ | (refine A.guard rfl ?_ ?_ <;> intro hc) | refine .lb ?_ | refine .ln ?_ | refine .ls ?_ | refine .pv ?_ | refine .ix ?_ | refine .pt ?_ | refine .pf ?_ | refine .bx ?_ | refine .al ?_ | refine .st ?_ | refine .ad ?_ | refine .sb ?_ | refine .mf ?_ | refine .cl ?_ | refine .cw ?_ | refine .ck ?_ | refine A.call rfl hset (WeakL.refl _) ?_ | fail
      · refine ⟨c.args.length - (k + 1), by omega, [(26, .int .i64 ((k + 1 : Nat) : Int)), (25, .int .i64 c.args.length), (24, .slice (c.args.map Mem.enc) .no), (0, Tbls.enc l), (5, .rptr c.enc), (2, .str key), (11, .ptr 1 0), (9, .ptr 0 0)],
          ⟨rfl, rfl, rfl, rfl, rfl, rfl, rfl, rfl, trivial⟩, by simp [belowS, AV.low, AV.lowL, Mem.lowL, Tbl.lowL, Tbls.enc, Cmd.enc], by simp [belowB, belowT, Ob.low, AV.low, AV.lowL, Mem.lowL, zeroV], k + 1, setG cols c.args[k].name c.args[k].v, rfl, by omega, by omega, ?_, rfl, rfl⟩
        rw [hp, putCols_drop h1, if_pos (by simpa [sKey] using hc)]
      · refine ⟨c.args.length - (k + 1), by omega, [(26, .int .i64 ((k + 1 : Nat) : Int)), (25, .int .i64 c.args.length), (24, .slice (c.args.map Mem.enc) .no), (0, Tbls.enc l), (5, .rptr c.enc), (2, .str key), (11, .ptr 1 0), (9, .ptr 0 0)],
          ⟨rfl, rfl, rfl, rfl, rfl, rfl, rfl, rfl, trivial⟩, by simp [belowS, AV.low, AV.lowL, Mem.lowL, Tbl.lowL, Tbls.enc, Cmd.enc], by simp [belowB, belowT, Ob.low, AV.low, AV.lowL, Mem.lowL, zeroV], k + 1, cols, rfl, by omega, by omega, ?_, rfl, rfl⟩
        rw [hp, putCols_drop h1, if_neg (by simpa [sKey] using hc)]
    · have d1 : decide ((k : Int) < (c.args.length : Int)) = false := by simp; omega
      rw [List.drop_eq_nil_of_le (by omega), putCols] at hp
      rw [hp] at hput ⊢
      repeat' first | refine .seq ?_ | refine .rg ?_ | refine .rd ?_ | refine .block ?_ | refine .scope ?_ | refine .skip ?_ | refine .label ?_ | refine .exit ?_ | refine .ret ?_ | refine .ct ?_ | refine .cf ?_ | refine .cy ?_ | refine .cn ?_ | (refine .cond rfl ?_ ?_ <;> intro hc) | refine A.nil_seq ?_ | refine .nl ?_ | refine .dd ?_ | refine .ys ?_ | refine .no ?_ | (refine A.guard rfl ?_ ?_ <;> intro hc) | refine .lb ?_ | refine .ln ?_ | refine .ls ?_ | refine .pv ?_ | refine .ix ?_ | refine .pt ?_ | refine .pf ?_ | refine .bx ?_ | refine .al ?_ | refine .st ?_ | refine .ad ?_ | refine .sb ?_ | refine .mf ?_ | refine .cl ?_ | refine .cw ?_ | refine .ck ?_ | refine A.call rfl hput (WeakL.refl _) ?_ | refine A.call rfl htx (WeakL.refl _) ?_ | fail
      exact FinR.ret1 rfl (Weak.refl _)
  · have hr1 : r0 = g.row := by rw [hr0, hgi]; rfl
    rw [hr1] at hput hr0l hpl ⊢
    clear hr1 hr0 hpr
    have dg : (!g.is) = false := by rw [hgi]; rfl
    repeat' first | refine A.box_r rfl rfl ?_ | refine .seq ?_ | refine .rg ?_ | refine .rd ?_ | refine .block ?_ | refine .scope ?_ | refine .skip ?_ | refine .label ?_ | refine .exit ?_ | refine .ret ?_ | refine .ct ?_ | refine .cf ?_ | refine .cy ?_ | refine .cn ?_ | (refine .cond rfl ?_ ?_ <;> intro hc) | refine A.nil_seq ?_ | refine .nl ?_ | refine .dd ?_ | refine .ys ?_ | refine .no ?_ | (refine A.guard rfl ?_ ?_ <;> intro hc) | refine .lb ?_ | refine .ln ?_ | refine .ls ?_ | refine .pv ?_ | refine .ix ?_ | refine .pt ?_ | refine .pf ?_ | refine .bx ?_ | refine .al ?_ | refine .st ?_ | refine .ad ?_ | refine .sb ?_ | refine .mf ?_ | refine .cl ?_ | refine .cw ?_ | refine .ck ?_ | fail | fail
    change HCode _ _ _ _ _ _ _
    skip
    refine HCode.loop (fun n s σ => ∃ (k : Nat) (cols : List Mem), n = c.args.length - k ∧ k ≤ c.args.length ∧ cols.length + (c.args.length - k) ≤ 1048576 ∧ putCols c.args (g.row : Row).cols = putCols (c.args.drop k) cols ∧
      σ = ⟨[.cells zeroV, .cells [.str (g.row : Row).key, .str (g.row : Row).typ, .slice (cols.map Mem.enc) .no, .bool (g.row : Row).broken]], []⟩ ∧
      s = [(26, .int .i64 k), (25, .int .i64 c.args.length), (24, .slice (c.args.map Mem.enc) .no), (0, Tbls.enc l), (5, .rptr c.enc), (2, .str key), (11, .ptr 1 0), (9, .ptr 0 0)])
      (s0 := [(26, .int .i64 (0 : Nat)), (25, .int .i64 c.args.length), (24, .slice (c.args.map Mem.enc) .no), (0, Tbls.enc l), (5, .rptr c.enc), (2, .str key), (11, .ptr 1 0), (9, .ptr 0 0)])
      ⟨rfl, rfl, rfl, rfl, rfl, rfl, rfl, rfl, trivial⟩ ⟨0, (g.row : Row).cols, rfl, Nat.zero_le _, (by rw [Nat.sub_zero]; exact hr0l), rfl, rfl, rfl⟩ ?_
    rintro n s σ ⟨k, cols, rfl, hk, hcl, hp, rfl, rfl⟩
    by_cases h1 : k < c.args.length
    · have d1 : decide ((k : Int) < (c.args.length : Int)) = true := by simp [h1]
      have x1 := map_get' (f := Mem.enc) h1
      have hset := set cols c.args[k].name c.args[k].v (by omega)
      have hsl := setG_len cols c.args[k].name c.args[k].v
      repeat' first | refine .seq ?_ | refine .rg ?_ | refine .rd ?_ | refine .block ?_ | refine .scope ?_ | refine .skip ?_ | refine .label ?_ | refine .exit ?_ | refine .ret ?_ | refine .ct ?_ | refine .cf ?_ | refine .cy ?_ | refine .cn ?_ | (refine .cond rfl ?_ ?_ <;> intro hc) | refine A.nil_seq ?_ | refine .nl ?_ | refine .dd ?_ | refine .ys ?_ | refine .no ?_ | (refine A.guard rfl ?_ ?_ <;> intro hc) | refine .lb ?_ | refine .ln ?_ | refine .ls ?_ | refine .pv ?_ | refine .ix ?_ | refine .pt ?_ | refine .pf ?_ | refine .bx ?_ | refine .al ?_ | refine .st ?_ | refine .ad ?_ | refine .sb ?_ | refine .mf ?_ | refine .cl ?_ | refine .cw ?_ | refine .ck ?_ | refine A.call rfl hset (WeakL.refl _) ?_ | fail
      · refine ⟨c.args.length - (k + 1), by omega, [(26, .int .i64 ((k + 1 : Nat) : Int)), (25, .int .i64 c.args.length), (24, .slice (c.args.map Mem.enc) .no), (0, Tbls.enc l), (5, .rptr c.enc), (2, .str key), (11, .ptr 1 0), (9, .ptr 0 0)],
          ⟨rfl, rfl, rfl, rfl, rfl, rfl, rfl, rfl, trivial⟩, by simp [belowS, AV.low, AV.lowL, Mem.lowL, Tbl.lowL, Tbls.enc, Cmd.enc], by simp [belowB, belowT, Ob.low, AV.low, AV.lowL, Mem.lowL, zeroV], k + 1, setG cols c.args[k].name c.args[k].v, rfl, by omega, by omega, ?_, rfl, rfl⟩
        rw [hp, putCols_drop h1, if_pos (by simpa [sKey] using hc)]
      · refine ⟨c.args.length - (k + 1), by omega, [(26, .int .i64 ((k + 1 : Nat) : Int)), (25, .int .i64 c.args.length), (24, .slice (c.args.map Mem.enc) .no), (0, Tbls.enc l), (5, .rptr c.enc), (2, .str key), (11, .ptr 1 0), (9, .ptr 0 0)],
          ⟨rfl, rfl, rfl, rfl, rfl, rfl, rfl, rfl, trivial⟩, by simp [belowS, AV.low, AV.lowL, Mem.lowL, Tbl.lowL, Tbls.enc, Cmd.enc], by simp [belowB, belowT, Ob.low, AV.low, AV.lowL, Mem.lowL, zeroV], k + 1, cols, rfl, by omega, by omega, ?_, rfl, rfl⟩
        rw [hp, putCols_drop h1, if_neg (by simpa [sKey] using hc)]
    · have d1 : decide ((k : Int) < (c.args.length : Int)) = false := by simp; omega
      rw [List.drop_eq_nil_of_le (by omega), putCols] at hp
      rw [hp] at hput ⊢
      repeat' first | refine .seq ?_ | refine .rg ?_ | refine .rd ?_ | refine .block ?_ | refine .scope ?_ | refine .skip ?_ | refine .label ?_ | refine .exit ?_ | refine .ret ?_ | refine .ct ?_ | refine .cf ?_ | refine .cy ?_ | refine .cn ?_ | (refine .cond rfl ?_ ?_ <;> intro hc) | refine A.nil_seq ?_ | refine .nl ?_ | refine .dd ?_ | refine .ys ?_ | refine .no ?_ | (refine A.guard rfl ?_ ?_ <;> intro hc) | refine .lb ?_ | refine .ln ?_ | refine .ls ?_ | refine .pv ?_ | refine .ix ?_ | refine .pt ?_ | refine .pf ?_ | refine .bx ?_ | refine .al ?_ | refine .st ?_ | refine .ad ?_ | refine .sb ?_ | refine .mf ?_ | refine .cl ?_ | refine .cw ?_ | refine .ck ?_ | refine A.call rfl hput (WeakL.refl _) ?_ | refine A.call rfl htx (WeakL.refl _) ?_ | fail
      exact FinR.ret1 rfl (Weak.refl _)
def wrap64 (n : Int) : Int := IntKind.i64.wrap n
def addG (l : List Tbl) (c : Cmd) (r : Row) : List Tbl × Val × Int :=
  let b := (getG sBy c.args).1
  let w := colG r c.col
  if b.kind != 2 then (l, val0, 1)
  else if w.kind != 2 then (l, val0, 7)
  else if !withinB b.n || !withinB w.n || !withinB (wrap64 (b.n + w.n)) then (l, val0, 8)
  else (putG l c.table { r with cols := setG r.cols c.col (intV (wrap64 (b.n + w.n))) }, intV (wrap64 (b.n + w.n)), 0)
theorem tup_closed {l : List Tbl} {v : Val} {e : Int} : (AV.tup [Tbls.enc l, v.enc, .int .i64 e]).closed = true := by simp [AV.closed, AV.closedL, Val.closed, Tbls.closed]
theorem weak_res {l : List Tbl} {n : Int} {e : Int} {s : Str} {k : Int} {t1 t2 : Tk} : Weak (.tup [Tbls.enc l, .agg [.int .i64 k, .int .i64 n, .str s, .slice [] t1, .slice [] t2], .int .i64 e]) (.tup [Tbls.enc l, (Val.mk k n s [] []).enc, .int .i64 e]) :=
  Weak.tup (WeakL.cons (Weak.refl _) (WeakL.cons weak_flatV (WeakL.refl _)))
theorem addF (l : List Tbl) (c : Cmd) (r : Row) (hf : Fine 1048576 l) (hc : r.cols.length + 1 ≤ 1048576) (ha : c.args.length ≤ 1048576) :
    PFn Try.prog 32 [Tbls.enc l, c.enc, r.enc] (.tup [Tbls.enc (addG l c r).1, (addG l c r).2.1.enc, .int .i64 (addG l c r).2.2]) := by
  refine AFn.plain tup_closed (by simp [AV.closed, AV.closedL, Tbls.closed, Cmd.closed, Row.closed]) (AFn.enterR [.tmp 6, .cell 7 30, .tmp 8] Try.func32 rfl rfl rfl rfl rfl ?_)
  have hg := get sBy c.args (by omega)
  have hcol := col r c.col (by omega)
  have hw1 := within (getG sBy c.args).1.n
  have hw2 := within (colG r c.col).n
  have hw3 := within (wrap64 ((getG sBy c.args).1.n + (colG r c.col).n))
  have hint := int_ (wrap64 ((getG sBy c.args).1.n + (colG r c.col).n))
  have hset := set r.cols c.col (intV (wrap64 ((getG sBy c.args).1.n + (colG r c.col).n))) (by omega)
  have hsl := setG_len r.cols c.col (intV (wrap64 ((getG sBy c.args).1.n + (colG r c.col).n)))
  have hput := put l c.table { r with cols := setG r.cols c.col (intV (wrap64 ((getG sBy c.args).1.n + (colG r c.col).n))) } hf.len hf.rows hf.cols (by dsimp only; omega)
  repeat' first | refine .seq ?_ | refine .rg ?_ | refine .rd ?_ | refine .block ?_ | refine .scope ?_ | refine .skip ?_ | refine .label ?_ | refine .exit ?_ | refine .ret ?_ | refine .ct ?_ | refine .cf ?_ | refine .cy ?_ | refine .cn ?_ | (refine .cond rfl ?_ ?_ <;> intro hc) | refine A.nil_seq ?_ | refine .nl ?_ | refine .dd ?_ | refine .ys ?_ | refine .no ?_ | (refine A.guard rfl ?_ ?_ <;> intro hc) | refine .lb ?_ | refine .ln ?_ | refine .ls ?_ | refine .pv ?_ | refine .ix ?_ | refine .pt ?_ | refine .pf ?_ | refine .bx ?_ | refine .al ?_ | refine .st ?_ | refine .ad ?_ | refine .sb ?_ | refine .mf ?_ | refine .cl ?_ | refine .cw ?_ | refine .ck ?_ | refine A.call rfl hg (WeakL.refl _) ?_ | refine A.call rfl hcol (WeakL.refl _) ?_ | refine A.call rfl hw1 (WeakL.refl _) ?_ | refine A.call rfl hw2 (WeakL.refl _) ?_ | refine A.add rfl rfl ?_ | refine A.call rfl hw3 (WeakL.refl _) ?_ | refine A.call rfl hint (WeakL.refl _) ?_ | refine A.call rfl hset (WeakL.refl _) ?_ | refine A.call rfl hput (WeakL.refl _) ?_ | fail
  all_goals clear hg hcol hw1 hw2 hw3 hint hset hput hsl
  all_goals refine FinR.ret1 rfl ?_
  all_goals unfold addG
  all_goals dsimp only
  all_goals (repeat' split) <;> first | exact weak_res | exact Weak.refl _ | (exfalso; simp_all; done)
def cmdG (l : List Tbl) (c : Cmd) : List Tbl × Val × Int :=
  if !knownG c.name then (l, val0, 1)
  else if c.name == sBurn then (l, val0, 11)
  else if (getG sKey c.args).1.kind != 4 then (l, val0, 1)
  else if (findG l ⟨c.table, (getG sKey c.args).1.s⟩).e != 0 then (l, val0, (findG l ⟨c.table, (getG sKey c.args).1.s⟩).e)
  else if c.name == sPut then (putG l c.table (putRow c (getG sKey c.args).1.s (findG l ⟨c.table, (getG sKey c.args).1.s⟩)), textV (getG sKey c.args).1.s, 0)
  else if !(findG l ⟨c.table, (getG sKey c.args).1.s⟩).is then (l, val0, 6)
  else if c.name == sCut then (cutG l c.table (getG sKey c.args).1.s, textV (getG sKey c.args).1.s, 0)
  else addG l c (findG l ⟨c.table, (getG sKey c.args).1.s⟩).row
theorem addG_err (l : List Tbl) (c : Cmd) (r : Row) (h : (addG l c r).2.2 ≠ 0) : (addG l c r).1 = l := by
  unfold addG at h ⊢
  dsimp only at h ⊢
  (repeat' split) <;> simp_all
theorem cmdG_err (l : List Tbl) (c : Cmd) (h : (cmdG l c).2.2 ≠ 0) : (cmdG l c).1 = l := by
  have ha := addG_err l c (findG l ⟨c.table, (getG sKey c.args).1.s⟩).row
  unfold cmdG at h ⊢
  (repeat' split) <;> simp_all
theorem findG_cols {B : Nat} {l : List Tbl} (hf : Fine B l) (n : Need) : (findG l n).row.cols.length ≤ B := by
  unfold findG
  split
  · simp [gotNone, noRow]
  · rename_i t ht
    split
    · simp [gotNone, noRow]
    · rename_i r hr
      unfold gotOf
      split
      · simp [noRow]
      · exact hf.cols t (List.mem_of_find?_eq_some ht) r (List.mem_of_find?_eq_some hr)
theorem Fine.le {B B' : Nat} {l : List Tbl} (hf : Fine B l) (h : B ≤ B') : Fine B' l := ⟨Nat.le_trans hf.len h, fun t ht => Nat.le_trans (hf.rows t ht) h, fun t ht r hr => Nat.le_trans (hf.cols t ht r hr) h⟩
theorem doBurn (l : List Tbl) (c : Cmd) (hb : c.name = sBurn) : PPan Try.prog 21 [Tbls.enc l, c.enc] (.iface 70 (.agg [])) := by
  refine AFn.plainPan rfl (by simp [AV.closedL, Tbls.closed, Cmd.closed]) (AFn.enterR [.tmp 4, .cell 5 30, .tmp 6] Try.func21 rfl rfl rfl rfl rfl ?_)
  have hk := known c.name
  have e1 : knownG c.name = true := by rw [hb]; rfl
  have e2 : (c.name == [98, 117, 114, 110]) = true := by rw [hb]; rfl
  have e3 : (!knownG c.name) = false := by rw [e1]; rfl
  repeat' first | refine A.box_r rfl rfl ?_ | refine .seq ?_ | refine .rg ?_ | refine .rd ?_ | refine .block ?_ | refine .scope ?_ | refine .skip ?_ | refine .label ?_ | refine .exit ?_ | refine .ret ?_ | refine .ct ?_ | refine .cf ?_ | refine .cy ?_ | refine .cn ?_ | (refine .cond rfl ?_ ?_ <;> intro hc) | refine A.nil_seq ?_ | refine .nl ?_ | refine .dd ?_ | refine .ys ?_ | refine .no ?_ | (refine A.guard rfl ?_ ?_ <;> intro hc) | refine .lb ?_ | refine .ln ?_ | refine .ls ?_ | refine .pv ?_ | refine .ix ?_ | refine .pt ?_ | refine .pf ?_ | refine .bx ?_ | refine .al ?_ | refine .st ?_ | refine .ad ?_ | refine .sb ?_ | refine .mf ?_ | refine .cl ?_ | refine .cw ?_ | refine .ck ?_ | refine A.call rfl hk (WeakL.refl _) ?_ | refine A.makeIface rfl (by decide) rfl ?_ | refine A.panic rfl ?_ | fail
  all_goals rfl
theorem doF (l : List Tbl) (c : Cmd) (hb : (c.name == sBurn) = false) {B : Nat} (hf : Fine B l) (hB : B + c.args.length + 1 ≤ 1048576) :
    PFn Try.prog 21 [Tbls.enc l, c.enc] (.tup [Tbls.enc (cmdG l c).1, (cmdG l c).2.1.enc, .int .i64 (cmdG l c).2.2]) := by
  refine AFn.plain tup_closed (by simp [AV.closedL, Tbls.closed, Cmd.closed]) (AFn.enterR [.tmp 4, .cell 5 30, .tmp 6] Try.func21 rfl rfl rfl rfl rfl ?_)
  have hf' : Fine 1048576 l := hf.le (by omega)
  have hk := known c.name
  have hg := get sKey c.args (by omega)
  have hfind := find l ⟨c.table, (getG sKey c.args).1.s⟩ (by have := hf.len; omega) (fun t ht => by have := hf.rows t ht; omega) hf'.cols
  have hfc := findG_cols hf ⟨c.table, (getG sKey c.args).1.s⟩
  have hput := putF l c (getG sKey c.args).1.s (findG l ⟨c.table, (getG sKey c.args).1.s⟩) hf' (by omega)
  have hcut := cut l c.table (getG sKey c.args).1.s hf'.len hf'.rows hf'.cols
  have hadd := addF l c (findG l ⟨c.table, (getG sKey c.args).1.s⟩).row hf' (by omega) (by omega)
  have htx := text (getG sKey c.args).1.s
  have eb : (c.name == [98, 117, 114, 110]) = false := hb
  repeat' first | refine A.box_r rfl rfl ?_ | refine .seq ?_ | refine .rg ?_ | refine .rd ?_ | refine .block ?_ | refine .scope ?_ | refine .skip ?_ | refine .label ?_ | refine .exit ?_ | refine .ret ?_ | refine .ct ?_ | refine .cf ?_ | refine .cy ?_ | refine .cn ?_ | (refine .cond rfl ?_ ?_ <;> intro hc) | refine A.nil_seq ?_ | refine .nl ?_ | refine .dd ?_ | refine .ys ?_ | refine .no ?_ | (refine A.guard rfl ?_ ?_ <;> intro hc) | refine .lb ?_ | refine .ln ?_ | refine .ls ?_ | refine .pv ?_ | refine .ix ?_ | refine .pt ?_ | refine .pf ?_ | refine .bx ?_ | refine .al ?_ | refine .st ?_ | refine .ad ?_ | refine .sb ?_ | refine .mf ?_ | refine .cl ?_ | refine .cw ?_ | refine .ck ?_ | refine A.call rfl hk (WeakL.refl _) ?_ | refine A.call rfl hg (WeakL.refl _) ?_ | refine A.call rfl hfind (WeakL.refl _) ?_ | refine A.call rfl hput (WeakL.refl _) ?_ | refine A.call rfl hcut (WeakL.refl _) ?_ | refine A.call rfl hadd (WeakL.refl _) ?_ | refine A.call rfl htx (WeakL.refl _) ?_ | fail
  all_goals first | refine FinR.ret1 rfl ?_ | trace_state
  all_goals unfold cmdG
  all_goals (repeat' split) <;> first | exact weak_res | exact Weak.refl _ | (exfalso; simp_all [sPut, sCut, sBurn]; done)
end Go.Proofs.Ytegakkonlhmeaaa
namespace Go.Proofs.Ytegakkonlhmeaaa
open Go Go.Av
attribute [local irreducible] HCode AOps PFn AFn DFn Av.Step TStep
def burnt : AV := .iface 70 (.agg [])
theorem recNone (l : List Tbl) (σ : St) : DFn Try.prog 20 [.rptr (Tbls.enc l), .ptr 0 0, .ptr 1 0, .ptr 2 0] none σ σ := by
  refine DFn.enter Try.func20 rfl rfl rfl rfl rfl rfl rfl (fun x h => by cases h) ?_
  repeat' first | refine .seq ?_ | refine .rg ?_ | refine .rd ?_ | refine .block ?_ | refine .scope ?_ | refine .skip ?_ | refine .label ?_ | refine .exit ?_ | refine .ret ?_ | refine .ct ?_ | refine .cf ?_ | refine .cy ?_ | refine .cn ?_ | (refine .cond rfl ?_ ?_ <;> intro hc) | refine A.nil_seq ?_ | refine .nl ?_ | refine .dd ?_ | refine .ys ?_ | refine .no ?_ | (refine A.guard rfl ?_ ?_ <;> intro hc) | refine .lb ?_ | refine .ln ?_ | refine .ls ?_ | refine .pv ?_ | refine .ix ?_ | refine .pt ?_ | refine .pf ?_ | refine .bx ?_ | refine .al ?_ | refine .st ?_ | refine .ad ?_ | refine .sb ?_ | refine .mf ?_ | refine .cl ?_ | refine .cw ?_ | refine .ck ?_ | refine A.nenil rfl rfl rfl rfl ?_ | fail
  exact ⟨.inl rfl, rfl⟩
theorem recBurnt (l : List Tbl) (hf : Fine 1048576 l) (o e : AV) (vs : List AV) (hv : vs = [.int .i64 0, .int .i64 0, .str [], .slice [] .nil, .slice [] .nil]) :
    DFn Try.prog 20 [.rptr (Tbls.enc l), .ptr 0 0, .ptr 1 0, .ptr 2 0] (some burnt) ⟨[.cells [o], .cells vs, .cells [e]], []⟩ ⟨[.cells [Tbls.enc l], .cells zeroV, .cells [.int .i64 11]], []⟩ := by
  subst hv
  have ht := twinT l hf.len hf.rows hf.cols
  refine DFn.enter Try.func20 rfl rfl rfl rfl rfl rfl rfl (fun x h => by cases h; exact ⟨_, _, rfl⟩) ?_
  repeat' first | refine .seq ?_ | refine .rg ?_ | refine .rd ?_ | refine .block ?_ | refine .scope ?_ | refine .skip ?_ | refine .label ?_ | refine .exit ?_ | refine .ret ?_ | refine .ct ?_ | refine .cf ?_ | refine .cy ?_ | refine .cn ?_ | (refine .cond rfl ?_ ?_ <;> intro hc) | refine A.nil_seq ?_ | refine .nl ?_ | refine .dd ?_ | refine .ys ?_ | refine .no ?_ | (refine A.guard rfl ?_ ?_ <;> intro hc) | refine .lb ?_ | refine .ln ?_ | refine .ls ?_ | refine .pv ?_ | refine .ix ?_ | refine .pt ?_ | refine .pf ?_ | refine .bx ?_ | refine .al ?_ | refine .st ?_ | refine .ad ?_ | refine .sb ?_ | refine .mf ?_ | refine .cl ?_ | refine .cw ?_ | refine .ck ?_ | refine A.nenil rfl rfl rfl rfl ?_ | refine A.call rfl ht (WeakL.refl _) ?_ | fail
  exact ⟨.inl rfl, rfl⟩
theorem cmdDo (l : List Tbl) (c : Cmd) {B : Nat} (hf : Fine B l) (hB : B + c.args.length + 1 ≤ 1048576) :
    PFn Try.prog 11 [Tbls.enc l, c.enc] (.tup [Tbls.enc (cmdG l c).1, (cmdG l c).2.1.enc, .int .i64 (cmdG l c).2.2]) := by
  have hf' : Fine 1048576 l := hf.le (by omega)
  have ht := twinT l hf'.len hf'.rows hf'.cols
  refine AFn.plain tup_closed (by simp [AV.closedL, Tbls.closed, Cmd.closed]) (AFn.enterD [.cell 4 22, .cell 5 30, .cell 6 40] Try.func11 rfl rfl rfl rfl rfl rfl ?_)
  repeat' first | refine A.box_r rfl rfl ?_ | refine .seq ?_ | refine .rg ?_ | refine .rd ?_ | refine .block ?_ | refine .scope ?_ | refine .skip ?_ | refine .label ?_ | refine .exit ?_ | refine .ret ?_ | refine .ct ?_ | refine .cf ?_ | refine .cy ?_ | refine .cn ?_ | (refine .cond rfl ?_ ?_ <;> intro hc) | refine A.nil_seq ?_ | refine .nl ?_ | refine .dd ?_ | refine .ys ?_ | refine .no ?_ | (refine A.guard rfl ?_ ?_ <;> intro hc) | refine .lb ?_ | refine .ln ?_ | refine .ls ?_ | refine .pv ?_ | refine .ix ?_ | refine .pt ?_ | refine .pf ?_ | refine .bx ?_ | refine .al ?_ | refine .st ?_ | refine .ad ?_ | refine .sb ?_ | refine .mf ?_ | refine .cl ?_ | refine .cw ?_ | refine .ck ?_ | fail | fail
  refine ⟨rfl, _, rfl, (recNone l ⟨[], []⟩).callable, fun D => ?_⟩
  by_cases hb : (c.name == sBurn) = true
  · have hbu := doBurn l c (by simpa using hb)
    have hk : knownG c.name = true := by rw [show c.name = sBurn by simpa using hb]; rfl
    have e : cmdG l c = (l, val0, 11) := by unfold cmdG; rw [hk, hb]; rfl
    rw [e]
    repeat' first | refine .seq ?_ | refine .rg ?_ | refine .rd ?_ | refine .block ?_ | refine .scope ?_ | refine .skip ?_ | refine .label ?_ | refine .exit ?_ | refine .ret ?_ | refine .ct ?_ | refine .cf ?_ | refine .cy ?_ | refine .cn ?_ | (refine .cond rfl ?_ ?_ <;> intro hc) | refine A.nil_seq ?_ | refine .nl ?_ | refine .dd ?_ | refine .ys ?_ | refine .no ?_ | (refine A.guard rfl ?_ ?_ <;> intro hc) | refine .lb ?_ | refine .ln ?_ | refine .ls ?_ | refine .pv ?_ | refine .ix ?_ | refine .pt ?_ | refine .pf ?_ | refine .bx ?_ | refine .al ?_ | refine .st ?_ | refine .ad ?_ | refine .sb ?_ | refine .mf ?_ | refine .cl ?_ | refine .cw ?_ | refine .ck ?_ | refine A.callP rfl hbu (WeakL.refl _) ?_ | fail
    exact ⟨_, recBurnt l hf' _ _ _ rfl, _, rfl, _, rfl, weak_res⟩
  · have hb' : (c.name == sBurn) = false := by simpa using hb
    have hdo := doF l c hb' hf hB
    by_cases he : (cmdG l c).2.2 = 0
    · have d1 : ((cmdG l c).2.2 != 0) = false := by rw [he]; rfl
      repeat' first | refine .seq ?_ | refine .rg ?_ | refine .rd ?_ | refine .block ?_ | refine .scope ?_ | refine .skip ?_ | refine .label ?_ | refine .exit ?_ | refine .ret ?_ | refine .ct ?_ | refine .cf ?_ | refine .cy ?_ | refine .cn ?_ | (refine .cond rfl ?_ ?_ <;> intro hc) | refine A.nil_seq ?_ | refine .nl ?_ | refine .dd ?_ | refine .ys ?_ | refine .no ?_ | (refine A.guard rfl ?_ ?_ <;> intro hc) | refine .lb ?_ | refine .ln ?_ | refine .ls ?_ | refine .pv ?_ | refine .ix ?_ | refine .pt ?_ | refine .pf ?_ | refine .bx ?_ | refine .al ?_ | refine .st ?_ | refine .ad ?_ | refine .sb ?_ | refine .mf ?_ | refine .cl ?_ | refine .cw ?_ | refine .ck ?_ | refine A.call rfl hdo (WeakL.refl _) ?_ | fail
      exact ⟨_, recNone l _, _, rfl, _, rfl, Weak.refl _⟩
    · have d1 : ((cmdG l c).2.2 != 0) = true := by simpa using he
      have e1 := cmdG_err l c he
      repeat' first | refine .seq ?_ | refine .rg ?_ | refine .rd ?_ | refine .block ?_ | refine .scope ?_ | refine .skip ?_ | refine .label ?_ | refine .exit ?_ | refine .ret ?_ | refine .ct ?_ | refine .cf ?_ | refine .cy ?_ | refine .cn ?_ | (refine .cond rfl ?_ ?_ <;> intro hc) | refine A.nil_seq ?_ | refine .nl ?_ | refine .dd ?_ | refine .ys ?_ | refine .no ?_ | (refine A.guard rfl ?_ ?_ <;> intro hc) | refine .lb ?_ | refine .ln ?_ | refine .ls ?_ | refine .pv ?_ | refine .ix ?_ | refine .pt ?_ | refine .pf ?_ | refine .bx ?_ | refine .al ?_ | refine .st ?_ | refine .ad ?_ | refine .sb ?_ | refine .mf ?_ | refine .cl ?_ | refine .cw ?_ | refine .ck ?_ | refine A.call rfl hdo (WeakL.refl _) ?_ | refine A.call rfl ht (WeakL.refl _) ?_ | fail
      refine ⟨_, recNone l _, _, rfl, _, rfl, ?_⟩
      rw [e1]
      exact Weak.refl _
end Go.Proofs.Ytegakkonlhmeaaa
