/-
  The package command: add.
-/
import Derived.Test.YtajddgpkflbnaaaDoorMCmd
namespace Go.Proofs.YtajddgpkflbnaaaDoor
open Go Go.Av
set_option maxRecDepth 100000
set_option maxHeartbeats 8000000
set_option linter.unusedVariables false
set_option linter.unusedSimpArgs false
attribute [local irreducible] HCode AOps PFn AFn Av.Step TStep

def wrap64 (n : Int) : Int := IntKind.i64.wrap n
def addG (l : List Tbl) (c : Cmd) (r : Row) : List Tbl × Val × Int :=
  let b := (getG sBy c.args).1
  let w := colG r c.col
  if b.kind != 2 then (l, val0, 1)
  else if w.kind != 2 then (l, val0, 7)
  else if !withinB b.n || !withinB w.n || !withinB (wrap64 (b.n + w.n)) then (l, val0, 8)
  else (putG l c.table { r with cols := setG r.cols c.col (intV (wrap64 (b.n + w.n))) }, intV (wrap64 (b.n + w.n)), 0)
theorem tup_closed {l : List Tbl} {v : Val} {e : Int} : (AV.tup [Tbls.enc l, v.enc, .int .i64 e]).closed = true := by simp [AV.closed, AV.closedL, Val.closed, Tbls.closed]
theorem weak_res {l : List Tbl} {n : Int} {e : Int} {s : Str} {k : Int} {t1 t2 : Tk} : Weak (.tup [Tbls.enc l, .agg [.int .i64 k, .int .i64 n, .str s, .slice [] t1, .slice [] t2], .int .i64 e]) (.tup [Tbls.enc l, (Val.mk k n s [] []).enc, .int .i64 e]) :=
  Weak.tup (WeakL.cons (Weak.refl _) (WeakL.cons weak_flatV (WeakL.refl _)))

theorem addF (l : List Tbl) (c : Cmd) (r : Row) (hf : Fine 1048576 l) (hc : r.cols.length + 1 ≤ 1048576) (ha : c.args.length ≤ 1048576) :
    PFn Tryd.prog 91 [Tbls.enc l, c.enc, r.enc] (.tup [Tbls.enc (addG l c r).1, (addG l c r).2.1.enc, .int .i64 (addG l c r).2.2]) := by
  refine AFn.plain tup_closed (by simp [AV.closed, AV.closedL, Tbls.closed, Cmd.closed, Row.closed]) (AFn.enterR [.tmp 6, .cell 7 28, .tmp 8] Tryd.func91 rfl rfl rfl rfl rfl ?_)
  have hg := get sBy c.args (by omega)
  have hcol := col r c.col (by omega)
  have hw1 := within (getG sBy c.args).1.n
  have hw2 := within (colG r c.col).n
  have hw3 := within (wrap64 ((getG sBy c.args).1.n + (colG r c.col).n))
  have hint := int_ (wrap64 ((getG sBy c.args).1.n + (colG r c.col).n))
  have hset := set r.cols c.col (intV (wrap64 ((getG sBy c.args).1.n + (colG r c.col).n))) (by omega)
  have hsl := setG_len r.cols c.col (intV (wrap64 ((getG sBy c.args).1.n + (colG r c.col).n)))
  have hput := put l c.table { r with cols := setG r.cols c.col (intV (wrap64 ((getG sBy c.args).1.n + (colG r c.col).n))) } hf.len hf.rows hf.cols (by dsimp only; omega)
  repeat' first
    | refine HCode.seq ?_ | refine HCode.region rfl ?_ | refine HCode.region_draw Lay.mix rfl ?_ | refine HCode.block ?_ | refine HCode.scope ?_ | refine HCode.skip ?_ | refine HCode.label ?_ | refine HCode.exit ?_ | refine HCode.ret ?_
    | refine HCode.cond_true rfl ?_ | refine HCode.cond_false rfl ?_ | refine HCode.cond_yes rfl (by assumption) ?_ | refine HCode.cond_no rfl (by assumption) ?_ | (refine HCode.cond rfl ?_ ?_ <;> intro hc)
    | refine A.nil_seq ?_ | refine A.nil (fun _ => rfl) ?_ | refine A.dead rfl ?_ | refine A.yes rfl rfl ?_ | refine A.no rfl rfl ?_ | refine A.yes rfl (by assumption) ?_ | refine A.no rfl (by assumption) ?_ | (refine A.guard rfl ?_ ?_ <;> intro hc)
    | refine A.move rfl ?_ | refine A.assign rfl ?_ | refine A.load_b rfl rfl rfl rfl ?_ | refine A.load_r rfl rfl rfl ?_ | refine A.field_b rfl rfl rfl rfl rfl rfl ?_ | refine A.field_r rfl rfl rfl rfl rfl rfl ?_ | refine A.field rfl rfl rfl rfl rfl ?_
    | refine A.index_r rfl rfl rfl rfl rfl rfl (by assumption) rfl ?_ | refine A.len rfl rfl rfl (by first | rw [List.length_map] | rfl) ?_ | refine A.lens rfl rfl rfl rfl ?_
    | refine A.pick_true rfl rfl rfl ?_ | refine A.pick_false rfl rfl rfl ?_ | refine A.pick_true rfl (by assumption) rfl ?_ | refine A.pick_false rfl (by assumption) rfl ?_
    | refine A.box rfl rfl rfl ?_ | refine A.alloc rfl rfl rfl ?_ | refine A.store rfl rfl rfl rfl rfl ?_ | refine A.build rfl rfl rfl rfl ?_ | refine A.buildSlice rfl rfl rfl rfl rfl rfl rfl ?_
    | refine A.eqi rfl rfl ?_ | refine A.nei rfl rfl ?_ | refine A.lss rfl rfl ?_ | refine A.leq rfl rfl ?_ | refine A.gtr rfl rfl ?_ | refine A.geq rfl rfl ?_ | refine A.eqb rfl rfl rfl rfl ?_ | refine A.neb rfl rfl rfl rfl ?_ | refine A.eqs rfl rfl ?_ | refine A.nes rfl rfl ?_ | refine A.lts rfl rfl ?_ | refine A.gts rfl rfl ?_
    | refine A.not rfl ?_ | refine A.extract rfl rfl ?_ | refine A.add64 rfl rfl rfl (by omega) ?_ | refine A.sub64 rfl rfl rfl (by omega) ?_
    | refine A.call rfl hg (WeakL.refl _) ?_ | refine A.call rfl hcol (WeakL.refl _) ?_ | refine A.call rfl hw1 (WeakL.refl _) ?_ | refine A.call rfl hw2 (WeakL.refl _) ?_ | refine A.add rfl rfl ?_ | refine A.call rfl hw3 (WeakL.refl _) ?_ | refine A.call rfl hint (WeakL.refl _) ?_ | refine A.call rfl hset (WeakL.refl _) ?_ | refine A.call rfl hput (WeakL.refl _) ?_
  all_goals clear hg hcol hw1 hw2 hw3 hint hset hput hsl
  all_goals refine FinR.ret1 rfl ?_
  all_goals unfold addG
  all_goals dsimp only
  all_goals (repeat' split) <;> first | exact weak_res | exact Weak.refl _ | (exfalso; simp_all; done)
end Go.Proofs.YtajddgpkflbnaaaDoor
