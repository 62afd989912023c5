/-
  The package command: do, Do.
-/
import Derived.Test.YtajddgpkflbnaaaDoorMAdd
namespace Go.Proofs.YtajddgpkflbnaaaDoor
open Go Go.Av
set_option maxRecDepth 100000
set_option maxHeartbeats 8000000
set_option linter.unusedVariables false
set_option linter.unusedSimpArgs false
attribute [local irreducible] HCode AOps PFn AFn Av.Step TStep

def cmdG (l : List Tbl) (c : Cmd) : List Tbl × Val × Int :=
  if !knownG c.name then (l, val0, 1)
  else if c.name == sBurn then (l, val0, 11)
  else if (getG sKey c.args).1.kind != 4 then (l, val0, 1)
  else if (findG l ⟨c.table, (getG sKey c.args).1.s⟩).e != 0 then (l, val0, (findG l ⟨c.table, (getG sKey c.args).1.s⟩).e)
  else if c.name == sPut then (putG l c.table (putRow c (getG sKey c.args).1.s (findG l ⟨c.table, (getG sKey c.args).1.s⟩)), textV (getG sKey c.args).1.s, 0)
  else if !(findG l ⟨c.table, (getG sKey c.args).1.s⟩).is then (l, val0, 6)
  else if c.name == sCut then (cutG l c.table (getG sKey c.args).1.s, textV (getG sKey c.args).1.s, 0)
  else addG l c (findG l ⟨c.table, (getG sKey c.args).1.s⟩).row
theorem addG_err (l : List Tbl) (c : Cmd) (r : Row) (h : (addG l c r).2.2 ≠ 0) : (addG l c r).1 = l := by
  unfold addG at h ⊢
  dsimp only at h ⊢
  (repeat' split) <;> simp_all
theorem cmdG_err (l : List Tbl) (c : Cmd) (h : (cmdG l c).2.2 ≠ 0) : (cmdG l c).1 = l := by
  have ha := addG_err l c (findG l ⟨c.table, (getG sKey c.args).1.s⟩).row
  unfold cmdG at h ⊢
  (repeat' split) <;> simp_all
theorem findG_cols {B : Nat} {l : List Tbl} (hf : Fine B l) (n : Need) : (findG l n).row.cols.length ≤ B := by
  unfold findG
  split
  · simp [gotNone, noRow]
  · rename_i t ht
    split
    · simp [gotNone, noRow]
    · rename_i r hr
      unfold gotOf
      split
      · simp [noRow]
      · exact hf.cols t (List.mem_of_find?_eq_some ht) r (List.mem_of_find?_eq_some hr)
theorem Fine.le {B B' : Nat} {l : List Tbl} (hf : Fine B l) (h : B ≤ B') : Fine B' l := ⟨Nat.le_trans hf.len h, fun t ht => Nat.le_trans (hf.rows t ht) h, fun t ht r hr => Nat.le_trans (hf.cols t ht r hr) h⟩

theorem doBurn (l : List Tbl) (c : Cmd) (hb : c.name = sBurn) : PPan Tryd.prog 73 [Tbls.enc l, c.enc] (.iface 133 (.agg [])) := by
  refine AFn.plainPan rfl (by simp [AV.closedL, Tbls.closed, Cmd.closed]) (AFn.enterR [.tmp 4, .cell 5 28, .tmp 6] Tryd.func73 rfl rfl rfl rfl rfl ?_)
  have hk := known c.name
  have e1 : knownG c.name = true := by rw [hb]; rfl
  have e2 : (c.name == [98, 117, 114, 110]) = true := by rw [hb]; rfl
  have e3 : (!knownG c.name) = false := by rw [e1]; rfl
  repeat' first
    | refine A.box_r rfl rfl ?_
    | refine HCode.seq ?_ | refine HCode.region rfl ?_ | refine HCode.region_draw Lay.mix rfl ?_ | refine HCode.block ?_ | refine HCode.scope ?_ | refine HCode.skip ?_ | refine HCode.label ?_ | refine HCode.exit ?_ | refine HCode.ret ?_
    | refine HCode.cond_true rfl ?_ | refine HCode.cond_false rfl ?_ | refine HCode.cond_yes rfl (by assumption) ?_ | refine HCode.cond_no rfl (by assumption) ?_ | (refine HCode.cond rfl ?_ ?_ <;> intro hc)
    | refine A.nil_seq ?_ | refine A.nil (fun _ => rfl) ?_ | refine A.dead rfl ?_ | refine A.yes rfl rfl ?_ | refine A.no rfl rfl ?_ | refine A.yes rfl (by assumption) ?_ | refine A.no rfl (by assumption) ?_ | (refine A.guard rfl ?_ ?_ <;> intro hc)
    | refine A.move rfl ?_ | refine A.assign rfl ?_ | refine A.load_b rfl rfl rfl rfl ?_ | refine A.load_r rfl rfl rfl ?_ | refine A.field_b rfl rfl rfl rfl rfl rfl ?_ | refine A.field_r rfl rfl rfl rfl rfl rfl ?_ | refine A.field rfl rfl rfl rfl rfl ?_
    | refine A.index_r rfl rfl rfl rfl rfl rfl (by assumption) rfl ?_ | refine A.len rfl rfl rfl (by first | rw [List.length_map] | rfl) ?_ | refine A.lens rfl rfl rfl rfl ?_
    | refine A.pick_true rfl rfl rfl ?_ | refine A.pick_false rfl rfl rfl ?_ | refine A.pick_true rfl (by assumption) rfl ?_ | refine A.pick_false rfl (by assumption) rfl ?_
    | refine A.box rfl rfl rfl ?_ | refine A.alloc rfl rfl rfl ?_ | refine A.store rfl rfl rfl rfl rfl ?_ | refine A.build rfl rfl rfl rfl ?_ | refine A.buildSlice rfl rfl rfl rfl rfl rfl rfl ?_
    | refine A.eqi rfl rfl ?_ | refine A.nei rfl rfl ?_ | refine A.lss rfl rfl ?_ | refine A.leq rfl rfl ?_ | refine A.gtr rfl rfl ?_ | refine A.geq rfl rfl ?_ | refine A.eqb rfl rfl rfl rfl ?_ | refine A.neb rfl rfl rfl rfl ?_ | refine A.eqs rfl rfl ?_ | refine A.nes rfl rfl ?_ | refine A.lts rfl rfl ?_ | refine A.gts rfl rfl ?_
    | refine A.not rfl ?_ | refine A.extract rfl rfl ?_ | refine A.add64 rfl rfl rfl (by omega) ?_ | refine A.sub64 rfl rfl rfl (by omega) ?_
    | refine A.call rfl hk (WeakL.refl _) ?_ | refine A.makeIface rfl (by decide) rfl ?_ | refine A.panic rfl ?_
  all_goals rfl

theorem doF (l : List Tbl) (c : Cmd) (hb : (c.name == sBurn) = false) {B : Nat} (hf : Fine B l) (hB : B + c.args.length + 1 ≤ 1048576) :
    PFn Tryd.prog 73 [Tbls.enc l, c.enc] (.tup [Tbls.enc (cmdG l c).1, (cmdG l c).2.1.enc, .int .i64 (cmdG l c).2.2]) := by
  refine AFn.plain tup_closed (by simp [AV.closedL, Tbls.closed, Cmd.closed]) (AFn.enterR [.tmp 4, .cell 5 28, .tmp 6] Tryd.func73 rfl rfl rfl rfl rfl ?_)
  have hf' : Fine 1048576 l := hf.le (by omega)
  have hk := known c.name
  have hg := get sKey c.args (by omega)
  have hfind := find l ⟨c.table, (getG sKey c.args).1.s⟩ (by have := hf.len; omega) (fun t ht => by have := hf.rows t ht; omega) hf'.cols
  have hfc := findG_cols hf ⟨c.table, (getG sKey c.args).1.s⟩
  have hput := putF l c (getG sKey c.args).1.s (findG l ⟨c.table, (getG sKey c.args).1.s⟩) hf' (by omega)
  have hcut := cut l c.table (getG sKey c.args).1.s hf'.len hf'.rows hf'.cols
  have hadd := addF l c (findG l ⟨c.table, (getG sKey c.args).1.s⟩).row hf' (by omega) (by omega)
  have htx := text (getG sKey c.args).1.s
  have eb : (c.name == [98, 117, 114, 110]) = false := hb
  repeat' first
    | refine A.box_r rfl rfl ?_
    | refine HCode.seq ?_ | refine HCode.region rfl ?_ | refine HCode.region_draw Lay.mix rfl ?_ | refine HCode.block ?_ | refine HCode.scope ?_ | refine HCode.skip ?_ | refine HCode.label ?_ | refine HCode.exit ?_ | refine HCode.ret ?_
    | refine HCode.cond_true rfl ?_ | refine HCode.cond_false rfl ?_ | refine HCode.cond_yes rfl (by assumption) ?_ | refine HCode.cond_no rfl (by assumption) ?_ | (refine HCode.cond rfl ?_ ?_ <;> intro hc)
    | refine A.nil_seq ?_ | refine A.nil (fun _ => rfl) ?_ | refine A.dead rfl ?_ | refine A.yes rfl rfl ?_ | refine A.no rfl rfl ?_ | refine A.yes rfl (by assumption) ?_ | refine A.no rfl (by assumption) ?_ | (refine A.guard rfl ?_ ?_ <;> intro hc)
    | refine A.move rfl ?_ | refine A.assign rfl ?_ | refine A.load_b rfl rfl rfl rfl ?_ | refine A.load_r rfl rfl rfl ?_ | refine A.field_b rfl rfl rfl rfl rfl rfl ?_ | refine A.field_r rfl rfl rfl rfl rfl rfl ?_ | refine A.field rfl rfl rfl rfl rfl ?_
    | refine A.index_r rfl rfl rfl rfl rfl rfl (by assumption) rfl ?_ | refine A.len rfl rfl rfl (by first | rw [List.length_map] | rfl) ?_ | refine A.lens rfl rfl rfl rfl ?_
    | refine A.pick_true rfl rfl rfl ?_ | refine A.pick_false rfl rfl rfl ?_ | refine A.pick_true rfl (by assumption) rfl ?_ | refine A.pick_false rfl (by assumption) rfl ?_
    | refine A.box rfl rfl rfl ?_ | refine A.alloc rfl rfl rfl ?_ | refine A.store rfl rfl rfl rfl rfl ?_ | refine A.build rfl rfl rfl rfl ?_ | refine A.buildSlice rfl rfl rfl rfl rfl rfl rfl ?_
    | refine A.eqi rfl rfl ?_ | refine A.nei rfl rfl ?_ | refine A.lss rfl rfl ?_ | refine A.leq rfl rfl ?_ | refine A.gtr rfl rfl ?_ | refine A.geq rfl rfl ?_ | refine A.eqb rfl rfl rfl rfl ?_ | refine A.neb rfl rfl rfl rfl ?_ | refine A.eqs rfl rfl ?_ | refine A.nes rfl rfl ?_ | refine A.lts rfl rfl ?_ | refine A.gts rfl rfl ?_
    | refine A.not rfl ?_ | refine A.extract rfl rfl ?_ | refine A.add64 rfl rfl rfl (by omega) ?_ | refine A.sub64 rfl rfl rfl (by omega) ?_
    | refine A.call rfl hk (WeakL.refl _) ?_ | refine A.call rfl hg (WeakL.refl _) ?_ | refine A.call rfl hfind (WeakL.refl _) ?_ | refine A.call rfl hput (WeakL.refl _) ?_ | refine A.call rfl hcut (WeakL.refl _) ?_ | refine A.call rfl hadd (WeakL.refl _) ?_ | refine A.call rfl htx (WeakL.refl _) ?_
  all_goals first | refine FinR.ret1 rfl ?_ | trace_state
  all_goals unfold cmdG
  all_goals (repeat' split) <;> first | exact weak_res | exact Weak.refl _ | (exfalso; simp_all [sPut, sCut, sBurn]; done)

end Go.Proofs.YtajddgpkflbnaaaDoor
