/-
  The reference of the layer command: Do.
-/
import Derived.Test.YtajddgpkflbnaaaMRefP
import Derived.Test.YtajddgpkflbnaaaMDo
namespace Go.Proofs.Ytajddgpkflbnaaa
open Go Go.Av
set_option maxRecDepth 100000
set_option maxHeartbeats 16000000
set_option linter.unusedVariables false
set_option linter.unusedSimpArgs false
attribute [local irreducible] HCode AOps PFn AFn Av.Step TStep

theorem refDo (l : List Tbl) (c : Cmd) {B : Nat} (hf : Fine B l) (hB : B + c.args.length + 1 ≤ 1048576) :
    PFn Try.prog 16 [Tbls.enc l, c.enc] (.tup [Tbls.enc (cmdG l c).1, (cmdG l c).2.1.enc, .int .i64 (cmdG l c).2.2]) := by
  refine AFn.plain tup_closed (by simp [AV.closedL, Tbls.closed, Cmd.closed]) (AFn.enterR [.tmp 4, .cell 5 32, .tmp 6] Try.func16 rfl rfl rfl rfl rfl ?_)
  have hf' : Fine 1048576 l := hf.le (by omega)
  have hl2 := hf'.len
  have hk := rKnown c.name
  have hg := rGet sKey c.args (by omega)
  have hg2 := rGet sBy c.args (by omega)
  have hfind := rFind l ⟨c.table, (getG sKey c.args).1.s⟩ (by omega) (fun t ht => by have := hf.rows t ht; omega)
  have hfc := findG_cols hf ⟨c.table, (getG sKey c.args).1.s⟩
  have hcut := rCut l c.table (getG sKey c.args).1.s hf'.len hf'.rows
  have htx := rText (getG sKey c.args).1.s
  obtain ⟨K, hK⟩ : ∃ K, K = (getG sKey c.args).1 := ⟨_, rfl⟩
  obtain ⟨Y, hY⟩ : ∃ Y, Y = (getG sBy c.args).1 := ⟨_, rfl⟩
  obtain ⟨G, hG⟩ : ∃ G, G = findG l ⟨c.table, (getG sKey c.args).1.s⟩ := ⟨_, rfl⟩
  have hcm : cmdG l c = if !knownG c.name then (l, val0, 1)
    else if c.name == sBurn then (l, val0, 11)
    else if K.kind != 4 then (l, val0, 1)
    else if G.e != 0 then (l, val0, G.e)
    else if c.name == sPut then (putG l c.table (putRow c K.s G), textV K.s, 0)
    else if !G.is then (l, val0, 6)
    else if c.name == sCut then (cutG l c.table K.s, textV K.s, 0)
    else addG l c G.row := by rw [hK, hG]; rfl
  have had : ∀ r : Row, addG l c r = if Y.kind != 2 then (l, val0, 1)
    else if (colG r c.col).kind != 2 then (l, val0, 7)
    else if !withinB Y.n || !withinB (colG r c.col).n || !withinB (wrap64 (Y.n + (colG r c.col).n)) then (l, val0, 8)
    else (putG l c.table { r with cols := setG r.cols c.col (intV (wrap64 (Y.n + (colG r c.col).n))) }, intV (wrap64 (Y.n + (colG r c.col).n)), 0) := by intro r; rw [hY]; rfl
  rw [← hG] at hfind hfc
  rw [← hK] at hg hcut htx hfind
  rw [← hY] at hg2
  clear hG hK hY
  obtain ⟨r0, hr0⟩ : ∃ r0 : Row, r0 = if G.is then G.row else ⟨K.s, c.typ, [], false⟩ := ⟨_, rfl⟩
  have hpr : putRow c K.s G = { r0 with cols := putCols c.args r0.cols } := by unfold putRow; rw [hr0]
  have hr0l : r0.cols.length + c.args.length ≤ 1048576 - 1 := by
    rw [hr0]
    split
    · omega
    · simp only [List.length_nil]; omega
  have hput := rPut l c.table { r0 with cols := putCols c.args r0.cols } hf'.len hf'.rows
  rw [hpr] at hcm
  have hcol := rCol r0 c.col (by omega)
  have hw1 := rSmall Y.n
  have hw2 := rSmall (colG r0 c.col).n
  have hw3 := rSmall (wrap64 (Y.n + (colG r0 c.col).n))
  have hint := rInt (wrap64 (Y.n + (colG r0 c.col).n))
  have hset := rSet r0.cols (.mk c.col (intV (wrap64 (Y.n + (colG r0 c.col).n)))) (by omega)
  have hputA := rPut l c.table { r0 with cols := setG r0.cols c.col (intV (wrap64 (Y.n + (colG r0 c.col).n))) } hf'.len hf'.rows
  cases hgi : G.is
  · have hr1 : r0 = ⟨K.s, c.typ, [], false⟩ := by rw [hr0, hgi]; rfl
    rw [hr1] at hput hr0l hcm hcol hw2 hw3 hint hset hputA
    clear hr1 hr0 hpr
    have dg : (!G.is) = true := by rw [hgi]; rfl
    repeat' first
      | refine A.box_r rfl rfl ?_ | refine HCode.turnB 4 2 rfl rfl (Turn.weak (x := .slice [] .nil) (y := .slice [] .no) (Weak.no (WeakL.refl _))) rfl ?_
      | refine HCode.seq ?_ | refine HCode.region rfl ?_ | refine HCode.region_draw Lay.mix rfl ?_ | refine HCode.block ?_ | refine HCode.scope ?_ | refine HCode.skip ?_ | refine HCode.label ?_ | refine HCode.exit ?_ | refine HCode.ret ?_
      | refine HCode.cond_true rfl ?_ | refine HCode.cond_false rfl ?_ | refine HCode.cond_yes rfl (by assumption) ?_ | refine HCode.cond_no rfl (by assumption) ?_ | (refine HCode.cond rfl ?_ ?_ <;> intro hc)
      | refine A.nil_seq ?_ | refine A.nil (fun _ => rfl) ?_ | refine A.dead rfl ?_ | refine A.yes rfl rfl ?_ | refine A.no rfl rfl ?_ | refine A.yes rfl (by assumption) ?_ | refine A.no rfl (by assumption) ?_ | (refine A.guard rfl ?_ ?_ <;> intro hc)
      | refine A.move rfl ?_ | refine A.assign rfl ?_ | refine A.load_b rfl rfl rfl rfl ?_ | refine A.load_r rfl rfl rfl ?_ | refine A.field_b rfl rfl rfl rfl rfl rfl ?_ | refine A.field_r rfl rfl rfl rfl rfl rfl ?_ | refine A.field rfl rfl rfl rfl rfl ?_
      | refine A.index_r rfl rfl rfl rfl rfl rfl (by assumption) rfl ?_ | refine A.len rfl rfl rfl (by first | rw [List.length_map] | rfl) ?_ | refine A.lens rfl rfl rfl rfl ?_
      | refine A.pick_true rfl rfl rfl ?_ | refine A.pick_false rfl rfl rfl ?_ | refine A.pick_true rfl (by assumption) rfl ?_ | refine A.pick_false rfl (by assumption) rfl ?_
      | refine A.box rfl rfl rfl ?_ | refine A.alloc rfl rfl rfl ?_ | refine A.store rfl rfl rfl rfl rfl ?_ | refine A.build rfl rfl rfl rfl ?_ | refine A.buildSlice rfl rfl rfl rfl rfl rfl rfl ?_
      | refine A.eqi rfl rfl ?_ | refine A.nei rfl rfl ?_ | refine A.lss rfl rfl ?_ | refine A.leq rfl rfl ?_ | refine A.gtr rfl rfl ?_ | refine A.geq rfl rfl ?_ | refine A.eqb rfl rfl rfl rfl ?_ | refine A.neb rfl rfl rfl rfl ?_ | refine A.eqs rfl rfl ?_ | refine A.nes rfl rfl ?_ | refine A.lts rfl rfl ?_ | refine A.gts rfl rfl ?_
      | refine A.not rfl ?_ | refine A.extract rfl rfl ?_ | refine A.add64 rfl rfl rfl (by omega) ?_ | refine A.sub64 rfl rfl rfl (by omega) ?_
      | refine A.call rfl hk (WeakL.refl _) ?_ | refine A.call rfl hg (WeakL.refl _) ?_ | refine A.call rfl hg2 (WeakL.refl _) ?_ | refine A.call rfl hfind (WeakL.refl _) ?_ | refine A.call rfl hcut (WeakL.refl _) ?_ | refine A.call rfl htx (WeakL.refl _) ?_
      | refine A.call rfl hcol (WeakL.refl _) ?_ | refine A.call rfl hw1 (WeakL.refl _) ?_ | refine A.call rfl hw2 (WeakL.refl _) ?_ | refine A.add rfl rfl ?_ | refine A.call rfl hw3 (WeakL.refl _) ?_ | refine A.call rfl hint (WeakL.refl _) ?_ | refine A.call rfl hset (WeakL.refl _) ?_ | refine A.call rfl hputA (WeakL.refl _) ?_
    all_goals try (refine FinR.ret1 rfl ?_; clear hk hg hg2 hfind hcut htx hput hcol hw1 hw2 hw3 hint hset hputA; rw [hcm]; (repeat' split) <;> first | exact weak_res | exact Weak.refl _ | (rw [had]; (repeat' split) <;> first | exact weak_res | exact Weak.refl _ | (exfalso; simp_all [sPut, sCut, sBurn]; done)) | (exfalso; simp_all [sPut, sCut, sBurn]; done); done)
    change HCode _ _ _ _ _ _ _
    refine HCode.loop (fun n s σ => ∃ (k : Nat) (cols : List Mem), n = c.args.length - k ∧ k ≤ c.args.length ∧ cols.length + (c.args.length - k) ≤ 1048576 - 1 ∧ putCols c.args (⟨K.s, c.typ, [], false⟩ : Row).cols = putCols (c.args.drop k) cols ∧
      σ = ⟨[.cells zeroV, .cells zeroV, .cells [.int .i64 K.kind, .int .i64 K.n, .str K.s, .slice K.lv .no, .slice K.mv .no], .cells [.str G.row.key, .str G.row.typ, .slice (G.row.cols.map Mem.enc) .no, .bool G.row.broken, .bool G.is, .int .i64 G.e], .cells [.str (⟨K.s, c.typ, [], false⟩ : Row).key, .str (⟨K.s, c.typ, [], false⟩ : Row).typ, .slice (cols.map Mem.enc) .no, .bool (⟨K.s, c.typ, [], false⟩ : Row).broken]], []⟩ ∧
      s = [(12, .int .i64 k), (0, Tbls.enc l), (3, .rptr c.enc), (11, .ptr 4 0), (8, .ptr 2 0), (5, .ptr 0 0)])
      (s0 := [(12, .int .i64 (0 : Nat)), (0, Tbls.enc l), (3, .rptr c.enc), (11, .ptr 4 0), (8, .ptr 2 0), (5, .ptr 0 0)])
      ⟨rfl, rfl, rfl, rfl, rfl, rfl, trivial⟩ ⟨0, (⟨K.s, c.typ, [], false⟩ : Row).cols, rfl, Nat.zero_le _, (by rw [Nat.sub_zero]; exact hr0l), rfl, rfl, rfl⟩ ?_
    rintro n s σ ⟨k, cols, rfl, hk', hcl, hp, rfl, rfl⟩
    clear hk hg hg2 hfind hcut hcol hw1 hw2 hw3 hint hset hputA had
    by_cases h1 : k < c.args.length
    · have d1 : decide ((k : Int) < (c.args.length : Int)) = true := by simp [h1]
      have x1 := map_get' (f := Mem.enc) h1
      have hset := rSet cols c.args[k] (by omega)
      have hsl := setG_len cols c.args[k].name c.args[k].v
      repeat' first
        | refine HCode.seq ?_ | refine HCode.region rfl ?_ | refine HCode.region_draw Lay.mix rfl ?_ | refine HCode.block ?_ | refine HCode.scope ?_ | refine HCode.skip ?_ | refine HCode.label ?_ | refine HCode.exit ?_ | refine HCode.ret ?_
        | refine HCode.cond_true rfl ?_ | refine HCode.cond_false rfl ?_ | refine HCode.cond_yes rfl (by assumption) ?_ | refine HCode.cond_no rfl (by assumption) ?_ | (refine HCode.cond rfl ?_ ?_ <;> intro hc)
        | refine A.nil_seq ?_ | refine A.nil (fun _ => rfl) ?_ | refine A.dead rfl ?_ | refine A.yes rfl rfl ?_ | refine A.no rfl rfl ?_ | refine A.yes rfl (by assumption) ?_ | refine A.no rfl (by assumption) ?_ | (refine A.guard rfl ?_ ?_ <;> intro hc)
        | refine A.move rfl ?_ | refine A.assign rfl ?_ | refine A.load_b rfl rfl rfl rfl ?_ | refine A.load_r rfl rfl rfl ?_ | refine A.field_b rfl rfl rfl rfl rfl rfl ?_ | refine A.field_r rfl rfl rfl rfl rfl rfl ?_ | refine A.field rfl rfl rfl rfl rfl ?_
        | refine A.index_r rfl rfl rfl rfl rfl rfl (by assumption) rfl ?_ | refine A.len rfl rfl rfl (by first | rw [List.length_map] | rfl) ?_ | refine A.lens rfl rfl rfl rfl ?_
        | refine A.pick_true rfl rfl rfl ?_ | refine A.pick_false rfl rfl rfl ?_ | refine A.pick_true rfl (by assumption) rfl ?_ | refine A.pick_false rfl (by assumption) rfl ?_
        | refine A.box rfl rfl rfl ?_ | refine A.alloc rfl rfl rfl ?_ | refine A.store rfl rfl rfl rfl rfl ?_ | refine A.build rfl rfl rfl rfl ?_ | refine A.buildSlice rfl rfl rfl rfl rfl rfl rfl ?_
        | refine A.eqi rfl rfl ?_ | refine A.nei rfl rfl ?_ | refine A.lss rfl rfl ?_ | refine A.leq rfl rfl ?_ | refine A.gtr rfl rfl ?_ | refine A.geq rfl rfl ?_ | refine A.eqb rfl rfl rfl rfl ?_ | refine A.neb rfl rfl rfl rfl ?_ | refine A.eqs rfl rfl ?_ | refine A.nes rfl rfl ?_ | refine A.lts rfl rfl ?_ | refine A.gts rfl rfl ?_
        | refine A.not rfl ?_ | refine A.extract rfl rfl ?_ | refine A.add64 rfl rfl rfl (by omega) ?_ | refine A.sub64 rfl rfl rfl (by omega) ?_
        | refine A.call rfl hset (WeakL.refl _) ?_
      · refine ⟨c.args.length - (k + 1), by omega, [(12, .int .i64 ((k + 1 : Nat) : Int)), (0, Tbls.enc l), (3, .rptr c.enc), (11, .ptr 4 0), (8, .ptr 2 0), (5, .ptr 0 0)],
          ⟨rfl, rfl, rfl, rfl, rfl, rfl, trivial⟩, by simp [belowS, AV.low, AV.lowL, Mem.lowL, Tbl.lowL, Tbls.enc, Cmd.enc], by simp [belowB, belowT, Ob.low, AV.low, AV.lowL, Mem.lowL, zeroV, Val.lv_low, Val.mv_low], k + 1, setG cols c.args[k].name c.args[k].v, rfl, by omega, by omega, ?_, rfl, rfl⟩
        rw [hp, putCols_drop h1, if_pos (by rename_i hc; simpa [sKey] using hc)]
      · refine ⟨c.args.length - (k + 1), by omega, [(12, .int .i64 ((k + 1 : Nat) : Int)), (0, Tbls.enc l), (3, .rptr c.enc), (11, .ptr 4 0), (8, .ptr 2 0), (5, .ptr 0 0)],
          ⟨rfl, rfl, rfl, rfl, rfl, rfl, trivial⟩, by simp [belowS, AV.low, AV.lowL, Mem.lowL, Tbl.lowL, Tbls.enc, Cmd.enc], by simp [belowB, belowT, Ob.low, AV.low, AV.lowL, Mem.lowL, zeroV, Val.lv_low, Val.mv_low], k + 1, cols, rfl, by omega, by omega, ?_, rfl, rfl⟩
        rw [hp, putCols_drop h1, if_neg (by rename_i hc; simpa [sKey] using hc)]
    · have d1 : decide ((k : Int) < (c.args.length : Int)) = false := by simp; omega
      rw [List.drop_eq_nil_of_le (by omega), putCols] at hp
      rw [hp] at hput hcm
      repeat' first
        | refine HCode.seq ?_ | refine HCode.region rfl ?_ | refine HCode.region_draw Lay.mix rfl ?_ | refine HCode.block ?_ | refine HCode.scope ?_ | refine HCode.skip ?_ | refine HCode.label ?_ | refine HCode.exit ?_ | refine HCode.ret ?_
        | refine HCode.cond_true rfl ?_ | refine HCode.cond_false rfl ?_ | refine HCode.cond_yes rfl (by assumption) ?_ | refine HCode.cond_no rfl (by assumption) ?_ | (refine HCode.cond rfl ?_ ?_ <;> intro hc)
        | refine A.nil_seq ?_ | refine A.nil (fun _ => rfl) ?_ | refine A.dead rfl ?_ | refine A.yes rfl rfl ?_ | refine A.no rfl rfl ?_ | refine A.yes rfl (by assumption) ?_ | refine A.no rfl (by assumption) ?_ | (refine A.guard rfl ?_ ?_ <;> intro hc)
        | refine A.move rfl ?_ | refine A.assign rfl ?_ | refine A.load_b rfl rfl rfl rfl ?_ | refine A.load_r rfl rfl rfl ?_ | refine A.field_b rfl rfl rfl rfl rfl rfl ?_ | refine A.field_r rfl rfl rfl rfl rfl rfl ?_ | refine A.field rfl rfl rfl rfl rfl ?_
        | refine A.index_r rfl rfl rfl rfl rfl rfl (by assumption) rfl ?_ | refine A.len rfl rfl rfl (by first | rw [List.length_map] | rfl) ?_ | refine A.lens rfl rfl rfl rfl ?_
        | refine A.pick_true rfl rfl rfl ?_ | refine A.pick_false rfl rfl rfl ?_ | refine A.pick_true rfl (by assumption) rfl ?_ | refine A.pick_false rfl (by assumption) rfl ?_
        | refine A.box rfl rfl rfl ?_ | refine A.alloc rfl rfl rfl ?_ | refine A.store rfl rfl rfl rfl rfl ?_ | refine A.build rfl rfl rfl rfl ?_ | refine A.buildSlice rfl rfl rfl rfl rfl rfl rfl ?_
        | refine A.eqi rfl rfl ?_ | refine A.nei rfl rfl ?_ | refine A.lss rfl rfl ?_ | refine A.leq rfl rfl ?_ | refine A.gtr rfl rfl ?_ | refine A.geq rfl rfl ?_ | refine A.eqb rfl rfl rfl rfl ?_ | refine A.neb rfl rfl rfl rfl ?_ | refine A.eqs rfl rfl ?_ | refine A.nes rfl rfl ?_ | refine A.lts rfl rfl ?_ | refine A.gts rfl rfl ?_
        | refine A.not rfl ?_ | refine A.extract rfl rfl ?_ | refine A.add64 rfl rfl rfl (by omega) ?_ | refine A.sub64 rfl rfl rfl (by omega) ?_
        | refine A.call rfl hput (WeakL.refl _) ?_ | refine A.call rfl htx (WeakL.refl _) ?_
      refine FinR.ret1 rfl ?_
      clear hput htx
      rw [hcm]
      (repeat' split) <;> first | exact Weak.refl _ | (exfalso; simp_all [sPut, sCut, sBurn]; done)
  · have hr1 : r0 = G.row := by rw [hr0, hgi]; rfl
    rw [hr1] at hput hr0l hcm hcol hw2 hw3 hint hset hputA
    clear hr1 hr0 hpr
    have dg : (!G.is) = false := by rw [hgi]; rfl
    repeat' first
      | refine A.box_r rfl rfl ?_ | refine HCode.turnB 4 2 rfl rfl (Turn.weak (x := .slice [] .nil) (y := .slice [] .no) (Weak.no (WeakL.refl _))) rfl ?_
      | refine HCode.seq ?_ | refine HCode.region rfl ?_ | refine HCode.region_draw Lay.mix rfl ?_ | refine HCode.block ?_ | refine HCode.scope ?_ | refine HCode.skip ?_ | refine HCode.label ?_ | refine HCode.exit ?_ | refine HCode.ret ?_
      | refine HCode.cond_true rfl ?_ | refine HCode.cond_false rfl ?_ | refine HCode.cond_yes rfl (by assumption) ?_ | refine HCode.cond_no rfl (by assumption) ?_ | (refine HCode.cond rfl ?_ ?_ <;> intro hc)
      | refine A.nil_seq ?_ | refine A.nil (fun _ => rfl) ?_ | refine A.dead rfl ?_ | refine A.yes rfl rfl ?_ | refine A.no rfl rfl ?_ | refine A.yes rfl (by assumption) ?_ | refine A.no rfl (by assumption) ?_ | (refine A.guard rfl ?_ ?_ <;> intro hc)
      | refine A.move rfl ?_ | refine A.assign rfl ?_ | refine A.load_b rfl rfl rfl rfl ?_ | refine A.load_r rfl rfl rfl ?_ | refine A.field_b rfl rfl rfl rfl rfl rfl ?_ | refine A.field_r rfl rfl rfl rfl rfl rfl ?_ | refine A.field rfl rfl rfl rfl rfl ?_
      | refine A.index_r rfl rfl rfl rfl rfl rfl (by assumption) rfl ?_ | refine A.len rfl rfl rfl (by first | rw [List.length_map] | rfl) ?_ | refine A.lens rfl rfl rfl rfl ?_
      | refine A.pick_true rfl rfl rfl ?_ | refine A.pick_false rfl rfl rfl ?_ | refine A.pick_true rfl (by assumption) rfl ?_ | refine A.pick_false rfl (by assumption) rfl ?_
      | refine A.box rfl rfl rfl ?_ | refine A.alloc rfl rfl rfl ?_ | refine A.store rfl rfl rfl rfl rfl ?_ | refine A.build rfl rfl rfl rfl ?_ | refine A.buildSlice rfl rfl rfl rfl rfl rfl rfl ?_
      | refine A.eqi rfl rfl ?_ | refine A.nei rfl rfl ?_ | refine A.lss rfl rfl ?_ | refine A.leq rfl rfl ?_ | refine A.gtr rfl rfl ?_ | refine A.geq rfl rfl ?_ | refine A.eqb rfl rfl rfl rfl ?_ | refine A.neb rfl rfl rfl rfl ?_ | refine A.eqs rfl rfl ?_ | refine A.nes rfl rfl ?_ | refine A.lts rfl rfl ?_ | refine A.gts rfl rfl ?_
      | refine A.not rfl ?_ | refine A.extract rfl rfl ?_ | refine A.add64 rfl rfl rfl (by omega) ?_ | refine A.sub64 rfl rfl rfl (by omega) ?_
      | refine A.call rfl hk (WeakL.refl _) ?_ | refine A.call rfl hg (WeakL.refl _) ?_ | refine A.call rfl hg2 (WeakL.refl _) ?_ | refine A.call rfl hfind (WeakL.refl _) ?_ | refine A.call rfl hcut (WeakL.refl _) ?_ | refine A.call rfl htx (WeakL.refl _) ?_
      | refine A.call rfl hcol (WeakL.refl _) ?_ | refine A.call rfl hw1 (WeakL.refl _) ?_ | refine A.call rfl hw2 (WeakL.refl _) ?_ | refine A.add rfl rfl ?_ | refine A.call rfl hw3 (WeakL.refl _) ?_ | refine A.call rfl hint (WeakL.refl _) ?_ | refine A.call rfl hset (WeakL.refl _) ?_ | refine A.call rfl hputA (WeakL.refl _) ?_
    all_goals try (refine FinR.ret1 rfl ?_; clear hk hg hg2 hfind hcut htx hput hcol hw1 hw2 hw3 hint hset hputA; rw [hcm]; (repeat' split) <;> first | exact weak_res | exact Weak.refl _ | (rw [had]; (repeat' split) <;> first | exact weak_res | exact Weak.refl _ | (exfalso; simp_all [sPut, sCut, sBurn]; done)) | (exfalso; simp_all [sPut, sCut, sBurn]; done); done)
    change HCode _ _ _ _ _ _ _
    refine HCode.loop (fun n s σ => ∃ (k : Nat) (cols : List Mem), n = c.args.length - k ∧ k ≤ c.args.length ∧ cols.length + (c.args.length - k) ≤ 1048576 - 1 ∧ putCols c.args (G.row : Row).cols = putCols (c.args.drop k) cols ∧
      σ = ⟨[.cells zeroV, .cells zeroV, .cells [.int .i64 K.kind, .int .i64 K.n, .str K.s, .slice K.lv .no, .slice K.mv .no], .cells [.str G.row.key, .str G.row.typ, .slice (G.row.cols.map Mem.enc) .no, .bool G.row.broken, .bool G.is, .int .i64 G.e], .cells [.str (G.row : Row).key, .str (G.row : Row).typ, .slice (cols.map Mem.enc) .no, .bool (G.row : Row).broken]], []⟩ ∧
      s = [(12, .int .i64 k), (0, Tbls.enc l), (3, .rptr c.enc), (11, .ptr 4 0), (8, .ptr 2 0), (5, .ptr 0 0)])
      (s0 := [(12, .int .i64 (0 : Nat)), (0, Tbls.enc l), (3, .rptr c.enc), (11, .ptr 4 0), (8, .ptr 2 0), (5, .ptr 0 0)])
      ⟨rfl, rfl, rfl, rfl, rfl, rfl, trivial⟩ ⟨0, (G.row : Row).cols, rfl, Nat.zero_le _, (by rw [Nat.sub_zero]; exact hr0l), rfl, rfl, rfl⟩ ?_
    rintro n s σ ⟨k, cols, rfl, hk', hcl, hp, rfl, rfl⟩
    clear hk hg hg2 hfind hcut hcol hw1 hw2 hw3 hint hset hputA had
    by_cases h1 : k < c.args.length
    · have d1 : decide ((k : Int) < (c.args.length : Int)) = true := by simp [h1]
      have x1 := map_get' (f := Mem.enc) h1
      have hset := rSet cols c.args[k] (by omega)
      have hsl := setG_len cols c.args[k].name c.args[k].v
      repeat' first
        | refine HCode.seq ?_ | refine HCode.region rfl ?_ | refine HCode.region_draw Lay.mix rfl ?_ | refine HCode.block ?_ | refine HCode.scope ?_ | refine HCode.skip ?_ | refine HCode.label ?_ | refine HCode.exit ?_ | refine HCode.ret ?_
        | refine HCode.cond_true rfl ?_ | refine HCode.cond_false rfl ?_ | refine HCode.cond_yes rfl (by assumption) ?_ | refine HCode.cond_no rfl (by assumption) ?_ | (refine HCode.cond rfl ?_ ?_ <;> intro hc)
        | refine A.nil_seq ?_ | refine A.nil (fun _ => rfl) ?_ | refine A.dead rfl ?_ | refine A.yes rfl rfl ?_ | refine A.no rfl rfl ?_ | refine A.yes rfl (by assumption) ?_ | refine A.no rfl (by assumption) ?_ | (refine A.guard rfl ?_ ?_ <;> intro hc)
        | refine A.move rfl ?_ | refine A.assign rfl ?_ | refine A.load_b rfl rfl rfl rfl ?_ | refine A.load_r rfl rfl rfl ?_ | refine A.field_b rfl rfl rfl rfl rfl rfl ?_ | refine A.field_r rfl rfl rfl rfl rfl rfl ?_ | refine A.field rfl rfl rfl rfl rfl ?_
        | refine A.index_r rfl rfl rfl rfl rfl rfl (by assumption) rfl ?_ | refine A.len rfl rfl rfl (by first | rw [List.length_map] | rfl) ?_ | refine A.lens rfl rfl rfl rfl ?_
        | refine A.pick_true rfl rfl rfl ?_ | refine A.pick_false rfl rfl rfl ?_ | refine A.pick_true rfl (by assumption) rfl ?_ | refine A.pick_false rfl (by assumption) rfl ?_
        | refine A.box rfl rfl rfl ?_ | refine A.alloc rfl rfl rfl ?_ | refine A.store rfl rfl rfl rfl rfl ?_ | refine A.build rfl rfl rfl rfl ?_ | refine A.buildSlice rfl rfl rfl rfl rfl rfl rfl ?_
        | refine A.eqi rfl rfl ?_ | refine A.nei rfl rfl ?_ | refine A.lss rfl rfl ?_ | refine A.leq rfl rfl ?_ | refine A.gtr rfl rfl ?_ | refine A.geq rfl rfl ?_ | refine A.eqb rfl rfl rfl rfl ?_ | refine A.neb rfl rfl rfl rfl ?_ | refine A.eqs rfl rfl ?_ | refine A.nes rfl rfl ?_ | refine A.lts rfl rfl ?_ | refine A.gts rfl rfl ?_
        | refine A.not rfl ?_ | refine A.extract rfl rfl ?_ | refine A.add64 rfl rfl rfl (by omega) ?_ | refine A.sub64 rfl rfl rfl (by omega) ?_
        | refine A.call rfl hset (WeakL.refl _) ?_
      · refine ⟨c.args.length - (k + 1), by omega, [(12, .int .i64 ((k + 1 : Nat) : Int)), (0, Tbls.enc l), (3, .rptr c.enc), (11, .ptr 4 0), (8, .ptr 2 0), (5, .ptr 0 0)],
          ⟨rfl, rfl, rfl, rfl, rfl, rfl, trivial⟩, by simp [belowS, AV.low, AV.lowL, Mem.lowL, Tbl.lowL, Tbls.enc, Cmd.enc], by simp [belowB, belowT, Ob.low, AV.low, AV.lowL, Mem.lowL, zeroV, Val.lv_low, Val.mv_low], k + 1, setG cols c.args[k].name c.args[k].v, rfl, by omega, by omega, ?_, rfl, rfl⟩
        rw [hp, putCols_drop h1, if_pos (by rename_i hc; simpa [sKey] using hc)]
      · refine ⟨c.args.length - (k + 1), by omega, [(12, .int .i64 ((k + 1 : Nat) : Int)), (0, Tbls.enc l), (3, .rptr c.enc), (11, .ptr 4 0), (8, .ptr 2 0), (5, .ptr 0 0)],
          ⟨rfl, rfl, rfl, rfl, rfl, rfl, trivial⟩, by simp [belowS, AV.low, AV.lowL, Mem.lowL, Tbl.lowL, Tbls.enc, Cmd.enc], by simp [belowB, belowT, Ob.low, AV.low, AV.lowL, Mem.lowL, zeroV, Val.lv_low, Val.mv_low], k + 1, cols, rfl, by omega, by omega, ?_, rfl, rfl⟩
        rw [hp, putCols_drop h1, if_neg (by rename_i hc; simpa [sKey] using hc)]
    · have d1 : decide ((k : Int) < (c.args.length : Int)) = false := by simp; omega
      rw [List.drop_eq_nil_of_le (by omega), putCols] at hp
      rw [hp] at hput hcm
      repeat' first
        | refine HCode.seq ?_ | refine HCode.region rfl ?_ | refine HCode.region_draw Lay.mix rfl ?_ | refine HCode.block ?_ | refine HCode.scope ?_ | refine HCode.skip ?_ | refine HCode.label ?_ | refine HCode.exit ?_ | refine HCode.ret ?_
        | refine HCode.cond_true rfl ?_ | refine HCode.cond_false rfl ?_ | refine HCode.cond_yes rfl (by assumption) ?_ | refine HCode.cond_no rfl (by assumption) ?_ | (refine HCode.cond rfl ?_ ?_ <;> intro hc)
        | refine A.nil_seq ?_ | refine A.nil (fun _ => rfl) ?_ | refine A.dead rfl ?_ | refine A.yes rfl rfl ?_ | refine A.no rfl rfl ?_ | refine A.yes rfl (by assumption) ?_ | refine A.no rfl (by assumption) ?_ | (refine A.guard rfl ?_ ?_ <;> intro hc)
        | refine A.move rfl ?_ | refine A.assign rfl ?_ | refine A.load_b rfl rfl rfl rfl ?_ | refine A.load_r rfl rfl rfl ?_ | refine A.field_b rfl rfl rfl rfl rfl rfl ?_ | refine A.field_r rfl rfl rfl rfl rfl rfl ?_ | refine A.field rfl rfl rfl rfl rfl ?_
        | refine A.index_r rfl rfl rfl rfl rfl rfl (by assumption) rfl ?_ | refine A.len rfl rfl rfl (by first | rw [List.length_map] | rfl) ?_ | refine A.lens rfl rfl rfl rfl ?_
        | refine A.pick_true rfl rfl rfl ?_ | refine A.pick_false rfl rfl rfl ?_ | refine A.pick_true rfl (by assumption) rfl ?_ | refine A.pick_false rfl (by assumption) rfl ?_
        | refine A.box rfl rfl rfl ?_ | refine A.alloc rfl rfl rfl ?_ | refine A.store rfl rfl rfl rfl rfl ?_ | refine A.build rfl rfl rfl rfl ?_ | refine A.buildSlice rfl rfl rfl rfl rfl rfl rfl ?_
        | refine A.eqi rfl rfl ?_ | refine A.nei rfl rfl ?_ | refine A.lss rfl rfl ?_ | refine A.leq rfl rfl ?_ | refine A.gtr rfl rfl ?_ | refine A.geq rfl rfl ?_ | refine A.eqb rfl rfl rfl rfl ?_ | refine A.neb rfl rfl rfl rfl ?_ | refine A.eqs rfl rfl ?_ | refine A.nes rfl rfl ?_ | refine A.lts rfl rfl ?_ | refine A.gts rfl rfl ?_
        | refine A.not rfl ?_ | refine A.extract rfl rfl ?_ | refine A.add64 rfl rfl rfl (by omega) ?_ | refine A.sub64 rfl rfl rfl (by omega) ?_
        | refine A.call rfl hput (WeakL.refl _) ?_ | refine A.call rfl htx (WeakL.refl _) ?_
      refine FinR.ret1 rfl ?_
      clear hput htx
      rw [hcm]
      (repeat' split) <;> first | exact Weak.refl _ | (exfalso; simp_all [sPut, sCut, sBurn]; done)
end Go.Proofs.Ytajddgpkflbnaaa
