/-
  The reference of the layer table: Put, Cut.
-/
import Derived.Test.YtajddgpkflbnaaaDoorMRef
namespace Go.Proofs.YtajddgpkflbnaaaDoor
open Go Go.Av
set_option maxRecDepth 100000
set_option maxHeartbeats 8000000
set_option linter.unusedVariables false
set_option linter.unusedSimpArgs false
attribute [local irreducible] HCode AOps PFn AFn Av.Step TStep

theorem WeakL.setR {x y : AV} (h : Weak x y) : ∀ {xs : List AV} (i : Nat), WeakL (xs.set i x) (xs.set i y)
  | [], i => WeakL.refl _
  | z :: xs, 0 => WeakL.cons h (WeakL.refl _)
  | z :: xs, i + 1 => WeakL.cons (Weak.refl _) (WeakL.setR h i)
theorem rPut (l : List Tbl) (name : Str) (r : Row) (hl : l.length ≤ 1048576) (hr : ∀ t ∈ l, t.rows.length ≤ 1048576) :
    PFn Tryd.prog 26 [Tbls.enc l, .str name, r.enc] (Tbls.enc (putG l name r)) := by
  refine AFn.plainT (Tbls.closed _) (by simp [AV.closedL, Tbls.closed, AV.closed, Row.closed]) (AFn.enter [6] Tryd.func26 rfl rfl rfl rfl rfl (by decide) ?_)
  have hp := rTable l name (by omega)
  have hml : (l.map Tbl.enc).length = l.length := by simp
  rcases fidx_spec (fun t : Tbl => t.name == name) l 0 with ⟨h1, h2⟩ | ⟨i, hi, h1, h2, h0⟩
  · rw [h1] at hp
    repeat' first
      | refine A.box_r rfl rfl ?_
      | refine HCode.seq ?_ | refine HCode.region rfl ?_ | refine HCode.region_draw Lay.mix rfl ?_ | refine HCode.block ?_ | refine HCode.scope ?_ | refine HCode.skip ?_ | refine HCode.label ?_ | refine HCode.exit ?_ | refine HCode.ret ?_
      | refine HCode.cond_true rfl ?_ | refine HCode.cond_false rfl ?_ | refine HCode.cond_yes rfl (by assumption) ?_ | refine HCode.cond_no rfl (by assumption) ?_ | (refine HCode.cond rfl ?_ ?_ <;> intro hc)
      | refine A.nil_seq ?_ | refine A.nil (fun _ => rfl) ?_ | refine A.dead rfl ?_ | refine A.yes rfl rfl ?_ | refine A.no rfl rfl ?_ | refine A.yes rfl (by assumption) ?_ | refine A.no rfl (by assumption) ?_ | (refine A.guard rfl ?_ ?_ <;> intro hc)
      | refine A.move rfl ?_ | refine A.assign rfl ?_ | refine A.load_b rfl rfl rfl rfl ?_ | refine A.load_r rfl rfl rfl ?_ | refine A.field_b rfl rfl rfl rfl rfl rfl ?_ | refine A.field_r rfl rfl rfl rfl rfl rfl ?_ | refine A.field rfl rfl rfl rfl rfl ?_
      | refine A.index_r rfl rfl rfl rfl rfl rfl (by assumption) rfl ?_ | refine A.len rfl rfl rfl (by first | rw [List.length_map] | rfl) ?_ | refine A.lens rfl rfl rfl rfl ?_
      | refine A.pick_true rfl rfl rfl ?_ | refine A.pick_false rfl rfl rfl ?_ | refine A.pick_true rfl (by assumption) rfl ?_ | refine A.pick_false rfl (by assumption) rfl ?_
      | refine A.box rfl rfl rfl ?_ | refine A.alloc rfl rfl rfl ?_ | refine A.store rfl rfl rfl rfl rfl ?_ | refine A.build rfl rfl rfl rfl ?_ | refine A.buildSlice rfl rfl rfl rfl rfl rfl rfl ?_
      | refine A.eqi rfl rfl ?_ | refine A.nei rfl rfl ?_ | refine A.lss rfl rfl ?_ | refine A.leq rfl rfl ?_ | refine A.gtr rfl rfl ?_ | refine A.geq rfl rfl ?_ | refine A.eqb rfl rfl rfl rfl ?_ | refine A.neb rfl rfl rfl rfl ?_ | refine A.eqs rfl rfl ?_ | refine A.nes rfl rfl ?_ | refine A.lts rfl rfl ?_ | refine A.gts rfl rfl ?_
      | refine A.not rfl ?_ | refine A.extract rfl rfl ?_ | refine A.add64 rfl rfl rfl (by omega) ?_ | refine A.sub64 rfl rfl rfl (by omega) ?_
      | refine A.vappend_new (m := l.length) rfl rfl rfl rfl rfl rfl rfl rfl (Tbl.fitsAll l) hml (by dsimp only; omega) (by omega) rfl ?_ | refine A.call rfl hp (WeakL.refl _) ?_ | refine A.vappend (m := l.length + 1) rfl rfl rfl rfl rfl rfl rfl rfl hml rfl rfl (by dsimp only; omega) (by omega) rfl ?_
    refine ⟨_, _, rfl, (Turn.freeze rfl (by simp) rfl).trans (Turn.weak (Weak.no ?_))⟩
    have e : putG l name r = l ++ [⟨name, [r]⟩] := by unfold putG; rw [h2]
    rw [e, List.drop_zero, List.take_of_length_le (by simp), List.map_append]
    exact WeakL.app (WeakL.refl _) Weak.row1
  · rw [h1] at hp
    simp only [Nat.zero_add] at hp
    have x1 := map_get' (f := Tbl.enc) hi
    have hlt0 : i < l.length - 0 := hi
    have d0 : decide ((i : Int) < 0) = false := by simp
    have hri := hr _ (List.getElem_mem hi)
    have hq := rRow l[i].rows r.key (by omega)
    have hrl : (l[i].rows.map Row.enc).length = l[i].rows.length := by simp
    have e : putG l name r = l.set i ⟨l[i].name, putRows l[i].rows r⟩ := by unfold putG; rw [h2]; exact modAt_eq hi _
    have hlook : LookL ⟨[], [.vec (l.map Tbl.enc), .vec (l[i].rows.map Row.enc)]⟩ [.vec 1 4 l[i].rows.length 0 l[i].rows.length, .str r.key] [.slice (l[i].rows.map Row.enc) .no, .str r.key] :=
      LookL.cons (Look.weak (Weak.refl _) (by
        have h := Look.vec (σ := ⟨[], [.vec (l.map Tbl.enc), .vec (l[i].rows.map Row.enc)]⟩) (k := 1) (z := 4) (lo := 0) (hi := l[i].rows.length) rfl hrl (LookL.closed (Row.closedL _))
        rwa [List.drop_zero, List.take_of_length_le (by omega)] at h)) (LookL.cons (Look.closed rfl) LookL.nil)
    rcases fidx_spec (fun x : Row => x.key == r.key) l[i].rows 0 with ⟨h3, h4⟩ | ⟨k, hk, h3, h4, h5⟩
    · rw [h3] at hq
      have hpr : putRows l[i].rows r = l[i].rows ++ [r] := by unfold putRows; rw [h4]
      repeat' first
        | refine A.box_r rfl rfl ?_
        | refine HCode.seq ?_ | refine HCode.region rfl ?_ | refine HCode.region_draw Lay.mix rfl ?_ | refine HCode.block ?_ | refine HCode.scope ?_ | refine HCode.skip ?_ | refine HCode.label ?_ | refine HCode.exit ?_ | refine HCode.ret ?_
        | refine HCode.cond_true rfl ?_ | refine HCode.cond_false rfl ?_ | refine HCode.cond_yes rfl (by assumption) ?_ | refine HCode.cond_no rfl (by assumption) ?_ | (refine HCode.cond rfl ?_ ?_ <;> intro hc)
        | refine A.nil_seq ?_ | refine A.nil (fun _ => rfl) ?_ | refine A.dead rfl ?_ | refine A.yes rfl rfl ?_ | refine A.no rfl rfl ?_ | refine A.yes rfl (by assumption) ?_ | refine A.no rfl (by assumption) ?_ | (refine A.guard rfl ?_ ?_ <;> intro hc)
        | refine A.move rfl ?_ | refine A.assign rfl ?_ | refine A.load_b rfl rfl rfl rfl ?_ | refine A.load_r rfl rfl rfl ?_ | refine A.field_b rfl rfl rfl rfl rfl rfl ?_ | refine A.field_r rfl rfl rfl rfl rfl rfl ?_ | refine A.field rfl rfl rfl rfl rfl ?_
        | refine A.index_r rfl rfl rfl rfl rfl rfl (by assumption) rfl ?_ | refine A.len rfl rfl rfl (by first | rw [List.length_map] | rfl) ?_ | refine A.lens rfl rfl rfl rfl ?_
        | refine A.pick_true rfl rfl rfl ?_ | refine A.pick_false rfl rfl rfl ?_ | refine A.pick_true rfl (by assumption) rfl ?_ | refine A.pick_false rfl (by assumption) rfl ?_
        | refine A.box rfl rfl rfl ?_ | refine A.alloc rfl rfl rfl ?_ | refine A.store rfl rfl rfl rfl rfl ?_ | refine A.build rfl rfl rfl rfl ?_ | refine A.buildSlice rfl rfl rfl rfl rfl rfl rfl ?_
        | refine A.eqi rfl rfl ?_ | refine A.nei rfl rfl ?_ | refine A.lss rfl rfl ?_ | refine A.leq rfl rfl ?_ | refine A.gtr rfl rfl ?_ | refine A.geq rfl rfl ?_ | refine A.eqb rfl rfl rfl rfl ?_ | refine A.neb rfl rfl rfl rfl ?_ | refine A.eqs rfl rfl ?_ | refine A.nes rfl rfl ?_ | refine A.lts rfl rfl ?_ | refine A.gts rfl rfl ?_
        | refine A.not rfl ?_ | refine A.extract rfl rfl ?_ | refine A.add64 rfl rfl rfl (by omega) ?_ | refine A.sub64 rfl rfl rfl (by omega) ?_
        | refine A.vappend_new (m := l.length) rfl rfl rfl rfl rfl rfl rfl rfl (Tbl.fitsAll l) hml (by dsimp only; omega) (by omega) rfl ?_ | refine A.call rfl hp (WeakL.refl _) ?_ | refine A.callB rfl hq hlook rfl ?_
        | refine A.vappend_new (m := l[i].rows.length) rfl rfl rfl rfl rfl rfl rfl rfl (Row.fitsAll _) hrl (by dsimp only; omega) (by omega) rfl ?_ | refine A.vindex rfl rfl rfl rfl rfl rfl rfl (by assumption) (Nat.zero_add _) ?_ | refine A.vfield rfl rfl rfl rfl rfl rfl ?_ | refine A.vload rfl rfl rfl (by assumption) (by assumption) rfl ?_ | refine A.vlen rfl rfl rfl rfl ?_ | refine A.vappend (m := l[i].rows.length + 1) rfl rfl rfl rfl rfl rfl rfl rfl hrl rfl rfl (by dsimp only; omega) (by omega) rfl ?_ | refine A.vstore (agg := true) rfl rfl rfl rfl rfl hml x1 rfl rfl rfl rfl ?_
      refine ⟨_, _, rfl, (Turn.inner (k := 0) (i := i) (c := 1) rfl (by simp [hi]; rfl) rfl (Turn.freeze rfl (by simp) rfl) rfl rfl).trans ((Turn.freeze rfl (by simp) rfl).trans (Turn.weak (Weak.no (WeakL.eq ?_))))⟩
      rw [e, hpr, List.drop_zero, List.take_of_length_le (by simp), List.set_set, List.map_set]
      congr 1
      simp only [Tbl.enc, List.set_cons_succ, List.set_cons_zero, List.drop_zero, List.map_append, List.map_cons, List.map_nil]
      rw [List.take_of_length_le (by simp)]
      rfl
    · rw [h3] at hq
      simp only [Nat.zero_add] at hq
      have hlt1 : k < l[i].rows.length - 0 := hk
      have x2 := map_get' (f := Row.enc) hk
      have d1 : decide ((k : Int) < 0) = false := by simp
      have hpr : putRows l[i].rows r = l[i].rows.set k r := by unfold putRows; rw [h4]
      repeat' first
        | refine A.box_r rfl rfl ?_
        | refine HCode.seq ?_ | refine HCode.region rfl ?_ | refine HCode.region_draw Lay.mix rfl ?_ | refine HCode.block ?_ | refine HCode.scope ?_ | refine HCode.skip ?_ | refine HCode.label ?_ | refine HCode.exit ?_ | refine HCode.ret ?_
        | refine HCode.cond_true rfl ?_ | refine HCode.cond_false rfl ?_ | refine HCode.cond_yes rfl (by assumption) ?_ | refine HCode.cond_no rfl (by assumption) ?_ | (refine HCode.cond rfl ?_ ?_ <;> intro hc)
        | refine A.nil_seq ?_ | refine A.nil (fun _ => rfl) ?_ | refine A.dead rfl ?_ | refine A.yes rfl rfl ?_ | refine A.no rfl rfl ?_ | refine A.yes rfl (by assumption) ?_ | refine A.no rfl (by assumption) ?_ | (refine A.guard rfl ?_ ?_ <;> intro hc)
        | refine A.move rfl ?_ | refine A.assign rfl ?_ | refine A.load_b rfl rfl rfl rfl ?_ | refine A.load_r rfl rfl rfl ?_ | refine A.field_b rfl rfl rfl rfl rfl rfl ?_ | refine A.field_r rfl rfl rfl rfl rfl rfl ?_ | refine A.field rfl rfl rfl rfl rfl ?_
        | refine A.index_r rfl rfl rfl rfl rfl rfl (by assumption) rfl ?_ | refine A.len rfl rfl rfl (by first | rw [List.length_map] | rfl) ?_ | refine A.lens rfl rfl rfl rfl ?_
        | refine A.pick_true rfl rfl rfl ?_ | refine A.pick_false rfl rfl rfl ?_ | refine A.pick_true rfl (by assumption) rfl ?_ | refine A.pick_false rfl (by assumption) rfl ?_
        | refine A.box rfl rfl rfl ?_ | refine A.alloc rfl rfl rfl ?_ | refine A.store rfl rfl rfl rfl rfl ?_ | refine A.build rfl rfl rfl rfl ?_ | refine A.buildSlice rfl rfl rfl rfl rfl rfl rfl ?_
        | refine A.eqi rfl rfl ?_ | refine A.nei rfl rfl ?_ | refine A.lss rfl rfl ?_ | refine A.leq rfl rfl ?_ | refine A.gtr rfl rfl ?_ | refine A.geq rfl rfl ?_ | refine A.eqb rfl rfl rfl rfl ?_ | refine A.neb rfl rfl rfl rfl ?_ | refine A.eqs rfl rfl ?_ | refine A.nes rfl rfl ?_ | refine A.lts rfl rfl ?_ | refine A.gts rfl rfl ?_
        | refine A.not rfl ?_ | refine A.extract rfl rfl ?_ | refine A.add64 rfl rfl rfl (by omega) ?_ | refine A.sub64 rfl rfl rfl (by omega) ?_
        | refine A.vappend_new (m := l.length) rfl rfl rfl rfl rfl rfl rfl rfl (Tbl.fitsAll l) hml (by dsimp only; omega) (by omega) rfl ?_ | refine A.call rfl hp (WeakL.refl _) ?_ | refine A.callB rfl hq hlook rfl ?_
        | refine A.vappend_new (m := l[i].rows.length) rfl rfl rfl rfl rfl rfl rfl rfl (Row.fitsAll _) hrl (by dsimp only; omega) (by omega) rfl ?_ | refine A.vindex rfl rfl rfl rfl rfl rfl rfl (by assumption) (Nat.zero_add _) ?_ | refine A.vfield rfl rfl rfl rfl rfl rfl ?_ | refine A.vload rfl rfl rfl (by assumption) (by assumption) rfl ?_ | refine A.vlen rfl rfl rfl rfl ?_ | refine A.vstore (agg := true) rfl rfl rfl rfl rfl hrl x2 rfl rfl rfl rfl ?_ | refine A.vstore (agg := true) rfl rfl rfl rfl rfl hml x1 rfl rfl rfl rfl ?_
      refine ⟨_, _, rfl, (Turn.inner (k := 0) (i := i) (c := 1) rfl (by simp [hi]; rfl) rfl (Turn.freeze rfl (by simp) rfl) rfl rfl).trans ((Turn.freeze rfl (by simp) rfl).trans (Turn.weak (Weak.no (WeakL.eq ?_))))⟩
      rw [e, hpr, List.drop_zero, List.take_of_length_le (by simp), List.set_set, List.map_set]
      congr 1
      simp only [Tbl.enc, List.set_cons_succ, List.set_cons_zero, List.drop_zero, List.map_set]
      rw [List.take_of_length_le (by simp)]
      rfl

theorem rCut (l : List Tbl) (name key : Str) (hl : l.length ≤ 1048576) (hr : ∀ t ∈ l, t.rows.length ≤ 1048576) :
    PFn Tryd.prog 27 [Tbls.enc l, .str name, .str key] (Tbls.enc (cutG l name key)) := by
  refine AFn.plainT (Tbls.closed _) (by simp [AV.closedL, Tbls.closed, AV.closed]) (AFn.enter [6] Tryd.func27 rfl rfl rfl rfl rfl (by decide) ?_)
  have hp := rTable l name (by omega)
  have hml : (l.map Tbl.enc).length = l.length := by simp
  rcases fidx_spec (fun t : Tbl => t.name == name) l 0 with ⟨h1, h2⟩ | ⟨i, hi, h1, h2, h0⟩
  · rw [h1] at hp
    have e : cutG l name key = l := by unfold cutG; rw [h2]
    rw [e]
    repeat' first
      | refine HCode.seq ?_ | refine HCode.region rfl ?_ | refine HCode.region_draw Lay.mix rfl ?_ | refine HCode.block ?_ | refine HCode.scope ?_ | refine HCode.skip ?_ | refine HCode.label ?_ | refine HCode.exit ?_ | refine HCode.ret ?_
      | refine HCode.cond_true rfl ?_ | refine HCode.cond_false rfl ?_ | refine HCode.cond_yes rfl (by assumption) ?_ | refine HCode.cond_no rfl (by assumption) ?_ | (refine HCode.cond rfl ?_ ?_ <;> intro hc)
      | refine A.nil_seq ?_ | refine A.nil (fun _ => rfl) ?_ | refine A.dead rfl ?_ | refine A.yes rfl rfl ?_ | refine A.no rfl rfl ?_ | refine A.yes rfl (by assumption) ?_ | refine A.no rfl (by assumption) ?_ | (refine A.guard rfl ?_ ?_ <;> intro hc)
      | refine A.move rfl ?_ | refine A.assign rfl ?_ | refine A.load_b rfl rfl rfl rfl ?_ | refine A.load_r rfl rfl rfl ?_ | refine A.field_b rfl rfl rfl rfl rfl rfl ?_ | refine A.field_r rfl rfl rfl rfl rfl rfl ?_ | refine A.field rfl rfl rfl rfl rfl ?_
      | refine A.index_r rfl rfl rfl rfl rfl rfl (by assumption) rfl ?_ | refine A.len rfl rfl rfl (by first | rw [List.length_map] | rfl) ?_ | refine A.lens rfl rfl rfl rfl ?_
      | refine A.pick_true rfl rfl rfl ?_ | refine A.pick_false rfl rfl rfl ?_ | refine A.pick_true rfl (by assumption) rfl ?_ | refine A.pick_false rfl (by assumption) rfl ?_
      | refine A.box rfl rfl rfl ?_ | refine A.alloc rfl rfl rfl ?_ | refine A.store rfl rfl rfl rfl rfl ?_ | refine A.build rfl rfl rfl rfl ?_ | refine A.buildSlice rfl rfl rfl rfl rfl rfl rfl ?_
      | refine A.eqi rfl rfl ?_ | refine A.nei rfl rfl ?_ | refine A.lss rfl rfl ?_ | refine A.leq rfl rfl ?_ | refine A.gtr rfl rfl ?_ | refine A.geq rfl rfl ?_ | refine A.eqb rfl rfl rfl rfl ?_ | refine A.neb rfl rfl rfl rfl ?_ | refine A.eqs rfl rfl ?_ | refine A.nes rfl rfl ?_ | refine A.lts rfl rfl ?_ | refine A.gts rfl rfl ?_
      | refine A.not rfl ?_ | refine A.extract rfl rfl ?_ | refine A.add64 rfl rfl rfl (by omega) ?_ | refine A.sub64 rfl rfl rfl (by omega) ?_
      | refine A.vappend_new (m := l.length) rfl rfl rfl rfl rfl rfl rfl rfl (Tbl.fitsAll l) hml (by dsimp only; omega) (by omega) rfl ?_ | refine A.call rfl hp (WeakL.refl _) ?_
    refine ⟨_, _, rfl, (Turn.freeze rfl (by simp) rfl).trans (Turn.weak (Weak.no (WeakL.eq ?_)))⟩
    rw [List.drop_zero, List.take_of_length_le (by simp)]
  · rw [h1] at hp
    simp only [Nat.zero_add] at hp
    have x1 := map_get' (f := Tbl.enc) hi
    have hlt0 : i < l.length - 0 := hi
    have d0 : decide ((i : Int) < 0) = false := by simp
    have hri := hr _ (List.getElem_mem hi)
    have hq := rRow l[i].rows key (by omega)
    have hrl : (l[i].rows.map Row.enc).length = l[i].rows.length := by simp
    have e : cutG l name key = l.set i ⟨l[i].name, cutRows l[i].rows key⟩ := by unfold cutG; rw [h2]; exact modAt_eq hi _
    rcases fidx_spec (fun x : Row => x.key == key) l[i].rows 0 with ⟨h3, h4⟩ | ⟨k, hk, h3, h4, h5⟩
    · rw [h3] at hq
      have hpr : cutRows l[i].rows key = l[i].rows := by unfold cutRows; rw [h4]
      repeat' first
        | refine HCode.seq ?_ | refine HCode.region rfl ?_ | refine HCode.region_draw Lay.mix rfl ?_ | refine HCode.block ?_ | refine HCode.scope ?_ | refine HCode.skip ?_ | refine HCode.label ?_ | refine HCode.exit ?_ | refine HCode.ret ?_
        | refine HCode.cond_true rfl ?_ | refine HCode.cond_false rfl ?_ | refine HCode.cond_yes rfl (by assumption) ?_ | refine HCode.cond_no rfl (by assumption) ?_ | (refine HCode.cond rfl ?_ ?_ <;> intro hc)
        | refine A.nil_seq ?_ | refine A.nil (fun _ => rfl) ?_ | refine A.dead rfl ?_ | refine A.yes rfl rfl ?_ | refine A.no rfl rfl ?_ | refine A.yes rfl (by assumption) ?_ | refine A.no rfl (by assumption) ?_ | (refine A.guard rfl ?_ ?_ <;> intro hc)
        | refine A.move rfl ?_ | refine A.assign rfl ?_ | refine A.load_b rfl rfl rfl rfl ?_ | refine A.load_r rfl rfl rfl ?_ | refine A.field_b rfl rfl rfl rfl rfl rfl ?_ | refine A.field_r rfl rfl rfl rfl rfl rfl ?_ | refine A.field rfl rfl rfl rfl rfl ?_
        | refine A.index_r rfl rfl rfl rfl rfl rfl (by assumption) rfl ?_ | refine A.len rfl rfl rfl (by first | rw [List.length_map] | rfl) ?_ | refine A.lens rfl rfl rfl rfl ?_
        | refine A.pick_true rfl rfl rfl ?_ | refine A.pick_false rfl rfl rfl ?_ | refine A.pick_true rfl (by assumption) rfl ?_ | refine A.pick_false rfl (by assumption) rfl ?_
        | refine A.box rfl rfl rfl ?_ | refine A.alloc rfl rfl rfl ?_ | refine A.store rfl rfl rfl rfl rfl ?_ | refine A.build rfl rfl rfl rfl ?_ | refine A.buildSlice rfl rfl rfl rfl rfl rfl rfl ?_
        | refine A.eqi rfl rfl ?_ | refine A.nei rfl rfl ?_ | refine A.lss rfl rfl ?_ | refine A.leq rfl rfl ?_ | refine A.gtr rfl rfl ?_ | refine A.geq rfl rfl ?_ | refine A.eqb rfl rfl rfl rfl ?_ | refine A.neb rfl rfl rfl rfl ?_ | refine A.eqs rfl rfl ?_ | refine A.nes rfl rfl ?_ | refine A.lts rfl rfl ?_ | refine A.gts rfl rfl ?_
        | refine A.not rfl ?_ | refine A.extract rfl rfl ?_ | refine A.add64 rfl rfl rfl (by omega) ?_ | refine A.sub64 rfl rfl rfl (by omega) ?_
        | refine A.vappend_new (m := l.length) rfl rfl rfl rfl rfl rfl rfl rfl (Tbl.fitsAll l) hml (by dsimp only; omega) (by omega) rfl ?_ | refine A.call rfl hp (WeakL.refl _) ?_ | refine A.call rfl hq (WeakL.refl _) ?_
      refine ⟨_, _, rfl, (Turn.freeze rfl (by simp) rfl).trans (Turn.weak (Weak.no (WeakL.eq ?_)))⟩
      rw [e, hpr, List.drop_zero, List.take_of_length_le (by simp)]
      have : l.set i ⟨l[i].name, l[i].rows⟩ = l := by rw [show (⟨l[i].name, l[i].rows⟩ : Tbl) = l[i] by cases l[i]; rfl]; exact List.set_getElem_self hi
      rw [this]
    · rw [h3] at hq
      simp only [Nat.zero_add] at hq
      have d1 : decide ((k : Int) < 0) = false := by simp
      have hpr : cutRows l[i].rows key = l[i].rows.take k ++ l[i].rows.drop (k + 1) := by unfold cutRows; rw [h4]
      have htk : (((l[i].rows.map Row.enc).take k).drop 0).length = k := by simp; omega
      have hk1 : ((k : Int) + 1) = ((k + 1 : Nat) : Int) := by simp
      have hf1 : Av.fitsAll true 4 (((l[i].rows.map Row.enc).take k).drop 0) = true := by rw [List.drop_zero, ← List.map_take]; exact Row.fitsAll _
      have hf2 : Av.fitsAll true 4 (((l[i].rows.map Row.enc).take l[i].rows.length).drop (k + 1)) = true := by rw [← List.map_take, ← List.map_drop]; exact Row.fitsAll _
      have hln : (((l[i].rows.map Row.enc).take l[i].rows.length).drop (k + 1)).length = l[i].rows.length - (k + 1) := by simp
      repeat' first
        | refine HCode.seq ?_ | refine HCode.region rfl ?_ | refine HCode.region_draw Lay.mix rfl ?_ | refine HCode.block ?_ | refine HCode.scope ?_ | refine HCode.skip ?_ | refine HCode.label ?_ | refine HCode.exit ?_ | refine HCode.ret ?_
        | refine HCode.cond_true rfl ?_ | refine HCode.cond_false rfl ?_ | refine HCode.cond_yes rfl (by assumption) ?_ | refine HCode.cond_no rfl (by assumption) ?_ | (refine HCode.cond rfl ?_ ?_ <;> intro hc)
        | refine A.nil_seq ?_ | refine A.nil (fun _ => rfl) ?_ | refine A.dead rfl ?_ | refine A.yes rfl rfl ?_ | refine A.no rfl rfl ?_ | refine A.yes rfl (by assumption) ?_ | refine A.no rfl (by assumption) ?_ | (refine A.guard rfl ?_ ?_ <;> intro hc)
        | refine A.move rfl ?_ | refine A.assign rfl ?_ | refine A.load_b rfl rfl rfl rfl ?_ | refine A.load_r rfl rfl rfl ?_ | refine A.field_b rfl rfl rfl rfl rfl rfl ?_ | refine A.field_r rfl rfl rfl rfl rfl rfl ?_ | refine A.field rfl rfl rfl rfl rfl ?_
        | refine A.index_r rfl rfl rfl rfl rfl rfl (by assumption) rfl ?_ | refine A.len rfl rfl rfl (by first | rw [List.length_map] | rfl) ?_ | refine A.lens rfl rfl rfl rfl ?_
        | refine A.pick_true rfl rfl rfl ?_ | refine A.pick_false rfl rfl rfl ?_ | refine A.pick_true rfl (by assumption) rfl ?_ | refine A.pick_false rfl (by assumption) rfl ?_
        | refine A.box rfl rfl rfl ?_ | refine A.alloc rfl rfl rfl ?_ | refine A.store rfl rfl rfl rfl rfl ?_ | refine A.build rfl rfl rfl rfl ?_ | refine A.buildSlice rfl rfl rfl rfl rfl rfl rfl ?_
        | refine A.eqi rfl rfl ?_ | refine A.nei rfl rfl ?_ | refine A.lss rfl rfl ?_ | refine A.leq rfl rfl ?_ | refine A.gtr rfl rfl ?_ | refine A.geq rfl rfl ?_ | refine A.eqb rfl rfl rfl rfl ?_ | refine A.neb rfl rfl rfl rfl ?_ | refine A.eqs rfl rfl ?_ | refine A.nes rfl rfl ?_ | refine A.lts rfl rfl ?_ | refine A.gts rfl rfl ?_
        | refine A.not rfl ?_ | refine A.extract rfl rfl ?_ | refine A.add64 rfl rfl rfl (by omega) ?_ | refine A.sub64 rfl rfl rfl (by omega) ?_
        | refine A.vappend_new (m := l.length) rfl rfl rfl rfl rfl rfl rfl rfl (Tbl.fitsAll l) hml (by dsimp only; omega) (by omega) rfl ?_ | refine A.call rfl hp (WeakL.refl _) ?_ | refine A.call rfl hq (WeakL.refl _) ?_ | refine A.vindex rfl rfl rfl rfl rfl rfl rfl (by assumption) (Nat.zero_add _) ?_ | refine A.vfield rfl rfl rfl rfl rfl rfl ?_ | refine A.vload rfl rfl rfl (by assumption) (by assumption) rfl ?_ | refine A.vlen rfl rfl rfl rfl ?_
        | refine A.slice 0 k rfl rfl rfl rfl rfl rfl rfl rfl (Nat.zero_le _) (by rw [hrl]; omega) (.inl rfl) ?_ | refine A.slice (k + 1) l[i].rows.length rfl rfl rfl rfl rfl rfl hk1 (by rw [hrl]) (by omega) (by rw [hrl]; exact Nat.le_refl _) (.inr (Row.fitsAll _)) ?_
        | refine A.append_new (n := 0) rfl rfl rfl rfl rfl rfl rfl rfl rfl rfl hf1 (by dsimp only; rw [htk]; omega) (by rw [htk]; omega) rfl ?_
        | refine A.append (n := 0 + (((l[i].rows.map Row.enc).take k).drop 0).length) rfl rfl rfl rfl rfl rfl rfl rfl (by rw [List.nil_append, Nat.zero_add]) hf2 (by dsimp only; rw [htk, hln]; omega) (by rw [htk, hln]; omega) rfl ?_
        | refine A.vstore (agg := true) rfl rfl rfl rfl rfl hml x1 rfl rfl rfl rfl ?_
      refine ⟨_, _, rfl, (Turn.freeze rfl (by simp) rfl).trans (Turn.weak (Weak.no ?_))⟩
      rw [e, hpr, List.drop_zero, List.take_of_length_le (by simp), List.map_set]
      refine WeakL.setR (Weak.agg (WeakL.cons (Weak.refl _) (WeakL.cons (Weak.no (WeakL.eq ?_)) (WeakL.refl _)))) i
      rw [List.nil_append, List.drop_zero, List.map_append, List.map_take, List.map_drop]
      congr 2
      rw [List.take_of_length_le (by simp)]
end Go.Proofs.YtajddgpkflbnaaaDoor
