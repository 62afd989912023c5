/-
  The laws CommandSays, CommandRefused: the functions, whole.
-/
import Derived.Test.YtajddgpkflbnaaaMLawCmd
namespace Go.Proofs.Ytajddgpkflbnaaa
open Go Go.Av
set_option maxRecDepth 100000
set_option maxHeartbeats 16000000
set_option linter.unusedVariables false
set_option linter.unusedSimpArgs false
attribute [local irreducible] HCode AOps PFn AFn Av.Step TStep

theorem light_of (l : List Tbl) (n : Nat) (h : tabSize l ≤ n) (hn : n ≤ 1048576) : PFn Try.prog 11 [Tbls.enc l] (.bool (lightT l)) := by
  have hf := fine_of h
  exact light l (by have := hf.len; omega) (fun t ht => by have := hf.rows t ht; omega) (fun t ht r hr => by have := cols_of h t ht r hr; omega)
theorem same_of (l : List Tbl) (n : Nat) (h : tabSize l ≤ n) (hn : n ≤ 9223372036854775807) : PFn Try.prog 18 [Tbls.enc l, Tbls.enc l] (.bool true) := by
  have hf := fine_of h
  exact sameTables l (by have := hf.len; omega) (fun t ht => by have := hf.rows t ht; omega) (fun t ht r hr => by have := cols_of h t ht r hr; omega)
theorem keep_of (l : List Tbl) (n : Nat) (h : tabSize l ≤ n) (hn : n ≤ 1048576) : PFn Try.prog 14 [Tbls.enc l] (Tbls.enc l) := by
  have hf := fine_of h
  exact tablesK l (by have := hf.len; omega) (fun t ht => by have := hf.rows t ht; omega) (fun t ht r hr => by have := cols_of h t ht r hr; omega)

theorem addG_err0 (l : List Tbl) (c : Cmd) (r : Row) (h : (addG l c r).2.2 ≠ 0) : (addG l c r).2.1 = val0 := by
  unfold addG at h ⊢
  dsimp only at h ⊢
  (repeat' split) <;> simp_all
theorem cmdG_err0 (l : List Tbl) (c : Cmd) (h : (cmdG l c).2.2 ≠ 0) : (cmdG l c).2.1 = val0 := by
  have ha := addG_err0 l c (findG l ⟨c.table, (getG sKey c.args).1.s⟩).row
  unfold cmdG at h ⊢
  (repeat' split) <;> simp_all

theorem commandSays (l : List Tbl) (c : Cmd) (h : tabSize l + c.size + 1 ≤ 1048576) : PFn Try.prog 3 [Tbls.enc l, c.enc] (.bool true) := by
  refine AFn.plain rfl (by simp [AV.closedL, Tbls.closed, Cmd.closed]) (AFn.enter [4] Try.func3 rfl rfl rfl rfl rfl (by decide) ?_)
  have ha := args_of c
  have hl := light_of l _ (Nat.le_refl _) (by omega)
  have hc := lightC c (by omega)
  have hw := awake
  have hk := keep_of l _ (Nat.le_refl _) (by omega)
  have hd := cmdDo l c (fine_of (Nat.le_refl _)) (by omega)
  have hr := refDo l c (fine_of (Nat.le_refl _)) (by omega)
  have hz := cmdG_size l c
  have hs := sameSelf (cmdG l c).2.1 (by omega)
  have h1 := same_of (cmdG l c).1 _ (Nat.le_refl _) (by omega)
  have h2 := same_of l _ (Nat.le_refl _) (by omega)
  have hn := known c.name
  have hm := rKnown c.name
  have e1 : ((cmdG l c).2.2 == (cmdG l c).2.2) = true := by simp
  have e2 : (knownG c.name == knownG c.name) = true := by simp
  cases d1 : lightT l <;> cases d2 : lightCmd c <;> rw [d1] at hl <;> rw [d2] at hc
  all_goals repeat' first
              | refine A.box_r rfl rfl ?_ | refine A.field_r rfl rfl rfl rfl ?_
              | refine HCode.seq ?_ | refine HCode.region rfl ?_ | refine HCode.region_draw Lay.mix rfl ?_ | refine HCode.block ?_ | refine HCode.scope ?_ | refine HCode.skip ?_ | refine HCode.label ?_ | refine HCode.exit ?_ | refine HCode.ret ?_
              | refine HCode.cond_true rfl ?_ | refine HCode.cond_false rfl ?_ | refine HCode.cond_yes rfl (by assumption) ?_ | refine HCode.cond_no rfl (by assumption) ?_ | (refine HCode.cond rfl ?_ ?_ <;> intro hc)
              | refine A.nil_seq ?_ | refine A.nil (fun _ => rfl) ?_ | refine A.dead rfl ?_ | refine A.yes rfl rfl ?_ | refine A.no rfl rfl ?_ | refine A.yes rfl (by assumption) ?_ | refine A.no rfl (by assumption) ?_ | (refine A.guard rfl ?_ ?_ <;> intro hc)
              | refine A.move rfl ?_ | refine A.assign rfl ?_ | refine A.load_b rfl rfl rfl rfl ?_ | refine A.load_r rfl rfl rfl ?_ | refine A.field_b rfl rfl rfl rfl rfl rfl ?_ | refine A.field_r rfl rfl rfl rfl rfl rfl ?_ | refine A.field rfl rfl rfl rfl rfl ?_
              | refine A.index_r rfl rfl rfl rfl rfl rfl (by assumption) rfl ?_ | refine A.len rfl rfl rfl (by first | rw [List.length_map] | rfl) ?_ | refine A.lens rfl rfl rfl rfl ?_
              | refine A.pick_true rfl rfl rfl ?_ | refine A.pick_false rfl rfl rfl ?_ | refine A.pick_true rfl (by assumption) rfl ?_ | refine A.pick_false rfl (by assumption) rfl ?_
              | refine A.box rfl rfl rfl ?_ | refine A.alloc rfl rfl rfl ?_ | refine A.store rfl rfl rfl rfl rfl ?_ | refine A.build rfl rfl rfl rfl ?_ | refine A.buildSlice rfl rfl rfl rfl rfl rfl rfl ?_
              | refine A.eqi rfl rfl ?_ | refine A.nei rfl rfl ?_ | refine A.lss rfl rfl ?_ | refine A.leq rfl rfl ?_ | refine A.gtr rfl rfl ?_ | refine A.geq rfl rfl ?_ | refine A.eqb rfl rfl rfl rfl ?_ | refine A.neb rfl rfl rfl rfl ?_ | refine A.eqs rfl rfl ?_ | refine A.nes rfl rfl ?_ | refine A.lts rfl rfl ?_ | refine A.gts rfl rfl ?_
              | refine A.not rfl ?_ | refine A.extract rfl rfl ?_ | refine A.add64 rfl rfl rfl (by omega) ?_ | refine A.sub64 rfl rfl rfl (by omega) ?_
              | refine A.call rfl hl (WeakL.refl _) ?_ | refine A.call rfl hc (WeakL.refl _) ?_ | refine A.call rfl hw (WeakL.refl _) ?_
              | refine A.call rfl hk (WeakL.refl _) ?_ | refine A.call rfl hd (WeakL.refl _) ?_ | refine A.call rfl hr (WeakL.refl _) ?_ | refine A.call rfl hs (WeakL.refl _) ?_
              | refine A.call rfl h1 (WeakL.refl _) ?_ | refine A.call rfl h2 (WeakL.refl _) ?_ | refine A.call rfl hn (WeakL.refl _) ?_ | refine A.call rfl hm (WeakL.refl _) ?_
  all_goals refine Fin.ret1 rfl (Weak.refl _)
theorem commandRefused (l : List Tbl) (c : Cmd) (h : tabSize l + c.size + 1 ≤ 1048576) : PFn Try.prog 4 [Tbls.enc l, c.enc] (.bool true) := by
  refine AFn.plain rfl (by simp [AV.closedL, Tbls.closed, Cmd.closed]) (AFn.enter [4] Try.func4 rfl rfl rfl rfl rfl (by decide) ?_)
  have ha := args_of c
  have hl := light_of l _ (Nat.le_refl _) (by omega)
  have hc := lightC c (by omega)
  have hw := awake
  have hd := cmdDo l c (fine_of (Nat.le_refl _)) (by omega)
  have hs := sameSelf val0 (by rw [val0_size]; omega)
  have h2 := same_of l _ (Nat.le_refl _) (by omega)
  have hn := known c.name
  cases d1 : lightT l <;> cases d2 : lightCmd c <;> rw [d1] at hl <;> rw [d2] at hc
  rotate_right
  · by_cases d3 : (cmdG l c).2.2 = 0
    · obtain ⟨k1, k2, k3⟩ := cmdG_kind l c d3
      have e1 : ((cmdG l c).2.2 != 0) = false := by rw [d3]; rfl
      rw [k1] at hn
      repeat' first
        | refine A.box_r rfl rfl ?_ | refine A.field_r rfl rfl rfl rfl ?_
        | refine HCode.seq ?_ | refine HCode.region rfl ?_ | refine HCode.region_draw Lay.mix rfl ?_ | refine HCode.block ?_ | refine HCode.scope ?_ | refine HCode.skip ?_ | refine HCode.label ?_ | refine HCode.exit ?_ | refine HCode.ret ?_
        | refine HCode.cond_true rfl ?_ | refine HCode.cond_false rfl ?_ | refine HCode.cond_yes rfl (by assumption) ?_ | refine HCode.cond_no rfl (by assumption) ?_ | (refine HCode.cond rfl ?_ ?_ <;> intro hc)
        | refine A.nil_seq ?_ | refine A.nil (fun _ => rfl) ?_ | refine A.dead rfl ?_ | refine A.yes rfl rfl ?_ | refine A.no rfl rfl ?_ | refine A.yes rfl (by assumption) ?_ | refine A.no rfl (by assumption) ?_ | (refine A.guard rfl ?_ ?_ <;> intro hc)
        | refine A.move rfl ?_ | refine A.assign rfl ?_ | refine A.load_b rfl rfl rfl rfl ?_ | refine A.load_r rfl rfl rfl ?_ | refine A.field_b rfl rfl rfl rfl rfl rfl ?_ | refine A.field_r rfl rfl rfl rfl rfl rfl ?_ | refine A.field rfl rfl rfl rfl rfl ?_
        | refine A.index_r rfl rfl rfl rfl rfl rfl (by assumption) rfl ?_ | refine A.len rfl rfl rfl (by first | rw [List.length_map] | rfl) ?_ | refine A.lens rfl rfl rfl rfl ?_
        | refine A.pick_true rfl rfl rfl ?_ | refine A.pick_false rfl rfl rfl ?_ | refine A.pick_true rfl (by assumption) rfl ?_ | refine A.pick_false rfl (by assumption) rfl ?_
        | refine A.box rfl rfl rfl ?_ | refine A.alloc rfl rfl rfl ?_ | refine A.store rfl rfl rfl rfl rfl ?_ | refine A.build rfl rfl rfl rfl ?_ | refine A.buildSlice rfl rfl rfl rfl rfl rfl rfl ?_
        | refine A.eqi rfl rfl ?_ | refine A.nei rfl rfl ?_ | refine A.lss rfl rfl ?_ | refine A.leq rfl rfl ?_ | refine A.gtr rfl rfl ?_ | refine A.geq rfl rfl ?_ | refine A.eqb rfl rfl rfl rfl ?_ | refine A.neb rfl rfl rfl rfl ?_ | refine A.eqs rfl rfl ?_ | refine A.nes rfl rfl ?_ | refine A.lts rfl rfl ?_ | refine A.gts rfl rfl ?_
        | refine A.not rfl ?_ | refine A.extract rfl rfl ?_ | refine A.add64 rfl rfl rfl (by omega) ?_ | refine A.sub64 rfl rfl rfl (by omega) ?_
        | refine A.call rfl hl (WeakL.refl _) ?_ | refine A.call rfl hc (WeakL.refl _) ?_ | refine A.call rfl hw (WeakL.refl _) ?_
        | refine A.call rfl hd (WeakL.refl _) ?_ | refine A.call rfl hn (WeakL.refl _) ?_
      all_goals refine Fin.ret1 rfl (Weak.refl _)
    · have e1 : ((cmdG l c).2.2 != 0) = true := by simpa using d3
      have e2 := cmdG_err l c d3
      have e3 := cmdG_err0 l c d3
      rw [e2, e3] at hd
      repeat' first
        | refine A.box_r rfl rfl ?_ | refine A.field_r rfl rfl rfl rfl ?_
        | refine HCode.seq ?_ | refine HCode.region rfl ?_ | refine HCode.region_draw Lay.mix rfl ?_ | refine HCode.block ?_ | refine HCode.scope ?_ | refine HCode.skip ?_ | refine HCode.label ?_ | refine HCode.exit ?_ | refine HCode.ret ?_
        | refine HCode.cond_true rfl ?_ | refine HCode.cond_false rfl ?_ | refine HCode.cond_yes rfl (by assumption) ?_ | refine HCode.cond_no rfl (by assumption) ?_ | (refine HCode.cond rfl ?_ ?_ <;> intro hc)
        | refine A.nil_seq ?_ | refine A.nil (fun _ => rfl) ?_ | refine A.dead rfl ?_ | refine A.yes rfl rfl ?_ | refine A.no rfl rfl ?_ | refine A.yes rfl (by assumption) ?_ | refine A.no rfl (by assumption) ?_ | (refine A.guard rfl ?_ ?_ <;> intro hc)
        | refine A.move rfl ?_ | refine A.assign rfl ?_ | refine A.load_b rfl rfl rfl rfl ?_ | refine A.load_r rfl rfl rfl ?_ | refine A.field_b rfl rfl rfl rfl rfl rfl ?_ | refine A.field_r rfl rfl rfl rfl rfl rfl ?_ | refine A.field rfl rfl rfl rfl rfl ?_
        | refine A.index_r rfl rfl rfl rfl rfl rfl (by assumption) rfl ?_ | refine A.len rfl rfl rfl (by first | rw [List.length_map] | rfl) ?_ | refine A.lens rfl rfl rfl rfl ?_
        | refine A.pick_true rfl rfl rfl ?_ | refine A.pick_false rfl rfl rfl ?_ | refine A.pick_true rfl (by assumption) rfl ?_ | refine A.pick_false rfl (by assumption) rfl ?_
        | refine A.box rfl rfl rfl ?_ | refine A.alloc rfl rfl rfl ?_ | refine A.store rfl rfl rfl rfl rfl ?_ | refine A.build rfl rfl rfl rfl ?_ | refine A.buildSlice rfl rfl rfl rfl rfl rfl rfl ?_
        | refine A.eqi rfl rfl ?_ | refine A.nei rfl rfl ?_ | refine A.lss rfl rfl ?_ | refine A.leq rfl rfl ?_ | refine A.gtr rfl rfl ?_ | refine A.geq rfl rfl ?_ | refine A.eqb rfl rfl rfl rfl ?_ | refine A.neb rfl rfl rfl rfl ?_ | refine A.eqs rfl rfl ?_ | refine A.nes rfl rfl ?_ | refine A.lts rfl rfl ?_ | refine A.gts rfl rfl ?_
        | refine A.not rfl ?_ | refine A.extract rfl rfl ?_ | refine A.add64 rfl rfl rfl (by omega) ?_ | refine A.sub64 rfl rfl rfl (by omega) ?_
        | refine A.call rfl hl (WeakL.refl _) ?_ | refine A.call rfl hc (WeakL.refl _) ?_ | refine A.call rfl hw (WeakL.refl _) ?_
        | refine A.call rfl hd (WeakL.refl _) ?_ | refine A.call rfl h2 (WeakL.refl _) ?_ | refine A.call rfl hs (WeakL.cons (Weak.refl _) (WeakL.cons weak_flatV (WeakL.refl _))) ?_
      all_goals refine Fin.ret1 rfl (Weak.refl _)
  all_goals repeat' first
              | refine A.box_r rfl rfl ?_
              | refine HCode.seq ?_ | refine HCode.region rfl ?_ | refine HCode.region_draw Lay.mix rfl ?_ | refine HCode.block ?_ | refine HCode.scope ?_ | refine HCode.skip ?_ | refine HCode.label ?_ | refine HCode.exit ?_ | refine HCode.ret ?_
              | refine HCode.cond_true rfl ?_ | refine HCode.cond_false rfl ?_ | refine HCode.cond_yes rfl (by assumption) ?_ | refine HCode.cond_no rfl (by assumption) ?_ | (refine HCode.cond rfl ?_ ?_ <;> intro hc)
              | refine A.nil_seq ?_ | refine A.nil (fun _ => rfl) ?_ | refine A.dead rfl ?_ | refine A.yes rfl rfl ?_ | refine A.no rfl rfl ?_ | refine A.yes rfl (by assumption) ?_ | refine A.no rfl (by assumption) ?_ | (refine A.guard rfl ?_ ?_ <;> intro hc)
              | refine A.move rfl ?_ | refine A.assign rfl ?_ | refine A.load_b rfl rfl rfl rfl ?_ | refine A.load_r rfl rfl rfl ?_ | refine A.field_b rfl rfl rfl rfl rfl rfl ?_ | refine A.field_r rfl rfl rfl rfl rfl rfl ?_ | refine A.field rfl rfl rfl rfl rfl ?_
              | refine A.index_r rfl rfl rfl rfl rfl rfl (by assumption) rfl ?_ | refine A.len rfl rfl rfl (by first | rw [List.length_map] | rfl) ?_ | refine A.lens rfl rfl rfl rfl ?_
              | refine A.pick_true rfl rfl rfl ?_ | refine A.pick_false rfl rfl rfl ?_ | refine A.pick_true rfl (by assumption) rfl ?_ | refine A.pick_false rfl (by assumption) rfl ?_
              | refine A.box rfl rfl rfl ?_ | refine A.alloc rfl rfl rfl ?_ | refine A.store rfl rfl rfl rfl rfl ?_ | refine A.build rfl rfl rfl rfl ?_ | refine A.buildSlice rfl rfl rfl rfl rfl rfl rfl ?_
              | refine A.eqi rfl rfl ?_ | refine A.nei rfl rfl ?_ | refine A.lss rfl rfl ?_ | refine A.leq rfl rfl ?_ | refine A.gtr rfl rfl ?_ | refine A.geq rfl rfl ?_ | refine A.eqb rfl rfl rfl rfl ?_ | refine A.neb rfl rfl rfl rfl ?_ | refine A.eqs rfl rfl ?_ | refine A.nes rfl rfl ?_ | refine A.lts rfl rfl ?_ | refine A.gts rfl rfl ?_
              | refine A.not rfl ?_ | refine A.extract rfl rfl ?_ | refine A.add64 rfl rfl rfl (by omega) ?_ | refine A.sub64 rfl rfl rfl (by omega) ?_
              | refine A.call rfl hl (WeakL.refl _) ?_ | refine A.call rfl hc (WeakL.refl _) ?_ | refine A.call rfl hw (WeakL.refl _) ?_
  all_goals refine Fin.ret1 rfl (Weak.refl _)
end Go.Proofs.Ytajddgpkflbnaaa
