/-
  The law CommandPuts.
-/
import Derived.Test.YtajddgpkflbnaaaDoorMCmdP2
import Derived.Test.YtajddgpkflbnaaaDoorMLawTab2
import Derived.Test.YtajddgpkflbnaaaDoorMVSame
import Derived.Test.YtajddgpkflbnaaaDoorMSame
import Derived.Test.YtajddgpkflbnaaaDoorMDo2
namespace Go.Proofs.YtajddgpkflbnaaaDoor
open Go Go.Av
set_option maxRecDepth 100000
set_option maxHeartbeats 16000000
set_option linter.unusedVariables false
set_option linter.unusedSimpArgs false
attribute [local irreducible] HCode AOps PFn AFn Av.Step TStep

theorem weak_one {what name key typ : Str} {v : Val} {tk : Tk} : Weak (.agg [.str what, .str name, .str [], .str typ, .slice [(Mem.mk sKey (textV key)).enc, (Mem.mk [120] v).enc] tk]) (oneCmd what name key typ v).enc :=
  Weak.agg (WeakL.cons (Weak.refl _) (WeakL.cons (Weak.refl _) (WeakL.cons (Weak.refl _) (WeakL.cons (Weak.refl _) (WeakL.cons (Weak.no (WeakL.refl _)) (WeakL.refl _))))))
theorem weak_two {x : AV} {what name key typ : Str} {v : Val} {tk : Tk} : WeakL [x, .agg [.str what, .str name, .str [], .str typ, .slice [(Mem.mk sKey (textV key)).enc, (Mem.mk [120] v).enc] tk]] [x, (oneCmd what name key typ v).enc] :=
  WeakL.cons (Weak.refl _) (WeakL.cons weak_one (WeakL.refl _))

theorem commandPuts (l : List Tbl) (name key typ : Str) (v : Val) (h : tabSize l + 1 + (name.length + 1) + (key.length + 1) + (typ.length + 1) + v.size ≤ 1048576) :
    PFn Tryd.prog 11 [Tbls.enc l, .str name, .str key, .str typ, v.enc] (.bool true) := by
  refine AFn.plain rfl (by simp [AV.closedL, Tbls.closed, AV.closed, Val.closed]) (AFn.enter [10] Tryd.func11 rfl rfl rfl rfl rfl (by decide) ?_)
  have hvs := v.size_eq
  have hF : Fine 1048576 l := fine_le (fine_of (Nat.le_refl (tabSize l))) (by omega)
  have hl := light_of l _ (Nat.le_refl _) (by omega)
  have hz := sizeF v (by omega)
  have hw := awake
  have hm := mayOf l (by omega)
  have g0 := find l ⟨name, key⟩ (Nat.le_trans hF.len (by decide)) (fun t ht => Nat.le_trans (hF.rows t ht) (by decide)) hF.cols
  have htx := text key
  have ha1 := arg sKey (textV key)
  have ha2 := arg [120] v
  have hal : (oneCmd sPut name key typ v).args.length = 2 := rfl
  have hal2 : (oneCmd sCut name key typ v).args.length = 2 := rfl
  have hd1 := cmdDo l (oneCmd sPut name key typ v) (fine_of (Nat.le_refl _)) (by rw [hal]; omega)
  have hs1 := cmd_slims (slims_of (Nat.le_refl (tabSize l))) (oneCmd sPut name key typ v)
  have hcs := cmdG_size l (oneCmd sPut name key typ v)
  have hcz : (oneCmd sPut name key typ v).size = 3 + name.length + 0 + typ.length + (3 + 2 + (key.length + 6) + (1 + 2 + v.size + 0)) + 5 := by
    show Cmd.size ⟨sPut, name, [], typ, [.mk sKey (textV key), .mk [120] v]⟩ = _
    unfold Cmd.size
    simp only [sumSize, Mem.size, Mem.name, Mem.v, textV_size]
    rfl
  rw [hal] at hs1
  cases d1 : lightT l <;> rw [d1] at hl
  · repeat' first
      | refine A.box_r rfl rfl ?_
      | refine HCode.seq ?_ | refine HCode.region rfl ?_ | refine HCode.region_draw Lay.mix rfl ?_ | refine HCode.block ?_ | refine HCode.scope ?_ | refine HCode.skip ?_ | refine HCode.label ?_ | refine HCode.exit ?_ | refine HCode.ret ?_
      | refine HCode.cond_true rfl ?_ | refine HCode.cond_false rfl ?_ | refine HCode.cond_yes rfl (by assumption) ?_ | refine HCode.cond_no rfl (by assumption) ?_ | (refine HCode.cond rfl ?_ ?_ <;> intro hc)
      | refine A.nil_seq ?_ | refine A.nil (fun _ => rfl) ?_ | refine A.dead rfl ?_ | refine A.yes rfl rfl ?_ | refine A.no rfl rfl ?_ | refine A.yes rfl (by assumption) ?_ | refine A.no rfl (by assumption) ?_ | (refine A.guard rfl ?_ ?_ <;> intro hc)
      | refine A.move rfl ?_ | refine A.assign rfl ?_ | refine A.load_b rfl rfl rfl rfl ?_ | refine A.load_r rfl rfl rfl ?_ | refine A.field_b rfl rfl rfl rfl rfl rfl ?_ | refine A.field_r rfl rfl rfl rfl rfl rfl ?_ | refine A.field rfl rfl rfl rfl rfl ?_
      | refine A.index_r rfl rfl rfl rfl rfl rfl (by assumption) rfl ?_ | refine A.len rfl rfl rfl (by first | rw [List.length_map] | rfl) ?_ | refine A.lens rfl rfl rfl rfl ?_
      | refine A.pick_true rfl rfl rfl ?_ | refine A.pick_false rfl rfl rfl ?_ | refine A.pick_true rfl (by assumption) rfl ?_ | refine A.pick_false rfl (by assumption) rfl ?_
      | refine A.box rfl rfl rfl ?_ | refine A.alloc rfl rfl rfl ?_ | refine A.store rfl rfl rfl rfl rfl ?_ | refine A.build rfl rfl rfl rfl ?_ | refine A.buildSlice rfl rfl rfl rfl rfl rfl rfl ?_
      | refine A.eqi rfl rfl ?_ | refine A.nei rfl rfl ?_ | refine A.lss rfl rfl ?_ | refine A.leq rfl rfl ?_ | refine A.gtr rfl rfl ?_ | refine A.geq rfl rfl ?_ | refine A.eqb rfl rfl rfl rfl ?_ | refine A.neb rfl rfl rfl rfl ?_ | refine A.eqs rfl rfl ?_ | refine A.nes rfl rfl ?_ | refine A.lts rfl rfl ?_ | refine A.gts rfl rfl ?_
      | refine A.not rfl ?_ | refine A.extract rfl rfl ?_ | refine A.add64 rfl rfl rfl (by omega) ?_ | refine A.sub64 rfl rfl rfl (by omega) ?_
      | refine A.call rfl hl (WeakL.refl _) ?_ | refine A.call rfl hw (WeakL.refl _) ?_
    exact Fin.ret1 rfl (Weak.refl _)
  · by_cases d2 : (2000 : Int) < wI ((name.length : Int) + key.length + typ.length + szV v)
    · have d3 : decide ((2000 : Int) < IntKind.i64.wrap ((name.length : Int) + key.length + typ.length + szV v)) = true := by simpa [wI] using d2
      repeat' first
        | refine A.box_r rfl rfl ?_
        | refine HCode.seq ?_ | refine HCode.region rfl ?_ | refine HCode.region_draw Lay.mix rfl ?_ | refine HCode.block ?_ | refine HCode.scope ?_ | refine HCode.skip ?_ | refine HCode.label ?_ | refine HCode.exit ?_ | refine HCode.ret ?_
        | refine HCode.cond_true rfl ?_ | refine HCode.cond_false rfl ?_ | refine HCode.cond_yes rfl (by assumption) ?_ | refine HCode.cond_no rfl (by assumption) ?_ | (refine HCode.cond rfl ?_ ?_ <;> intro hc)
        | refine A.nil_seq ?_ | refine A.nil (fun _ => rfl) ?_ | refine A.dead rfl ?_ | refine A.yes rfl rfl ?_ | refine A.no rfl rfl ?_ | refine A.yes rfl (by assumption) ?_ | refine A.no rfl (by assumption) ?_ | (refine A.guard rfl ?_ ?_ <;> intro hc)
        | refine A.move rfl ?_ | refine A.assign rfl ?_ | refine A.load_b rfl rfl rfl rfl ?_ | refine A.load_r rfl rfl rfl ?_ | refine A.field_b rfl rfl rfl rfl rfl rfl ?_ | refine A.field_r rfl rfl rfl rfl rfl rfl ?_ | refine A.field rfl rfl rfl rfl rfl ?_
        | refine A.index_r rfl rfl rfl rfl rfl rfl (by assumption) rfl ?_ | refine A.len rfl rfl rfl (by first | rw [List.length_map] | rfl) ?_ | refine A.lens rfl rfl rfl rfl ?_
        | refine A.pick_true rfl rfl rfl ?_ | refine A.pick_false rfl rfl rfl ?_ | refine A.pick_true rfl (by assumption) rfl ?_ | refine A.pick_false rfl (by assumption) rfl ?_
        | refine A.box rfl rfl rfl ?_ | refine A.alloc rfl rfl rfl ?_ | refine A.store rfl rfl rfl rfl rfl ?_ | refine A.build rfl rfl rfl rfl ?_ | refine A.buildSlice rfl rfl rfl rfl rfl rfl rfl ?_
        | refine A.eqi rfl rfl ?_ | refine A.nei rfl rfl ?_ | refine A.lss rfl rfl ?_ | refine A.leq rfl rfl ?_ | refine A.gtr rfl rfl ?_ | refine A.geq rfl rfl ?_ | refine A.eqb rfl rfl rfl rfl ?_ | refine A.neb rfl rfl rfl rfl ?_ | refine A.eqs rfl rfl ?_ | refine A.nes rfl rfl ?_ | refine A.lts rfl rfl ?_ | refine A.gts rfl rfl ?_
        | refine A.not rfl ?_ | refine A.extract rfl rfl ?_ | refine A.add64 rfl rfl rfl (by omega) ?_ | refine A.sub64 rfl rfl rfl (by omega) ?_
        | refine A.call rfl hl (WeakL.refl _) ?_ | refine A.call rfl hz (WeakL.refl _) ?_ | refine A.add rfl rfl ?_ | refine A.call rfl hw (WeakL.refl _) ?_
      exact Fin.ret1 rfl (Weak.refl _)
    · have d3 : decide ((2000 : Int) < IntKind.i64.wrap ((name.length : Int) + key.length + typ.length + szV v)) = false := by simpa [wI] using d2
      by_cases c : okT l = true
      · rw [c] at hm
        have hu : Uniq l := uniq_of c
        by_cases e0 : (findG l ⟨name, key⟩).e = 0
        · have f0 : ((findG l ⟨name, key⟩).e != 0) = false := by rw [e0]; rfl
          have q1 := one_put (typ := typ) (v := v) e0
          have q2 := one_find (typ := typ) (v := v) e0
          have q3 := one_again (typ := typ) (v := v) e0
          have q4 := one_cut (typ := typ) (v := v) q2
          have q5 : findG (cutG (putG l name (oneRow l name key typ v)) name key) ⟨name, key⟩ = gotNone := find_cut_uniq name key (putG_uniq hu)
          have q6 := one_gone (typ := typ) (v := v) q5
          rw [q1] at hd1 hs1 hcs
          dsimp only at hd1 hs1 hcs
          have hs2 := cmd_slims hs1 (oneCmd sCut name key typ v)
          rw [q4, hal2] at hs2
          dsimp only at hs2
          have hd2 := cmdDo (putG l name (oneRow l name key typ v)) (oneCmd sPut name key typ v) hs1.fine (by rw [hal]; omega)
          rw [q3] at hd2
          have hd3 := cmdDo (putG l name (oneRow l name key typ v)) (oneCmd sCut name key typ v) hs1.fine (by rw [hal2]; omega)
          rw [q4] at hd3
          have hd4 := cmdDo (cutG (putG l name (oneRow l name key typ v)) name key) (oneCmd sCut name key typ v) hs2.fine (by rw [hal2]; omega)
          rw [q6] at hd4
          have hFa : Fine 1048576 (putG l name (oneRow l name key typ v)) := fine_le hs1.fine (by omega)
          have hFb : Fine 1048576 (cutG (putG l name (oneRow l name key typ v)) name key) := fine_le hs2.fine (by omega)
          have g1 := find (putG l name (oneRow l name key typ v)) ⟨name, key⟩ (Nat.le_trans hFa.len (by decide)) (fun t ht => Nat.le_trans (hFa.rows t ht) (by decide)) hFa.cols
          rw [q2] at g1
          have g2 := find (cutG (putG l name (oneRow l name key typ v)) name key) ⟨name, key⟩ (Nat.le_trans hFb.len (by decide)) (fun t ht => Nat.le_trans (hFb.rows t ht) (by decide)) hFb.cols
          rw [q5] at g2
          have hst := same_of (putG l name (oneRow l name key typ v)) _ (Nat.le_refl _) (by omega)
          have hcl := findG_cols hFa ⟨name, key⟩
          rw [q2] at hcl
          dsimp only at hcl
          have hco := col (oneRow l name key typ v) [120] (by omega)
          rw [oneRow_col] at hco
          have hsv := vSame v.size v v (Nat.le_refl _) (by omega) (by omega)
          rw [sameV_refl] at hsv
          have ht := oneRow_typ l name key typ v
          cases hi : (findG l ⟨name, key⟩).is with
          | true =>
            have hi' : (!(findG l ⟨name, key⟩).is) = false := by rw [hi]; rfl
            have ht' : ((oneRow l name key typ v).typ != (findG l ⟨name, key⟩).row.typ) = false := by rw [ht, hi]; simp
            repeat' first
              | refine A.box_r rfl rfl ?_
              | refine HCode.seq ?_ | refine HCode.region rfl ?_ | refine HCode.region_draw Lay.mix rfl ?_ | refine HCode.block ?_ | refine HCode.scope ?_ | refine HCode.skip ?_ | refine HCode.label ?_ | refine HCode.exit ?_ | refine HCode.ret ?_
              | refine HCode.cond_true rfl ?_ | refine HCode.cond_false rfl ?_ | refine HCode.cond_yes rfl (by assumption) ?_ | refine HCode.cond_no rfl (by assumption) ?_ | (refine HCode.cond rfl ?_ ?_ <;> intro hc)
              | refine A.nil_seq ?_ | refine A.nil (fun _ => rfl) ?_ | refine A.dead rfl ?_ | refine A.yes rfl rfl ?_ | refine A.no rfl rfl ?_ | refine A.yes rfl (by assumption) ?_ | refine A.no rfl (by assumption) ?_ | (refine A.guard rfl ?_ ?_ <;> intro hc)
              | refine A.move rfl ?_ | refine A.assign rfl ?_ | refine A.load_b rfl rfl rfl rfl ?_ | refine A.load_r rfl rfl rfl ?_ | refine A.field_b rfl rfl rfl rfl rfl rfl ?_ | refine A.field_r rfl rfl rfl rfl rfl rfl ?_ | refine A.field rfl rfl rfl rfl rfl ?_
              | refine A.index_r rfl rfl rfl rfl rfl rfl (by assumption) rfl ?_ | refine A.len rfl rfl rfl (by first | rw [List.length_map] | rfl) ?_ | refine A.lens rfl rfl rfl rfl ?_
              | refine A.pick_true rfl rfl rfl ?_ | refine A.pick_false rfl rfl rfl ?_ | refine A.pick_true rfl (by assumption) rfl ?_ | refine A.pick_false rfl (by assumption) rfl ?_
              | refine A.box rfl rfl rfl ?_ | refine A.alloc rfl rfl rfl ?_ | refine A.store rfl rfl rfl rfl rfl ?_ | refine A.build rfl rfl rfl rfl ?_ | refine A.buildSlice rfl rfl rfl rfl rfl rfl rfl ?_
              | refine A.eqi rfl rfl ?_ | refine A.nei rfl rfl ?_ | refine A.lss rfl rfl ?_ | refine A.leq rfl rfl ?_ | refine A.gtr rfl rfl ?_ | refine A.geq rfl rfl ?_ | refine A.eqb rfl rfl rfl rfl ?_ | refine A.neb rfl rfl rfl rfl ?_ | refine A.eqs rfl rfl ?_ | refine A.nes rfl rfl ?_ | refine A.lts rfl rfl ?_ | refine A.gts rfl rfl ?_
              | refine A.not rfl ?_ | refine A.extract rfl rfl ?_ | refine A.add64 rfl rfl rfl (by omega) ?_ | refine A.sub64 rfl rfl rfl (by omega) ?_
              | refine A.call rfl hl (WeakL.refl _) ?_ | refine A.call rfl hz (WeakL.refl _) ?_ | refine A.call rfl hm (WeakL.refl _) ?_ | refine A.call rfl g0 (WeakL.refl _) ?_ | refine A.call rfl htx (WeakL.refl _) ?_ | refine A.call rfl ha1 (WeakL.refl _) ?_ | refine A.call rfl ha2 (WeakL.refl _) ?_
              | refine A.call rfl hd1 weak_two ?_ | refine A.call rfl hd2 weak_two ?_ | refine A.call rfl hd3 weak_two ?_ | refine A.call rfl hd4 weak_two ?_ | refine A.call rfl g1 (WeakL.refl _) ?_ | refine A.call rfl g2 (WeakL.refl _) ?_ | refine A.call rfl hst (WeakL.refl _) ?_ | refine A.call rfl hco (WeakL.refl _) ?_ | refine A.call rfl hsv (WeakL.refl _) ?_
              | refine A.call rfl hw (WeakL.refl _) ?_ | refine A.add rfl rfl ?_
            exact Fin.ret1 rfl (Weak.refl _)
          | false =>
            have hi' : (!(findG l ⟨name, key⟩).is) = true := by rw [hi]; rfl
            have ht' : ((oneRow l name key typ v).typ != typ) = false := by rw [ht, hi]; simp
            repeat' first
              | refine A.box_r rfl rfl ?_
              | refine HCode.seq ?_ | refine HCode.region rfl ?_ | refine HCode.region_draw Lay.mix rfl ?_ | refine HCode.block ?_ | refine HCode.scope ?_ | refine HCode.skip ?_ | refine HCode.label ?_ | refine HCode.exit ?_ | refine HCode.ret ?_
              | refine HCode.cond_true rfl ?_ | refine HCode.cond_false rfl ?_ | refine HCode.cond_yes rfl (by assumption) ?_ | refine HCode.cond_no rfl (by assumption) ?_ | (refine HCode.cond rfl ?_ ?_ <;> intro hc)
              | refine A.nil_seq ?_ | refine A.nil (fun _ => rfl) ?_ | refine A.dead rfl ?_ | refine A.yes rfl rfl ?_ | refine A.no rfl rfl ?_ | refine A.yes rfl (by assumption) ?_ | refine A.no rfl (by assumption) ?_ | (refine A.guard rfl ?_ ?_ <;> intro hc)
              | refine A.move rfl ?_ | refine A.assign rfl ?_ | refine A.load_b rfl rfl rfl rfl ?_ | refine A.load_r rfl rfl rfl ?_ | refine A.field_b rfl rfl rfl rfl rfl rfl ?_ | refine A.field_r rfl rfl rfl rfl rfl rfl ?_ | refine A.field rfl rfl rfl rfl rfl ?_
              | refine A.index_r rfl rfl rfl rfl rfl rfl (by assumption) rfl ?_ | refine A.len rfl rfl rfl (by first | rw [List.length_map] | rfl) ?_ | refine A.lens rfl rfl rfl rfl ?_
              | refine A.pick_true rfl rfl rfl ?_ | refine A.pick_false rfl rfl rfl ?_ | refine A.pick_true rfl (by assumption) rfl ?_ | refine A.pick_false rfl (by assumption) rfl ?_
              | refine A.box rfl rfl rfl ?_ | refine A.alloc rfl rfl rfl ?_ | refine A.store rfl rfl rfl rfl rfl ?_ | refine A.build rfl rfl rfl rfl ?_ | refine A.buildSlice rfl rfl rfl rfl rfl rfl rfl ?_
              | refine A.eqi rfl rfl ?_ | refine A.nei rfl rfl ?_ | refine A.lss rfl rfl ?_ | refine A.leq rfl rfl ?_ | refine A.gtr rfl rfl ?_ | refine A.geq rfl rfl ?_ | refine A.eqb rfl rfl rfl rfl ?_ | refine A.neb rfl rfl rfl rfl ?_ | refine A.eqs rfl rfl ?_ | refine A.nes rfl rfl ?_ | refine A.lts rfl rfl ?_ | refine A.gts rfl rfl ?_
              | refine A.not rfl ?_ | refine A.extract rfl rfl ?_ | refine A.add64 rfl rfl rfl (by omega) ?_ | refine A.sub64 rfl rfl rfl (by omega) ?_
              | refine A.call rfl hl (WeakL.refl _) ?_ | refine A.call rfl hz (WeakL.refl _) ?_ | refine A.call rfl hm (WeakL.refl _) ?_ | refine A.call rfl g0 (WeakL.refl _) ?_ | refine A.call rfl htx (WeakL.refl _) ?_ | refine A.call rfl ha1 (WeakL.refl _) ?_ | refine A.call rfl ha2 (WeakL.refl _) ?_
              | refine A.call rfl hd1 weak_two ?_ | refine A.call rfl hd2 weak_two ?_ | refine A.call rfl hd3 weak_two ?_ | refine A.call rfl hd4 weak_two ?_ | refine A.call rfl g1 (WeakL.refl _) ?_ | refine A.call rfl g2 (WeakL.refl _) ?_ | refine A.call rfl hst (WeakL.refl _) ?_ | refine A.call rfl hco (WeakL.refl _) ?_ | refine A.call rfl hsv (WeakL.refl _) ?_
              | refine A.call rfl hw (WeakL.refl _) ?_ | refine A.add rfl rfl ?_
            exact Fin.ret1 rfl (Weak.refl _)
        · have f0 : ((findG l ⟨name, key⟩).e != 0) = true := by simpa using e0
          have f1 : ((findG l ⟨name, key⟩).e == (findG l ⟨name, key⟩).e) = true := by simp
          rw [one_err e0] at hd1
          repeat' first
            | refine A.box_r rfl rfl ?_
            | refine HCode.seq ?_ | refine HCode.region rfl ?_ | refine HCode.region_draw Lay.mix rfl ?_ | refine HCode.block ?_ | refine HCode.scope ?_ | refine HCode.skip ?_ | refine HCode.label ?_ | refine HCode.exit ?_ | refine HCode.ret ?_
            | refine HCode.cond_true rfl ?_ | refine HCode.cond_false rfl ?_ | refine HCode.cond_yes rfl (by assumption) ?_ | refine HCode.cond_no rfl (by assumption) ?_ | (refine HCode.cond rfl ?_ ?_ <;> intro hc)
            | refine A.nil_seq ?_ | refine A.nil (fun _ => rfl) ?_ | refine A.dead rfl ?_ | refine A.yes rfl rfl ?_ | refine A.no rfl rfl ?_ | refine A.yes rfl (by assumption) ?_ | refine A.no rfl (by assumption) ?_ | (refine A.guard rfl ?_ ?_ <;> intro hc)
            | refine A.move rfl ?_ | refine A.assign rfl ?_ | refine A.load_b rfl rfl rfl rfl ?_ | refine A.load_r rfl rfl rfl ?_ | refine A.field_b rfl rfl rfl rfl rfl rfl ?_ | refine A.field_r rfl rfl rfl rfl rfl rfl ?_ | refine A.field rfl rfl rfl rfl rfl ?_
            | refine A.index_r rfl rfl rfl rfl rfl rfl (by assumption) rfl ?_ | refine A.len rfl rfl rfl (by first | rw [List.length_map] | rfl) ?_ | refine A.lens rfl rfl rfl rfl ?_
            | refine A.pick_true rfl rfl rfl ?_ | refine A.pick_false rfl rfl rfl ?_ | refine A.pick_true rfl (by assumption) rfl ?_ | refine A.pick_false rfl (by assumption) rfl ?_
            | refine A.box rfl rfl rfl ?_ | refine A.alloc rfl rfl rfl ?_ | refine A.store rfl rfl rfl rfl rfl ?_ | refine A.build rfl rfl rfl rfl ?_ | refine A.buildSlice rfl rfl rfl rfl rfl rfl rfl ?_
            | refine A.eqi rfl rfl ?_ | refine A.nei rfl rfl ?_ | refine A.lss rfl rfl ?_ | refine A.leq rfl rfl ?_ | refine A.gtr rfl rfl ?_ | refine A.geq rfl rfl ?_ | refine A.eqb rfl rfl rfl rfl ?_ | refine A.neb rfl rfl rfl rfl ?_ | refine A.eqs rfl rfl ?_ | refine A.nes rfl rfl ?_ | refine A.lts rfl rfl ?_ | refine A.gts rfl rfl ?_
            | refine A.not rfl ?_ | refine A.extract rfl rfl ?_ | refine A.add64 rfl rfl rfl (by omega) ?_ | refine A.sub64 rfl rfl rfl (by omega) ?_
            | refine A.call rfl hl (WeakL.refl _) ?_ | refine A.call rfl hz (WeakL.refl _) ?_ | refine A.call rfl hm (WeakL.refl _) ?_ | refine A.call rfl g0 (WeakL.refl _) ?_ | refine A.call rfl htx (WeakL.refl _) ?_ | refine A.call rfl ha1 (WeakL.refl _) ?_ | refine A.call rfl ha2 (WeakL.refl _) ?_
            | refine A.call rfl hd1 weak_two ?_ | refine A.call rfl hw (WeakL.refl _) ?_ | refine A.add rfl rfl ?_
          exact Fin.ret1 rfl (Weak.refl _)
      · have c' : okT l = false := by simpa using c
        rw [c'] at hm
        repeat' first
          | refine A.box_r rfl rfl ?_
          | refine HCode.seq ?_ | refine HCode.region rfl ?_ | refine HCode.region_draw Lay.mix rfl ?_ | refine HCode.block ?_ | refine HCode.scope ?_ | refine HCode.skip ?_ | refine HCode.label ?_ | refine HCode.exit ?_ | refine HCode.ret ?_
          | refine HCode.cond_true rfl ?_ | refine HCode.cond_false rfl ?_ | refine HCode.cond_yes rfl (by assumption) ?_ | refine HCode.cond_no rfl (by assumption) ?_ | (refine HCode.cond rfl ?_ ?_ <;> intro hc)
          | refine A.nil_seq ?_ | refine A.nil (fun _ => rfl) ?_ | refine A.dead rfl ?_ | refine A.yes rfl rfl ?_ | refine A.no rfl rfl ?_ | refine A.yes rfl (by assumption) ?_ | refine A.no rfl (by assumption) ?_ | (refine A.guard rfl ?_ ?_ <;> intro hc)
          | refine A.move rfl ?_ | refine A.assign rfl ?_ | refine A.load_b rfl rfl rfl rfl ?_ | refine A.load_r rfl rfl rfl ?_ | refine A.field_b rfl rfl rfl rfl rfl rfl ?_ | refine A.field_r rfl rfl rfl rfl rfl rfl ?_ | refine A.field rfl rfl rfl rfl rfl ?_
          | refine A.index_r rfl rfl rfl rfl rfl rfl (by assumption) rfl ?_ | refine A.len rfl rfl rfl (by first | rw [List.length_map] | rfl) ?_ | refine A.lens rfl rfl rfl rfl ?_
          | refine A.pick_true rfl rfl rfl ?_ | refine A.pick_false rfl rfl rfl ?_ | refine A.pick_true rfl (by assumption) rfl ?_ | refine A.pick_false rfl (by assumption) rfl ?_
          | refine A.box rfl rfl rfl ?_ | refine A.alloc rfl rfl rfl ?_ | refine A.store rfl rfl rfl rfl rfl ?_ | refine A.build rfl rfl rfl rfl ?_ | refine A.buildSlice rfl rfl rfl rfl rfl rfl rfl ?_
          | refine A.eqi rfl rfl ?_ | refine A.nei rfl rfl ?_ | refine A.lss rfl rfl ?_ | refine A.leq rfl rfl ?_ | refine A.gtr rfl rfl ?_ | refine A.geq rfl rfl ?_ | refine A.eqb rfl rfl rfl rfl ?_ | refine A.neb rfl rfl rfl rfl ?_ | refine A.eqs rfl rfl ?_ | refine A.nes rfl rfl ?_ | refine A.lts rfl rfl ?_ | refine A.gts rfl rfl ?_
          | refine A.not rfl ?_ | refine A.extract rfl rfl ?_ | refine A.add64 rfl rfl rfl (by omega) ?_ | refine A.sub64 rfl rfl rfl (by omega) ?_
          | refine A.call rfl hl (WeakL.refl _) ?_ | refine A.call rfl hz (WeakL.refl _) ?_ | refine A.call rfl hm (WeakL.refl _) ?_ | refine A.call rfl hw (WeakL.refl _) ?_ | refine A.add rfl rfl ?_
        exact Fin.ret1 rfl (Weak.refl _)
end Go.Proofs.YtajddgpkflbnaaaDoor
