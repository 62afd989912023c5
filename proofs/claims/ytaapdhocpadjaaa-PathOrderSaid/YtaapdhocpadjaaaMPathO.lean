/-
  The law PathOrder.
-/
import Derived.Test.YtaapdhocpadjaaaMPathC
namespace Go.Proofs.Ytaapdhocpadjaaa
open Go Go.Av
set_option maxRecDepth 100000
set_option maxHeartbeats 4000000
set_option linter.unusedVariables false
attribute [local irreducible] HCode AOps PFn AFn Av.Step TStep

theorem pathOrder (a b c : Path) (ha : a.length ≤ 9223372036854775807) (hb : b.length ≤ 9223372036854775807) (hc : c.length ≤ 9223372036854775807) :
    PFn Try.prog 3 [Path.enc a, Path.enc b, Path.enc c] (.bool true) := by
  refine AFn.plain rfl (by simp [AV.closedL, AV.closed, Path.enc, Step.closedL]) (AFn.enter [6] Try.func3 rfl rfl rfl rfl rfl (by decide) ?_)
  have s1 := small a ha
  have s2 := small b hb
  have s3 := small c hc
  have l1 := less a b ha
  have l2 := less b a hb
  have l3 := less b c hb
  have l4 := less a c ha
  have e1 := same a b ha
  have u1 := under a b ha
  have u2 := under b c hb
  have u3 := under a c ha
  have t1 := @isUnder_not_less a b
  have t2 := @isUnder_trans a b c
  have t3 := pathCmp_cmp.anti a b
  have t4 := fun h1 h2 => @Cmp.lt_le Path pathCmp pathCmp_cmp a b c h1 (Int.le_of_lt h2)
  generalize pathCmp a b = x at *
  generalize pathCmp b a = y at *
  generalize pathCmp b c = z at *
  generalize pathCmp a c = u at *
  generalize isUnder a b = v1 at *
  generalize isUnder b c = v2 at *
  generalize isUnder a c = v3 at *
  generalize isSmall a = w1 at *
  generalize isSmall b = w2 at *
  generalize isSmall c = w3 at *
  subst t3
  have hd : (decide (x < 0) = true ∧ decide (-x < 0) = false ∧ (x == 0) = false) ∨ (decide (x < 0) = false ∧ decide (-x < 0) = true ∧ (x == 0) = false) ∨ (decide (x < 0) = false ∧ decide (-x < 0) = false ∧ (x == 0) = true) := by
    rcases Int.lt_trichotomy x 0 with h | h | h
    · left; simp [h]; omega
    · right; right; simp [h]
    · right; left; simp; omega
  rcases hd with ⟨d1, d2, d3⟩ | ⟨d1, d2, d3⟩ | ⟨d1, d2, d3⟩ <;> rw [d1] at l1 <;> rw [d2] at l2 <;> rw [d3] at e1
  · have d4 : v1 = false := by cases v1 with | false => rfl | true => exact absurd (by simpa using d1) (t1 rfl)
    subst d4
    repeat' first
      | refine HCode.seq ?_ | refine HCode.region rfl ?_ | refine HCode.region_draw Lay.mix rfl ?_ | refine HCode.block ?_ | refine HCode.scope ?_ | refine HCode.skip ?_ | refine HCode.exit ?_ | refine HCode.ret ?_
      | refine HCode.cond_true rfl ?_ | refine HCode.cond_false rfl ?_ | refine HCode.cond_yes rfl (by assumption) ?_ | refine HCode.cond_no rfl (by assumption) ?_ | (refine HCode.cond rfl ?_ ?_ <;> intro hc)
      | refine A.nil_seq ?_ | refine A.nil (fun _ => rfl) ?_ | refine A.yes rfl rfl ?_ | refine A.no rfl rfl ?_ | refine A.yes rfl (by assumption) ?_ | refine A.no rfl (by assumption) ?_ | (refine A.guard rfl ?_ ?_ <;> intro hc)
      | refine A.move rfl ?_ | refine A.assign rfl ?_ | refine A.load_b rfl rfl rfl rfl ?_ | refine A.load_r rfl rfl rfl ?_ | refine A.field_b rfl rfl rfl rfl rfl rfl ?_ | refine A.field_r rfl rfl rfl rfl rfl rfl ?_ | refine A.field rfl rfl rfl rfl rfl ?_
      | refine A.index_r rfl rfl rfl rfl rfl rfl (by assumption) rfl ?_ | refine A.len rfl rfl rfl (by first | rw [List.length_map] | rfl) ?_ | refine A.lens rfl rfl rfl rfl ?_
      | refine A.pick_true rfl rfl rfl ?_ | refine A.pick_false rfl rfl rfl ?_ | refine A.pick_true rfl (by assumption) rfl ?_ | refine A.pick_false rfl (by assumption) rfl ?_
      | refine A.box rfl rfl rfl ?_ | refine A.alloc rfl rfl rfl ?_ | refine A.store rfl rfl rfl rfl rfl ?_ | refine A.build rfl rfl rfl rfl ?_ | refine A.buildSlice rfl rfl rfl rfl rfl rfl rfl ?_
      | refine A.eqi rfl rfl ?_ | refine A.nei rfl rfl ?_ | refine A.lss rfl rfl ?_ | refine A.leq rfl rfl ?_ | refine A.gtr rfl rfl ?_ | refine A.geq rfl rfl ?_ | refine A.eqs rfl rfl ?_ | refine A.nes rfl rfl ?_ | refine A.lts rfl rfl ?_ | refine A.gts rfl rfl ?_
      | refine A.not rfl ?_ | refine A.extract rfl rfl ?_ | refine A.add64 rfl rfl rfl (by omega) ?_ | refine A.sub64 rfl rfl rfl (by omega) ?_
      | refine A.call rfl s1 (WeakL.refl _) ?_ | refine A.call rfl s2 (WeakL.refl _) ?_ | refine A.call rfl s3 (WeakL.refl _) ?_ | refine A.call rfl l1 (WeakL.refl _) ?_ | refine A.call rfl l2 (WeakL.refl _) ?_ | refine A.call rfl l3 (WeakL.refl _) ?_
      | refine A.call rfl l4 (WeakL.refl _) ?_ | refine A.call rfl e1 (WeakL.refl _) ?_ | refine A.call rfl u1 (WeakL.refl _) ?_ | refine A.call rfl u2 (WeakL.refl _) ?_ | refine A.call rfl u3 (WeakL.refl _) ?_ | refine A.call rfl awake (WeakL.refl _) ?_
    all_goals refine Fin.ret1 rfl (Weak.eq ?_)
    all_goals simp_all
  · -- b is less
    repeat' first
      | refine HCode.seq ?_ | refine HCode.region rfl ?_ | refine HCode.region_draw Lay.mix rfl ?_ | refine HCode.block ?_ | refine HCode.scope ?_ | refine HCode.skip ?_ | refine HCode.exit ?_ | refine HCode.ret ?_
      | refine HCode.cond_true rfl ?_ | refine HCode.cond_false rfl ?_ | refine HCode.cond_yes rfl (by assumption) ?_ | refine HCode.cond_no rfl (by assumption) ?_ | (refine HCode.cond rfl ?_ ?_ <;> intro hc)
      | refine A.nil_seq ?_ | refine A.nil (fun _ => rfl) ?_ | refine A.yes rfl rfl ?_ | refine A.no rfl rfl ?_ | refine A.yes rfl (by assumption) ?_ | refine A.no rfl (by assumption) ?_ | (refine A.guard rfl ?_ ?_ <;> intro hc)
      | refine A.move rfl ?_ | refine A.assign rfl ?_ | refine A.load_b rfl rfl rfl rfl ?_ | refine A.load_r rfl rfl rfl ?_ | refine A.field_b rfl rfl rfl rfl rfl rfl ?_ | refine A.field_r rfl rfl rfl rfl rfl rfl ?_ | refine A.field rfl rfl rfl rfl rfl ?_
      | refine A.index_r rfl rfl rfl rfl rfl rfl (by assumption) rfl ?_ | refine A.len rfl rfl rfl (by first | rw [List.length_map] | rfl) ?_ | refine A.lens rfl rfl rfl rfl ?_
      | refine A.pick_true rfl rfl rfl ?_ | refine A.pick_false rfl rfl rfl ?_ | refine A.pick_true rfl (by assumption) rfl ?_ | refine A.pick_false rfl (by assumption) rfl ?_
      | refine A.box rfl rfl rfl ?_ | refine A.alloc rfl rfl rfl ?_ | refine A.store rfl rfl rfl rfl rfl ?_ | refine A.build rfl rfl rfl rfl ?_ | refine A.buildSlice rfl rfl rfl rfl rfl rfl rfl ?_
      | refine A.eqi rfl rfl ?_ | refine A.nei rfl rfl ?_ | refine A.lss rfl rfl ?_ | refine A.leq rfl rfl ?_ | refine A.gtr rfl rfl ?_ | refine A.geq rfl rfl ?_ | refine A.eqs rfl rfl ?_ | refine A.nes rfl rfl ?_ | refine A.lts rfl rfl ?_ | refine A.gts rfl rfl ?_
      | refine A.not rfl ?_ | refine A.extract rfl rfl ?_ | refine A.add64 rfl rfl rfl (by omega) ?_ | refine A.sub64 rfl rfl rfl (by omega) ?_
      | refine A.call rfl s1 (WeakL.refl _) ?_ | refine A.call rfl s2 (WeakL.refl _) ?_ | refine A.call rfl s3 (WeakL.refl _) ?_ | refine A.call rfl l1 (WeakL.refl _) ?_ | refine A.call rfl l2 (WeakL.refl _) ?_ | refine A.call rfl l3 (WeakL.refl _) ?_
      | refine A.call rfl l4 (WeakL.refl _) ?_ | refine A.call rfl e1 (WeakL.refl _) ?_ | refine A.call rfl u1 (WeakL.refl _) ?_ | refine A.call rfl u2 (WeakL.refl _) ?_ | refine A.call rfl u3 (WeakL.refl _) ?_ | refine A.call rfl awake (WeakL.refl _) ?_
    all_goals refine Fin.ret1 rfl (Weak.eq ?_)
    all_goals simp_all
  · -- the same
    repeat' first
      | refine HCode.seq ?_ | refine HCode.region rfl ?_ | refine HCode.region_draw Lay.mix rfl ?_ | refine HCode.block ?_ | refine HCode.scope ?_ | refine HCode.skip ?_ | refine HCode.exit ?_ | refine HCode.ret ?_
      | refine HCode.cond_true rfl ?_ | refine HCode.cond_false rfl ?_ | refine HCode.cond_yes rfl (by assumption) ?_ | refine HCode.cond_no rfl (by assumption) ?_ | (refine HCode.cond rfl ?_ ?_ <;> intro hc)
      | refine A.nil_seq ?_ | refine A.nil (fun _ => rfl) ?_ | refine A.yes rfl rfl ?_ | refine A.no rfl rfl ?_ | refine A.yes rfl (by assumption) ?_ | refine A.no rfl (by assumption) ?_ | (refine A.guard rfl ?_ ?_ <;> intro hc)
      | refine A.move rfl ?_ | refine A.assign rfl ?_ | refine A.load_b rfl rfl rfl rfl ?_ | refine A.load_r rfl rfl rfl ?_ | refine A.field_b rfl rfl rfl rfl rfl rfl ?_ | refine A.field_r rfl rfl rfl rfl rfl rfl ?_ | refine A.field rfl rfl rfl rfl rfl ?_
      | refine A.index_r rfl rfl rfl rfl rfl rfl (by assumption) rfl ?_ | refine A.len rfl rfl rfl (by first | rw [List.length_map] | rfl) ?_ | refine A.lens rfl rfl rfl rfl ?_
      | refine A.pick_true rfl rfl rfl ?_ | refine A.pick_false rfl rfl rfl ?_ | refine A.pick_true rfl (by assumption) rfl ?_ | refine A.pick_false rfl (by assumption) rfl ?_
      | refine A.box rfl rfl rfl ?_ | refine A.alloc rfl rfl rfl ?_ | refine A.store rfl rfl rfl rfl rfl ?_ | refine A.build rfl rfl rfl rfl ?_ | refine A.buildSlice rfl rfl rfl rfl rfl rfl rfl ?_
      | refine A.eqi rfl rfl ?_ | refine A.nei rfl rfl ?_ | refine A.lss rfl rfl ?_ | refine A.leq rfl rfl ?_ | refine A.gtr rfl rfl ?_ | refine A.geq rfl rfl ?_ | refine A.eqs rfl rfl ?_ | refine A.nes rfl rfl ?_ | refine A.lts rfl rfl ?_ | refine A.gts rfl rfl ?_
      | refine A.not rfl ?_ | refine A.extract rfl rfl ?_ | refine A.add64 rfl rfl rfl (by omega) ?_ | refine A.sub64 rfl rfl rfl (by omega) ?_
      | refine A.call rfl s1 (WeakL.refl _) ?_ | refine A.call rfl s2 (WeakL.refl _) ?_ | refine A.call rfl s3 (WeakL.refl _) ?_ | refine A.call rfl l1 (WeakL.refl _) ?_ | refine A.call rfl l2 (WeakL.refl _) ?_ | refine A.call rfl l3 (WeakL.refl _) ?_
      | refine A.call rfl l4 (WeakL.refl _) ?_ | refine A.call rfl e1 (WeakL.refl _) ?_ | refine A.call rfl u1 (WeakL.refl _) ?_ | refine A.call rfl u2 (WeakL.refl _) ?_ | refine A.call rfl u3 (WeakL.refl _) ?_ | refine A.call rfl awake (WeakL.refl _) ?_
    all_goals refine Fin.ret1 rfl (Weak.eq ?_)
    all_goals simp_all
end Go.Proofs.Ytaapdhocpadjaaa
