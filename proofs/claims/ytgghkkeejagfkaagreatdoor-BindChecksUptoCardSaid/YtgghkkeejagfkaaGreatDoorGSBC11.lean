/-
  Contracts and plain facts for a law, joined.
-/
import Derived.Test.YtgghkkeejagfkaaGreatDoorGSBC1
import Derived.Test.YtgghkkeejagfkaaGreatDoorGSBC10
import Derived.Test.YtgghkkeejagfkaaGreatDoorGSBC5
set_option maxRecDepth 100000
set_option maxHeartbeats 16000000
set_option linter.unusedVariables false
set_option linter.unusedSimpArgs false
set_option linter.unusedSectionVars false
namespace Go.Proofs.YtgghkkeejagfkaaGreatDoor
open Go Go.Av
attribute [local irreducible] HCode AOps PFn AFn Av.Step TStep
theorem rgv0 (v : Val) (hv : v.size ≤ 1048576) (k : v.kind = 0) (dl : decide ((0 : Int) < (v.lv.length : Int)) = !decide (v.l.length = 0)) (dm : decide ((0 : Int) < (v.mv.length : Int)) = !decide (v.m.length = 0)) : PFn Tryz.prog 237 [v.enc] (.bool (allV good v)) := by
  have hsz := v.size_eq
  have g4 := rGood v.s (by omega)
  have g5 := rName v.s (by omega)
  have g3 := rNumber v.s (by omega)
  have gi := rInt64 v.s (by omega)
  have u0 : (v.kind == 0) = true := by rw [k]; rfl
  have u1 : (v.kind == 1) = false := by rw [k]; rfl
  have u2 : (v.kind == 2) = false := by rw [k]; rfl
  have u3 : (v.kind == 3) = false := by rw [k]; rfl
  have u4 : (v.kind == 4) = false := by rw [k]; rfl
  have u5 : (v.kind == 5) = false := by rw [k]; rfl
  have u6 : (v.kind == 6) = false := by rw [k]; rfl
  have u7 : (v.kind == 7) = false := by rw [k]; rfl
  have u8 : (v.kind == 8) = false := by rw [k]; rfl
  have w1 : (v.kind != 1) = true := by rw [k]; rfl
  have w2 : (v.kind != 2) = true := by rw [k]; rfl
  have w6 : (v.kind != 6) = true := by rw [k]; rfl
  have w7 : (v.kind != 7) = true := by rw [k]; rfl
  refine AFn.plain rfl (by simp [AV.closedL, Val.closed]) (AFn.enter [2] Tryz.func237 rfl rfl rfl rfl rfl (by decide) ?_)
  rw [allV_eq, if_neg (by omega), if_neg (by omega)]
  unfold singleB
  rw [if_pos k]
  repeat' first | refine .br ?_ | refine .s1 ?_ | (refine .cond rfl ?_ ?_ <;> intro hc) | (refine A.guard rfl ?_ ?_ <;> intro hc) | fail
  all_goals
    refine Fin.ret1 rfl (Weak.eq (congrArg AV.bool ?_))
    first | (simp_all; done) | (simp_all [bne]; done)
theorem rgv1 (v : Val) (hv : v.size ≤ 1048576) (k : v.kind = 1) (dl : decide ((0 : Int) < (v.lv.length : Int)) = !decide (v.l.length = 0)) (dm : decide ((0 : Int) < (v.mv.length : Int)) = !decide (v.m.length = 0)) : PFn Tryz.prog 237 [v.enc] (.bool (allV good v)) := by
  have hsz := v.size_eq
  have g4 := rGood v.s (by omega)
  have g5 := rName v.s (by omega)
  have g3 := rNumber v.s (by omega)
  have gi := rInt64 v.s (by omega)
  have u0 : (v.kind == 0) = false := by rw [k]; rfl
  have u1 : (v.kind == 1) = true := by rw [k]; rfl
  have u2 : (v.kind == 2) = false := by rw [k]; rfl
  have u3 : (v.kind == 3) = false := by rw [k]; rfl
  have u4 : (v.kind == 4) = false := by rw [k]; rfl
  have u5 : (v.kind == 5) = false := by rw [k]; rfl
  have u6 : (v.kind == 6) = false := by rw [k]; rfl
  have u7 : (v.kind == 7) = false := by rw [k]; rfl
  have u8 : (v.kind == 8) = false := by rw [k]; rfl
  have w1 : (v.kind != 1) = false := by rw [k]; rfl
  have w2 : (v.kind != 2) = true := by rw [k]; rfl
  have w6 : (v.kind != 6) = true := by rw [k]; rfl
  have w7 : (v.kind != 7) = true := by rw [k]; rfl
  refine AFn.plain rfl (by simp [AV.closedL, Val.closed]) (AFn.enter [2] Tryz.func237 rfl rfl rfl rfl rfl (by decide) ?_)
  rw [allV_eq, if_neg (by omega), if_neg (by omega)]
  unfold singleB
  rw [if_neg (show ¬ v.kind = 0 by omega)]
  rw [if_pos k]
  repeat' first | refine .br ?_ | refine .s1 ?_ | (refine .cond rfl ?_ ?_ <;> intro hc) | (refine A.guard rfl ?_ ?_ <;> intro hc) | fail
  all_goals
    refine Fin.ret1 rfl (Weak.eq (congrArg AV.bool ?_))
    first | (simp_all; done) | (simp_all [bne]; done)
theorem rgv2 (v : Val) (hv : v.size ≤ 1048576) (k : v.kind = 2) (dl : decide ((0 : Int) < (v.lv.length : Int)) = !decide (v.l.length = 0)) (dm : decide ((0 : Int) < (v.mv.length : Int)) = !decide (v.m.length = 0)) : PFn Tryz.prog 237 [v.enc] (.bool (allV good v)) := by
  have hsz := v.size_eq
  have g4 := rGood v.s (by omega)
  have g5 := rName v.s (by omega)
  have g3 := rNumber v.s (by omega)
  have gi := rInt64 v.s (by omega)
  have u0 : (v.kind == 0) = false := by rw [k]; rfl
  have u1 : (v.kind == 1) = false := by rw [k]; rfl
  have u2 : (v.kind == 2) = true := by rw [k]; rfl
  have u3 : (v.kind == 3) = false := by rw [k]; rfl
  have u4 : (v.kind == 4) = false := by rw [k]; rfl
  have u5 : (v.kind == 5) = false := by rw [k]; rfl
  have u6 : (v.kind == 6) = false := by rw [k]; rfl
  have u7 : (v.kind == 7) = false := by rw [k]; rfl
  have u8 : (v.kind == 8) = false := by rw [k]; rfl
  have w1 : (v.kind != 1) = true := by rw [k]; rfl
  have w2 : (v.kind != 2) = false := by rw [k]; rfl
  have w6 : (v.kind != 6) = true := by rw [k]; rfl
  have w7 : (v.kind != 7) = true := by rw [k]; rfl
  refine AFn.plain rfl (by simp [AV.closedL, Val.closed]) (AFn.enter [2] Tryz.func237 rfl rfl rfl rfl rfl (by decide) ?_)
  rw [allV_eq, if_neg (by omega), if_neg (by omega)]
  unfold singleB
  rw [if_neg (show ¬ v.kind = 0 by omega)]
  rw [if_neg (show ¬ v.kind = 1 by omega)]
  rw [if_pos k]
  repeat' first | refine .br ?_ | refine .s1 ?_ | (refine .cond rfl ?_ ?_ <;> intro hc) | (refine A.guard rfl ?_ ?_ <;> intro hc) | fail
  all_goals
    refine Fin.ret1 rfl (Weak.eq (congrArg AV.bool ?_))
    first | (simp_all; done) | (simp_all [bne]; done)
theorem rgv3 (v : Val) (hv : v.size ≤ 1048576) (k : v.kind = 3) (dl : decide ((0 : Int) < (v.lv.length : Int)) = !decide (v.l.length = 0)) (dm : decide ((0 : Int) < (v.mv.length : Int)) = !decide (v.m.length = 0)) : PFn Tryz.prog 237 [v.enc] (.bool (allV good v)) := by
  have hsz := v.size_eq
  have g4 := rGood v.s (by omega)
  have g5 := rName v.s (by omega)
  have g3 := rNumber v.s (by omega)
  have gi := rInt64 v.s (by omega)
  have u0 : (v.kind == 0) = false := by rw [k]; rfl
  have u1 : (v.kind == 1) = false := by rw [k]; rfl
  have u2 : (v.kind == 2) = false := by rw [k]; rfl
  have u3 : (v.kind == 3) = true := by rw [k]; rfl
  have u4 : (v.kind == 4) = false := by rw [k]; rfl
  have u5 : (v.kind == 5) = false := by rw [k]; rfl
  have u6 : (v.kind == 6) = false := by rw [k]; rfl
  have u7 : (v.kind == 7) = false := by rw [k]; rfl
  have u8 : (v.kind == 8) = false := by rw [k]; rfl
  have w1 : (v.kind != 1) = true := by rw [k]; rfl
  have w2 : (v.kind != 2) = true := by rw [k]; rfl
  have w6 : (v.kind != 6) = true := by rw [k]; rfl
  have w7 : (v.kind != 7) = true := by rw [k]; rfl
  refine AFn.plain rfl (by simp [AV.closedL, Val.closed]) (AFn.enter [2] Tryz.func237 rfl rfl rfl rfl rfl (by decide) ?_)
  rw [allV_eq, if_neg (by omega), if_neg (by omega)]
  unfold singleB
  rw [if_neg (show ¬ v.kind = 0 by omega)]
  rw [if_neg (show ¬ v.kind = 1 by omega)]
  rw [if_neg (show ¬ v.kind = 2 by omega)]
  rw [if_pos k]
  rw [numB_eq]
  repeat' first | refine .br ?_ | refine .s1 ?_ | (refine .cond rfl ?_ ?_ <;> intro hc) | (refine A.guard rfl ?_ ?_ <;> intro hc) | fail
  all_goals
    refine Fin.ret1 rfl (Weak.eq (congrArg AV.bool ?_))
    first | (simp_all; done) | (simp_all [bne]; done)
theorem rgv4 (v : Val) (hv : v.size ≤ 1048576) (k : v.kind = 4) (dl : decide ((0 : Int) < (v.lv.length : Int)) = !decide (v.l.length = 0)) (dm : decide ((0 : Int) < (v.mv.length : Int)) = !decide (v.m.length = 0)) : PFn Tryz.prog 237 [v.enc] (.bool (allV good v)) := by
  have hsz := v.size_eq
  have g4 := rGood v.s (by omega)
  have g5 := rName v.s (by omega)
  have g3 := rNumber v.s (by omega)
  have gi := rInt64 v.s (by omega)
  have u0 : (v.kind == 0) = false := by rw [k]; rfl
  have u1 : (v.kind == 1) = false := by rw [k]; rfl
  have u2 : (v.kind == 2) = false := by rw [k]; rfl
  have u3 : (v.kind == 3) = false := by rw [k]; rfl
  have u4 : (v.kind == 4) = true := by rw [k]; rfl
  have u5 : (v.kind == 5) = false := by rw [k]; rfl
  have u6 : (v.kind == 6) = false := by rw [k]; rfl
  have u7 : (v.kind == 7) = false := by rw [k]; rfl
  have u8 : (v.kind == 8) = false := by rw [k]; rfl
  have w1 : (v.kind != 1) = true := by rw [k]; rfl
  have w2 : (v.kind != 2) = true := by rw [k]; rfl
  have w6 : (v.kind != 6) = true := by rw [k]; rfl
  have w7 : (v.kind != 7) = true := by rw [k]; rfl
  refine AFn.plain rfl (by simp [AV.closedL, Val.closed]) (AFn.enter [2] Tryz.func237 rfl rfl rfl rfl rfl (by decide) ?_)
  rw [allV_eq, if_neg (by omega), if_neg (by omega)]
  unfold singleB
  rw [if_neg (show ¬ v.kind = 0 by omega)]
  rw [if_neg (show ¬ v.kind = 1 by omega)]
  rw [if_neg (show ¬ v.kind = 2 by omega)]
  rw [if_neg (show ¬ v.kind = 3 by omega)]
  rw [if_pos k]
  repeat' first | refine .br ?_ | refine .s1 ?_ | (refine .cond rfl ?_ ?_ <;> intro hc) | (refine A.guard rfl ?_ ?_ <;> intro hc) | fail
  all_goals
    refine Fin.ret1 rfl (Weak.eq (congrArg AV.bool ?_))
    first | (simp_all; done) | (simp_all [bne]; done)
theorem rgv5 (v : Val) (hv : v.size ≤ 1048576) (k : v.kind = 5) (dl : decide ((0 : Int) < (v.lv.length : Int)) = !decide (v.l.length = 0)) (dm : decide ((0 : Int) < (v.mv.length : Int)) = !decide (v.m.length = 0)) : PFn Tryz.prog 237 [v.enc] (.bool (allV good v)) := by
  have hsz := v.size_eq
  have g4 := rGood v.s (by omega)
  have g5 := rName v.s (by omega)
  have g3 := rNumber v.s (by omega)
  have gi := rInt64 v.s (by omega)
  have u0 : (v.kind == 0) = false := by rw [k]; rfl
  have u1 : (v.kind == 1) = false := by rw [k]; rfl
  have u2 : (v.kind == 2) = false := by rw [k]; rfl
  have u3 : (v.kind == 3) = false := by rw [k]; rfl
  have u4 : (v.kind == 4) = false := by rw [k]; rfl
  have u5 : (v.kind == 5) = true := by rw [k]; rfl
  have u6 : (v.kind == 6) = false := by rw [k]; rfl
  have u7 : (v.kind == 7) = false := by rw [k]; rfl
  have u8 : (v.kind == 8) = false := by rw [k]; rfl
  have w1 : (v.kind != 1) = true := by rw [k]; rfl
  have w2 : (v.kind != 2) = true := by rw [k]; rfl
  have w6 : (v.kind != 6) = true := by rw [k]; rfl
  have w7 : (v.kind != 7) = true := by rw [k]; rfl
  refine AFn.plain rfl (by simp [AV.closedL, Val.closed]) (AFn.enter [2] Tryz.func237 rfl rfl rfl rfl rfl (by decide) ?_)
  rw [allV_eq, if_neg (by omega), if_neg (by omega)]
  unfold singleB
  rw [if_neg (show ¬ v.kind = 0 by omega)]
  rw [if_neg (show ¬ v.kind = 1 by omega)]
  rw [if_neg (show ¬ v.kind = 2 by omega)]
  rw [if_neg (show ¬ v.kind = 3 by omega)]
  rw [if_neg (show ¬ v.kind = 4 by omega)]
  rw [if_pos k]
  unfold resB
  repeat' first | refine .br ?_ | refine .s1 ?_ | (refine .cond rfl ?_ ?_ <;> intro hc) | (refine A.guard rfl ?_ ?_ <;> intro hc) | fail
  all_goals
    refine Fin.ret1 rfl (Weak.eq (congrArg AV.bool ?_))
    first | (simp_all; done) | (simp_all [bne]; done)
theorem rgv8 (v : Val) (hv : v.size ≤ 1048576) (k : v.kind = 8) (dl : decide ((0 : Int) < (v.lv.length : Int)) = !decide (v.l.length = 0)) (dm : decide ((0 : Int) < (v.mv.length : Int)) = !decide (v.m.length = 0)) : PFn Tryz.prog 237 [v.enc] (.bool (allV good v)) := by
  have hsz := v.size_eq
  have g4 := rGood v.s (by omega)
  have g5 := rName v.s (by omega)
  have g3 := rNumber v.s (by omega)
  have gi := rInt64 v.s (by omega)
  have u0 : (v.kind == 0) = false := by rw [k]; rfl
  have u1 : (v.kind == 1) = false := by rw [k]; rfl
  have u2 : (v.kind == 2) = false := by rw [k]; rfl
  have u3 : (v.kind == 3) = false := by rw [k]; rfl
  have u4 : (v.kind == 4) = false := by rw [k]; rfl
  have u5 : (v.kind == 5) = false := by rw [k]; rfl
  have u6 : (v.kind == 6) = false := by rw [k]; rfl
  have u7 : (v.kind == 7) = false := by rw [k]; rfl
  have u8 : (v.kind == 8) = true := by rw [k]; rfl
  have w1 : (v.kind != 1) = true := by rw [k]; rfl
  have w2 : (v.kind != 2) = true := by rw [k]; rfl
  have w6 : (v.kind != 6) = true := by rw [k]; rfl
  have w7 : (v.kind != 7) = true := by rw [k]; rfl
  refine AFn.plain rfl (by simp [AV.closedL, Val.closed]) (AFn.enter [2] Tryz.func237 rfl rfl rfl rfl rfl (by decide) ?_)
  rw [allV_eq, if_neg (by omega), if_neg (by omega)]
  unfold singleB
  rw [if_neg (show ¬ v.kind = 0 by omega)]
  rw [if_neg (show ¬ v.kind = 1 by omega)]
  rw [if_neg (show ¬ v.kind = 2 by omega)]
  rw [if_neg (show ¬ v.kind = 3 by omega)]
  rw [if_neg (show ¬ v.kind = 4 by omega)]
  rw [if_neg (show ¬ v.kind = 5 by omega)]
  rw [if_pos k]
  repeat' first | refine .br ?_ | refine .s1 ?_ | (refine .cond rfl ?_ ?_ <;> intro hc) | (refine A.guard rfl ?_ ?_ <;> intro hc) | fail
  all_goals
    refine Fin.ret1 rfl (Weak.eq (congrArg AV.bool ?_))
    first | (simp_all; done) | (simp_all [bne]; done)
theorem rgvX (v : Val) (k : ¬ (v.kind = 0 ∨ v.kind = 1 ∨ v.kind = 2 ∨ v.kind = 3 ∨ v.kind = 4 ∨ v.kind = 5 ∨ v.kind = 6 ∨ v.kind = 7 ∨ v.kind = 8)) (dl : decide ((0 : Int) < (v.lv.length : Int)) = !decide (v.l.length = 0)) (dm : decide ((0 : Int) < (v.mv.length : Int)) = !decide (v.m.length = 0)) : PFn Tryz.prog 237 [v.enc] (.bool (allV good v)) := by
  simp only [not_or] at k
  obtain ⟨k0, k1, k2, k3, k4, k5, k6, k7, k8⟩ := k
  have u0 := beq_no k0
  have u1 := beq_no k1
  have u2 := beq_no k2
  have u3 := beq_no k3
  have u4 := beq_no k4
  have u5 := beq_no k5
  have u6 := beq_no k6
  have u7 := beq_no k7
  have u8 := beq_no k8
  have w1 : (v.kind != 1) = true := by simp [k1]
  have w2 : (v.kind != 2) = true := by simp [k2]
  have w6 : (v.kind != 6) = true := by simp [k6]
  have w7 : (v.kind != 7) = true := by simp [k7]
  refine AFn.plain rfl (by simp [AV.closedL, Val.closed]) (AFn.enter [2] Tryz.func237 rfl rfl rfl rfl rfl (by decide) ?_)
  rw [allV_eq, if_neg k6, if_neg k7]
  unfold singleB
  rw [if_neg k0, if_neg k1, if_neg k2, if_neg k3, if_neg k4, if_neg k5, if_neg k8, Bool.and_false]
  repeat' first | refine .br ?_ | refine .s1 ?_ | (refine .cond rfl ?_ ?_ <;> intro hc) | (refine A.guard rfl ?_ ?_ <;> intro hc) | fail
  all_goals exact Fin.ret1 rfl (Weak.refl _)
theorem rgv6 (v : Val) (hv : v.size ≤ 1048576) (k : v.kind = 6) (dl : decide ((0 : Int) < (v.lv.length : Int)) = !decide (v.l.length = 0)) (dm : decide ((0 : Int) < (v.mv.length : Int)) = !decide (v.m.length = 0)) (ih : ∀ x ∈ v.l, PFn Tryz.prog 237 [x.enc] (.bool (allV good x))) : PFn Tryz.prog 237 [v.enc] (.bool (allV good v)) := by
  have hsz := v.size_eq
  have hll := v.l_len
  have hml := v.m_len
  have u0 : (v.kind == 0) = false := by rw [k]; rfl
  have u1 : (v.kind == 1) = false := by rw [k]; rfl
  have u2 : (v.kind == 2) = false := by rw [k]; rfl
  have u3 : (v.kind == 3) = false := by rw [k]; rfl
  have u4 : (v.kind == 4) = false := by rw [k]; rfl
  have u5 : (v.kind == 5) = false := by rw [k]; rfl
  have u6 : (v.kind == 6) = true := by rw [k]; rfl
  have u7 : (v.kind == 7) = false := by rw [k]; rfl
  have u8 : (v.kind == 8) = false := by rw [k]; rfl
  have w1 : (v.kind != 1) = true := by rw [k]; rfl
  have w2 : (v.kind != 2) = true := by rw [k]; rfl
  have w6 : (v.kind != 6) = false := by rw [k]; rfl
  have w7 : (v.kind != 7) = true := by rw [k]; rfl
  refine AFn.plain rfl (by simp [AV.closedL, Val.closed]) (AFn.enter [2] Tryz.func237 rfl rfl rfl rfl rfl (by decide) ?_)
  rw [allV_eq, if_pos k]
  by_cases cn : v.n = 0
  · have en : (v.n != 0) = false := by simp [cn]
    by_cases cm : v.m.length = 0
    · have em : decide ((0 : Int) < (v.mv.length : Int)) = false := by rw [dm]; simp [cm]
      by_cases cs : v.s = []
      · have es : (v.s != []) = false := by simp [cs]
        have hall : (allL good v.l && (v.n == 0 && v.s == [] && decide (v.m.length = 0))) = allL good v.l := by simp [cn, cm, cs]
        rw [hall]
        refine .gob ?_
        refine HCode.forK v.l.length (fun j => [(6, .int .i64 j), (1, .rptr v.enc)]) (fun _ => ⟨[], []⟩) (fun j => allL good v.l = allL good (v.l.drop j)) ⟨rfl, rfl, trivial⟩ rfl rfl fun j hj hp => ?_
        by_cases h1 : j < v.l.length
        · have d1 : decide ((j : Int) < (v.lv.length : Int)) = true := by rw [v.lv_len]; simp [h1]
          have x1 := Val.lv_get h1
          have hd := allL_drop good h1
          have hc1 := ih v.l[j] (List.getElem_mem h1)
          repeat' first | refine .s1 ?_ | (refine .cond rfl ?_ ?_ <;> intro hc) | (refine A.guard rfl ?_ ?_ <;> intro hc) | fail
          all_goals first | (refine Fin.ret1 rfl (Weak.eq (congrArg AV.bool ?_)); rw [hp, hd]; simp_all; done) | (exact ⟨h1, ⟨rfl, rfl, trivial⟩, by simp [belowS, AV.low], rfl, rfl, by rw [hp, hd]; simp_all⟩)
        · have d1 : decide ((j : Int) < (v.lv.length : Int)) = false := by rw [v.lv_len]; simp; omega
          refine .go ?_
          refine Fin.ret1 rfl (Weak.eq (congrArg AV.bool ?_))
          rw [hp, List.drop_eq_nil_of_le (by omega), allL]
      · have es : (v.s != []) = true := by simp [cs]
        refine .gob ?_
        refine Fin.ret1 rfl (Weak.eq (congrArg AV.bool ?_))
        simp [cs]
    · have em : decide ((0 : Int) < (v.mv.length : Int)) = true := by rw [dm]; simp [cm]
      refine .gob ?_
      refine Fin.ret1 rfl (Weak.eq (congrArg AV.bool ?_))
      simp [cm]
  · have en : (v.n != 0) = true := by simp [cn]
    refine .gob ?_
    refine Fin.ret1 rfl (Weak.eq (congrArg AV.bool ?_))
    simp [cn]
theorem rgv7 (v : Val) (hv : v.size ≤ 1048576) (k : v.kind = 7) (dl : decide ((0 : Int) < (v.lv.length : Int)) = !decide (v.l.length = 0)) (dm : decide ((0 : Int) < (v.mv.length : Int)) = !decide (v.m.length = 0)) (ih : ∀ x ∈ v.m, PFn Tryz.prog 237 [x.v.enc] (.bool (allV good x.v))) : PFn Tryz.prog 237 [v.enc] (.bool (allV good v)) := by
  have hsz := v.size_eq
  have hll := v.l_len
  have hml := v.m_len
  have u0 : (v.kind == 0) = false := by rw [k]; rfl
  have u1 : (v.kind == 1) = false := by rw [k]; rfl
  have u2 : (v.kind == 2) = false := by rw [k]; rfl
  have u3 : (v.kind == 3) = false := by rw [k]; rfl
  have u4 : (v.kind == 4) = false := by rw [k]; rfl
  have u5 : (v.kind == 5) = false := by rw [k]; rfl
  have u6 : (v.kind == 6) = false := by rw [k]; rfl
  have u7 : (v.kind == 7) = true := by rw [k]; rfl
  have u8 : (v.kind == 8) = false := by rw [k]; rfl
  have w1 : (v.kind != 1) = true := by rw [k]; rfl
  have w2 : (v.kind != 2) = true := by rw [k]; rfl
  have w6 : (v.kind != 6) = true := by rw [k]; rfl
  have w7 : (v.kind != 7) = false := by rw [k]; rfl
  refine AFn.plain rfl (by simp [AV.closedL, Val.closed]) (AFn.enter [2] Tryz.func237 rfl rfl rfl rfl rfl (by decide) ?_)
  rw [allV_eq, if_neg (by omega), if_pos k]
  by_cases cn : v.n = 0
  · have en : (v.n != 0) = false := by simp [cn]
    by_cases cm : v.l.length = 0
    · have em : decide ((0 : Int) < (v.lv.length : Int)) = false := by rw [dl]; simp [cm]
      by_cases cs : v.s = []
      · have es : (v.s != []) = false := by simp [cs]
        have hall : (allM good v.m && (v.n == 0 && v.s == [] && decide (v.l.length = 0))) = allM good v.m := by simp [cn, cm, cs]
        rw [hall]
        refine .gob ?_
        refine HCode.forK v.m.length (fun j => [(7, .int .i64 j), (1, .rptr v.enc)]) (fun _ => ⟨[], []⟩) (fun j => allM good v.m = allM good (v.m.drop j)) ⟨rfl, rfl, trivial⟩ rfl rfl fun j hj hp => ?_
        by_cases h1 : j < v.m.length
        · have d1 : decide ((j : Int) < (v.mv.length : Int)) = true := by rw [v.mv_len]; simp [h1]
          have x1 := Val.mv_get h1
          have hd := allM_drop good h1
          have hc1 := ih v.m[j] (List.getElem_mem h1)
          have hg1 := rGood v.m[j].name (by have := Mem.name_len h1; omega)
          repeat' first | refine .s1 ?_ | (refine .cond rfl ?_ ?_ <;> intro hc) | (refine A.guard rfl ?_ ?_ <;> intro hc) | fail
          all_goals first | (refine Fin.ret1 rfl (Weak.eq (congrArg AV.bool ?_)); rw [hp, hd]; simp_all; done) | (exact ⟨h1, ⟨rfl, rfl, trivial⟩, by simp [belowS, AV.low], rfl, rfl, by rw [hp, hd]; simp_all⟩)
        · have d1 : decide ((j : Int) < (v.mv.length : Int)) = false := by rw [v.mv_len]; simp; omega
          refine .go ?_
          refine Fin.ret1 rfl (Weak.eq (congrArg AV.bool ?_))
          rw [hp, List.drop_eq_nil_of_le (by omega), allM]
      · have es : (v.s != []) = true := by simp [cs]
        refine .gob ?_
        refine Fin.ret1 rfl (Weak.eq (congrArg AV.bool ?_))
        simp [cs]
    · have em : decide ((0 : Int) < (v.lv.length : Int)) = true := by rw [dl]; simp [cm]
      refine .gob ?_
      refine Fin.ret1 rfl (Weak.eq (congrArg AV.bool ?_))
      simp [cm]
  · have en : (v.n != 0) = true := by simp [cn]
    refine .gob ?_
    refine Fin.ret1 rfl (Weak.eq (congrArg AV.bool ?_))
    simp [cn]
theorem rGoodValue : ∀ N : Nat, N ≤ 1048576 → ∀ v : Val, v.size ≤ N → PFn Tryz.prog 237 [v.enc] (.bool (allV good v))
  | 0, _, v, hv => absurd hv (by have := v.size_pos; omega)
  | N + 1, hN, v, hv => by
    have ih := rGoodValue N (by omega)
    have dl : decide ((0 : Int) < (v.lv.length : Int)) = !decide (v.l.length = 0) := by rw [v.lv_len, Bool.eq_iff_iff]; simp only [decide_eq_true_eq, Bool.not_eq_true', decide_eq_false_iff_not]; omega
    have dm : decide ((0 : Int) < (v.mv.length : Int)) = !decide (v.m.length = 0) := by rw [v.mv_len, Bool.eq_iff_iff]; simp only [decide_eq_true_eq, Bool.not_eq_true', decide_eq_false_iff_not]; omega
    by_cases k0 : v.kind = 0
    · exact rgv0 v (by omega) k0 dl dm
    by_cases k1 : v.kind = 1
    · exact rgv1 v (by omega) k1 dl dm
    by_cases k2 : v.kind = 2
    · exact rgv2 v (by omega) k2 dl dm
    by_cases k3 : v.kind = 3
    · exact rgv3 v (by omega) k3 dl dm
    by_cases k4 : v.kind = 4
    · exact rgv4 v (by omega) k4 dl dm
    by_cases k5 : v.kind = 5
    · exact rgv5 v (by omega) k5 dl dm
    by_cases k8 : v.kind = 8
    · exact rgv8 v (by omega) k8 dl dm
    by_cases k6 : v.kind = 6
    · exact rgv6 v (by omega) k6 dl dm (fun x hx => ih x (by
        obtain ⟨j, hj, rfl⟩ := List.getElem_of_mem hx
        have := Val.size_l hj; omega))
    by_cases k7 : v.kind = 7
    · exact rgv7 v (by omega) k7 dl dm (fun x hx => ih x.v (by
        obtain ⟨j, hj, rfl⟩ := List.getElem_of_mem hx
        have := Val.size_m hj; omega))
    exact rgvX v (by omega) dl dm
theorem rScalar9 (n : Str) : PFn Tryz.prog 125 [.str n] (.bool (scalarB n)) := by
  refine AFn.plain rfl rfl (AFn.enter [2] Tryz.func125 rfl rfl rfl rfl rfl (by decide) ?_)
  repeat' first | refine .s1 ?_ | (refine .cond rfl ?_ ?_ <;> intro hc) | (refine A.guard rfl ?_ ?_ <;> intro hc) | fail
  all_goals
    refine Fin.ret1 rfl (Weak.eq (congrArg AV.bool ?_))
    unfold scalarB sInt sString sBoolean sID
    simp_all
theorem rFind9 (s : Sch) (name : Str) (hs : s.size ≤ 1048576) : PFn Tryz.prog 134 [s.enc, .str name] (.tup [(findR s name).1.enc, .bool (findR s name).2]) := by
  have hsc := rScalar9 name
  have hl := s.len
  refine AFn.plain (by simp [AV.closed, AV.closedL, Dfn.closed]) (by simp [AV.closed, AV.closedL, Sch.closed]) (AFn.enterR [.cell 4 52, .tmp 5] Tryz.func134 rfl rfl rfl rfl rfl ?_)
  cases c : scalarB name with
  | true =>
    rw [c] at hsc
    refine .gob ?_
    refine FinR.ret1 rfl ?_
    rw [findR, findO, if_pos c]
    exact Weak.tup (WeakL.cons weak_dfn (WeakL.refl _))
  | false =>
    rw [c] at hsc
    refine .gob ?_
    refine HCode.forK s.defs.length (fun k => [(6, .int .i64 k), (2, .rptr s.enc), (1, .str name), (4, .ptr 0 0)])
      (fun _ => ⟨[.cells [.int .i64 0, .str [], .slice [] .nil, .slice [] .nil, .slice [] .nil, .slice [] .nil]], []⟩) (fun k => findO s name = (s.defs.drop k).find? (fun d => d.name == name))
      ⟨rfl, rfl, rfl, rfl, trivial⟩ rfl (by rw [findO, if_neg (by rw [c]; decide)]; rfl) fun k hk hp => ?_
    by_cases h1 : k < s.defs.length
    · have d1 : decide ((k : Int) < (s.defs.length : Int)) = true := by simp [h1]
      have x1 := map_get' (f := Dfn.enc) h1
      have hd := find_drop (p := fun d : Dfn => d.name == name) h1
      repeat' first | refine .lb ?_ | refine .s1 ?_ | (refine .cond rfl ?_ ?_ <;> intro hc) | (refine A.guard rfl ?_ ?_ <;> intro hc) | fail
      · refine FinR.ret1 rfl (Weak.eq ?_)
        rw [findR, hp, hd, if_pos hc]; rfl
      · exact ⟨h1, ⟨rfl, rfl, rfl, rfl, trivial⟩, by simp [belowS, AV.low], rfl, rfl, by rw [hp, hd, if_neg (by simp [hc])]⟩
    · have d1 : decide ((k : Int) < (s.defs.length : Int)) = false := by simp; omega
      refine .go ?_
      refine FinR.ret1 rfl ?_
      rw [findR, hp, List.drop_eq_nil_of_le (by omega)]
      exact Weak.tup (WeakL.cons weak_dfn (WeakL.refl _))
theorem rParam9 (l : List Par) (name : Str) (hl : l.length ≤ 68719476736) : PFn Tryz.prog 69 [.slice (l.map Par.enc) .no, .str name] (.tup [(parR l name).1.enc, .bool (parR l name).2]) := by
  refine AFn.plain (by simp [AV.closed, AV.closedL, Par.closed]) (by simp [AV.closed, AV.closedL, Par.closedL]) (AFn.enterR [.cell 4 93, .tmp 5] Tryz.func69 rfl rfl rfl rfl rfl ?_)
  refine .go ?_
  refine HCode.forK l.length (fun k => [(6, .int .i64 k), (0, .slice (l.map Par.enc) .no), (1, .str name), (4, .ptr 0 0)])
    (fun _ => ⟨[.cells [.str [], .str [], .int .i64 0, .int .i64 0, .bool false, .int .i64 0, .int .i64 0, .str [], .slice [] .nil, .slice [] .nil]], []⟩) (fun k => parO l name = (l.drop k).find? (fun p => p.name == name))
    ⟨rfl, rfl, rfl, rfl, trivial⟩ rfl rfl fun k hk hp => ?_
  by_cases h1 : k < l.length
  · have d1 : decide ((k : Int) < (l.length : Int)) = true := by simp [h1]
    have x1 := map_get' (f := Par.enc) h1
    have hd := find_drop (p := fun p : Par => p.name == name) h1
    repeat' first | refine .s1 ?_ | (refine .cond rfl ?_ ?_ <;> intro hc) | (refine A.guard rfl ?_ ?_ <;> intro hc) | fail
    · refine FinR.ret1 rfl (Weak.eq ?_)
      rw [parR, hp, hd, if_pos hc]; rfl
    · exact ⟨h1, ⟨rfl, rfl, rfl, rfl, trivial⟩, by simp [belowS, AV.low], rfl, rfl, by rw [hp, hd, if_neg (by simp [hc])]⟩
  · have d1 : decide ((k : Int) < (l.length : Int)) = false := by simp; omega
    refine .go ?_
    refine FinR.ret1 rfl ?_
    rw [parR, hp, List.drop_eq_nil_of_le (by omega)]
    exact Weak.tup (WeakL.cons weak_zeroP (WeakL.refl _))
theorem rGetV (name : Str) (l : List Mem) (hl : l.length ≤ 9223372036854775807) : PFn Tryz.prog 199 [.str name, .slice (l.map Mem.enc) .no] (.tup [(getG name l).1.enc, .bool (getG name l).2]) := by
  refine AFn.plain (by simp [AV.closed, AV.closedL, Val.closed]) (by simp [AV.closed, AV.closedL, Mem.closedL]) (AFn.enterR [.cell 4 42, .tmp 5] Tryz.func199 rfl rfl rfl rfl rfl ?_)
  refine .go ?_
  refine HCode.forK l.length (fun k => [(6, .int .i64 k), (1, .slice (l.map Mem.enc) .no), (0, .str name), (4, .ptr 0 0)]) (fun _ => ⟨[.cells zeroV], []⟩) (fun k => getG name l = getG name (l.drop k)) ⟨rfl, rfl, rfl, rfl, trivial⟩ rfl rfl fun k hk hp => ?_
  by_cases h1 : k < l.length
  · have d1 : decide ((k : Int) < (l.length : Int)) = true := by simp [h1]
    have x1 := map_get' (f := Mem.enc) h1
    repeat' first | refine .s1 ?_ | (refine .cond rfl ?_ ?_ <;> intro hc) | (refine A.guard rfl ?_ ?_ <;> intro hc) | fail
    · refine FinR.ret1 rfl (Weak.eq ?_)
      rw [hp, getG_drop h1, if_pos hc]; rfl
    · exact ⟨h1, ⟨rfl, rfl, rfl, rfl, trivial⟩, by simp [belowS, AV.low], rfl, rfl, by rw [hp, getG_drop h1, if_neg (by simp [hc])]⟩
  · have d1 : decide ((k : Int) < (l.length : Int)) = false := by simp; omega
    refine .go ?_
    refine FinR.ret1 rfl ?_
    rw [hp, List.drop_eq_nil_of_le (by omega), getG]
    exact Weak.tup (WeakL.cons weak_flatV (WeakL.refl _))
theorem rInput9 (s : Sch) (ps : List Par) (m : List Mem) (hs : s.size ≤ 1048576) (hps : ps.length ≤ 68719476736) (hpz : ∀ p ∈ ps, p.size ≤ 68719476736) (hm : m.length ≤ 68719476736)
    (ih : ∀ x ∈ m, ∀ t : Typ, t.name.length ≤ 68719476736 → PFn Tryz.prog 238 [s.enc, t.enc, x.v.enc, .bool true] (.bool (fitsV s x.v t false))) :
    PFn Tryz.prog 272 [s.enc, .slice (ps.map Par.enc) .no, .slice (m.map Mem.enc) .no] (.bool (fitsM s ps m [] && needsB m ps)) := by
  refine AFn.plain rfl (by simp [AV.closed, AV.closedL, Sch.closed, Par.closedL, Mem.closedL]) (AFn.enter [6] Tryz.func272 rfl rfl rfl rfl rfl (by decide) ?_)
  refine .gob ?_
  refine HCode.forK m.length (fun k => [(7, .int .i64 k), (1, .slice (ps.map Par.enc) .no), (2, .slice (m.map Mem.enc) .no), (3, .rptr s.enc)])
    (fun _ => ⟨[], []⟩) (fun k => fitsM s ps m [] = fitsM s ps (m.drop k) ((m.take k).map Mem.name)) ⟨rfl, rfl, rfl, rfl, trivial⟩ rfl rfl fun k hk hp => ?_
  by_cases h1 : k < m.length
  · have d1 : decide ((k : Int) < (m.length : Int)) = true := by simp [h1]
    have x1 := map_get' (f := Mem.enc) h1
    have hpar := rParam9 ps m[k].name hps
    have hd := fitsM_drop (s := s) (ps := ps) h1
    cases hpo : parO ps m[k].name with
    | none =>
      have e1 : parR ps m[k].name = (zeroP, false) := by rw [parR, hpo]
      rw [e1] at hpar
      rw [hpo] at hd
      refine .go ?_
      refine Fin.ret1 rfl (Weak.eq (congrArg AV.bool ?_))
      rw [hp, hd]; rfl
    | some p =>
      have e1 : parR ps m[k].name = (p, true) := by rw [parR, hpo]
      have hpm : p ∈ ps := List.mem_of_find?_eq_some hpo
      have hpl := p.lens
      have hpz' := hpz p hpm
      have hft := ih m[k] (List.getElem_mem h1) p.t (by omega)
      rw [e1] at hpar
      rw [hpo] at hd
      simp only at hd
      cases hfv : fitsV s m[k].v p.t false with
      | false =>
        rw [hfv] at hft hd
        refine .go ?_
        refine Fin.ret1 rfl (Weak.eq (congrArg AV.bool ?_))
        rw [hp, hd]; rfl
      | true =>
        rw [hfv, Bool.true_and] at hd
        rw [hfv] at hft
        refine .go ?_
        refine HCode.forK k (fun j => [(10, .int .i64 j), (7, .int .i64 k), (1, .slice (ps.map Par.enc) .no), (2, .slice (m.map Mem.enc) .no), (3, .rptr s.enc)])
          (fun _ => ⟨[.cells [.str p.name, .str p.t.name, .int .i64 p.t.lists, .int .i64 p.t.musts, .bool p.has, .int .i64 p.d.kind, .int .i64 p.d.n, .str p.d.s, .slice p.d.lv .no, .slice p.d.mv .no]], []⟩) (fun j => m[k].name ∉ (m.take j).map Mem.name) ⟨rfl, rfl, rfl, rfl, rfl, trivial⟩ rfl (by simp) fun j hj hq => ?_
        by_cases h2 : j < k
        · have d2 : decide ((j : Int) < (k : Int)) = true := by simp [h2]
          have hjm : j < m.length := by omega
          have x2 := map_get' (f := Mem.enc) hjm
          have hmt : (m.take (j + 1)).map Mem.name = (m.take j).map Mem.name ++ [m[j].name] := by rw [List.take_succ_eq_append_getElem hjm, List.map_append]; rfl
          by_cases ce : m[j].name = m[k].name
          · have e2 : (m[j].name == m[k].name) = true := by simpa using ce
            refine .go ?_
            refine Fin.ret1 rfl (Weak.eq (congrArg AV.bool ?_))
            have hin : m[k].name ∈ (m.take k).map Mem.name := by
              rw [← ce, List.mem_map]
              exact ⟨m[j], List.mem_take_iff_getElem.2 ⟨j, by omega, rfl⟩, rfl⟩
            rw [hp, hd, decide_eq_true hin]; rfl
          · have e2 : (m[j].name == m[k].name) = false := by simpa using ce
            refine .go ?_
            exact ⟨h2, ⟨rfl, rfl, rfl, rfl, rfl, trivial⟩, by simp [belowS, AV.low], by simp [belowB, belowT, Ob.low, AV.lowL, AV.low], rfl, by rw [hmt, List.mem_append, not_or]; exact ⟨hq, by simpa using fun e => ce e.symm⟩⟩
        · have d2 : decide ((j : Int) < (k : Int)) = false := by simp; omega
          obtain rfl : j = k := by omega
          refine .go ?_
          exact ⟨h1, ⟨rfl, rfl, rfl, rfl, trivial⟩, by simp [belowS, AV.low], rfl, rfl, by rw [hp, hd, decide_eq_false hq]; rfl⟩
  · have d1 : decide ((k : Int) < (m.length : Int)) = false := by simp; omega
    have hpe : fitsM s ps m [] = true := by rw [hp, List.drop_eq_nil_of_le (by omega), fitsM]
    rw [hpe, Bool.true_and]
    refine .go ?_
    refine HCode.forK ps.length (fun k => [(11, .int .i64 k), (1, .slice (ps.map Par.enc) .no), (2, .slice (m.map Mem.enc) .no)])
      (fun _ => ⟨[], []⟩) (fun k => needsB m ps = needsB m (ps.drop k)) ⟨rfl, rfl, rfl, trivial⟩ rfl rfl fun j hj hq => ?_
    by_cases h2 : j < ps.length
    · have d2 : decide ((j : Int) < (ps.length : Int)) = true := by simp [h2]
      have x2 := map_get' (f := Par.enc) h2
      have hg := rGetV ps[j].name m (by omega)
      rw [getG_snd] at hg
      have his := rIs ps[j].t (by have := hpz _ (List.getElem_mem h2); have := ps[j].lens; omega)
      have hd := needsB_drop (m := m) h2
      unfold reqB at hd
      repeat' first | refine .s1 ?_ | (refine .cond rfl ?_ ?_ <;> intro hc) | (refine A.guard rfl ?_ ?_ <;> intro hc) | fail
      all_goals first | (refine Fin.ret1 rfl (Weak.eq (congrArg AV.bool ?_)); rw [hq, hd]; simp_all; done) | (exact ⟨h2, ⟨rfl, rfl, rfl, trivial⟩, by simp [belowS, AV.low], rfl, rfl, by rw [hq, hd]; simp_all⟩)
    · have d2 : decide ((j : Int) < (ps.length : Int)) = false := by simp; omega
      refine .go ?_
      refine Fin.ret1 rfl (Weak.eq (congrArg AV.bool ?_))
      rw [hq, List.drop_eq_nil_of_le (by omega), needsB]
theorem bareV_scal {s : Sch} {name : Str} {v : Val} (h : scalarB name = true) : bareV s name v = scalFit name v.kind v.n := by
  unfold bareV bareB findO
  rw [if_pos h]; rfl
end Go.Proofs.YtgghkkeejagfkaaGreatDoor
