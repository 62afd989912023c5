/-
  The reference: GoodValue.
-/
import Derived.Test.YtijlmchfepjjkaaDoorGTableSays10
namespace Go.Proofs.YtijlmchfepjjkaaDoor
open Go Go.Av
set_option maxRecDepth 100000
set_option maxHeartbeats 32000000
set_option linter.unusedVariables false
set_option linter.unusedSimpArgs false
attribute [local irreducible] HCode AOps PFn AFn Av.Step TStep

def decN (n : Nat) : Bool := decide (n = 0)
theorem rgv0 (v : Val) (hv : v.size ≤ 1048576) (k : v.kind = 0) (dl : decide ((0 : Int) < (v.lv.length : Int)) = !decide (v.l.length = 0)) (dm : decide ((0 : Int) < (v.mv.length : Int)) = !decide (v.m.length = 0)) : PFn Tryd.prog 94 [v.enc] (.bool (allV good v)) := by
  have hsz := v.size_eq
  have g4 := rGood v.s (by omega)
  have g5 := rName v.s (by omega)
  have g3 := rNumber v.s (by omega)
  have gi := rInt64 v.s (by omega)
  have u0 : (v.kind == 0) = true := by rw [k]; rfl
  have u1 : (v.kind == 1) = false := by rw [k]; rfl
  have u2 : (v.kind == 2) = false := by rw [k]; rfl
  have u3 : (v.kind == 3) = false := by rw [k]; rfl
  have u4 : (v.kind == 4) = false := by rw [k]; rfl
  have u5 : (v.kind == 5) = false := by rw [k]; rfl
  have u6 : (v.kind == 6) = false := by rw [k]; rfl
  have u7 : (v.kind == 7) = false := by rw [k]; rfl
  have u8 : (v.kind == 8) = false := by rw [k]; rfl
  have w1 : (v.kind != 1) = true := by rw [k]; rfl
  have w2 : (v.kind != 2) = true := by rw [k]; rfl
  have w6 : (v.kind != 6) = true := by rw [k]; rfl
  have w7 : (v.kind != 7) = true := by rw [k]; rfl
  refine AFn.plain rfl (by simp [AV.closedL, Val.closed]) (AFn.enter [2] Tryd.func94 rfl rfl rfl rfl rfl (by decide) ?_)
  rw [allV_eq, if_neg (by omega), if_neg (by omega)]
  unfold singleB
  rw [if_pos k]
  repeat' first
    | refine .br ?_
    | refine .seq ?_ | refine .rg ?_ | refine .rd ?_ | refine .block ?_ | refine .scope ?_ | refine .skip ?_ | refine .label ?_ | refine .exit ?_ | refine .ret ?_
    | refine .ct ?_ | refine .cf ?_ | refine .cy ?_ | refine .cn ?_ | (refine .cond rfl ?_ ?_ <;> intro hc)
    | refine A.nil_seq ?_ | refine .nl ?_ | refine .dd ?_ | refine .ys ?_ | refine .no ?_ | (refine A.guard rfl ?_ ?_ <;> intro hc)
    | refine .lb ?_ | refine .ln ?_ | refine .ls ?_ | refine .pv ?_ | refine .ix ?_ | refine .pt ?_ | refine .pf ?_ | refine .bx ?_ | refine .al ?_ | refine .st ?_ | refine .ad ?_ | refine .sb ?_ | refine .mf ?_ | refine .cl ?_ | refine .cw ?_ | refine .ck ?_ | fail
  all_goals
    refine Fin.ret1 rfl (Weak.eq (congrArg AV.bool ?_))
    first | (simp_all; done) | (simp_all [bne]; done)
theorem rgv1 (v : Val) (hv : v.size ≤ 1048576) (k : v.kind = 1) (dl : decide ((0 : Int) < (v.lv.length : Int)) = !decide (v.l.length = 0)) (dm : decide ((0 : Int) < (v.mv.length : Int)) = !decide (v.m.length = 0)) : PFn Tryd.prog 94 [v.enc] (.bool (allV good v)) := by
  have hsz := v.size_eq
  have g4 := rGood v.s (by omega)
  have g5 := rName v.s (by omega)
  have g3 := rNumber v.s (by omega)
  have gi := rInt64 v.s (by omega)
  have u0 : (v.kind == 0) = false := by rw [k]; rfl
  have u1 : (v.kind == 1) = true := by rw [k]; rfl
  have u2 : (v.kind == 2) = false := by rw [k]; rfl
  have u3 : (v.kind == 3) = false := by rw [k]; rfl
  have u4 : (v.kind == 4) = false := by rw [k]; rfl
  have u5 : (v.kind == 5) = false := by rw [k]; rfl
  have u6 : (v.kind == 6) = false := by rw [k]; rfl
  have u7 : (v.kind == 7) = false := by rw [k]; rfl
  have u8 : (v.kind == 8) = false := by rw [k]; rfl
  have w1 : (v.kind != 1) = false := by rw [k]; rfl
  have w2 : (v.kind != 2) = true := by rw [k]; rfl
  have w6 : (v.kind != 6) = true := by rw [k]; rfl
  have w7 : (v.kind != 7) = true := by rw [k]; rfl
  refine AFn.plain rfl (by simp [AV.closedL, Val.closed]) (AFn.enter [2] Tryd.func94 rfl rfl rfl rfl rfl (by decide) ?_)
  rw [allV_eq, if_neg (by omega), if_neg (by omega)]
  unfold singleB
  rw [if_neg (show ¬ v.kind = 0 by omega)]
  rw [if_pos k]
  repeat' first
    | refine .br ?_
    | refine .seq ?_ | refine .rg ?_ | refine .rd ?_ | refine .block ?_ | refine .scope ?_ | refine .skip ?_ | refine .label ?_ | refine .exit ?_ | refine .ret ?_
    | refine .ct ?_ | refine .cf ?_ | refine .cy ?_ | refine .cn ?_ | (refine .cond rfl ?_ ?_ <;> intro hc)
    | refine A.nil_seq ?_ | refine .nl ?_ | refine .dd ?_ | refine .ys ?_ | refine .no ?_ | (refine A.guard rfl ?_ ?_ <;> intro hc)
    | refine .lb ?_ | refine .ln ?_ | refine .ls ?_ | refine .pv ?_ | refine .ix ?_ | refine .pt ?_ | refine .pf ?_ | refine .bx ?_ | refine .al ?_ | refine .st ?_ | refine .ad ?_ | refine .sb ?_ | refine .mf ?_ | refine .cl ?_ | refine .cw ?_ | refine .ck ?_ | fail
  all_goals
    refine Fin.ret1 rfl (Weak.eq (congrArg AV.bool ?_))
    first | (simp_all; done) | (simp_all [bne]; done)
theorem rgv2 (v : Val) (hv : v.size ≤ 1048576) (k : v.kind = 2) (dl : decide ((0 : Int) < (v.lv.length : Int)) = !decide (v.l.length = 0)) (dm : decide ((0 : Int) < (v.mv.length : Int)) = !decide (v.m.length = 0)) : PFn Tryd.prog 94 [v.enc] (.bool (allV good v)) := by
  have hsz := v.size_eq
  have g4 := rGood v.s (by omega)
  have g5 := rName v.s (by omega)
  have g3 := rNumber v.s (by omega)
  have gi := rInt64 v.s (by omega)
  have u0 : (v.kind == 0) = false := by rw [k]; rfl
  have u1 : (v.kind == 1) = false := by rw [k]; rfl
  have u2 : (v.kind == 2) = true := by rw [k]; rfl
  have u3 : (v.kind == 3) = false := by rw [k]; rfl
  have u4 : (v.kind == 4) = false := by rw [k]; rfl
  have u5 : (v.kind == 5) = false := by rw [k]; rfl
  have u6 : (v.kind == 6) = false := by rw [k]; rfl
  have u7 : (v.kind == 7) = false := by rw [k]; rfl
  have u8 : (v.kind == 8) = false := by rw [k]; rfl
  have w1 : (v.kind != 1) = true := by rw [k]; rfl
  have w2 : (v.kind != 2) = false := by rw [k]; rfl
  have w6 : (v.kind != 6) = true := by rw [k]; rfl
  have w7 : (v.kind != 7) = true := by rw [k]; rfl
  refine AFn.plain rfl (by simp [AV.closedL, Val.closed]) (AFn.enter [2] Tryd.func94 rfl rfl rfl rfl rfl (by decide) ?_)
  rw [allV_eq, if_neg (by omega), if_neg (by omega)]
  unfold singleB
  rw [if_neg (show ¬ v.kind = 0 by omega)]
  rw [if_neg (show ¬ v.kind = 1 by omega)]
  rw [if_pos k]
  repeat' first
    | refine .br ?_
    | refine .seq ?_ | refine .rg ?_ | refine .rd ?_ | refine .block ?_ | refine .scope ?_ | refine .skip ?_ | refine .label ?_ | refine .exit ?_ | refine .ret ?_
    | refine .ct ?_ | refine .cf ?_ | refine .cy ?_ | refine .cn ?_ | (refine .cond rfl ?_ ?_ <;> intro hc)
    | refine A.nil_seq ?_ | refine .nl ?_ | refine .dd ?_ | refine .ys ?_ | refine .no ?_ | (refine A.guard rfl ?_ ?_ <;> intro hc)
    | refine .lb ?_ | refine .ln ?_ | refine .ls ?_ | refine .pv ?_ | refine .ix ?_ | refine .pt ?_ | refine .pf ?_ | refine .bx ?_ | refine .al ?_ | refine .st ?_ | refine .ad ?_ | refine .sb ?_ | refine .mf ?_ | refine .cl ?_ | refine .cw ?_ | refine .ck ?_ | fail
  all_goals
    refine Fin.ret1 rfl (Weak.eq (congrArg AV.bool ?_))
    first | (simp_all; done) | (simp_all [bne]; done)
theorem rgv3 (v : Val) (hv : v.size ≤ 1048576) (k : v.kind = 3) (dl : decide ((0 : Int) < (v.lv.length : Int)) = !decide (v.l.length = 0)) (dm : decide ((0 : Int) < (v.mv.length : Int)) = !decide (v.m.length = 0)) : PFn Tryd.prog 94 [v.enc] (.bool (allV good v)) := by
  have hsz := v.size_eq
  have g4 := rGood v.s (by omega)
  have g5 := rName v.s (by omega)
  have g3 := rNumber v.s (by omega)
  have gi := rInt64 v.s (by omega)
  have u0 : (v.kind == 0) = false := by rw [k]; rfl
  have u1 : (v.kind == 1) = false := by rw [k]; rfl
  have u2 : (v.kind == 2) = false := by rw [k]; rfl
  have u3 : (v.kind == 3) = true := by rw [k]; rfl
  have u4 : (v.kind == 4) = false := by rw [k]; rfl
  have u5 : (v.kind == 5) = false := by rw [k]; rfl
  have u6 : (v.kind == 6) = false := by rw [k]; rfl
  have u7 : (v.kind == 7) = false := by rw [k]; rfl
  have u8 : (v.kind == 8) = false := by rw [k]; rfl
  have w1 : (v.kind != 1) = true := by rw [k]; rfl
  have w2 : (v.kind != 2) = true := by rw [k]; rfl
  have w6 : (v.kind != 6) = true := by rw [k]; rfl
  have w7 : (v.kind != 7) = true := by rw [k]; rfl
  refine AFn.plain rfl (by simp [AV.closedL, Val.closed]) (AFn.enter [2] Tryd.func94 rfl rfl rfl rfl rfl (by decide) ?_)
  rw [allV_eq, if_neg (by omega), if_neg (by omega)]
  unfold singleB
  rw [if_neg (show ¬ v.kind = 0 by omega)]
  rw [if_neg (show ¬ v.kind = 1 by omega)]
  rw [if_neg (show ¬ v.kind = 2 by omega)]
  rw [if_pos k]
  rw [numB_eq]
  repeat' first
    | refine .br ?_
    | refine .seq ?_ | refine .rg ?_ | refine .rd ?_ | refine .block ?_ | refine .scope ?_ | refine .skip ?_ | refine .label ?_ | refine .exit ?_ | refine .ret ?_
    | refine .ct ?_ | refine .cf ?_ | refine .cy ?_ | refine .cn ?_ | (refine .cond rfl ?_ ?_ <;> intro hc)
    | refine A.nil_seq ?_ | refine .nl ?_ | refine .dd ?_ | refine .ys ?_ | refine .no ?_ | (refine A.guard rfl ?_ ?_ <;> intro hc)
    | refine .lb ?_ | refine .ln ?_ | refine .ls ?_ | refine .pv ?_ | refine .ix ?_ | refine .pt ?_ | refine .pf ?_ | refine .bx ?_ | refine .al ?_ | refine .st ?_ | refine .ad ?_ | refine .sb ?_ | refine .mf ?_ | refine .cl ?_ | refine .cw ?_ | refine .ck ?_ | fail
  all_goals
    refine Fin.ret1 rfl (Weak.eq (congrArg AV.bool ?_))
    first | (simp_all; done) | (simp_all [bne]; done)
theorem rgv4 (v : Val) (hv : v.size ≤ 1048576) (k : v.kind = 4) (dl : decide ((0 : Int) < (v.lv.length : Int)) = !decide (v.l.length = 0)) (dm : decide ((0 : Int) < (v.mv.length : Int)) = !decide (v.m.length = 0)) : PFn Tryd.prog 94 [v.enc] (.bool (allV good v)) := by
  have hsz := v.size_eq
  have g4 := rGood v.s (by omega)
  have g5 := rName v.s (by omega)
  have g3 := rNumber v.s (by omega)
  have gi := rInt64 v.s (by omega)
  have u0 : (v.kind == 0) = false := by rw [k]; rfl
  have u1 : (v.kind == 1) = false := by rw [k]; rfl
  have u2 : (v.kind == 2) = false := by rw [k]; rfl
  have u3 : (v.kind == 3) = false := by rw [k]; rfl
  have u4 : (v.kind == 4) = true := by rw [k]; rfl
  have u5 : (v.kind == 5) = false := by rw [k]; rfl
  have u6 : (v.kind == 6) = false := by rw [k]; rfl
  have u7 : (v.kind == 7) = false := by rw [k]; rfl
  have u8 : (v.kind == 8) = false := by rw [k]; rfl
  have w1 : (v.kind != 1) = true := by rw [k]; rfl
  have w2 : (v.kind != 2) = true := by rw [k]; rfl
  have w6 : (v.kind != 6) = true := by rw [k]; rfl
  have w7 : (v.kind != 7) = true := by rw [k]; rfl
  refine AFn.plain rfl (by simp [AV.closedL, Val.closed]) (AFn.enter [2] Tryd.func94 rfl rfl rfl rfl rfl (by decide) ?_)
  rw [allV_eq, if_neg (by omega), if_neg (by omega)]
  unfold singleB
  rw [if_neg (show ¬ v.kind = 0 by omega)]
  rw [if_neg (show ¬ v.kind = 1 by omega)]
  rw [if_neg (show ¬ v.kind = 2 by omega)]
  rw [if_neg (show ¬ v.kind = 3 by omega)]
  rw [if_pos k]
  repeat' first
    | refine .br ?_
    | refine .seq ?_ | refine .rg ?_ | refine .rd ?_ | refine .block ?_ | refine .scope ?_ | refine .skip ?_ | refine .label ?_ | refine .exit ?_ | refine .ret ?_
    | refine .ct ?_ | refine .cf ?_ | refine .cy ?_ | refine .cn ?_ | (refine .cond rfl ?_ ?_ <;> intro hc)
    | refine A.nil_seq ?_ | refine .nl ?_ | refine .dd ?_ | refine .ys ?_ | refine .no ?_ | (refine A.guard rfl ?_ ?_ <;> intro hc)
    | refine .lb ?_ | refine .ln ?_ | refine .ls ?_ | refine .pv ?_ | refine .ix ?_ | refine .pt ?_ | refine .pf ?_ | refine .bx ?_ | refine .al ?_ | refine .st ?_ | refine .ad ?_ | refine .sb ?_ | refine .mf ?_ | refine .cl ?_ | refine .cw ?_ | refine .ck ?_ | fail
  all_goals
    refine Fin.ret1 rfl (Weak.eq (congrArg AV.bool ?_))
    first | (simp_all; done) | (simp_all [bne]; done)
theorem rgv5 (v : Val) (hv : v.size ≤ 1048576) (k : v.kind = 5) (dl : decide ((0 : Int) < (v.lv.length : Int)) = !decide (v.l.length = 0)) (dm : decide ((0 : Int) < (v.mv.length : Int)) = !decide (v.m.length = 0)) : PFn Tryd.prog 94 [v.enc] (.bool (allV good v)) := by
  have hsz := v.size_eq
  have g4 := rGood v.s (by omega)
  have g5 := rName v.s (by omega)
  have g3 := rNumber v.s (by omega)
  have gi := rInt64 v.s (by omega)
  have u0 : (v.kind == 0) = false := by rw [k]; rfl
  have u1 : (v.kind == 1) = false := by rw [k]; rfl
  have u2 : (v.kind == 2) = false := by rw [k]; rfl
  have u3 : (v.kind == 3) = false := by rw [k]; rfl
  have u4 : (v.kind == 4) = false := by rw [k]; rfl
  have u5 : (v.kind == 5) = true := by rw [k]; rfl
  have u6 : (v.kind == 6) = false := by rw [k]; rfl
  have u7 : (v.kind == 7) = false := by rw [k]; rfl
  have u8 : (v.kind == 8) = false := by rw [k]; rfl
  have w1 : (v.kind != 1) = true := by rw [k]; rfl
  have w2 : (v.kind != 2) = true := by rw [k]; rfl
  have w6 : (v.kind != 6) = true := by rw [k]; rfl
  have w7 : (v.kind != 7) = true := by rw [k]; rfl
  refine AFn.plain rfl (by simp [AV.closedL, Val.closed]) (AFn.enter [2] Tryd.func94 rfl rfl rfl rfl rfl (by decide) ?_)
  rw [allV_eq, if_neg (by omega), if_neg (by omega)]
  unfold singleB
  rw [if_neg (show ¬ v.kind = 0 by omega)]
  rw [if_neg (show ¬ v.kind = 1 by omega)]
  rw [if_neg (show ¬ v.kind = 2 by omega)]
  rw [if_neg (show ¬ v.kind = 3 by omega)]
  rw [if_neg (show ¬ v.kind = 4 by omega)]
  rw [if_pos k]
  unfold resB
  repeat' first
    | refine .br ?_
    | refine .seq ?_ | refine .rg ?_ | refine .rd ?_ | refine .block ?_ | refine .scope ?_ | refine .skip ?_ | refine .label ?_ | refine .exit ?_ | refine .ret ?_
    | refine .ct ?_ | refine .cf ?_ | refine .cy ?_ | refine .cn ?_ | (refine .cond rfl ?_ ?_ <;> intro hc)
    | refine A.nil_seq ?_ | refine .nl ?_ | refine .dd ?_ | refine .ys ?_ | refine .no ?_ | (refine A.guard rfl ?_ ?_ <;> intro hc)
    | refine .lb ?_ | refine .ln ?_ | refine .ls ?_ | refine .pv ?_ | refine .ix ?_ | refine .pt ?_ | refine .pf ?_ | refine .bx ?_ | refine .al ?_ | refine .st ?_ | refine .ad ?_ | refine .sb ?_ | refine .mf ?_ | refine .cl ?_ | refine .cw ?_ | refine .ck ?_ | fail
  all_goals
    refine Fin.ret1 rfl (Weak.eq (congrArg AV.bool ?_))
    first | (simp_all; done) | (simp_all [bne]; done)
theorem rgv8 (v : Val) (hv : v.size ≤ 1048576) (k : v.kind = 8) (dl : decide ((0 : Int) < (v.lv.length : Int)) = !decide (v.l.length = 0)) (dm : decide ((0 : Int) < (v.mv.length : Int)) = !decide (v.m.length = 0)) : PFn Tryd.prog 94 [v.enc] (.bool (allV good v)) := by
  have hsz := v.size_eq
  have g4 := rGood v.s (by omega)
  have g5 := rName v.s (by omega)
  have g3 := rNumber v.s (by omega)
  have gi := rInt64 v.s (by omega)
  have u0 : (v.kind == 0) = false := by rw [k]; rfl
  have u1 : (v.kind == 1) = false := by rw [k]; rfl
  have u2 : (v.kind == 2) = false := by rw [k]; rfl
  have u3 : (v.kind == 3) = false := by rw [k]; rfl
  have u4 : (v.kind == 4) = false := by rw [k]; rfl
  have u5 : (v.kind == 5) = false := by rw [k]; rfl
  have u6 : (v.kind == 6) = false := by rw [k]; rfl
  have u7 : (v.kind == 7) = false := by rw [k]; rfl
  have u8 : (v.kind == 8) = true := by rw [k]; rfl
  have w1 : (v.kind != 1) = true := by rw [k]; rfl
  have w2 : (v.kind != 2) = true := by rw [k]; rfl
  have w6 : (v.kind != 6) = true := by rw [k]; rfl
  have w7 : (v.kind != 7) = true := by rw [k]; rfl
  refine AFn.plain rfl (by simp [AV.closedL, Val.closed]) (AFn.enter [2] Tryd.func94 rfl rfl rfl rfl rfl (by decide) ?_)
  rw [allV_eq, if_neg (by omega), if_neg (by omega)]
  unfold singleB
  rw [if_neg (show ¬ v.kind = 0 by omega)]
  rw [if_neg (show ¬ v.kind = 1 by omega)]
  rw [if_neg (show ¬ v.kind = 2 by omega)]
  rw [if_neg (show ¬ v.kind = 3 by omega)]
  rw [if_neg (show ¬ v.kind = 4 by omega)]
  rw [if_neg (show ¬ v.kind = 5 by omega)]
  rw [if_pos k]
  repeat' first
    | refine .br ?_
    | refine .seq ?_ | refine .rg ?_ | refine .rd ?_ | refine .block ?_ | refine .scope ?_ | refine .skip ?_ | refine .label ?_ | refine .exit ?_ | refine .ret ?_
    | refine .ct ?_ | refine .cf ?_ | refine .cy ?_ | refine .cn ?_ | (refine .cond rfl ?_ ?_ <;> intro hc)
    | refine A.nil_seq ?_ | refine .nl ?_ | refine .dd ?_ | refine .ys ?_ | refine .no ?_ | (refine A.guard rfl ?_ ?_ <;> intro hc)
    | refine .lb ?_ | refine .ln ?_ | refine .ls ?_ | refine .pv ?_ | refine .ix ?_ | refine .pt ?_ | refine .pf ?_ | refine .bx ?_ | refine .al ?_ | refine .st ?_ | refine .ad ?_ | refine .sb ?_ | refine .mf ?_ | refine .cl ?_ | refine .cw ?_ | refine .ck ?_ | fail
  all_goals
    refine Fin.ret1 rfl (Weak.eq (congrArg AV.bool ?_))
    first | (simp_all; done) | (simp_all [bne]; done)
theorem rgvX (v : Val) (k : ¬ (v.kind = 0 ∨ v.kind = 1 ∨ v.kind = 2 ∨ v.kind = 3 ∨ v.kind = 4 ∨ v.kind = 5 ∨ v.kind = 6 ∨ v.kind = 7 ∨ v.kind = 8)) (dl : decide ((0 : Int) < (v.lv.length : Int)) = !decide (v.l.length = 0)) (dm : decide ((0 : Int) < (v.mv.length : Int)) = !decide (v.m.length = 0)) : PFn Tryd.prog 94 [v.enc] (.bool (allV good v)) := by
  simp only [not_or] at k
  obtain ⟨k0, k1, k2, k3, k4, k5, k6, k7, k8⟩ := k
  have u0 := beq_no k0
  have u1 := beq_no k1
  have u2 := beq_no k2
  have u3 := beq_no k3
  have u4 := beq_no k4
  have u5 := beq_no k5
  have u6 := beq_no k6
  have u7 := beq_no k7
  have u8 := beq_no k8
  have w1 : (v.kind != 1) = true := by simp [k1]
  have w2 : (v.kind != 2) = true := by simp [k2]
  have w6 : (v.kind != 6) = true := by simp [k6]
  have w7 : (v.kind != 7) = true := by simp [k7]
  refine AFn.plain rfl (by simp [AV.closedL, Val.closed]) (AFn.enter [2] Tryd.func94 rfl rfl rfl rfl rfl (by decide) ?_)
  rw [allV_eq, if_neg k6, if_neg k7]
  unfold singleB
  rw [if_neg k0, if_neg k1, if_neg k2, if_neg k3, if_neg k4, if_neg k5, if_neg k8, Bool.and_false]
  repeat' first
    | refine .br ?_
    | refine .seq ?_ | refine .rg ?_ | refine .rd ?_ | refine .block ?_ | refine .scope ?_ | refine .skip ?_ | refine .label ?_ | refine .exit ?_ | refine .ret ?_
    | refine .ct ?_ | refine .cf ?_ | refine .cy ?_ | refine .cn ?_ | (refine .cond rfl ?_ ?_ <;> intro hc)
    | refine A.nil_seq ?_ | refine .nl ?_ | refine .dd ?_ | refine .ys ?_ | refine .no ?_ | (refine A.guard rfl ?_ ?_ <;> intro hc)
    | refine .lb ?_ | refine .ln ?_ | refine .ls ?_ | refine .pv ?_ | refine .ix ?_ | refine .pt ?_ | refine .pf ?_ | refine .bx ?_ | refine .al ?_ | refine .st ?_ | refine .ad ?_ | refine .sb ?_ | refine .mf ?_ | refine .cl ?_ | refine .cw ?_ | refine .ck ?_ | fail
  all_goals exact Fin.ret1 rfl (Weak.refl _)
theorem rgv6 (v : Val) (hv : v.size ≤ 1048576) (k : v.kind = 6) (dl : decide ((0 : Int) < (v.lv.length : Int)) = !decide (v.l.length = 0)) (dm : decide ((0 : Int) < (v.mv.length : Int)) = !decide (v.m.length = 0)) (ih : ∀ x ∈ v.l, PFn Tryd.prog 94 [x.enc] (.bool (allV good x))) : PFn Tryd.prog 94 [v.enc] (.bool (allV good v)) := by
  have hsz := v.size_eq
  have hll := v.l_len
  have hml := v.m_len
  have u0 : (v.kind == 0) = false := by rw [k]; rfl
  have u1 : (v.kind == 1) = false := by rw [k]; rfl
  have u2 : (v.kind == 2) = false := by rw [k]; rfl
  have u3 : (v.kind == 3) = false := by rw [k]; rfl
  have u4 : (v.kind == 4) = false := by rw [k]; rfl
  have u5 : (v.kind == 5) = false := by rw [k]; rfl
  have u6 : (v.kind == 6) = true := by rw [k]; rfl
  have u7 : (v.kind == 7) = false := by rw [k]; rfl
  have u8 : (v.kind == 8) = false := by rw [k]; rfl
  have w1 : (v.kind != 1) = true := by rw [k]; rfl
  have w2 : (v.kind != 2) = true := by rw [k]; rfl
  have w6 : (v.kind != 6) = false := by rw [k]; rfl
  have w7 : (v.kind != 7) = true := by rw [k]; rfl
  refine AFn.plain rfl (by simp [AV.closedL, Val.closed]) (AFn.enter [2] Tryd.func94 rfl rfl rfl rfl rfl (by decide) ?_)
  rw [allV_eq, if_pos k]
  by_cases cn : v.n = 0
  · have en : (v.n != 0) = false := by simp [cn]
    by_cases cm : v.m.length = 0
    · have em : decide ((0 : Int) < (v.mv.length : Int)) = false := by rw [dm]; simp [cm]
      by_cases cs : v.s = []
      · have es : (v.s != []) = false := by simp [cs]
        have hall : (allL good v.l && (v.n == 0 && v.s == [] && decide (v.m.length = 0))) = allL good v.l := by simp [cn, cm, cs]
        rw [hall]
        repeat' first
          | refine .br ?_
          | refine .seq ?_ | refine .rg ?_ | refine .rd ?_ | refine .block ?_ | refine .scope ?_ | refine .skip ?_ | refine .label ?_ | refine .exit ?_ | refine .ret ?_
          | refine .ct ?_ | refine .cf ?_ | refine .cy ?_ | refine .cn ?_ | (refine .cond rfl ?_ ?_ <;> intro hc)
          | refine A.nil_seq ?_ | refine .nl ?_ | refine .dd ?_ | refine .ys ?_ | refine .no ?_ | (refine A.guard rfl ?_ ?_ <;> intro hc)
          | refine .lb ?_ | refine .ln ?_ | refine .ls ?_ | refine .pv ?_ | refine .ix ?_ | refine .pt ?_ | refine .pf ?_ | refine .bx ?_ | refine .al ?_ | refine .st ?_ | refine .ad ?_ | refine .sb ?_ | refine .mf ?_ | refine .cl ?_ | refine .cw ?_ | refine .ck ?_ | fail
        refine HCode.forK v.l.length (fun j => [(6, .int .i64 j), (1, .rptr v.enc)]) (fun _ => ⟨[], []⟩) (fun j => allL good v.l = allL good (v.l.drop j)) ⟨rfl, rfl, trivial⟩ rfl rfl fun j hj hp => ?_
        by_cases h1 : j < v.l.length
        · have d1 : decide ((j : Int) < (v.lv.length : Int)) = true := by rw [v.lv_len]; simp [h1]
          have x1 := Val.lv_get h1
          have hd := allL_drop good h1
          have hc1 := ih v.l[j] (List.getElem_mem h1)
          repeat' first
            | refine .seq ?_ | refine .rg ?_ | refine .rd ?_ | refine .block ?_ | refine .scope ?_ | refine .skip ?_ | refine .label ?_ | refine .exit ?_ | refine .ret ?_
            | refine .ct ?_ | refine .cf ?_ | refine .cy ?_ | refine .cn ?_ | (refine .cond rfl ?_ ?_ <;> intro hc)
            | refine A.nil_seq ?_ | refine .nl ?_ | refine .dd ?_ | refine .ys ?_ | refine .no ?_ | (refine A.guard rfl ?_ ?_ <;> intro hc)
            | refine .lb ?_ | refine .ln ?_ | refine .ls ?_ | refine .pv ?_ | refine .ix ?_ | refine .pt ?_ | refine .pf ?_ | refine .bx ?_ | refine .al ?_ | refine .st ?_ | refine .ad ?_ | refine .sb ?_ | refine .mf ?_ | refine .cl ?_ | refine .cw ?_ | refine .ck ?_ | fail
          all_goals first
            | (refine Fin.ret1 rfl (Weak.eq (congrArg AV.bool ?_)); rw [hp, hd]; simp_all; done)
            | (exact ⟨h1, ⟨rfl, rfl, trivial⟩, by simp [belowS, AV.low], rfl, rfl, by rw [hp, hd]; simp_all⟩)
        · have d1 : decide ((j : Int) < (v.lv.length : Int)) = false := by rw [v.lv_len]; simp; omega
          repeat' first
            | refine .seq ?_ | refine .rg ?_ | refine .rd ?_ | refine .block ?_ | refine .scope ?_ | refine .skip ?_ | refine .label ?_ | refine .exit ?_ | refine .ret ?_
            | refine .ct ?_ | refine .cf ?_ | refine .cy ?_ | refine .cn ?_ | (refine .cond rfl ?_ ?_ <;> intro hc)
            | refine A.nil_seq ?_ | refine .nl ?_ | refine .dd ?_ | refine .ys ?_ | refine .no ?_ | (refine A.guard rfl ?_ ?_ <;> intro hc)
            | refine .lb ?_ | refine .ln ?_ | refine .ls ?_ | refine .pv ?_ | refine .ix ?_ | refine .pt ?_ | refine .pf ?_ | refine .bx ?_ | refine .al ?_ | refine .st ?_ | refine .ad ?_ | refine .sb ?_ | refine .mf ?_ | refine .cl ?_ | refine .cw ?_ | refine .ck ?_ | fail
          refine Fin.ret1 rfl (Weak.eq (congrArg AV.bool ?_))
          rw [hp, List.drop_eq_nil_of_le (by omega), allL]
      · have es : (v.s != []) = true := by simp [cs]
        repeat' first
          | refine .br ?_
          | refine .seq ?_ | refine .rg ?_ | refine .rd ?_ | refine .block ?_ | refine .scope ?_ | refine .skip ?_ | refine .label ?_ | refine .exit ?_ | refine .ret ?_
          | refine .ct ?_ | refine .cf ?_ | refine .cy ?_ | refine .cn ?_ | (refine .cond rfl ?_ ?_ <;> intro hc)
          | refine A.nil_seq ?_ | refine .nl ?_ | refine .dd ?_ | refine .ys ?_ | refine .no ?_ | (refine A.guard rfl ?_ ?_ <;> intro hc)
          | refine .lb ?_ | refine .ln ?_ | refine .ls ?_ | refine .pv ?_ | refine .ix ?_ | refine .pt ?_ | refine .pf ?_ | refine .bx ?_ | refine .al ?_ | refine .st ?_ | refine .ad ?_ | refine .sb ?_ | refine .mf ?_ | refine .cl ?_ | refine .cw ?_ | refine .ck ?_ | fail
        refine Fin.ret1 rfl (Weak.eq (congrArg AV.bool ?_))
        simp [cs]
    · have em : decide ((0 : Int) < (v.mv.length : Int)) = true := by rw [dm]; simp [cm]
      repeat' first
        | refine .br ?_
        | refine .seq ?_ | refine .rg ?_ | refine .rd ?_ | refine .block ?_ | refine .scope ?_ | refine .skip ?_ | refine .label ?_ | refine .exit ?_ | refine .ret ?_
        | refine .ct ?_ | refine .cf ?_ | refine .cy ?_ | refine .cn ?_ | (refine .cond rfl ?_ ?_ <;> intro hc)
        | refine A.nil_seq ?_ | refine .nl ?_ | refine .dd ?_ | refine .ys ?_ | refine .no ?_ | (refine A.guard rfl ?_ ?_ <;> intro hc)
        | refine .lb ?_ | refine .ln ?_ | refine .ls ?_ | refine .pv ?_ | refine .ix ?_ | refine .pt ?_ | refine .pf ?_ | refine .bx ?_ | refine .al ?_ | refine .st ?_ | refine .ad ?_ | refine .sb ?_ | refine .mf ?_ | refine .cl ?_ | refine .cw ?_ | refine .ck ?_ | fail
      refine Fin.ret1 rfl (Weak.eq (congrArg AV.bool ?_))
      simp [cm]
  · have en : (v.n != 0) = true := by simp [cn]
    repeat' first
      | refine .br ?_
      | refine .seq ?_ | refine .rg ?_ | refine .rd ?_ | refine .block ?_ | refine .scope ?_ | refine .skip ?_ | refine .label ?_ | refine .exit ?_ | refine .ret ?_
      | refine .ct ?_ | refine .cf ?_ | refine .cy ?_ | refine .cn ?_ | (refine .cond rfl ?_ ?_ <;> intro hc)
      | refine A.nil_seq ?_ | refine .nl ?_ | refine .dd ?_ | refine .ys ?_ | refine .no ?_ | (refine A.guard rfl ?_ ?_ <;> intro hc)
      | refine .lb ?_ | refine .ln ?_ | refine .ls ?_ | refine .pv ?_ | refine .ix ?_ | refine .pt ?_ | refine .pf ?_ | refine .bx ?_ | refine .al ?_ | refine .st ?_ | refine .ad ?_ | refine .sb ?_ | refine .mf ?_ | refine .cl ?_ | refine .cw ?_ | refine .ck ?_ | fail
    refine Fin.ret1 rfl (Weak.eq (congrArg AV.bool ?_))
    simp [cn]
theorem rgv7 (v : Val) (hv : v.size ≤ 1048576) (k : v.kind = 7) (dl : decide ((0 : Int) < (v.lv.length : Int)) = !decide (v.l.length = 0)) (dm : decide ((0 : Int) < (v.mv.length : Int)) = !decide (v.m.length = 0)) (ih : ∀ x ∈ v.m, PFn Tryd.prog 94 [x.v.enc] (.bool (allV good x.v))) : PFn Tryd.prog 94 [v.enc] (.bool (allV good v)) := by
  have hsz := v.size_eq
  have hll := v.l_len
  have hml := v.m_len
  have u0 : (v.kind == 0) = false := by rw [k]; rfl
  have u1 : (v.kind == 1) = false := by rw [k]; rfl
  have u2 : (v.kind == 2) = false := by rw [k]; rfl
  have u3 : (v.kind == 3) = false := by rw [k]; rfl
  have u4 : (v.kind == 4) = false := by rw [k]; rfl
  have u5 : (v.kind == 5) = false := by rw [k]; rfl
  have u6 : (v.kind == 6) = false := by rw [k]; rfl
  have u7 : (v.kind == 7) = true := by rw [k]; rfl
  have u8 : (v.kind == 8) = false := by rw [k]; rfl
  have w1 : (v.kind != 1) = true := by rw [k]; rfl
  have w2 : (v.kind != 2) = true := by rw [k]; rfl
  have w6 : (v.kind != 6) = true := by rw [k]; rfl
  have w7 : (v.kind != 7) = false := by rw [k]; rfl
  refine AFn.plain rfl (by simp [AV.closedL, Val.closed]) (AFn.enter [2] Tryd.func94 rfl rfl rfl rfl rfl (by decide) ?_)
  rw [allV_eq, if_neg (by omega), if_pos k]
  by_cases cn : v.n = 0
  · have en : (v.n != 0) = false := by simp [cn]
    by_cases cm : v.l.length = 0
    · have em : decide ((0 : Int) < (v.lv.length : Int)) = false := by rw [dl]; simp [cm]
      by_cases cs : v.s = []
      · have es : (v.s != []) = false := by simp [cs]
        have hall : (allM good v.m && (v.n == 0 && v.s == [] && decide (v.l.length = 0))) = allM good v.m := by simp [cn, cm, cs]
        rw [hall]
        repeat' first
          | refine .br ?_
          | refine .seq ?_ | refine .rg ?_ | refine .rd ?_ | refine .block ?_ | refine .scope ?_ | refine .skip ?_ | refine .label ?_ | refine .exit ?_ | refine .ret ?_
          | refine .ct ?_ | refine .cf ?_ | refine .cy ?_ | refine .cn ?_ | (refine .cond rfl ?_ ?_ <;> intro hc)
          | refine A.nil_seq ?_ | refine .nl ?_ | refine .dd ?_ | refine .ys ?_ | refine .no ?_ | (refine A.guard rfl ?_ ?_ <;> intro hc)
          | refine .lb ?_ | refine .ln ?_ | refine .ls ?_ | refine .pv ?_ | refine .ix ?_ | refine .pt ?_ | refine .pf ?_ | refine .bx ?_ | refine .al ?_ | refine .st ?_ | refine .ad ?_ | refine .sb ?_ | refine .mf ?_ | refine .cl ?_ | refine .cw ?_ | refine .ck ?_ | fail
        refine HCode.forK v.m.length (fun j => [(7, .int .i64 j), (1, .rptr v.enc)]) (fun _ => ⟨[], []⟩) (fun j => allM good v.m = allM good (v.m.drop j)) ⟨rfl, rfl, trivial⟩ rfl rfl fun j hj hp => ?_
        by_cases h1 : j < v.m.length
        · have d1 : decide ((j : Int) < (v.mv.length : Int)) = true := by rw [v.mv_len]; simp [h1]
          have x1 := Val.mv_get h1
          have hd := allM_drop good h1
          have hc1 := ih v.m[j] (List.getElem_mem h1)
          have hg1 := rGood v.m[j].name (by have := Mem.name_len h1; omega)
          repeat' first
            | refine .seq ?_ | refine .rg ?_ | refine .rd ?_ | refine .block ?_ | refine .scope ?_ | refine .skip ?_ | refine .label ?_ | refine .exit ?_ | refine .ret ?_
            | refine .ct ?_ | refine .cf ?_ | refine .cy ?_ | refine .cn ?_ | (refine .cond rfl ?_ ?_ <;> intro hc)
            | refine A.nil_seq ?_ | refine .nl ?_ | refine .dd ?_ | refine .ys ?_ | refine .no ?_ | (refine A.guard rfl ?_ ?_ <;> intro hc)
            | refine .lb ?_ | refine .ln ?_ | refine .ls ?_ | refine .pv ?_ | refine .ix ?_ | refine .pt ?_ | refine .pf ?_ | refine .bx ?_ | refine .al ?_ | refine .st ?_ | refine .ad ?_ | refine .sb ?_ | refine .mf ?_ | refine .cl ?_ | refine .cw ?_ | refine .ck ?_ | fail
          all_goals first
            | (refine Fin.ret1 rfl (Weak.eq (congrArg AV.bool ?_)); rw [hp, hd]; simp_all; done)
            | (exact ⟨h1, ⟨rfl, rfl, trivial⟩, by simp [belowS, AV.low], rfl, rfl, by rw [hp, hd]; simp_all⟩)
        · have d1 : decide ((j : Int) < (v.mv.length : Int)) = false := by rw [v.mv_len]; simp; omega
          repeat' first
            | refine .seq ?_ | refine .rg ?_ | refine .rd ?_ | refine .block ?_ | refine .scope ?_ | refine .skip ?_ | refine .label ?_ | refine .exit ?_ | refine .ret ?_
            | refine .ct ?_ | refine .cf ?_ | refine .cy ?_ | refine .cn ?_ | (refine .cond rfl ?_ ?_ <;> intro hc)
            | refine A.nil_seq ?_ | refine .nl ?_ | refine .dd ?_ | refine .ys ?_ | refine .no ?_ | (refine A.guard rfl ?_ ?_ <;> intro hc)
            | refine .lb ?_ | refine .ln ?_ | refine .ls ?_ | refine .pv ?_ | refine .ix ?_ | refine .pt ?_ | refine .pf ?_ | refine .bx ?_ | refine .al ?_ | refine .st ?_ | refine .ad ?_ | refine .sb ?_ | refine .mf ?_ | refine .cl ?_ | refine .cw ?_ | refine .ck ?_ | fail
          refine Fin.ret1 rfl (Weak.eq (congrArg AV.bool ?_))
          rw [hp, List.drop_eq_nil_of_le (by omega), allM]
      · have es : (v.s != []) = true := by simp [cs]
        repeat' first
          | refine .br ?_
          | refine .seq ?_ | refine .rg ?_ | refine .rd ?_ | refine .block ?_ | refine .scope ?_ | refine .skip ?_ | refine .label ?_ | refine .exit ?_ | refine .ret ?_
          | refine .ct ?_ | refine .cf ?_ | refine .cy ?_ | refine .cn ?_ | (refine .cond rfl ?_ ?_ <;> intro hc)
          | refine A.nil_seq ?_ | refine .nl ?_ | refine .dd ?_ | refine .ys ?_ | refine .no ?_ | (refine A.guard rfl ?_ ?_ <;> intro hc)
          | refine .lb ?_ | refine .ln ?_ | refine .ls ?_ | refine .pv ?_ | refine .ix ?_ | refine .pt ?_ | refine .pf ?_ | refine .bx ?_ | refine .al ?_ | refine .st ?_ | refine .ad ?_ | refine .sb ?_ | refine .mf ?_ | refine .cl ?_ | refine .cw ?_ | refine .ck ?_ | fail
        refine Fin.ret1 rfl (Weak.eq (congrArg AV.bool ?_))
        simp [cs]
    · have em : decide ((0 : Int) < (v.lv.length : Int)) = true := by rw [dl]; simp [cm]
      repeat' first
        | refine .br ?_
        | refine .seq ?_ | refine .rg ?_ | refine .rd ?_ | refine .block ?_ | refine .scope ?_ | refine .skip ?_ | refine .label ?_ | refine .exit ?_ | refine .ret ?_
        | refine .ct ?_ | refine .cf ?_ | refine .cy ?_ | refine .cn ?_ | (refine .cond rfl ?_ ?_ <;> intro hc)
        | refine A.nil_seq ?_ | refine .nl ?_ | refine .dd ?_ | refine .ys ?_ | refine .no ?_ | (refine A.guard rfl ?_ ?_ <;> intro hc)
        | refine .lb ?_ | refine .ln ?_ | refine .ls ?_ | refine .pv ?_ | refine .ix ?_ | refine .pt ?_ | refine .pf ?_ | refine .bx ?_ | refine .al ?_ | refine .st ?_ | refine .ad ?_ | refine .sb ?_ | refine .mf ?_ | refine .cl ?_ | refine .cw ?_ | refine .ck ?_ | fail
      refine Fin.ret1 rfl (Weak.eq (congrArg AV.bool ?_))
      simp [cm]
  · have en : (v.n != 0) = true := by simp [cn]
    repeat' first
      | refine .br ?_
      | refine .seq ?_ | refine .rg ?_ | refine .rd ?_ | refine .block ?_ | refine .scope ?_ | refine .skip ?_ | refine .label ?_ | refine .exit ?_ | refine .ret ?_
      | refine .ct ?_ | refine .cf ?_ | refine .cy ?_ | refine .cn ?_ | (refine .cond rfl ?_ ?_ <;> intro hc)
      | refine A.nil_seq ?_ | refine .nl ?_ | refine .dd ?_ | refine .ys ?_ | refine .no ?_ | (refine A.guard rfl ?_ ?_ <;> intro hc)
      | refine .lb ?_ | refine .ln ?_ | refine .ls ?_ | refine .pv ?_ | refine .ix ?_ | refine .pt ?_ | refine .pf ?_ | refine .bx ?_ | refine .al ?_ | refine .st ?_ | refine .ad ?_ | refine .sb ?_ | refine .mf ?_ | refine .cl ?_ | refine .cw ?_ | refine .ck ?_ | fail
    refine Fin.ret1 rfl (Weak.eq (congrArg AV.bool ?_))
    simp [cn]
theorem rGoodValue : ∀ N : Nat, N ≤ 1048576 → ∀ v : Val, v.size ≤ N → PFn Tryd.prog 94 [v.enc] (.bool (allV good v))
  | 0, _, v, hv => absurd hv (by have := v.size_pos; omega)
  | N + 1, hN, v, hv => by
    have ih := rGoodValue N (by omega)
    have dl : decide ((0 : Int) < (v.lv.length : Int)) = !decide (v.l.length = 0) := by rw [v.lv_len, Bool.eq_iff_iff]; simp only [decide_eq_true_eq, Bool.not_eq_true', decide_eq_false_iff_not]; omega
    have dm : decide ((0 : Int) < (v.mv.length : Int)) = !decide (v.m.length = 0) := by rw [v.mv_len, Bool.eq_iff_iff]; simp only [decide_eq_true_eq, Bool.not_eq_true', decide_eq_false_iff_not]; omega
    by_cases k0 : v.kind = 0
    · exact rgv0 v (by omega) k0 dl dm
    by_cases k1 : v.kind = 1
    · exact rgv1 v (by omega) k1 dl dm
    by_cases k2 : v.kind = 2
    · exact rgv2 v (by omega) k2 dl dm
    by_cases k3 : v.kind = 3
    · exact rgv3 v (by omega) k3 dl dm
    by_cases k4 : v.kind = 4
    · exact rgv4 v (by omega) k4 dl dm
    by_cases k5 : v.kind = 5
    · exact rgv5 v (by omega) k5 dl dm
    by_cases k8 : v.kind = 8
    · exact rgv8 v (by omega) k8 dl dm
    by_cases k6 : v.kind = 6
    · exact rgv6 v (by omega) k6 dl dm (fun x hx => ih x (by
        obtain ⟨j, hj, rfl⟩ := List.getElem_of_mem hx
        have := Val.size_l hj; omega))
    by_cases k7 : v.kind = 7
    · exact rgv7 v (by omega) k7 dl dm (fun x hx => ih x.v (by
        obtain ⟨j, hj, rfl⟩ := List.getElem_of_mem hx
        have := Val.size_m hj; omega))
    exact rgvX v (by omega) dl dm
end Go.Proofs.YtijlmchfepjjkaaDoor
