/-
  The package value: bare, single, all, Good.
-/
import Derived.Test.YtijlmchfepjjkaaGreatDoorMNum3
import Derived.Test.YtijlmchfepjjkaaGreatDoorMLet
namespace Go.Proofs.YtijlmchfepjjkaaGreatDoor
open Go Go.Av
set_option maxRecDepth 100000
set_option maxHeartbeats 8000000
set_option linter.unusedVariables false
set_option linter.unusedSimpArgs false
attribute [local irreducible] HCode AOps PFn AFn Av.Step TStep

theorem vbare (k n : Int) (s : Str) (xs ys : List AV) (t1 t2 : Tk) (hx : (AV.slice xs t1).closed = true) (hy : (AV.slice ys t2).closed = true) :
    PFn Tryz.prog 87 [.agg [.int .i64 k, .int .i64 n, .str s, .slice xs t1, .slice ys t2]] (.bool (n == 0 && s == [] && decide (xs.length = 0) && decide (ys.length = 0))) := by
  refine AFn.plain rfl (by simp only [AV.closedL, AV.closed] at hx hy ⊢; rw [hx, hy]; rfl) (AFn.enter [2] Tryz.func87 rfl rfl rfl rfl rfl (by decide) ?_)
  repeat' first
    | refine A.box_r rfl rfl ?_
    | refine .seq ?_ | refine .rg ?_ | refine .rd ?_ | refine .block ?_ | refine .scope ?_ | refine .skip ?_ | refine .label ?_ | refine .exit ?_ | refine .ret ?_
    | refine .ct ?_ | refine .cf ?_ | refine .cy ?_ | refine .cn ?_ | (refine .cond rfl ?_ ?_ <;> intro hc)
    | refine A.nil_seq ?_ | refine .nl ?_ | refine .dd ?_ | refine .ys ?_ | refine .no ?_ | (refine A.guard rfl ?_ ?_ <;> intro hc)
    | refine .lb ?_ | refine .ln ?_ | refine .ls ?_ | refine .pv ?_ | refine .ix ?_ | refine .pt ?_ | refine .pf ?_ | refine .bx ?_ | refine .al ?_ | refine .st ?_ | refine .ad ?_ | refine .sb ?_ | refine .mf ?_ | refine .cl ?_ | refine .cw ?_ | refine .ck ?_ | fail
  all_goals
    refine Fin.ret1 rfl (Weak.eq (congrArg AV.bool ?_))
    rw [Bool.eq_iff_iff]
    simp_all
def singleB (v : Val) : Bool := decide (v.l.length = 0) && decide (v.m.length = 0) &&
  (if v.kind = 0 then v.n == 0 && v.s == [] else if v.kind = 1 then (v.n == 0 || v.n == 1) && v.s == [] else if v.kind = 2 then v.s == [] else if v.kind = 3 then v.n == 0 && numB v.s
    else if v.kind = 4 then v.n == 0 && good v.s else if v.kind = 5 then v.n == 0 && nameB v.s && !resB v.s else if v.kind = 8 then v.n == 0 && nameB v.s else false)
theorem vsingle (v : Val) (hv : v.size ≤ 2097152) : PFn Tryz.prog 86 [v.enc] (.bool (singleB v)) := by
  refine AFn.plain rfl (by simp [AV.closedL, Val.closed]) (AFn.enter [2] Tryz.func86 rfl rfl rfl rfl rfl (by decide) ?_)
  have hsz := v.size_eq
  have hb := vbare v.kind 0 [] v.lv v.mv .no .no (by simp only [AV.closed, v.lv_closed]; rfl) (by simp only [AV.closed, v.mv_closed]; rfl)
  have h3 := vnum v.s (by omega)
  have h4 := lgood v.s (by omega)
  have h5 := lName v.s (by omega)
  have h6 := vreserved v.s
  rw [v.lv_len, v.mv_len] at hb
  have h0 : ((0 : Int) == 0 && ([] : Str) == [] && decide (v.l.length = 0) && decide (v.m.length = 0)) = (decide (v.l.length = 0) && decide (v.m.length = 0)) := by simp
  rw [h0] at hb
  unfold singleB
  by_cases c0 : (decide (v.l.length = 0) && decide (v.m.length = 0)) = true
  · have e0 : (!(decide (v.l.length = 0) && decide (v.m.length = 0))) = false := by rw [c0]; rfl
    rw [c0]
    repeat' first
      | refine A.box_r rfl rfl ?_
      | refine .seq ?_ | refine .rg ?_ | refine .rd ?_ | refine .block ?_ | refine .scope ?_ | refine .skip ?_ | refine .label ?_ | refine .exit ?_ | refine .ret ?_
      | refine .ct ?_ | refine .cf ?_ | refine .cy ?_ | refine .cn ?_ | (refine .cond rfl ?_ ?_ <;> intro hc)
      | refine A.nil_seq ?_ | refine .nl ?_ | refine .dd ?_ | refine .ys ?_ | refine .no ?_ | (refine A.guard rfl ?_ ?_ <;> intro hc)
      | refine .lb ?_ | refine .ln ?_ | refine .ls ?_ | refine .pv ?_ | refine .ix ?_ | refine .pt ?_ | refine .pf ?_ | refine .bx ?_ | refine .al ?_ | refine .st ?_ | refine .ad ?_ | refine .sb ?_ | refine .mf ?_ | refine .cl ?_ | refine .cw ?_ | refine .ck ?_
      | refine A.call rfl hb (WeakL.refl _) ?_ | refine A.call rfl h3 (WeakL.refl _) ?_ | refine A.call rfl h4 (WeakL.refl _) ?_ | refine A.call rfl h5 (WeakL.refl _) ?_ | refine A.call rfl h6 (WeakL.refl _) ?_ | fail
    all_goals
      refine Fin.ret1 rfl (Weak.eq (congrArg AV.bool ?_))
      simp_all
  · have c0' : (decide (v.l.length = 0) && decide (v.m.length = 0)) = false := by simpa using c0
    have e0 : (!(decide (v.l.length = 0) && decide (v.m.length = 0))) = true := by rw [c0']; rfl
    rw [c0']
    repeat' first
      | refine A.box_r rfl rfl ?_
      | refine .seq ?_ | refine .rg ?_ | refine .rd ?_ | refine .block ?_ | refine .scope ?_ | refine .skip ?_ | refine .label ?_ | refine .exit ?_ | refine .ret ?_
      | refine .ct ?_ | refine .cf ?_ | refine .cy ?_ | refine .cn ?_ | (refine .cond rfl ?_ ?_ <;> intro hc)
      | refine A.nil_seq ?_ | refine .nl ?_ | refine .dd ?_ | refine .ys ?_ | refine .no ?_ | (refine A.guard rfl ?_ ?_ <;> intro hc)
      | refine .lb ?_ | refine .ln ?_ | refine .ls ?_ | refine .pv ?_ | refine .ix ?_ | refine .pt ?_ | refine .pf ?_ | refine .bx ?_ | refine .al ?_ | refine .st ?_ | refine .ad ?_ | refine .sb ?_ | refine .mf ?_ | refine .cl ?_ | refine .cw ?_ | refine .ck ?_
      | refine A.call rfl hb (WeakL.refl _) ?_ | fail
    refine Fin.ret1 rfl (Weak.eq (congrArg AV.bool ?_))
    rfl
end Go.Proofs.YtijlmchfepjjkaaGreatDoor
