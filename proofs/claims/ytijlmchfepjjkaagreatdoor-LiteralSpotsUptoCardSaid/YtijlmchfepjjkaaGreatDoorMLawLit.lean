/-
  The laws LiteralInts, LiteralLists, LiteralBare, LiteralAlone; their helpers.
-/
import Derived.Test.YtijlmchfepjjkaaGreatDoorMLitW2
import Derived.Test.YtijlmchfepjjkaaGreatDoorMSpots
import Derived.Test.YtijlmchfepjjkaaGreatDoorMLight
namespace Go.Proofs.YtijlmchfepjjkaaGreatDoor
open Go Go.Av
set_option maxRecDepth 100000
set_option maxHeartbeats 16000000
set_option linter.unusedVariables false
set_option linter.unusedSimpArgs false
attribute [local irreducible] HCode AOps PFn AFn Av.Step TStep

def lightB (s : Sch) (v : Val) : Bool := lightS s && decide (szV v ≤ 1000)
theorem light10 (s : Sch) (v : Val) (hs : s.size ≤ 2097152) (hv : v.size ≤ 4194304) : PFn Tryz.prog 6 [s.enc, v.enc] (.bool (lightB s v)) := by
  have h1 := light8 s hs
  have h2 := kSize' v hv
  refine AFn.plain rfl (by simp [AV.closed, AV.closedL, Sch.closed, Val.closed]) (AFn.enter [4] Tryz.func6 rfl rfl rfl rfl rfl (by decide) ?_)
  unfold lightB
  have e : decide ((szV v : Int) ≤ 1000) = decide (szV v ≤ 1000) := by rw [Bool.eq_iff_iff]; simp only [decide_eq_true_eq]; omega
  repeat' first
    | refine .br ?_
    | refine .seq ?_ | refine .rg ?_ | refine .rd ?_ | refine .block ?_ | refine .scope ?_ | refine .skip ?_ | refine .label ?_ | refine .exit ?_ | refine .ret ?_
    | refine .ct ?_ | refine .cf ?_ | refine .cy ?_ | refine .cn ?_ | (refine .cond rfl ?_ ?_ <;> intro hc)
    | refine A.nil_seq ?_ | refine .nl ?_ | refine .dd ?_ | refine .ys ?_ | refine .no ?_ | (refine A.guard rfl ?_ ?_ <;> intro hc)
    | refine .lb ?_ | refine .ln ?_ | refine .ls ?_ | refine .pv ?_ | refine .ix ?_ | refine .pt ?_ | refine .pf ?_ | refine .bx ?_ | refine .al ?_ | refine .st ?_ | refine .ad ?_ | refine .sb ?_ | refine .mf ?_ | refine .cl ?_ | refine .cw ?_ | refine .ck ?_ | fail
  all_goals
    refine Fin.ret1 rfl (Weak.eq (congrArg AV.bool ?_))
    simp_all
def sch0 : Sch := ⟨[], [], []⟩
theorem weak_sch0 {t : Tk} : Weak (.agg [.slice [] t, .str [], .str []]) sch0.enc := Weak.agg (WeakL.cons (Weak.no (WeakL.refl _)) (WeakL.refl _))
def tII : Typ := ⟨sInt, 2, 0⟩
def vA : Val := .mk 8 0 [97] [] []
theorem weak_vA {t1 t2 : Tk} : Weak (.agg [.int .i64 8, .int .i64 0, .str [97], .slice [] t1, .slice [] t2]) vA.enc := weak_flatV
theorem weak_listV {x y : AV} {v : Val} {t1 t2 : Tk} (h : Weak x v.enc) (n : Int) : Weak (.agg [.int .i64 6, .int .i64 n, .str [], .slice [x] t1, .slice [] t2]) (Val.mk 6 n [] [v] []).enc := by
  unfold Val.enc
  rw [Val.lv_eq, mv_mk]
  exact Weak.agg (WeakL.cons (Weak.refl _) (WeakL.cons (Weak.refl _) (WeakL.cons (Weak.refl _) (WeakL.cons (Weak.no (WeakL.cons h (WeakL.refl _))) (WeakL.cons (Weak.no (WeakL.refl _)) (WeakL.refl _))))))
theorem weak_int1 {n : Int} {t1 t2 : Tk} : Weak (.agg [.int .i64 2, .int .i64 n, .str [], .slice [] t1, .slice [] t2]) (intV n).enc := weak_flatV
theorem lit_awake1 : litR sch0 tII (intV 1) = true := by decide +kernel
theorem lit_awake2 : litR sch0 tII (.mk 6 0 [] [intV 1] []) = false := by decide +kernel
theorem lit_awake3 : spotsP sch0 (.mk 6 0 [] [vA] []) tII true = [⟨[97], ⟨sInt, 1, 0⟩, false⟩] := by decide +kernel
theorem awake10 : PFn Tryz.prog 8 [] (.bool true) := by
  have h1 := lRight sch0 tII (intV 1) (by decide +kernel) (by decide) (by decide +kernel)
  have h2 := lRight sch0 tII (.mk 6 0 [] [intV 1] []) (by decide +kernel) (by decide) (by decide +kernel)
  have h3 := lSpots sch0 (by decide +kernel) 2097152 (Nat.le_refl _) (.mk 6 0 [] [vA] []) (by decide +kernel) _ tII true rfl (by decide)
  rw [lit_awake1] at h1
  rw [lit_awake2] at h2
  rw [lit_awake3] at h3
  refine AFn.plain rfl rfl (AFn.enter [0] Tryz.func8 rfl rfl rfl rfl rfl (by decide) ?_)
  repeat' first
    | refine .seq ?_ | refine .rg ?_ | refine .rd ?_ | refine .block ?_ | refine .scope ?_ | refine .skip ?_ | refine .label ?_ | refine .exit ?_ | refine .ret ?_
    | refine .ct ?_ | refine .cf ?_ | refine .cy ?_ | refine .cn ?_ | (refine .cond rfl ?_ ?_ <;> intro hc)
    | refine A.nil_seq ?_ | refine .nl ?_ | refine .dd ?_ | refine .ys ?_ | refine .no ?_ | (refine A.guard rfl ?_ ?_ <;> intro hc)
    | refine .lb ?_ | refine .ln ?_ | refine .ls ?_ | refine .pv ?_ | refine .ix ?_ | refine .pt ?_ | refine .pf ?_ | refine .bx ?_ | refine .al ?_ | refine .st ?_ | refine .ad ?_ | refine .sb ?_ | refine .mf ?_ | refine .cl ?_ | refine .cw ?_ | refine .ck ?_
    | refine A.call rfl h3 (WeakL.cons weak_sch0 (WeakL.cons (Weak.refl _) (WeakL.cons (Weak.refl _) (WeakL.cons (weak_listV (y := .nili) weak_vA 0) (WeakL.refl _))))) ?_ | refine A.call rfl h1 (WeakL.cons weak_sch0 (WeakL.cons (Weak.refl _) (WeakL.cons weak_int1 (WeakL.refl _)))) ?_ | refine A.call rfl h2 (WeakL.cons weak_sch0 (WeakL.cons (Weak.refl _) (WeakL.cons (weak_listV (y := .nili) weak_int1 0) (WeakL.refl _)))) ?_ | refine A.index_r (j := 0) rfl rfl rfl rfl rfl rfl rfl rfl ?_ | fail
  exact Fin.ret1 rfl (Weak.refl _)
end Go.Proofs.YtijlmchfepjjkaaGreatDoor
