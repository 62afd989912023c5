/-
  The law CoerceAgain.
-/
import Derived.Test.YtegakkonlhmeaaaGreatDoorGSCA7
import Derived.Test.YtegakkonlhmeaaaGreatDoorGSCA9
import Derived.Test.YtegakkonlhmeaaaGreatDoorGSCA16
set_option maxRecDepth 100000
set_option maxHeartbeats 16000000
set_option linter.unusedVariables false
set_option linter.unusedSimpArgs false
set_option linter.unusedSectionVars false
namespace Go.Proofs.YtegakkonlhmeaaaGreatDoor
open Go Go.Av
attribute [local irreducible] HCode AOps PFn AFn Av.Step TStep
theorem coerceAgain (s : Sch) (t : Typ) (v : Val) (h : s.size + t.size + v.size ≤ 1048576) (ho : s.ok) (hvo : v.ok) : PFn Tryz.prog 11 [s.enc, t.enc, v.enc] (.bool true) := by
  have hts : t.size = t.name.length + 4 := rfl
  have hok := Sch.okD_of ho
  have hL := light23 s v [] (by omega) (by omega) (by decide)
  have hw := awake23
  have hc := wCheckS s (by omega) ho
  have q1 := coeInput s (by omega) hok t v (by omega) hvo (by omega)
  refine AFn.plain rfl (by simp [AV.closed, AV.closedL, Sch.closed, Typ.closed, Val.closed]) (AFn.enter [6] Tryz.func11 rfl rfl rfl rfl rfl (by decide) ?_)
  cases c1 : light23B s v [] <;> rw [c1] at hL
  · repeat' first | refine .br ?_ | refine .seq ?_ | refine .rg ?_ | refine .rd ?_ | refine .block ?_ | refine .scope ?_ | refine .skip ?_ | refine .label ?_ | refine .exit ?_ | refine .ret ?_ | refine .ct ?_ | refine .cf ?_ | refine .cy ?_ | refine .cn ?_ | (refine .cond rfl ?_ ?_ <;> intro hc) | refine A.nil_seq ?_ | refine .nl ?_ | refine .dd ?_ | refine .ys ?_ | refine .no ?_ | (refine A.guard rfl ?_ ?_ <;> intro hc) | refine .lb ?_ | refine .ln ?_ | refine .ls ?_ | refine .pv ?_ | refine .ix ?_ | refine .pt ?_ | refine .pf ?_ | refine .bx ?_ | refine .al ?_ | refine .st ?_ | refine .ad ?_ | refine .sb ?_ | refine .mf ?_ | refine .cl ?_ | refine .cw ?_ | refine .ck ?_ | refine A.call rfl hL (WeakL.cons (Weak.refl _) (WeakL.cons (Weak.refl _) (WeakL.cons (Weak.no (WeakL.refl _)) (WeakL.refl _)))) ?_ | fail
    exact Fin.ret1 rfl (Weak.refl _)
  by_cases c5 : checkI s = 0
  case neg =>
    have e5 : (checkI s != 0) = true := by simp [c5]
    repeat' first | refine .br ?_ | refine .seq ?_ | refine .rg ?_ | refine .rd ?_ | refine .block ?_ | refine .scope ?_ | refine .skip ?_ | refine .label ?_ | refine .exit ?_ | refine .ret ?_ | refine .ct ?_ | refine .cf ?_ | refine .cy ?_ | refine .cn ?_ | (refine .cond rfl ?_ ?_ <;> intro hc) | refine A.nil_seq ?_ | refine .nl ?_ | refine .dd ?_ | refine .ys ?_ | refine .no ?_ | (refine A.guard rfl ?_ ?_ <;> intro hc) | refine .lb ?_ | refine .ln ?_ | refine .ls ?_ | refine .pv ?_ | refine .ix ?_ | refine .pt ?_ | refine .pf ?_ | refine .bx ?_ | refine .al ?_ | refine .st ?_ | refine .ad ?_ | refine .sb ?_ | refine .mf ?_ | refine .cl ?_ | refine .cw ?_ | refine .ck ?_ | refine A.call rfl hL (WeakL.cons (Weak.refl _) (WeakL.cons (Weak.refl _) (WeakL.cons (Weak.no (WeakL.refl _)) (WeakL.refl _)))) ?_ | fail
    exact Fin.ret1 rfl (Weak.refl _)
  have e5 : (checkI s != 0) = false := by simp [c5]
  rw [c5] at hc
  obtain ⟨a1, a2⟩ := coe_again c5 t v
  have c1' := c1
  unfold light23B at c1'
  simp only [Bool.and_eq_true, decide_eq_true_eq] at c1'
  have hsz := inV_size c5 hok c1'.1 hvo (by omega) t
  have hmo := inV_ok hok hvo t
  by_cases c6 : (inV s t v).2 = 0
  case neg =>
    have e6 : ((inV s t v).2 != 0) = true := by simp [c6]
    have hz := a1 c6
    have hss := vSame 100 val0 val0 (by decide +kernel) (by decide) (by decide +kernel)
    rw [sameV_refl0] at hss
    unfold VE.enc at q1
    rw [hz] at q1
    generalize (inV s t v).2 = e at *
    repeat' first | refine .br ?_ | refine .seq ?_ | refine .rg ?_ | refine .rd ?_ | refine .block ?_ | refine .scope ?_ | refine .skip ?_ | refine .label ?_ | refine .exit ?_ | refine .ret ?_ | refine .ct ?_ | refine .cf ?_ | refine .cy ?_ | refine .cn ?_ | (refine .cond rfl ?_ ?_ <;> intro hc) | refine A.nil_seq ?_ | refine .nl ?_ | refine .dd ?_ | refine .ys ?_ | refine .no ?_ | (refine A.guard rfl ?_ ?_ <;> intro hc) | refine .lb ?_ | refine .ln ?_ | refine .ls ?_ | refine .pv ?_ | refine .ix ?_ | refine .pt ?_ | refine .pf ?_ | refine .bx ?_ | refine .al ?_ | refine .st ?_ | refine .ad ?_ | refine .sb ?_ | refine .mf ?_ | refine .cl ?_ | refine .cw ?_ | refine .ck ?_ | refine A.call rfl hL (WeakL.cons (Weak.refl _) (WeakL.cons (Weak.refl _) (WeakL.cons (Weak.no (WeakL.refl _)) (WeakL.refl _)))) ?_ | refine A.call rfl hss (WeakL.cons (Weak.refl _) (WeakL.cons weak_flatV (WeakL.refl _))) ?_ | fail
    exact Fin.ret1 rfl (Weak.refl _)
  obtain ⟨b1, b2⟩ := a2 c6
  have q2 := coeInput s (by omega) hok t (inV s t v).1 hsz hmo (by omega)
  rw [b1] at q2
  unfold VE.enc at q1 q2
  rw [c6] at q1
  have hss := vSame _ (inV s t v).1 (inV s t v).1 (Nat.le_refl _) (by omega) (by omega)
  rw [sameV_refl0] at hss
  have ek : (v.kind == 0) = ((inV s t v).1.kind == 0) := by rw [Bool.eq_iff_iff, beq_iff_eq, beq_iff_eq]; exact b2
  generalize (inV s t v).1 = w at *
  dsimp only at q2
  have e9 : ((v.kind == 0) == (w.kind == 0)) = true := by rw [ek]; cases (w.kind == 0) <;> rfl
  · repeat' first | refine .br ?_ | refine .seq ?_ | refine .rg ?_ | refine .rd ?_ | refine .block ?_ | refine .scope ?_ | refine .skip ?_ | refine .label ?_ | refine .exit ?_ | refine .ret ?_ | refine .ct ?_ | refine .cf ?_ | refine .cy ?_ | refine .cn ?_ | (refine .cond rfl ?_ ?_ <;> intro hc) | refine A.nil_seq ?_ | refine .nl ?_ | refine .dd ?_ | refine .ys ?_ | refine .no ?_ | (refine A.guard rfl ?_ ?_ <;> intro hc) | refine .lb ?_ | refine .ln ?_ | refine .ls ?_ | refine .pv ?_ | refine .ix ?_ | refine .pt ?_ | refine .pf ?_ | refine .bx ?_ | refine .al ?_ | refine .st ?_ | refine .ad ?_ | refine .sb ?_ | refine .mf ?_ | refine .cl ?_ | refine .cw ?_ | refine .ck ?_ | refine A.call rfl hL (WeakL.cons (Weak.refl _) (WeakL.cons (Weak.refl _) (WeakL.cons (Weak.no (WeakL.refl _)) (WeakL.refl _)))) ?_ | fail
    exact Fin.ret1 rfl (Weak.refl _)
end Go.Proofs.YtegakkonlhmeaaaGreatDoor
