/-
  The law CoerceNulls.
-/
import Derived.Test.YtpidjkihngiaoaaDoorGCoerceNulls7
namespace Go.Proofs.YtpidjkihngiaoaaDoor
open Go Go.Av
set_option maxRecDepth 100000
set_option maxHeartbeats 16000000
set_option linter.unusedVariables false
set_option linter.unusedSimpArgs false
attribute [local irreducible] HCode AOps PFn AFn Av.Step TStep

theorem coerceNulls (s : Sch) (t : Typ) (name : Str) (h : s.size + t.size + name.length ≤ 1048576) (hok : s.okD) : PFn Tryd.prog 4 [s.enc, t.enc, .str name] (.bool true) := by
  have hts : t.size = t.name.length + 4 := rfl
  have hL := light8 s (by omega)
  have hw := awake23
  have hr := wRight t (by omega)
  have hi := wIs t (by omega)
  have hn := lName name (by omega)
  have h7 := int_ 7
  have hsz0 : val0.size ≤ 2097152 := by decide +kernel
  have hszV : (varV name).size ≤ 2097152 := by rw [varV, Val.size, Val.sizeL, Val.sizeM]; omega
  have q1 := coeInput s (by omega) hok t val0 hsz0 val0_ok (by omega)
  have q2 := coeLiteral s (by omega) hok t (varV name) [] (by decide) hszV (varV_ok name) (by omega)
  have q3 := coeLiteral s (by omega) hok t (varV name) [.mk name val0] (by simp) hszV (varV_ok name) (by omega)
  have q4 := coeLiteral s (by omega) hok t (varV name) [.mk name (intV 7)] (by simp) hszV (varV_ok name) (by omega)
  have hss := vSame 100 (intV 7) (intV 7) (by decide +kernel) (by decide) (by decide +kernel)
  rw [sameV_refl0] at hss
  refine AFn.plain rfl (by simp [AV.closed, AV.closedL, Sch.closed, Typ.closed]) (AFn.enter [6] Tryd.func4 rfl rfl rfl rfl rfl (by decide) ?_)
  cases c1 : lightS s <;> rw [c1] at hL
  · repeat' first
      | refine .br ?_
      | refine .seq ?_ | refine .rg ?_ | refine .rd ?_ | refine .block ?_ | refine .scope ?_ | refine .skip ?_ | refine .label ?_ | refine .exit ?_ | refine .ret ?_
      | refine .ct ?_ | refine .cf ?_ | refine .cy ?_ | refine .cn ?_ | (refine .cond rfl ?_ ?_ <;> intro hc)
      | refine A.nil_seq ?_ | refine .nl ?_ | refine .dd ?_ | refine .ys ?_ | refine .no ?_ | (refine A.guard rfl ?_ ?_ <;> intro hc)
      | refine .lb ?_ | refine .ln ?_ | refine .ls ?_ | refine .pv ?_ | refine .ix ?_ | refine .pt ?_ | refine .pf ?_ | refine .bx ?_ | refine .al ?_ | refine .st ?_ | refine .ad ?_ | refine .sb ?_ | refine .mf ?_ | refine .cl ?_ | refine .cw ?_ | refine .ck ?_ | fail
    exact Fin.ret1 rfl (Weak.refl _)
  cases c2 : rightT t <;> rw [c2] at hr
  · repeat' first
      | refine .br ?_
      | refine .seq ?_ | refine .rg ?_ | refine .rd ?_ | refine .block ?_ | refine .scope ?_ | refine .skip ?_ | refine .label ?_ | refine .exit ?_ | refine .ret ?_
      | refine .ct ?_ | refine .cf ?_ | refine .cy ?_ | refine .cn ?_ | (refine .cond rfl ?_ ?_ <;> intro hc)
      | refine A.nil_seq ?_ | refine .nl ?_ | refine .dd ?_ | refine .ys ?_ | refine .no ?_ | (refine A.guard rfl ?_ ?_ <;> intro hc)
      | refine .lb ?_ | refine .ln ?_ | refine .ls ?_ | refine .pv ?_ | refine .ix ?_ | refine .pt ?_ | refine .pf ?_ | refine .bx ?_ | refine .al ?_ | refine .st ?_ | refine .ad ?_ | refine .sb ?_ | refine .mf ?_ | refine .cl ?_ | refine .cw ?_ | refine .ck ?_ | fail
    exact Fin.ret1 rfl (Weak.refl _)
  cases c3 : nameB name <;> rw [c3] at hn
  · repeat' first
      | refine .br ?_
      | refine .seq ?_ | refine .rg ?_ | refine .rd ?_ | refine .block ?_ | refine .scope ?_ | refine .skip ?_ | refine .label ?_ | refine .exit ?_ | refine .ret ?_
      | refine .ct ?_ | refine .cf ?_ | refine .cy ?_ | refine .cn ?_ | (refine .cond rfl ?_ ?_ <;> intro hc)
      | refine A.nil_seq ?_ | refine .nl ?_ | refine .dd ?_ | refine .ys ?_ | refine .no ?_ | (refine A.guard rfl ?_ ?_ <;> intro hc)
      | refine .lb ?_ | refine .ln ?_ | refine .ls ?_ | refine .pv ?_ | refine .ix ?_ | refine .pt ?_ | refine .pf ?_ | refine .bx ?_ | refine .al ?_ | refine .st ?_ | refine .ad ?_ | refine .sb ?_ | refine .mf ?_ | refine .cl ?_ | refine .cw ?_ | refine .ck ?_ | fail
    exact Fin.ret1 rfl (Weak.refl _)
  cases c4 : decide (200 < (name.length : Int))
  · rw [inV_null s t c2] at q1
    rw [litV_var s t name _ c2 c3] at q2 q3 q4
    have e2 : envO [] name = none := rfl
    have e3 : envO [.mk name val0] name = some val0 := by unfold envO; simp [Mem.name, Mem.v]
    have e4 : envO [.mk name (intV 7)] name = some (intV 7) := by unfold envO; simp [Mem.name, Mem.v]
    rw [e2] at q2
    rw [e3] at q3
    rw [e4] at q4
    simp only at q2 q3 q4
    rw [if_neg (show ¬ ((intV 7).kind = 0 ∧ isT t = true) from fun h => absurd h.1 (by decide))] at q4
    cases c5 : isT t <;> rw [c5] at hi q1 q2 q3
    · rw [if_neg (by decide)] at q1 q2
      rw [if_neg (by simp)] at q3
      repeat' first
        | refine .br ?_ | refine A.allocv (d := 8) rfl rfl rfl rfl rfl ?_ | refine HCode.turn 8 rfl (Turn.freezeP rfl rfl rfl rfl) ?_
        | refine .seq ?_ | refine .rg ?_ | refine .rd ?_ | refine .block ?_ | refine .scope ?_ | refine .skip ?_ | refine .label ?_ | refine .exit ?_ | refine .ret ?_
        | refine .ct ?_ | refine .cf ?_ | refine .cy ?_ | refine .cn ?_ | (refine .cond rfl ?_ ?_ <;> intro hc)
        | refine A.nil_seq ?_ | refine .nl ?_ | refine .dd ?_ | refine .ys ?_ | refine .no ?_ | (refine A.guard rfl ?_ ?_ <;> intro hc)
        | refine .lb ?_ | refine .ln ?_ | refine .ls ?_ | refine .pv ?_ | refine .ix ?_ | refine .pt ?_ | refine .pf ?_ | refine .bx ?_ | refine .al ?_ | refine .st ?_ | refine .ad ?_ | refine .sb ?_ | refine .mf ?_ | refine .cl ?_ | refine .cw ?_ | refine .ck ?_
        | refine A.vstore (agg := true) rfl rfl rfl rfl rfl rfl rfl rfl rfl rfl rfl ?_ | refine A.call rfl q1 (WeakL.cons (Weak.refl _) (WeakL.cons (Weak.refl _) (WeakL.cons weak_flatV (WeakL.refl _)))) ?_ | refine A.call rfl q2 (WeakL.cons (Weak.refl _) (WeakL.cons (Weak.refl _) (WeakL.cons weak_flatV (WeakL.cons (Weak.no (WeakL.refl _)) (WeakL.refl _))))) ?_ | refine A.call rfl q4 (WeakL.cons (Weak.refl _) (WeakL.cons (Weak.refl _) (WeakL.cons weak_flatV (WeakL.cons weak_mem0 (WeakL.refl _))))) ?_ | refine A.call rfl q3 (WeakL.cons (Weak.refl _) (WeakL.cons (Weak.refl _) (WeakL.cons weak_flatV (WeakL.cons weak_mem0 (WeakL.refl _))))) ?_ | fail
      exact Fin.ret1 rfl (Weak.refl _)
    · rw [if_pos rfl] at q1 q2
      rw [if_pos ⟨rfl, rfl⟩] at q3
      repeat' first
        | refine .br ?_ | refine A.allocv (d := 8) rfl rfl rfl rfl rfl ?_ | refine HCode.turn 8 rfl (Turn.freezeP rfl rfl rfl rfl) ?_
        | refine .seq ?_ | refine .rg ?_ | refine .rd ?_ | refine .block ?_ | refine .scope ?_ | refine .skip ?_ | refine .label ?_ | refine .exit ?_ | refine .ret ?_
        | refine .ct ?_ | refine .cf ?_ | refine .cy ?_ | refine .cn ?_ | (refine .cond rfl ?_ ?_ <;> intro hc)
        | refine A.nil_seq ?_ | refine .nl ?_ | refine .dd ?_ | refine .ys ?_ | refine .no ?_ | (refine A.guard rfl ?_ ?_ <;> intro hc)
        | refine .lb ?_ | refine .ln ?_ | refine .ls ?_ | refine .pv ?_ | refine .ix ?_ | refine .pt ?_ | refine .pf ?_ | refine .bx ?_ | refine .al ?_ | refine .st ?_ | refine .ad ?_ | refine .sb ?_ | refine .mf ?_ | refine .cl ?_ | refine .cw ?_ | refine .ck ?_
        | refine A.vstore (agg := true) rfl rfl rfl rfl rfl rfl rfl rfl rfl rfl rfl ?_ | refine A.call rfl q1 (WeakL.cons (Weak.refl _) (WeakL.cons (Weak.refl _) (WeakL.cons weak_flatV (WeakL.refl _)))) ?_ | refine A.call rfl q2 (WeakL.cons (Weak.refl _) (WeakL.cons (Weak.refl _) (WeakL.cons weak_flatV (WeakL.cons (Weak.no (WeakL.refl _)) (WeakL.refl _))))) ?_ | refine A.call rfl q4 (WeakL.cons (Weak.refl _) (WeakL.cons (Weak.refl _) (WeakL.cons weak_flatV (WeakL.cons weak_mem0 (WeakL.refl _))))) ?_ | refine A.call rfl q3 (WeakL.cons (Weak.refl _) (WeakL.cons (Weak.refl _) (WeakL.cons weak_flatV (WeakL.cons weak_mem0 (WeakL.refl _))))) ?_ | fail
      exact Fin.ret1 rfl (Weak.refl _)
  · repeat' first
      | refine .br ?_
      | refine .seq ?_ | refine .rg ?_ | refine .rd ?_ | refine .block ?_ | refine .scope ?_ | refine .skip ?_ | refine .label ?_ | refine .exit ?_ | refine .ret ?_
      | refine .ct ?_ | refine .cf ?_ | refine .cy ?_ | refine .cn ?_ | (refine .cond rfl ?_ ?_ <;> intro hc)
      | refine A.nil_seq ?_ | refine .nl ?_ | refine .dd ?_ | refine .ys ?_ | refine .no ?_ | (refine A.guard rfl ?_ ?_ <;> intro hc)
      | refine .lb ?_ | refine .ln ?_ | refine .ls ?_ | refine .pv ?_ | refine .ix ?_ | refine .pt ?_ | refine .pf ?_ | refine .bx ?_ | refine .al ?_ | refine .st ?_ | refine .ad ?_ | refine .sb ?_ | refine .mf ?_ | refine .cl ?_ | refine .cw ?_ | refine .ck ?_ | fail
    exact Fin.ret1 rfl (Weak.refl _)
end Go.Proofs.YtpidjkihngiaoaaDoor
