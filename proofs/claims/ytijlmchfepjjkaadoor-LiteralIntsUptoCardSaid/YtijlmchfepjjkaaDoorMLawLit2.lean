/-
  The laws LiteralInts, LiteralLists, LiteralBare, LiteralAlone.
-/
import Derived.Test.YtijlmchfepjjkaaDoorMLawLit
namespace Go.Proofs.YtijlmchfepjjkaaDoor
open Go Go.Av
set_option maxRecDepth 100000
set_option maxHeartbeats 16000000
set_option linter.unusedVariables false
set_option linter.unusedSimpArgs false
attribute [local irreducible] HCode AOps PFn AFn Av.Step TStep

theorem literalBare (s : Sch) (t : Typ) (v : Val) (h : s.size + t.size + v.size ≤ 2097152) : PFn Tryd.prog 8 [s.enc, t.enc, v.enc] (.bool true) := by
  have hts : t.size = t.name.length + 4 := rfl
  have hl := light10 s v (by omega) (by omega)
  have hw := awake10
  have hr := wRight t (by omega)
  refine AFn.plain rfl (by simp [AV.closed, AV.closedL, Sch.closed, Val.closed, Typ.closed]) (AFn.enter [6] Tryd.func8 rfl rfl rfl rfl rfl (by decide) ?_)
  cases c1 : lightB s v with
  | false =>
    rw [c1] at hl
    repeat' first
      | refine .br ?_
      | refine .seq ?_ | refine .rg ?_ | refine .rd ?_ | refine .block ?_ | refine .scope ?_ | refine .skip ?_ | refine .label ?_ | refine .exit ?_ | refine .ret ?_
      | refine .ct ?_ | refine .cf ?_ | refine .cy ?_ | refine .cn ?_ | (refine .cond rfl ?_ ?_ <;> intro hc)
      | refine A.nil_seq ?_ | refine .nl ?_ | refine .dd ?_ | refine .ys ?_ | refine .no ?_ | (refine A.guard rfl ?_ ?_ <;> intro hc)
      | refine .lb ?_ | refine .ln ?_ | refine .ls ?_ | refine .pv ?_ | refine .ix ?_ | refine .pt ?_ | refine .pf ?_ | refine .bx ?_ | refine .al ?_ | refine .st ?_ | refine .ad ?_ | refine .sb ?_ | refine .mf ?_ | refine .cl ?_ | refine .cw ?_ | refine .ck ?_ | fail
    exact Fin.ret1 rfl (Weak.refl _)
  | true =>
    rw [c1] at hl
    cases c2 : rightT t with
    | false =>
      rw [c2] at hr
      repeat' first
        | refine .br ?_
        | refine .seq ?_ | refine .rg ?_ | refine .rd ?_ | refine .block ?_ | refine .scope ?_ | refine .skip ?_ | refine .label ?_ | refine .exit ?_ | refine .ret ?_
        | refine .ct ?_ | refine .cf ?_ | refine .cy ?_ | refine .cn ?_ | (refine .cond rfl ?_ ?_ <;> intro hc)
        | refine A.nil_seq ?_ | refine .nl ?_ | refine .dd ?_ | refine .ys ?_ | refine .no ?_ | (refine A.guard rfl ?_ ?_ <;> intro hc)
        | refine .lb ?_ | refine .ln ?_ | refine .ls ?_ | refine .pv ?_ | refine .ix ?_ | refine .pt ?_ | refine .pf ?_ | refine .bx ?_ | refine .al ?_ | refine .st ?_ | refine .ad ?_ | refine .sb ?_ | refine .mf ?_ | refine .cl ?_ | refine .cw ?_ | refine .ck ?_ | fail
      exact Fin.ret1 rfl (Weak.refl _)
    | true =>
      rw [c2] at hr
      obtain ⟨p1, p2, p3⟩ := lit_bare s t v c2
      have hb := wBare t (by omega)
      have hm := wMust t (by omega)
      have hi := wIs t (by omega)
      have q1 := lRight s (bareT t) v (by omega) (by rw [(bareT_name t).1]; omega) (by omega)
      have q2 := lRight s (mustT t) v (by omega) (by rw [(mustT_name t).1]; omega) (by omega)
      have q3 := lRight s t val0 (by omega) (by omega) (by decide)
      rw [p3] at q3
      have e3 : ((!isT t) == (!isT t)) = true := by simp
      by_cases k0 : v.kind = 0
      · have e0 : (v.kind != 0) = false := by simp [k0]
        cases b2 : litR s (mustT t) v with
        | true =>
          rw [b2] at q2
          rw [p1 b2] at q1
          repeat' first
            | refine .br ?_
            | refine .seq ?_ | refine .rg ?_ | refine .rd ?_ | refine .block ?_ | refine .scope ?_ | refine .skip ?_ | refine .label ?_ | refine .exit ?_ | refine .ret ?_
            | refine .ct ?_ | refine .cf ?_ | refine .cy ?_ | refine .cn ?_ | (refine .cond rfl ?_ ?_ <;> intro hc)
            | refine A.nil_seq ?_ | refine .nl ?_ | refine .dd ?_ | refine .ys ?_ | refine .no ?_ | (refine A.guard rfl ?_ ?_ <;> intro hc)
            | refine .lb ?_ | refine .ln ?_ | refine .ls ?_ | refine .pv ?_ | refine .ix ?_ | refine .pt ?_ | refine .pf ?_ | refine .bx ?_ | refine .al ?_ | refine .st ?_ | refine .ad ?_ | refine .sb ?_ | refine .mf ?_ | refine .cl ?_ | refine .cw ?_ | refine .ck ?_
            | refine A.call rfl q3 (WeakL.cons (Weak.refl _) (WeakL.cons (Weak.refl _) (WeakL.cons weak_flatV (WeakL.refl _)))) ?_ | fail
          exact Fin.ret1 rfl (Weak.refl _)
        | false =>
          rw [b2] at q2
          repeat' first
            | refine .br ?_
            | refine .seq ?_ | refine .rg ?_ | refine .rd ?_ | refine .block ?_ | refine .scope ?_ | refine .skip ?_ | refine .label ?_ | refine .exit ?_ | refine .ret ?_
            | refine .ct ?_ | refine .cf ?_ | refine .cy ?_ | refine .cn ?_ | (refine .cond rfl ?_ ?_ <;> intro hc)
            | refine A.nil_seq ?_ | refine .nl ?_ | refine .dd ?_ | refine .ys ?_ | refine .no ?_ | (refine A.guard rfl ?_ ?_ <;> intro hc)
            | refine .lb ?_ | refine .ln ?_ | refine .ls ?_ | refine .pv ?_ | refine .ix ?_ | refine .pt ?_ | refine .pf ?_ | refine .bx ?_ | refine .al ?_ | refine .st ?_ | refine .ad ?_ | refine .sb ?_ | refine .mf ?_ | refine .cl ?_ | refine .cw ?_ | refine .ck ?_
            | refine A.call rfl q3 (WeakL.cons (Weak.refl _) (WeakL.cons (Weak.refl _) (WeakL.cons weak_flatV (WeakL.refl _)))) ?_ | fail
          exact Fin.ret1 rfl (Weak.refl _)
      · have e0 : (v.kind != 0) = true := by simp [k0]
        rw [p2 k0] at q1
        have e1 : (litR s (mustT t) v != litR s (mustT t) v) = false := by simp
        cases b2 : litR s (mustT t) v with
        | true =>
          rw [b2] at q1 q2
          repeat' first
            | refine .br ?_
            | refine .seq ?_ | refine .rg ?_ | refine .rd ?_ | refine .block ?_ | refine .scope ?_ | refine .skip ?_ | refine .label ?_ | refine .exit ?_ | refine .ret ?_
            | refine .ct ?_ | refine .cf ?_ | refine .cy ?_ | refine .cn ?_ | (refine .cond rfl ?_ ?_ <;> intro hc)
            | refine A.nil_seq ?_ | refine .nl ?_ | refine .dd ?_ | refine .ys ?_ | refine .no ?_ | (refine A.guard rfl ?_ ?_ <;> intro hc)
            | refine .lb ?_ | refine .ln ?_ | refine .ls ?_ | refine .pv ?_ | refine .ix ?_ | refine .pt ?_ | refine .pf ?_ | refine .bx ?_ | refine .al ?_ | refine .st ?_ | refine .ad ?_ | refine .sb ?_ | refine .mf ?_ | refine .cl ?_ | refine .cw ?_ | refine .ck ?_
            | refine A.call rfl q3 (WeakL.cons (Weak.refl _) (WeakL.cons (Weak.refl _) (WeakL.cons weak_flatV (WeakL.refl _)))) ?_ | fail
          exact Fin.ret1 rfl (Weak.refl _)
        | false =>
          rw [b2] at q1 q2
          repeat' first
            | refine .br ?_
            | refine .seq ?_ | refine .rg ?_ | refine .rd ?_ | refine .block ?_ | refine .scope ?_ | refine .skip ?_ | refine .label ?_ | refine .exit ?_ | refine .ret ?_
            | refine .ct ?_ | refine .cf ?_ | refine .cy ?_ | refine .cn ?_ | (refine .cond rfl ?_ ?_ <;> intro hc)
            | refine A.nil_seq ?_ | refine .nl ?_ | refine .dd ?_ | refine .ys ?_ | refine .no ?_ | (refine A.guard rfl ?_ ?_ <;> intro hc)
            | refine .lb ?_ | refine .ln ?_ | refine .ls ?_ | refine .pv ?_ | refine .ix ?_ | refine .pt ?_ | refine .pf ?_ | refine .bx ?_ | refine .al ?_ | refine .st ?_ | refine .ad ?_ | refine .sb ?_ | refine .mf ?_ | refine .cl ?_ | refine .cw ?_ | refine .ck ?_
            | refine A.call rfl q3 (WeakL.cons (Weak.refl _) (WeakL.cons (Weak.refl _) (WeakL.cons weak_flatV (WeakL.refl _)))) ?_ | fail
          exact Fin.ret1 rfl (Weak.refl _)

theorem literalAlone (s : Sch) (t : Typ) (v : Val) (h : s.size + t.size + v.size ≤ 2097152) : PFn Tryd.prog 9 [s.enc, t.enc, v.enc] (.bool true) := by
  have hts : t.size = t.name.length + 4 := rfl
  have hl := light10 s v (by omega) (by omega)
  have hw := awake10
  have hli := wList t (by omega)
  refine AFn.plain rfl (by simp [AV.closed, AV.closedL, Sch.closed, Val.closed, Typ.closed]) (AFn.enter [6] Tryd.func9 rfl rfl rfl rfl rfl (by decide) ?_)
  cases c1 : lightB s v with
  | false =>
    rw [c1] at hl
    repeat' first
      | refine .br ?_
      | refine .seq ?_ | refine .rg ?_ | refine .rd ?_ | refine .block ?_ | refine .scope ?_ | refine .skip ?_ | refine .label ?_ | refine .exit ?_ | refine .ret ?_
      | refine .ct ?_ | refine .cf ?_ | refine .cy ?_ | refine .cn ?_ | (refine .cond rfl ?_ ?_ <;> intro hc)
      | refine A.nil_seq ?_ | refine .nl ?_ | refine .dd ?_ | refine .ys ?_ | refine .no ?_ | (refine A.guard rfl ?_ ?_ <;> intro hc)
      | refine .lb ?_ | refine .ln ?_ | refine .ls ?_ | refine .pv ?_ | refine .ix ?_ | refine .pt ?_ | refine .pf ?_ | refine .bx ?_ | refine .al ?_ | refine .st ?_ | refine .ad ?_ | refine .sb ?_ | refine .mf ?_ | refine .cl ?_ | refine .cw ?_ | refine .ck ?_ | fail
    exact Fin.ret1 rfl (Weak.refl _)
  | true =>
    rw [c1] at hl
    unfold listR at hli
    by_cases c2 : rightT t = true ∧ t.lists ≠ 4
    · rw [if_pos c2] at hli
      by_cases k6 : v.kind = 6
      · have e6 : (v.kind == 6) = true := by simp [k6]
        repeat' first
          | refine .br ?_
          | refine .seq ?_ | refine .rg ?_ | refine .rd ?_ | refine .block ?_ | refine .scope ?_ | refine .skip ?_ | refine .label ?_ | refine .exit ?_ | refine .ret ?_
          | refine .ct ?_ | refine .cf ?_ | refine .cy ?_ | refine .cn ?_ | (refine .cond rfl ?_ ?_ <;> intro hc)
          | refine A.nil_seq ?_ | refine .nl ?_ | refine .dd ?_ | refine .ys ?_ | refine .no ?_ | (refine A.guard rfl ?_ ?_ <;> intro hc)
          | refine .lb ?_ | refine .ln ?_ | refine .ls ?_ | refine .pv ?_ | refine .ix ?_ | refine .pt ?_ | refine .pf ?_ | refine .bx ?_ | refine .al ?_ | refine .st ?_ | refine .ad ?_ | refine .sb ?_ | refine .mf ?_ | refine .cl ?_ | refine .cw ?_ | refine .ck ?_ | fail
        exact Fin.ret1 rfl (Weak.refl _)
      · have e6 : (v.kind == 6) = false := by simp [k6]
        by_cases k8 : v.kind = 8
        · have e8 : (v.kind == 8) = true := by simp [k8]
          repeat' first
            | refine .br ?_
            | refine .seq ?_ | refine .rg ?_ | refine .rd ?_ | refine .block ?_ | refine .scope ?_ | refine .skip ?_ | refine .label ?_ | refine .exit ?_ | refine .ret ?_
            | refine .ct ?_ | refine .cf ?_ | refine .cy ?_ | refine .cn ?_ | (refine .cond rfl ?_ ?_ <;> intro hc)
            | refine A.nil_seq ?_ | refine .nl ?_ | refine .dd ?_ | refine .ys ?_ | refine .no ?_ | (refine A.guard rfl ?_ ?_ <;> intro hc)
            | refine .lb ?_ | refine .ln ?_ | refine .ls ?_ | refine .pv ?_ | refine .ix ?_ | refine .pt ?_ | refine .pf ?_ | refine .bx ?_ | refine .al ?_ | refine .st ?_ | refine .ad ?_ | refine .sb ?_ | refine .mf ?_ | refine .cl ?_ | refine .cw ?_ | refine .ck ?_ | fail
          exact Fin.ret1 rfl (Weak.refl _)
        · have e8 : (v.kind == 8) = false := by simp [k8]
          by_cases k0 : v.kind = 0
          · have e0 : (v.kind == 0) = true := by simp [k0]
            repeat' first
              | refine .br ?_
              | refine .seq ?_ | refine .rg ?_ | refine .rd ?_ | refine .block ?_ | refine .scope ?_ | refine .skip ?_ | refine .label ?_ | refine .exit ?_ | refine .ret ?_
              | refine .ct ?_ | refine .cf ?_ | refine .cy ?_ | refine .cn ?_ | (refine .cond rfl ?_ ?_ <;> intro hc)
              | refine A.nil_seq ?_ | refine .nl ?_ | refine .dd ?_ | refine .ys ?_ | refine .no ?_ | (refine A.guard rfl ?_ ?_ <;> intro hc)
              | refine .lb ?_ | refine .ln ?_ | refine .ls ?_ | refine .pv ?_ | refine .ix ?_ | refine .pt ?_ | refine .pf ?_ | refine .bx ?_ | refine .al ?_ | refine .st ?_ | refine .ad ?_ | refine .sb ?_ | refine .mf ?_ | refine .cl ?_ | refine .cw ?_ | refine .ck ?_ | fail
            exact Fin.ret1 rfl (Weak.refl _)
          · have e0 : (v.kind == 0) = false := by simp [k0]
            obtain ⟨p1, p2⟩ := lit_alone s t v c2.1 c2.2 k6 k8 k0
            have hm := wMust (listT t) (by show t.name.length ≤ _; omega)
            have q1 := lRight s (listT t) v (by omega) (by show t.name.length ≤ _; omega) (by omega)
            have q2 := lRight s (mustT (listT t)) v (by omega) (by rw [(mustT_name (listT t)).1]; show t.name.length ≤ _; omega) (by omega)
            have q3 := lRight s t v (by omega) (by omega) (by omega)
            rw [p1] at q1
            rw [p2] at q2
            have e3 : (litR s t v == litR s t v) = true := by simp
            repeat' first
              | refine .br ?_
              | refine .seq ?_ | refine .rg ?_ | refine .rd ?_ | refine .block ?_ | refine .scope ?_ | refine .skip ?_ | refine .label ?_ | refine .exit ?_ | refine .ret ?_
              | refine .ct ?_ | refine .cf ?_ | refine .cy ?_ | refine .cn ?_ | (refine .cond rfl ?_ ?_ <;> intro hc)
              | refine A.nil_seq ?_ | refine .nl ?_ | refine .dd ?_ | refine .ys ?_ | refine .no ?_ | (refine A.guard rfl ?_ ?_ <;> intro hc)
              | refine .lb ?_ | refine .ln ?_ | refine .ls ?_ | refine .pv ?_ | refine .ix ?_ | refine .pt ?_ | refine .pf ?_ | refine .bx ?_ | refine .al ?_ | refine .st ?_ | refine .ad ?_ | refine .sb ?_ | refine .mf ?_ | refine .cl ?_ | refine .cw ?_ | refine .ck ?_ | fail
            exact Fin.ret1 rfl (Weak.refl _)
    · rw [if_neg c2] at hli
      repeat' first
        | refine .br ?_
        | refine .seq ?_ | refine .rg ?_ | refine .rd ?_ | refine .block ?_ | refine .scope ?_ | refine .skip ?_ | refine .label ?_ | refine .exit ?_ | refine .ret ?_
        | refine .ct ?_ | refine .cf ?_ | refine .cy ?_ | refine .cn ?_ | (refine .cond rfl ?_ ?_ <;> intro hc)
        | refine A.nil_seq ?_ | refine .nl ?_ | refine .dd ?_ | refine .ys ?_ | refine .no ?_ | (refine A.guard rfl ?_ ?_ <;> intro hc)
        | refine .lb ?_ | refine .ln ?_ | refine .ls ?_ | refine .pv ?_ | refine .ix ?_ | refine .pt ?_ | refine .pf ?_ | refine .bx ?_ | refine .al ?_ | refine .st ?_ | refine .ad ?_ | refine .sb ?_ | refine .mf ?_ | refine .cl ?_ | refine .cw ?_ | refine .ck ?_ | fail
      exact Fin.ret1 rfl (Weak.refl _)
end Go.Proofs.YtijlmchfepjjkaaDoor
