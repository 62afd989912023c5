/-
  The package coerce: make, one step.
  The package coerce: asked.
  The package coerce: make, the whole.
  The package coerce: Input, Literal, Args.
  The package coerce: Args, Vars.
-/
import Derived.Test.YtpidjkihngiaoaaGreatDoorGCoerceVars6
namespace Go.Proofs.YtpidjkihngiaoaaGreatDoor
open Go Go.Av
set_option maxRecDepth 100000
set_option maxHeartbeats 16000000
set_option linter.unusedVariables false
set_option linter.unusedSimpArgs false
attribute [local irreducible] HCode AOps PFn AFn Av.Step TStep

theorem cMakeVar (s : Sch) (within : Bool) (env : List Mem) (dfl : Par → VE) (v : Val) (t : Typ) (k8 : v.kind = 8) (he : env.length ≤ 2097152) (ht : t.name.length ≤ 2097152) :
    PFn Tryz.prog 93 [mkE s true within env, t.enc, v.enc] (VE.enc (mkV s true env dfl v t)) := by
  have hg := get v.s env (by omega)
  have hi := wIs t (by omega)
  rw [envO_getG] at hg
  rw [mkV_eq, if_pos ⟨rfl, k8⟩]
  have q8 : (v.kind == 8) = true := by simp [k8]
  refine AFn.plain (VE.closed _) (by simp [AV.closed, AV.closedL, mkE_closed, Typ.closed, Val.closed]) (AFn.enterR [.cell 6 30, .tmp 7] Tryz.func93 rfl rfl rfl rfl rfl ?_)
  cases ho : envO env v.s with
  | none =>
    rw [ho] at hg
    cases c : isT t with
    | true =>
      rw [c] at hi
      rw [if_pos rfl]
      repeat' first
        | refine AOps.br (d := 3) ?_ | refine AOps.br (d := 4) ?_
        | refine .seq ?_ | refine .rg ?_ | refine .rd ?_ | refine .block ?_ | refine .scope ?_ | refine .skip ?_ | refine .label ?_ | refine .exit ?_ | refine .ret ?_
        | refine .ct ?_ | refine .cf ?_ | refine .cy ?_ | refine .cn ?_ | (refine .cond rfl ?_ ?_ <;> intro hc)
        | refine A.nil_seq ?_ | refine .nl ?_ | refine .dd ?_ | refine .ys ?_ | refine .no ?_ | (refine A.guard rfl ?_ ?_ <;> intro hc)
        | refine .lb ?_ | refine .ln ?_ | refine .ls ?_ | refine .pv ?_ | refine .ix ?_ | refine .pt ?_ | refine .pf ?_ | refine .bx ?_ | refine .al ?_ | refine .st ?_ | refine .ad ?_ | refine .sb ?_ | refine .mf ?_ | refine .cl ?_ | refine .cw ?_ | refine .ck ?_ | fail
      exact FinR.ret1 rfl weak_ve0
    | false =>
      rw [c] at hi
      rw [if_neg (by decide)]
      repeat' first
        | refine AOps.br (d := 3) ?_ | refine AOps.br (d := 4) ?_
        | refine .seq ?_ | refine .rg ?_ | refine .rd ?_ | refine .block ?_ | refine .scope ?_ | refine .skip ?_ | refine .label ?_ | refine .exit ?_ | refine .ret ?_
        | refine .ct ?_ | refine .cf ?_ | refine .cy ?_ | refine .cn ?_ | (refine .cond rfl ?_ ?_ <;> intro hc)
        | refine A.nil_seq ?_ | refine .nl ?_ | refine .dd ?_ | refine .ys ?_ | refine .no ?_ | (refine A.guard rfl ?_ ?_ <;> intro hc)
        | refine .lb ?_ | refine .ln ?_ | refine .ls ?_ | refine .pv ?_ | refine .ix ?_ | refine .pt ?_ | refine .pf ?_ | refine .bx ?_ | refine .al ?_ | refine .st ?_ | refine .ad ?_ | refine .sb ?_ | refine .mf ?_ | refine .cl ?_ | refine .cw ?_ | refine .ck ?_ | fail
      exact FinR.ret1 rfl (Weak.refl _)
  | some x =>
    rw [ho] at hg
    dsimp only
    by_cases x0 : x.kind = 0
    · have qx : (x.kind == 0) = true := by simp [x0]
      cases c : isT t with
      | true =>
        rw [c] at hi
        rw [if_pos (show x.kind = 0 ∧ true = true from ⟨x0, rfl⟩)]
        repeat' first
          | refine AOps.br (d := 3) ?_ | refine AOps.br (d := 4) ?_
          | refine .seq ?_ | refine .rg ?_ | refine .rd ?_ | refine .block ?_ | refine .scope ?_ | refine .skip ?_ | refine .label ?_ | refine .exit ?_ | refine .ret ?_
          | refine .ct ?_ | refine .cf ?_ | refine .cy ?_ | refine .cn ?_ | (refine .cond rfl ?_ ?_ <;> intro hc)
          | refine A.nil_seq ?_ | refine .nl ?_ | refine .dd ?_ | refine .ys ?_ | refine .no ?_ | (refine A.guard rfl ?_ ?_ <;> intro hc)
          | refine .lb ?_ | refine .ln ?_ | refine .ls ?_ | refine .pv ?_ | refine .ix ?_ | refine .pt ?_ | refine .pf ?_ | refine .bx ?_ | refine .al ?_ | refine .st ?_ | refine .ad ?_ | refine .sb ?_ | refine .mf ?_ | refine .cl ?_ | refine .cw ?_ | refine .ck ?_ | fail
        exact FinR.ret1 rfl weak_ve0
      | false =>
        rw [c] at hi
        rw [if_neg (show ¬ (x.kind = 0 ∧ false = true) by simp)]
        repeat' first
          | refine AOps.br (d := 3) ?_ | refine AOps.br (d := 4) ?_
          | refine .seq ?_ | refine .rg ?_ | refine .rd ?_ | refine .block ?_ | refine .scope ?_ | refine .skip ?_ | refine .label ?_ | refine .exit ?_ | refine .ret ?_
          | refine .ct ?_ | refine .cf ?_ | refine .cy ?_ | refine .cn ?_ | (refine .cond rfl ?_ ?_ <;> intro hc)
          | refine A.nil_seq ?_ | refine .nl ?_ | refine .dd ?_ | refine .ys ?_ | refine .no ?_ | (refine A.guard rfl ?_ ?_ <;> intro hc)
          | refine .lb ?_ | refine .ln ?_ | refine .ls ?_ | refine .pv ?_ | refine .ix ?_ | refine .pt ?_ | refine .pf ?_ | refine .bx ?_ | refine .al ?_ | refine .st ?_ | refine .ad ?_ | refine .sb ?_ | refine .mf ?_ | refine .cl ?_ | refine .cw ?_ | refine .ck ?_ | fail
        exact FinR.ret1 rfl (Weak.refl _)
    · have qx : (x.kind == 0) = false := by simp [x0]
      rw [if_neg (fun h => x0 h.1)]
      repeat' first
        | refine AOps.br (d := 3) ?_ | refine AOps.br (d := 4) ?_
        | refine .seq ?_ | refine .rg ?_ | refine .rd ?_ | refine .block ?_ | refine .scope ?_ | refine .skip ?_ | refine .label ?_ | refine .exit ?_ | refine .ret ?_
        | refine .ct ?_ | refine .cf ?_ | refine .cy ?_ | refine .cn ?_ | (refine .cond rfl ?_ ?_ <;> intro hc)
        | refine A.nil_seq ?_ | refine .nl ?_ | refine .dd ?_ | refine .ys ?_ | refine .no ?_ | (refine A.guard rfl ?_ ?_ <;> intro hc)
        | refine .lb ?_ | refine .ln ?_ | refine .ls ?_ | refine .pv ?_ | refine .ix ?_ | refine .pt ?_ | refine .pf ?_ | refine .bx ?_ | refine .al ?_ | refine .st ?_ | refine .ad ?_ | refine .sb ?_ | refine .mf ?_ | refine .cl ?_ | refine .cw ?_ | refine .ck ?_ | fail
      exact FinR.ret1 rfl (Weak.refl _)
/-- .. a value that is no variable to look up. -/
theorem cMakeStep (s : Sch) (hs : s.size ≤ 2097152) (wr within : Bool) (env : List Mem) (dfl : Par → VE) (v : Val) (t : Typ) (h8 : ¬ (wr = true ∧ v.kind = 8)) (hv : v.size ≤ 2097152) (ht : t.name.length ≤ 2097152) (h0 : -9223372036854775808 ≤ v.n) (h1 : v.n ≤ 9223372036854775807)
    (hlist : rightT t = true ∧ t.lists ≠ 0 → v.kind ≠ 0 → PFn Tryz.prog 144 [mkE s wr within env, (itemT t).enc, v.enc] (VE.enc (mkV s wr env dfl v t)))
    (hin : ∀ d, findO s t.name = some d → d.kind = 5 → PFn Tryz.prog 147 [mkE s wr within env, d.enc, v.enc] (VE.enc (if v.kind = 7 then inputMk s wr env dfl (mkM s wr env dfl v.m) d else (val0, 7)))) :
    PFn Tryz.prog 93 [mkE s wr within env, t.enc, v.enc] (VE.enc (mkV s wr env dfl v t)) := by
  have hi := wIs t (by omega)
  have hit := wItem t (by omega)
  have hf := dFind s t.name hs
  refine AFn.plain (VE.closed _) (by simp [AV.closed, AV.closedL, mkE_closed, Typ.closed, Val.closed]) (AFn.enterR [.cell 6 30, .tmp 7] Tryz.func93 rfl rfl rfl rfl rfl ?_)
  have hw : wr = false ∨ (wr = true ∧ (v.kind == 8) = false) := by
    cases wr with
    | false => exact .inl rfl
    | true => exact .inr ⟨rfl, by simpa using h8⟩
  by_cases k0 : v.kind = 0
  · have q0 : (v.kind == 0) = true := by simp [k0]
    rw [mkV_eq, if_neg h8, if_pos k0]
    cases c : isT t with
    | true =>
      rw [c] at hi
      rw [if_pos rfl]
      rcases hw with rfl | ⟨rfl, q8⟩
      all_goals
        repeat' first
          | refine .br ?_
          | refine .seq ?_ | refine .rg ?_ | refine .rd ?_ | refine .block ?_ | refine .scope ?_ | refine .skip ?_ | refine .label ?_ | refine .exit ?_ | refine .ret ?_
          | refine .ct ?_ | refine .cf ?_ | refine .cy ?_ | refine .cn ?_ | (refine .cond rfl ?_ ?_ <;> intro hc)
          | refine A.nil_seq ?_ | refine .nl ?_ | refine .dd ?_ | refine .ys ?_ | refine .no ?_ | (refine A.guard rfl ?_ ?_ <;> intro hc)
          | refine .lb ?_ | refine .ln ?_ | refine .ls ?_ | refine .pv ?_ | refine .ix ?_ | refine .pt ?_ | refine .pf ?_ | refine .bx ?_ | refine .al ?_ | refine .st ?_ | refine .ad ?_ | refine .sb ?_ | refine .mf ?_ | refine .cl ?_ | refine .cw ?_ | refine .ck ?_ | fail
        exact FinR.ret1 rfl weak_ve0
    | false =>
      rw [c] at hi
      rw [if_neg (by decide)]
      rcases hw with rfl | ⟨rfl, q8⟩
      all_goals
        repeat' first
          | refine .br ?_
          | refine .seq ?_ | refine .rg ?_ | refine .rd ?_ | refine .block ?_ | refine .scope ?_ | refine .skip ?_ | refine .label ?_ | refine .exit ?_ | refine .ret ?_
          | refine .ct ?_ | refine .cf ?_ | refine .cy ?_ | refine .cn ?_ | (refine .cond rfl ?_ ?_ <;> intro hc)
          | refine A.nil_seq ?_ | refine .nl ?_ | refine .dd ?_ | refine .ys ?_ | refine .no ?_ | (refine A.guard rfl ?_ ?_ <;> intro hc)
          | refine .lb ?_ | refine .ln ?_ | refine .ls ?_ | refine .pv ?_ | refine .ix ?_ | refine .pt ?_ | refine .pf ?_ | refine .bx ?_ | refine .al ?_ | refine .st ?_ | refine .ad ?_ | refine .sb ?_ | refine .mf ?_ | refine .cl ?_ | refine .cw ?_ | refine .ck ?_ | fail
        exact FinR.ret1 rfl (Weak.refl _)
  · have q0 : (v.kind == 0) = false := by simp [k0]
    unfold itemR at hit
    by_cases ci : rightT t = true ∧ t.lists ≠ 0
    · rw [if_pos ci] at hit
      have hl := hlist ci k0
      generalize mkV s wr env dfl v t = r at hl
      obtain ⟨rv, re⟩ := r
      unfold VE.enc at hl
      simp only at hl
      rcases hw with rfl | ⟨rfl, q8⟩
      all_goals
        repeat' first
          | refine .br ?_
          | refine .seq ?_ | refine .rg ?_ | refine .rd ?_ | refine .block ?_ | refine .scope ?_ | refine .skip ?_ | refine .label ?_ | refine .exit ?_ | refine .ret ?_
          | refine .ct ?_ | refine .cf ?_ | refine .cy ?_ | refine .cn ?_ | (refine .cond rfl ?_ ?_ <;> intro hc)
          | refine A.nil_seq ?_ | refine .nl ?_ | refine .dd ?_ | refine .ys ?_ | refine .no ?_ | (refine A.guard rfl ?_ ?_ <;> intro hc)
          | refine .lb ?_ | refine .ln ?_ | refine .ls ?_ | refine .pv ?_ | refine .ix ?_ | refine .pt ?_ | refine .pf ?_ | refine .bx ?_ | refine .al ?_ | refine .st ?_ | refine .ad ?_ | refine .sb ?_ | refine .mf ?_ | refine .cl ?_ | refine .cw ?_ | refine .ck ?_ | fail
        exact FinR.ret1 rfl (Weak.refl _)
    · rw [if_neg ci] at hit
      rw [mkV_eq, if_neg h8, if_neg k0, if_neg ci]
      unfold baseMk
      unfold findR at hf
      cases hfo : findO s t.name with
      | none =>
        rw [hfo] at hf
        rcases hw with rfl | ⟨rfl, q8⟩
        all_goals
          repeat' first
            | refine .br ?_
            | refine .seq ?_ | refine .rg ?_ | refine .rd ?_ | refine .block ?_ | refine .scope ?_ | refine .skip ?_ | refine .label ?_ | refine .exit ?_ | refine .ret ?_
            | refine .ct ?_ | refine .cf ?_ | refine .cy ?_ | refine .cn ?_ | (refine .cond rfl ?_ ?_ <;> intro hc)
            | refine A.nil_seq ?_ | refine .nl ?_ | refine .dd ?_ | refine .ys ?_ | refine .no ?_ | (refine A.guard rfl ?_ ?_ <;> intro hc)
            | refine .lb ?_ | refine .ln ?_ | refine .ls ?_ | refine .pv ?_ | refine .ix ?_ | refine .pt ?_ | refine .pf ?_ | refine .bx ?_ | refine .al ?_ | refine .st ?_ | refine .ad ?_ | refine .sb ?_ | refine .mf ?_ | refine .cl ?_ | refine .cw ?_ | refine .ck ?_ | fail
          exact FinR.ret1 rfl weak_ve0
      | some d =>
        rw [hfo] at hf
        dsimp only at hf ⊢
        by_cases d0 : d.kind = 0
        · have e0 : (d.kind == 0) = true := by simp [d0]
          rw [if_pos d0]
          have hsc := cScalar t.name v h0 h1
          generalize scalMk t.name v = r at hsc
          obtain ⟨rv, re⟩ := r
          unfold VE.enc at hsc
          simp only at hsc
          rcases hw with rfl | ⟨rfl, q8⟩
          all_goals
            repeat' first
              | refine .br ?_
              | refine .seq ?_ | refine .rg ?_ | refine .rd ?_ | refine .block ?_ | refine .scope ?_ | refine .skip ?_ | refine .label ?_ | refine .exit ?_ | refine .ret ?_
              | refine .ct ?_ | refine .cf ?_ | refine .cy ?_ | refine .cn ?_ | (refine .cond rfl ?_ ?_ <;> intro hc)
              | refine A.nil_seq ?_ | refine .nl ?_ | refine .dd ?_ | refine .ys ?_ | refine .no ?_ | (refine A.guard rfl ?_ ?_ <;> intro hc)
              | refine .lb ?_ | refine .ln ?_ | refine .ls ?_ | refine .pv ?_ | refine .ix ?_ | refine .pt ?_ | refine .pf ?_ | refine .bx ?_ | refine .al ?_ | refine .st ?_ | refine .ad ?_ | refine .sb ?_ | refine .mf ?_ | refine .cl ?_ | refine .cw ?_ | refine .ck ?_ | fail
            exact FinR.ret1 rfl (Weak.refl _)
        · have e0 : (d.kind == 0) = false := by simp [d0]
          rw [if_neg d0]
          by_cases d4 : d.kind = 4
          · have e4 : (d.kind == 4) = true := by simp [d4]
            rw [if_pos d4]
            have hdl : d.parts.length ≤ 9223372036854775807 := by
              have := (findR_size (name := t.name) hs).2.1
              unfold findR at this
              rw [hfo] at this
              simp only at this
              omega
            have hen := cEnum s wr within env d v hdl
            generalize enumMk wr d v.kind v.s = r at hen
            obtain ⟨rv, re⟩ := r
            unfold VE.enc at hen
            simp only at hen
            rcases hw with rfl | ⟨rfl, q8⟩
            all_goals
              repeat' first
                | refine .br ?_
                | refine .seq ?_ | refine .rg ?_ | refine .rd ?_ | refine .block ?_ | refine .scope ?_ | refine .skip ?_ | refine .label ?_ | refine .exit ?_ | refine .ret ?_
                | refine .ct ?_ | refine .cf ?_ | refine .cy ?_ | refine .cn ?_ | (refine .cond rfl ?_ ?_ <;> intro hc)
                | refine A.nil_seq ?_ | refine .nl ?_ | refine .dd ?_ | refine .ys ?_ | refine .no ?_ | (refine A.guard rfl ?_ ?_ <;> intro hc)
                | refine .lb ?_ | refine .ln ?_ | refine .ls ?_ | refine .pv ?_ | refine .ix ?_ | refine .pt ?_ | refine .pf ?_ | refine .bx ?_ | refine .al ?_ | refine .st ?_ | refine .ad ?_ | refine .sb ?_ | refine .mf ?_ | refine .cl ?_ | refine .cw ?_ | refine .ck ?_ | fail
              exact FinR.ret1 rfl (Weak.refl _)
          · have e4 : (d.kind == 4) = false := by simp [d4]
            rw [if_neg d4]
            by_cases d5 : d.kind = 5
            · have e5 : (d.kind == 5) = true := by simp [d5]
              rw [if_pos d5]
              have hinp := hin d hfo d5
              generalize (if v.kind = 7 then inputMk s wr env dfl (mkM s wr env dfl v.m) d else (val0, 7)) = r at hinp
              obtain ⟨rv, re⟩ := r
              unfold VE.enc at hinp
              simp only at hinp
              rcases hw with rfl | ⟨rfl, q8⟩
              all_goals
                repeat' first
                  | refine .br ?_
                  | refine .seq ?_ | refine .rg ?_ | refine .rd ?_ | refine .block ?_ | refine .scope ?_ | refine .skip ?_ | refine .label ?_ | refine .exit ?_ | refine .ret ?_
                  | refine .ct ?_ | refine .cf ?_ | refine .cy ?_ | refine .cn ?_ | (refine .cond rfl ?_ ?_ <;> intro hc)
                  | refine A.nil_seq ?_ | refine .nl ?_ | refine .dd ?_ | refine .ys ?_ | refine .no ?_ | (refine A.guard rfl ?_ ?_ <;> intro hc)
                  | refine .lb ?_ | refine .ln ?_ | refine .ls ?_ | refine .pv ?_ | refine .ix ?_ | refine .pt ?_ | refine .pf ?_ | refine .bx ?_ | refine .al ?_ | refine .st ?_ | refine .ad ?_ | refine .sb ?_ | refine .mf ?_ | refine .cl ?_ | refine .cw ?_ | refine .ck ?_ | fail
                exact FinR.ret1 rfl (Weak.refl _)
            · have e5 : (d.kind == 5) = false := by simp [d5]
              rw [if_neg d5]
              rcases hw with rfl | ⟨rfl, q8⟩
              all_goals
                repeat' first
                  | refine .br ?_
                  | refine .seq ?_ | refine .rg ?_ | refine .rd ?_ | refine .block ?_ | refine .scope ?_ | refine .skip ?_ | refine .label ?_ | refine .exit ?_ | refine .ret ?_
                  | refine .ct ?_ | refine .cf ?_ | refine .cy ?_ | refine .cn ?_ | (refine .cond rfl ?_ ?_ <;> intro hc)
                  | refine A.nil_seq ?_ | refine .nl ?_ | refine .dd ?_ | refine .ys ?_ | refine .no ?_ | (refine A.guard rfl ?_ ?_ <;> intro hc)
                  | refine .lb ?_ | refine .ln ?_ | refine .ls ?_ | refine .pv ?_ | refine .ix ?_ | refine .pt ?_ | refine .pf ?_ | refine .bx ?_ | refine .al ?_ | refine .st ?_ | refine .ad ?_ | refine .sb ?_ | refine .mf ?_ | refine .cl ?_ | refine .cw ?_ | refine .ck ?_ | fail
                exact FinR.ret1 rfl weak_ve0
end Go.Proofs.YtpidjkihngiaoaaGreatDoor
namespace Go.Proofs.YtpidjkihngiaoaaGreatDoor
open Go Go.Av
set_option maxRecDepth 100000
set_option maxHeartbeats 16000000
set_option linter.unusedVariables false
set_option linter.unusedSimpArgs false
attribute [local irreducible] HCode AOps PFn AFn Av.Step TStep

theorem cAsked (s : Sch) (wr within : Bool) (env : List Mem) (dfl : Par → VE) (v : Val) (t : Typ) (hv : v.size ≤ 2097152) (ht : t.name.length ≤ 2097152)
    (hm : rightT t = true → PFn Tryz.prog 93 [mkE s wr within env, t.enc, v.enc] (VE.enc (mkV s wr env dfl v t))) :
    PFn Tryz.prog 52 [mkE s wr within env, t.enc, v.enc] (VE.enc (askV s wr env dfl t v)) := by
  have hr := wRight t (by omega)
  have hg := vGood v hv
  refine AFn.plain (VE.closed _) (by simp [AV.closed, AV.closedL, mkE_closed, Typ.closed, Val.closed]) (AFn.enterR [.cell 6 30, .tmp 7] Tryz.func52 rfl rfl rfl rfl rfl ?_)
  unfold askV
  cases c1 : rightT t with
  | false =>
    rw [c1] at hr
    rw [if_neg (by simp)]
    repeat' first
      | refine .br ?_
      | refine .seq ?_ | refine .rg ?_ | refine .rd ?_ | refine .block ?_ | refine .scope ?_ | refine .skip ?_ | refine .label ?_ | refine .exit ?_ | refine .ret ?_
      | refine .ct ?_ | refine .cf ?_ | refine .cy ?_ | refine .cn ?_ | (refine .cond rfl ?_ ?_ <;> intro hc)
      | refine A.nil_seq ?_ | refine .nl ?_ | refine .dd ?_ | refine .ys ?_ | refine .no ?_ | (refine A.guard rfl ?_ ?_ <;> intro hc)
      | refine .lb ?_ | refine .ln ?_ | refine .ls ?_ | refine .pv ?_ | refine .ix ?_ | refine .pt ?_ | refine .pf ?_ | refine .bx ?_ | refine .al ?_ | refine .st ?_ | refine .ad ?_ | refine .sb ?_ | refine .mf ?_ | refine .cl ?_ | refine .cw ?_ | refine .ck ?_ | fail
    exact FinR.ret1 rfl weak_ve0
  | true =>
    rw [c1] at hr
    cases c2 : allV good v with
    | false =>
      rw [c2] at hg
      rw [if_neg (by simp)]
      repeat' first
        | refine .br ?_
        | refine .seq ?_ | refine .rg ?_ | refine .rd ?_ | refine .block ?_ | refine .scope ?_ | refine .skip ?_ | refine .label ?_ | refine .exit ?_ | refine .ret ?_
        | refine .ct ?_ | refine .cf ?_ | refine .cy ?_ | refine .cn ?_ | (refine .cond rfl ?_ ?_ <;> intro hc)
        | refine A.nil_seq ?_ | refine .nl ?_ | refine .dd ?_ | refine .ys ?_ | refine .no ?_ | (refine A.guard rfl ?_ ?_ <;> intro hc)
        | refine .lb ?_ | refine .ln ?_ | refine .ls ?_ | refine .pv ?_ | refine .ix ?_ | refine .pt ?_ | refine .pf ?_ | refine .bx ?_ | refine .al ?_ | refine .st ?_ | refine .ad ?_ | refine .sb ?_ | refine .mf ?_ | refine .cl ?_ | refine .cw ?_ | refine .ck ?_ | fail
      exact FinR.ret1 rfl weak_ve0
    | true =>
      rw [c2] at hg
      rw [if_pos ⟨rfl, rfl⟩]
      have hk := hm c1
      generalize mkV s wr env dfl v t = r at hk
      obtain ⟨rv, re⟩ := r
      unfold VE.enc at hk
      simp only at hk
      repeat' first
        | refine .br ?_
        | refine .seq ?_ | refine .rg ?_ | refine .rd ?_ | refine .block ?_ | refine .scope ?_ | refine .skip ?_ | refine .label ?_ | refine .exit ?_ | refine .ret ?_
        | refine .ct ?_ | refine .cf ?_ | refine .cy ?_ | refine .cn ?_ | (refine .cond rfl ?_ ?_ <;> intro hc)
        | refine A.nil_seq ?_ | refine .nl ?_ | refine .dd ?_ | refine .ys ?_ | refine .no ?_ | (refine A.guard rfl ?_ ?_ <;> intro hc)
        | refine .lb ?_ | refine .ln ?_ | refine .ls ?_ | refine .pv ?_ | refine .ix ?_ | refine .pt ?_ | refine .pf ?_ | refine .bx ?_ | refine .al ?_ | refine .st ?_ | refine .ad ?_ | refine .sb ?_ | refine .mf ?_ | refine .cl ?_ | refine .cw ?_ | refine .ck ?_ | fail
      exact FinR.ret1 rfl (Weak.refl _)
end Go.Proofs.YtpidjkihngiaoaaGreatDoor
namespace Go.Proofs.YtpidjkihngiaoaaGreatDoor
open Go Go.Av
set_option maxRecDepth 100000
set_option maxHeartbeats 16000000
set_option linter.unusedVariables false
set_option linter.unusedSimpArgs false
attribute [local irreducible] HCode AOps PFn AFn Av.Step TStep

theorem Val.ok_parts {v : Val} (h : v.ok) : (-9223372036854775808 ≤ v.n ∧ v.n ≤ 9223372036854775807) ∧ (∀ x ∈ v.l, x.ok) ∧ ∀ x ∈ v.m, x.v.ok := by
  cases v
  rw [Val.ok] at h
  obtain ⟨h1, h2, h3, h4⟩ := h
  unfold Lit.wf IntKind.min IntKind.max at h2
  rw [Bool.and_eq_true, decide_eq_true_eq, decide_eq_true_eq] at h2
  refine ⟨⟨h2.1, h2.2⟩, fun x hx => ?_, fun x hx => ?_⟩
  · have aux : ∀ l : List Val, Val.okL l → ∀ x ∈ l, x.ok := fun l => by
      induction l with
      | nil => intro _ x hx; simp at hx
      | cons y l ih =>
        intro h x hx
        rw [Val.okL] at h
        rcases List.mem_cons.1 hx with rfl | hx
        · exact h.1
        · exact ih h.2 x hx
    exact aux _ h3 x hx
  · have aux : ∀ l : List Mem, Val.okM l → ∀ x ∈ l, x.v.ok := fun l => by
      induction l with
      | nil => intro _ x hx; simp at hx
      | cons y l ih =>
        intro h x hx
        obtain ⟨n, v⟩ := y
        rw [Val.okM] at h
        rcases List.mem_cons.1 hx with rfl | hx
        · exact h.1
        · exact ih h.2 x hx
    exact aux _ h4 x hx
/-- What a leaf's default comes to, as asked. -/
def HD (s : Sch) (dfl : Par → VE) : Prop := ∀ d ∈ s.defs, ∀ p ∈ d.params, leafB s p.t.name = true → PFn Tryz.prog 52 [mkE s true false [], p.t.enc, p.d.enc] (VE.enc (dfl p))
theorem findO_in {s : Sch} {name : Str} {d : Dfn} (h : findO s name = some d) (hk : d.kind = 5) : d ∈ s.defs := by
  unfold findO at h
  split at h
  · cases h; exact absurd hk (show (0 : Int) ≠ 5 by decide)
  · exact List.mem_of_find?_eq_some h
theorem leaf_not5 {s : Sch} {name : Str} {d : Dfn} (h : findO s name = some d) (hk : d.kind = 5) : leafB s name = false := by
  unfold leafB kindB findR
  rw [h]
  simp only [Bool.true_and, decide_eq_false_iff_not]
  rw [hk]; decide
theorem cMakeBody (s : Sch) (hs : s.size ≤ 2097152) (wr : Bool) (env : List Mem) (dfl : Par → VE) (he : env.length ≤ 2097152) (v : Val) (t : Typ) (within : Bool) (hv : v.size ≤ 2097152) (hok : v.ok) (ht : t.name.length ≤ 2097152) (hc : leafB s t.name = true ∨ HD s dfl)
    (ihA : ∀ x : Val, x.size < v.size → x.ok → ∀ t : Typ, t.name.length ≤ 2097152 → (leafB s t.name = true ∨ HD s dfl) → ∀ within : Bool, PFn Tryz.prog 93 [mkE s wr within env, t.enc, x.enc] (VE.enc (mkV s wr env dfl x t)))
    (down : rightT t = true ∧ t.lists ≠ 0 → PFn Tryz.prog 93 [mkE s wr within env, (itemT t).enc, v.enc] (VE.enc (mkV s wr env dfl v (itemT t)))) :
    PFn Tryz.prog 93 [mkE s wr within env, t.enc, v.enc] (VE.enc (mkV s wr env dfl v t)) := by
  obtain ⟨⟨r0, r1⟩, okl, okm⟩ := Val.ok_parts hok
  by_cases h8 : wr = true ∧ v.kind = 8
  · obtain ⟨rfl, k8⟩ := h8
    exact cMakeVar s within env dfl v t k8 he ht
  · refine cMakeStep s hs wr within env dfl v t h8 hv ht r0 r1 (fun ci k0 => ?_) (fun d hfo d5 => ?_)
    · by_cases k6 : v.kind = 6
      · have h := cListL s wr within env (itemT t) v (fun x => mkV s wr env dfl x (itemT t)) k6 hv (fun x hx => by
          obtain ⟨k, hk, rfl⟩ := List.getElem_of_mem hx
          exact ihA _ (Val.size_l hk) (okl _ hx) (itemT t) ht hc within)
        rw [mkV_eq, if_neg h8, if_neg k0, if_pos ci, if_pos k6, mkL_seq]
        exact h
      · rw [mkV_down h8 k0 k6 ci.1 ci.2 (rightT_item ci.1 ci.2)]
        exact cListO s wr within env (itemT t) v _ k6 (down ci)
    · have hHD : HD s dfl := hc.elim (fun h => by rw [leaf_not5 hfo d5] at h; cases h) id
      have hd := findO_in hfo d5
      have hds := Sch.dfn hd
      have hdl := d.lens
      have hml := v.m_len
      have hpn : ∀ p ∈ d.params, p.t.name.length ≤ 2097152 := fun p hp => by have := Dfn.par hp; have := p.lens; omega
      have hM := cMembers s wr true env v.m d.params (memMk s wr true env dfl (mkM s wr env dfl v.m)) (by omega) (fun p hp => cMember s hs wr true env v.m dfl dfl p he (by omega) (hpn p hp)
        (fun x hx => by
          obtain ⟨k, hk, rfl⟩ := List.getElem_of_mem hx
          have hz := Val.size_m hk
          exact cAsked s wr true env dfl _ p.t (by omega) (hpn p hp) (fun _ => ihA _ hz (okm _ hx) p.t (hpn p hp) (.inr hHD) true))
        (fun _ hl => hl.elim (fun h => by cases h) (fun h => hHD d hd p hp h)))
      rw [← memsMk_F] at hM
      have h := cInput s wr within env d v _ he hv (by omega) (by rw [v.mv_eq]; exact hM)
      unfold inputMk
      rw [strange_eq]
      exact h
theorem cMake (s : Sch) (hs : s.size ≤ 2097152) (wr : Bool) (env : List Mem) (dfl : Par → VE) (he : env.length ≤ 2097152) : ∀ N : Nat, N ≤ 2097152 → ∀ v : Val, v.size ≤ N → v.ok → ∀ (j : Nat) (t : Typ), t.lists.toNat = j → t.name.length ≤ 2097152 → (leafB s t.name = true ∨ HD s dfl) → ∀ within : Bool,
    PFn Tryz.prog 93 [mkE s wr within env, t.enc, v.enc] (VE.enc (mkV s wr env dfl v t))
  | 0, _, v, hv => absurd hv (by have := v.size_pos; omega)
  | N + 1, hN, v, hv => by
    have ih := cMake s hs wr env dfl he N (by omega)
    intro hok j
    induction j with
    | zero =>
      intro t hj ht hc within
      exact cMakeBody s hs wr env dfl he v t within (by omega) hok ht hc (fun x hx ho u hu hcu w => ih x (by omega) ho _ u rfl hu hcu w) (fun ⟨c, h0⟩ => absurd (rightT_iff.1 c).2.1 (by omega))
    | succ j ihj =>
      intro t hj ht hc within
      exact cMakeBody s hs wr env dfl he v t within (by omega) hok ht hc (fun x hx ho u hu hcu w => ih x (by omega) ho _ u rfl hu hcu w) (fun _ => ihj (itemT t) (by show (t.lists - 1).toNat = j; omega) ht hc within)
def Sch.okD (s : Sch) : Prop := ∀ d ∈ s.defs, ∀ p ∈ d.params, p.d.ok
theorem hd_leaf (s : Sch) (hs : s.size ≤ 2097152) (hok : s.okD) : HD s (dflLeaf s) := fun d hd p hp hl => by
  have h1 := Sch.dfn hd
  have h2 := Dfn.par hp
  have h3 := p.lens
  exact cAsked s true false [] junkD p.d p.t (by omega) (by omega) (fun _ => cMake s hs true [] junkD (by decide) 2097152 (Nat.le_refl _) p.d (by omega) (hok d hd p hp) _ p.t rfl (by omega) (.inl hl) false)
/-- asked, whatever is asked. -/
theorem cAskedAll (s : Sch) (hs : s.size ≤ 2097152) (hok : s.okD) (wr within : Bool) (env : List Mem) (he : env.length ≤ 2097152) (v : Val) (t : Typ) (hv : v.size ≤ 2097152) (hvo : v.ok) (ht : t.name.length ≤ 2097152) :
    PFn Tryz.prog 52 [mkE s wr within env, t.enc, v.enc] (VE.enc (askV s wr env (dflLeaf s) t v)) :=
  cAsked s wr within env (dflLeaf s) v t hv ht (fun _ => cMake s hs wr env (dflLeaf s) he 2097152 (Nat.le_refl _) v hv hvo _ t rfl ht (.inr (hd_leaf s hs hok)) within)
end Go.Proofs.YtpidjkihngiaoaaGreatDoor
namespace Go.Proofs.YtpidjkihngiaoaaGreatDoor
open Go Go.Av
set_option maxRecDepth 100000
set_option maxHeartbeats 16000000
set_option linter.unusedVariables false
set_option linter.unusedSimpArgs false
attribute [local irreducible] HCode AOps PFn AFn Av.Step TStep

theorem weak_mkE (s : Sch) (wr : Bool) (t : Tk) : Weak (.agg [.slice (s.defs.map Dfn.enc) .no, .str s.query, .str s.mutation, .bool wr, .bool false, .slice [] t]) (mkE s wr false []) :=
  Weak.agg (WeakL.cons (Weak.refl _) (WeakL.cons (Weak.refl _) (WeakL.cons (Weak.refl _) (WeakL.cons (Weak.refl _) (WeakL.cons (Weak.refl _) (WeakL.cons (Weak.no (WeakL.refl _)) (WeakL.refl _)))))))
theorem coeInput (s : Sch) (hs : s.size ≤ 2097152) (hok : s.okD) (t : Typ) (v : Val) (hv : v.size ≤ 2097152) (hvo : v.ok) (ht : t.name.length ≤ 2097152) :
    PFn Tryz.prog 19 [s.enc, t.enc, v.enc] (VE.enc (inV s t v)) := by
  have ha := cAskedAll s hs hok false false [] (by decide) v t hv hvo ht
  refine AFn.plain (VE.closed _) (by simp [AV.closed, AV.closedL, Sch.closed, Typ.closed, Val.closed]) (AFn.enterR [.cell 6 30, .tmp 7] Tryz.func19 rfl rfl rfl rfl rfl ?_)
  unfold inV
  generalize askV s false [] (dflLeaf s) t v = r at ha
  obtain ⟨rv, re⟩ := r
  unfold VE.enc at ha
  simp only at ha
  repeat' first
    | refine .br ?_
    | refine .seq ?_ | refine .rg ?_ | refine .rd ?_ | refine .block ?_ | refine .scope ?_ | refine .skip ?_ | refine .label ?_ | refine .exit ?_ | refine .ret ?_
    | refine .ct ?_ | refine .cf ?_ | refine .cy ?_ | refine .cn ?_ | (refine .cond rfl ?_ ?_ <;> intro hc)
    | refine A.nil_seq ?_ | refine .nl ?_ | refine .dd ?_ | refine .ys ?_ | refine .no ?_ | (refine A.guard rfl ?_ ?_ <;> intro hc)
    | refine .lb ?_ | refine .ln ?_ | refine .ls ?_ | refine .pv ?_ | refine .ix ?_ | refine .pt ?_ | refine .pf ?_ | refine .bx ?_ | refine .al ?_ | refine .st ?_ | refine .ad ?_ | refine .sb ?_ | refine .mf ?_ | refine .cl ?_ | refine .cw ?_ | refine .ck ?_
    | refine A.call rfl ha (WeakL.cons (weak_mkE s false _) (WeakL.refl _)) ?_ | fail
  exact FinR.ret1 rfl (Weak.refl _)
theorem coeLiteral (s : Sch) (hs : s.size ≤ 2097152) (hok : s.okD) (t : Typ) (v : Val) (env : List Mem) (he : env.length ≤ 2097152) (hv : v.size ≤ 2097152) (hvo : v.ok) (ht : t.name.length ≤ 2097152) :
    PFn Tryz.prog 50 [s.enc, t.enc, v.enc, .slice (env.map Mem.enc) .no] (VE.enc (litV s t v env)) := by
  have ha := cAskedAll s hs hok true false env he v t hv hvo ht
  refine AFn.plain (VE.closed _) (by simp [AV.closed, AV.closedL, Sch.closed, Typ.closed, Val.closed, Mem.closedL]) (AFn.enterR [.cell 8 30, .tmp 9] Tryz.func50 rfl rfl rfl rfl rfl ?_)
  unfold litV
  generalize askV s true env (dflLeaf s) t v = r at ha
  obtain ⟨rv, re⟩ := r
  unfold VE.enc at ha
  simp only at ha
  repeat' first
    | refine .br ?_
    | refine .seq ?_ | refine .rg ?_ | refine .rd ?_ | refine .block ?_ | refine .scope ?_ | refine .skip ?_ | refine .label ?_ | refine .exit ?_ | refine .ret ?_
    | refine .ct ?_ | refine .cf ?_ | refine .cy ?_ | refine .cn ?_ | (refine .cond rfl ?_ ?_ <;> intro hc)
    | refine A.nil_seq ?_ | refine .nl ?_ | refine .dd ?_ | refine .ys ?_ | refine .no ?_ | (refine A.guard rfl ?_ ?_ <;> intro hc)
    | refine .lb ?_ | refine .ln ?_ | refine .ls ?_ | refine .pv ?_ | refine .ix ?_ | refine .pt ?_ | refine .pf ?_ | refine .bx ?_ | refine .al ?_ | refine .st ?_ | refine .ad ?_ | refine .sb ?_ | refine .mf ?_ | refine .cl ?_ | refine .cw ?_ | refine .ck ?_ | fail
  exact FinR.ret1 rfl (Weak.refl _)
end Go.Proofs.YtpidjkihngiaoaaGreatDoor
namespace Go.Proofs.YtpidjkihngiaoaaGreatDoor
open Go Go.Av
set_option maxRecDepth 100000
set_option maxHeartbeats 16000000
set_option linter.unusedVariables false
set_option linter.unusedSimpArgs false
attribute [local irreducible] HCode AOps PFn AFn Av.Step TStep

/-- members, of what a caller has handed in: a parameter's default of any type. -/
theorem cMembersAll (s : Sch) (hs : s.size ≤ 2097152) (hok : s.okD) (wr : Bool) (ps : List Par) (g env : List Mem) (hps : sumSize Par.size ps ≤ 2097152) (hpo : ∀ p ∈ ps, p.d.ok) (hg : sumSize Mem.size g ≤ 2097152) (hgo : ∀ m ∈ g, m.v.ok) (he : env.length ≤ 2097152) :
    PFn Tryz.prog 58 [mkE s wr false env, .slice (ps.map Par.enc) .no, .slice (g.map Mem.enc) .no] (.tup [.slice ((memsMk s wr false env (dflAll s) (mkM s wr env (dflLeaf s) g) ps).1.map Mem.enc) .no, .int .i64 (memsMk s wr false env (dflAll s) (mkM s wr env (dflLeaf s) g) ps).2]) := by
  have hpl := sumSize_length Par.size_pos ps
  have hgl := sumSize_length Mem.size_pos g
  rw [memsMk_F]
  refine cMembers s wr false env g ps _ (by omega) (fun p hp => ?_)
  have h1 := sumSize_mem (size := Par.size) hp
  have h2 := p.lens
  refine cMember s hs wr false env g (dflLeaf s) (dflAll s) p he (by omega) (by omega) (fun x hx => ?_) (fun _ _ => ?_)
  · have h3 := sumSize_mem (size := Mem.size) hx
    have h4 : x.size = x.name.length + 2 + x.v.size := rfl
    exact cAskedAll s hs hok wr false env he x.v p.t (by omega) (hgo x hx) (by omega)
  · exact cAskedAll s hs hok true false [] (by decide) p.d p.t (by omega) (hpo p hp) (by omega)
theorem coeVars (s : Sch) (hs : s.size ≤ 2097152) (hok : s.okD) (ps : List Par) (g : List Mem) (hps : sumSize Par.size ps ≤ 2097152) (hpo : ∀ p ∈ ps, p.d.ok) (hg : sumSize Mem.size g ≤ 2097152) (hgo : ∀ m ∈ g, m.v.ok) :
    PFn Tryz.prog 23 [s.enc, .slice (ps.map Par.enc) .no, .slice (g.map Mem.enc) .no] (.tup [.slice ((varsC s ps g).1.map Mem.enc) .no, .int .i64 (varsC s ps g).2]) := by
  have ha := cMembersAll s hs hok false ps g [] hps hpo hg hgo (by decide)
  have hpl := sumSize_length Par.size_pos ps
  refine AFn.plain (by simp [AV.closed, AV.closedL, Mem.closedL]) (by simp [AV.closed, AV.closedL, Sch.closed, Par.closedL, Mem.closedL]) (AFn.enter [6, 7] Tryz.func23 rfl rfl rfl rfl rfl (by decide) ?_)
  unfold varsC
  generalize memsMk s false false [] (dflAll s) (mkM s false [] (dflLeaf s) g) ps = r at ha
  repeat' first
    | refine .br ?_
    | refine .seq ?_ | refine .rg ?_ | refine .rd ?_ | refine .block ?_ | refine .scope ?_ | refine .skip ?_ | refine .label ?_ | refine .exit ?_ | refine .ret ?_
    | refine .ct ?_ | refine .cf ?_ | refine .cy ?_ | refine .cn ?_ | (refine .cond rfl ?_ ?_ <;> intro hc)
    | refine A.nil_seq ?_ | refine .nl ?_ | refine .dd ?_ | refine .ys ?_ | refine .no ?_ | (refine A.guard rfl ?_ ?_ <;> intro hc)
    | refine .lb ?_ | refine .ln ?_ | refine .ls ?_ | refine .pv ?_ | refine .ix ?_ | refine .pt ?_ | refine .pf ?_ | refine .bx ?_ | refine .al ?_ | refine .st ?_ | refine .ad ?_ | refine .sb ?_ | refine .mf ?_ | refine .cl ?_ | refine .cw ?_ | refine .ck ?_ | fail
  refine HCode.adopt 8 true 10 rfl rfl rfl rfl rfl rfl ?_
  refine HCode.forK ps.length (fun k => [(13, .int .i64 k), (12, .int .i64 ps.length), (11, .slice (ps.map Par.enc) .no), (2, .slice (g.map Mem.enc) .no), (3, .rptr s.enc), (8, .slice ((ps.take k).map Par.enc) (.own 0 10))])
    (fun k => ⟨[], [.len k]⟩) (fun _ => True) ⟨rfl, rfl, rfl, rfl, rfl, rfl, trivial⟩ rfl trivial fun k hk _ => ?_
  have htl : ((ps.take k).map Par.enc).length = k := by simp; omega
  by_cases h1 : k < ps.length
  · have d1 : decide ((k : Int) < (ps.length : Int)) = true := by simp [h1]
    have x1 := map_get' (f := Par.enc) h1
    repeat' first
      | refine .seq ?_ | refine .rg ?_ | refine .rd ?_ | refine .block ?_ | refine .scope ?_ | refine .skip ?_ | refine .label ?_ | refine .exit ?_ | refine .ret ?_
      | refine .ct ?_ | refine .cf ?_ | refine .cy ?_ | refine .cn ?_ | (refine .cond rfl ?_ ?_ <;> intro hc)
      | refine A.nil_seq ?_ | refine .nl ?_ | refine .dd ?_ | refine .ys ?_ | refine .no ?_ | (refine A.guard rfl ?_ ?_ <;> intro hc)
      | refine .lb ?_ | refine .ln ?_ | refine .ls ?_ | refine .pv ?_ | refine .ix ?_ | refine .pt ?_ | refine .pf ?_ | refine .bx ?_ | refine .al ?_ | refine .st ?_ | refine .ad ?_ | refine .sb ?_ | refine .mf ?_ | refine .cl ?_ | refine .cw ?_ | refine .ck ?_
      | refine A.append (n := k) rfl rfl rfl rfl rfl rfl rfl rfl htl rfl (by dsimp only [List.length_cons, List.length_nil]; omega) (by dsimp only [List.length_cons, List.length_nil]; omega) rfl ?_ | fail
    exact ⟨h1, ⟨rfl, rfl, rfl, rfl, rfl, by rw [List.take_succ_eq_append_getElem h1, List.map_append]; rfl, trivial⟩, by simp [-List.map_take, belowS, AV.low], by simp [belowB, belowT, Ob.low, Tok.low], rfl, trivial⟩
  · have d1 : decide ((k : Int) < (ps.length : Int)) = false := by simp; omega
    obtain rfl : k = ps.length := by omega
    rw [List.take_length]
    repeat' first
      | refine .seq ?_ | refine .rg ?_ | refine .rd ?_ | refine .block ?_ | refine .scope ?_ | refine .skip ?_ | refine .label ?_ | refine .exit ?_ | refine .ret ?_
      | refine .ct ?_ | refine .cf ?_ | refine .cy ?_ | refine .cn ?_ | (refine .cond rfl ?_ ?_ <;> intro hc)
      | refine A.nil_seq ?_ | refine .nl ?_ | refine .dd ?_ | refine .ys ?_ | refine .no ?_ | (refine A.guard rfl ?_ ?_ <;> intro hc)
      | refine .lb ?_ | refine .ln ?_ | refine .ls ?_ | refine .pv ?_ | refine .ix ?_ | refine .pt ?_ | refine .pf ?_ | refine .bx ?_ | refine .al ?_ | refine .st ?_ | refine .ad ?_ | refine .sb ?_ | refine .mf ?_ | refine .cl ?_ | refine .cw ?_ | refine .ck ?_
      | refine A.call rfl ha (WeakL.cons (weak_mkE s false _) (WeakL.cons (Weak.no (WeakL.refl _)) (WeakL.refl _))) ?_ | fail
    exact Fin.ret2C rfl rfl (Weak.refl _)
end Go.Proofs.YtpidjkihngiaoaaGreatDoor
