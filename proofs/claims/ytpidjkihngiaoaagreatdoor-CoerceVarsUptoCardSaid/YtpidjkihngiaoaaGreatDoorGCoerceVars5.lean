/-
  The package coerce: there, scalar, enum.
  The package coerce: member, members.
  The package coerce: members.
  A new variable as a slice of one element; such a variable that is never written any more.
-/
import Derived.Test.YtpidjkihngiaoaaGreatDoorGCoerceVars3
import Derived.Test.YtpidjkihngiaoaaGreatDoorGCoerceVars4
import Derived.Test.YtpidjkihngiaoaaGreatDoorGCoerceVars2
import Derived.Test.YtpidjkihngiaoaaGreatDoorAvVec5
namespace Go.Proofs.YtpidjkihngiaoaaGreatDoor
open Go Go.Av
set_option maxRecDepth 100000
set_option maxHeartbeats 16000000
set_option linter.unusedVariables false
set_option linter.unusedSimpArgs false
attribute [local irreducible] HCode AOps PFn AFn Av.Step TStep

/-- The maker. -/
def mkE (s : Sch) (wr within : Bool) (env : List Mem) : AV := .agg [.slice (s.defs.map Dfn.enc) .no, .str s.query, .str s.mutation, .bool wr, .bool within, .slice (env.map Mem.enc) .no]
theorem mkE_closed (s : Sch) (wr within : Bool) (env : List Mem) : (mkE s wr within env).closed = true := by simp [mkE, AV.closed, AV.closedL, Dfn.closedL, Mem.closedL]
def VE.enc (x : Val × Int) : AV := .tup [x.1.enc, .int .i64 x.2]
theorem VE.closed (x : Val × Int) : (VE.enc x).closed = true := by simp [VE.enc, AV.closed, AV.closedL, Val.closed]
theorem weak_ve0 {e : Int} {t1 t2 : Tk} : Weak (.tup [.agg [.int .i64 0, .int .i64 0, .str [], .slice [] t1, .slice [] t2], .int .i64 e]) (VE.enc (val0, e)) := Weak.tup (WeakL.cons weak_flatV (WeakL.refl _))
theorem envO_getG (name : Str) : ∀ env : List Mem, getG name env = match envO env name with | some x => (x, true) | none => (val0, false)
  | [] => rfl
  | m :: l => by
    have ih := envO_getG name l
    unfold envO at ih ⊢
    rw [getG, List.find?_cons]
    cases c : m.name == name with
    | true => simp
    | false => simp only [Bool.false_eq_true, if_false]; exact ih
theorem cThere (s : Sch) (wr within : Bool) (env : List Mem) (v : Val) (he : env.length ≤ 9223372036854775807) : PFn Tryz.prog 155 [mkE s wr within env, v.enc] (.bool (thereB wr env v)) := by
  have hg := get v.s env he
  rw [envO_getG] at hg
  refine AFn.plain rfl (by simp [AV.closed, AV.closedL, mkE_closed, Val.closed]) (AFn.enter [4] Tryz.func155 rfl rfl rfl rfl rfl (by decide) ?_)
  unfold thereB
  cases wr with
  | false =>
    repeat' first
      | refine .br ?_
      | refine .seq ?_ | refine .rg ?_ | refine .rd ?_ | refine .block ?_ | refine .scope ?_ | refine .skip ?_ | refine .label ?_ | refine .exit ?_ | refine .ret ?_
      | refine .ct ?_ | refine .cf ?_ | refine .cy ?_ | refine .cn ?_ | (refine .cond rfl ?_ ?_ <;> intro hc)
      | refine A.nil_seq ?_ | refine .nl ?_ | refine .dd ?_ | refine .ys ?_ | refine .no ?_ | (refine A.guard rfl ?_ ?_ <;> intro hc)
      | refine .lb ?_ | refine .ln ?_ | refine .ls ?_ | refine .pv ?_ | refine .ix ?_ | refine .pt ?_ | refine .pf ?_ | refine .bx ?_ | refine .al ?_ | refine .st ?_ | refine .ad ?_ | refine .sb ?_ | refine .mf ?_ | refine .cl ?_ | refine .cw ?_ | refine .ck ?_ | fail
    exact Fin.ret1 rfl (Weak.refl _)
  | true =>
    by_cases k8 : v.kind = 8
    · have q8 : (v.kind != 8) = false := by simp [k8]
      have q8' : (v.kind == 8) = true := by simp [k8]
      rw [q8']
      cases ho : envO env v.s with
      | none =>
        rw [ho] at hg
        repeat' first
          | refine .br ?_
          | refine .seq ?_ | refine .rg ?_ | refine .rd ?_ | refine .block ?_ | refine .scope ?_ | refine .skip ?_ | refine .label ?_ | refine .exit ?_ | refine .ret ?_
          | refine .ct ?_ | refine .cf ?_ | refine .cy ?_ | refine .cn ?_ | (refine .cond rfl ?_ ?_ <;> intro hc)
          | refine A.nil_seq ?_ | refine .nl ?_ | refine .dd ?_ | refine .ys ?_ | refine .no ?_ | (refine A.guard rfl ?_ ?_ <;> intro hc)
          | refine .lb ?_ | refine .ln ?_ | refine .ls ?_ | refine .pv ?_ | refine .ix ?_ | refine .pt ?_ | refine .pf ?_ | refine .bx ?_ | refine .al ?_ | refine .st ?_ | refine .ad ?_ | refine .sb ?_ | refine .mf ?_ | refine .cl ?_ | refine .cw ?_ | refine .ck ?_ | fail
        exact Fin.ret1 rfl (Weak.refl _)
      | some x =>
        rw [ho] at hg
        repeat' first
          | refine .br ?_
          | refine .seq ?_ | refine .rg ?_ | refine .rd ?_ | refine .block ?_ | refine .scope ?_ | refine .skip ?_ | refine .label ?_ | refine .exit ?_ | refine .ret ?_
          | refine .ct ?_ | refine .cf ?_ | refine .cy ?_ | refine .cn ?_ | (refine .cond rfl ?_ ?_ <;> intro hc)
          | refine A.nil_seq ?_ | refine .nl ?_ | refine .dd ?_ | refine .ys ?_ | refine .no ?_ | (refine A.guard rfl ?_ ?_ <;> intro hc)
          | refine .lb ?_ | refine .ln ?_ | refine .ls ?_ | refine .pv ?_ | refine .ix ?_ | refine .pt ?_ | refine .pf ?_ | refine .bx ?_ | refine .al ?_ | refine .st ?_ | refine .ad ?_ | refine .sb ?_ | refine .mf ?_ | refine .cl ?_ | refine .cw ?_ | refine .ck ?_ | fail
        exact Fin.ret1 rfl (Weak.refl _)
    · have q8 : (v.kind != 8) = true := by simp [k8]
      have q8' : (v.kind == 8) = false := by simp [k8]
      rw [q8']
      repeat' first
        | refine .br ?_
        | refine .seq ?_ | refine .rg ?_ | refine .rd ?_ | refine .block ?_ | refine .scope ?_ | refine .skip ?_ | refine .label ?_ | refine .exit ?_ | refine .ret ?_
        | refine .ct ?_ | refine .cf ?_ | refine .cy ?_ | refine .cn ?_ | (refine .cond rfl ?_ ?_ <;> intro hc)
        | refine A.nil_seq ?_ | refine .nl ?_ | refine .dd ?_ | refine .ys ?_ | refine .no ?_ | (refine A.guard rfl ?_ ?_ <;> intro hc)
        | refine .lb ?_ | refine .ln ?_ | refine .ls ?_ | refine .pv ?_ | refine .ix ?_ | refine .pt ?_ | refine .pf ?_ | refine .bx ?_ | refine .al ?_ | refine .st ?_ | refine .ad ?_ | refine .sb ?_ | refine .mf ?_ | refine .cl ?_ | refine .cw ?_ | refine .ck ?_ | fail
      exact Fin.ret1 rfl (Weak.refl _)
theorem cScalar (name : Str) (v : Val) (h0 : -9223372036854775808 ≤ v.n) (h1 : v.n ≤ 9223372036854775807) : PFn Tryz.prog 145 [.str name, v.enc] (VE.enc (scalMk name v)) := by
  have hi := formatInt v.n h0 h1
  have ht := text (Lib.itoa v.n)
  refine AFn.plain (VE.closed _) (by simp [AV.closed, AV.closedL, Val.closed]) (AFn.enterR [.cell 4 30, .tmp 5] Tryz.func145 rfl rfl rfl rfl rfl ?_)
  unfold scalMk
  have out : ∀ {b c d e : Bool}, True := trivial
  by_cases k2 : v.kind = 2
  · have q2 : (v.kind == 2) = true := by simp [k2]
    have q1 : (v.kind == 1) = false := by simp [k2]
    have q4 : (v.kind == 4) = false := by simp [k2]
    by_cases n1 : name = sInt
    · have b1 : (name == [73, 110, 116]) = true := by rw [n1]; rfl
      have b2 : (name == [73, 68]) = false := by rw [n1]; rfl
      by_cases hr : v.n < -2147483648
      · have r1 : decide (v.n < -2147483648) = true := decide_eq_true hr
        rw [if_pos ⟨n1, k2, .inl hr⟩]
        repeat' first
          | refine .br ?_
          | refine .seq ?_ | refine .rg ?_ | refine .rd ?_ | refine .block ?_ | refine .scope ?_ | refine .skip ?_ | refine .label ?_ | refine .exit ?_ | refine .ret ?_
          | refine .ct ?_ | refine .cf ?_ | refine .cy ?_ | refine .cn ?_ | (refine .cond rfl ?_ ?_ <;> intro hc)
          | refine A.nil_seq ?_ | refine .nl ?_ | refine .dd ?_ | refine .ys ?_ | refine .no ?_ | (refine A.guard rfl ?_ ?_ <;> intro hc)
          | refine .lb ?_ | refine .ln ?_ | refine .ls ?_ | refine .pv ?_ | refine .ix ?_ | refine .pt ?_ | refine .pf ?_ | refine .bx ?_ | refine .al ?_ | refine .st ?_ | refine .ad ?_ | refine .sb ?_ | refine .mf ?_ | refine .cl ?_ | refine .cw ?_ | refine .ck ?_ | fail
        exact FinR.ret1 rfl weak_ve0
      · have r1 : decide (v.n < -2147483648) = false := decide_eq_false hr
        by_cases hr2 : 2147483647 < v.n
        · have r2 : decide (2147483647 < v.n) = true := decide_eq_true hr2
          rw [if_pos ⟨n1, k2, .inr hr2⟩]
          repeat' first
            | refine .br ?_
            | refine .seq ?_ | refine .rg ?_ | refine .rd ?_ | refine .block ?_ | refine .scope ?_ | refine .skip ?_ | refine .label ?_ | refine .exit ?_ | refine .ret ?_
            | refine .ct ?_ | refine .cf ?_ | refine .cy ?_ | refine .cn ?_ | (refine .cond rfl ?_ ?_ <;> intro hc)
            | refine A.nil_seq ?_ | refine .nl ?_ | refine .dd ?_ | refine .ys ?_ | refine .no ?_ | (refine A.guard rfl ?_ ?_ <;> intro hc)
            | refine .lb ?_ | refine .ln ?_ | refine .ls ?_ | refine .pv ?_ | refine .ix ?_ | refine .pt ?_ | refine .pf ?_ | refine .bx ?_ | refine .al ?_ | refine .st ?_ | refine .ad ?_ | refine .sb ?_ | refine .mf ?_ | refine .cl ?_ | refine .cw ?_ | refine .ck ?_ | fail
          exact FinR.ret1 rfl weak_ve0
        · have r2 : decide (2147483647 < v.n) = false := decide_eq_false hr2
          rw [if_neg (fun h => h.2.2.elim hr hr2), if_neg (fun h => by rw [n1] at h; exact absurd h.1 (by decide)), if_pos (.inl ⟨n1, k2⟩)]
          repeat' first
            | refine .br ?_
            | refine .seq ?_ | refine .rg ?_ | refine .rd ?_ | refine .block ?_ | refine .scope ?_ | refine .skip ?_ | refine .label ?_ | refine .exit ?_ | refine .ret ?_
            | refine .ct ?_ | refine .cf ?_ | refine .cy ?_ | refine .cn ?_ | (refine .cond rfl ?_ ?_ <;> intro hc)
            | refine A.nil_seq ?_ | refine .nl ?_ | refine .dd ?_ | refine .ys ?_ | refine .no ?_ | (refine A.guard rfl ?_ ?_ <;> intro hc)
            | refine .lb ?_ | refine .ln ?_ | refine .ls ?_ | refine .pv ?_ | refine .ix ?_ | refine .pt ?_ | refine .pf ?_ | refine .bx ?_ | refine .al ?_ | refine .st ?_ | refine .ad ?_ | refine .sb ?_ | refine .mf ?_ | refine .cl ?_ | refine .cw ?_ | refine .ck ?_ | fail
          exact FinR.ret1 rfl (Weak.refl _)
    · have b1 : (name == [73, 110, 116]) = false := by simpa [sInt] using n1
      rw [if_neg (fun h => n1 h.1)]
      by_cases n3 : name = sID
      · have b3 : (name == [73, 68]) = true := by rw [n3]; rfl
        rw [if_pos ⟨n3, k2⟩]
        repeat' first
          | refine .br ?_
          | refine .seq ?_ | refine .rg ?_ | refine .rd ?_ | refine .block ?_ | refine .scope ?_ | refine .skip ?_ | refine .label ?_ | refine .exit ?_ | refine .ret ?_
          | refine .ct ?_ | refine .cf ?_ | refine .cy ?_ | refine .cn ?_ | (refine .cond rfl ?_ ?_ <;> intro hc)
          | refine A.nil_seq ?_ | refine .nl ?_ | refine .dd ?_ | refine .ys ?_ | refine .no ?_ | (refine A.guard rfl ?_ ?_ <;> intro hc)
          | refine .lb ?_ | refine .ln ?_ | refine .ls ?_ | refine .pv ?_ | refine .ix ?_ | refine .pt ?_ | refine .pf ?_ | refine .bx ?_ | refine .al ?_ | refine .st ?_ | refine .ad ?_ | refine .sb ?_ | refine .mf ?_ | refine .cl ?_ | refine .cw ?_ | refine .ck ?_ | fail
        exact FinR.ret1 rfl (Weak.refl _)
      · have b3 : (name == [73, 68]) = false := by simpa [sID] using n3
        rw [if_neg (fun h => n3 h.1), if_neg (by rintro (h | h | h) <;> first | exact n1 h.1 | omega)]
        cases b4 : (name == [66, 111, 111, 108, 101, 97, 110]) <;> cases b5 : (name == [83, 116, 114, 105, 110, 103])
        all_goals
          repeat' first
            | refine .br ?_
            | refine .seq ?_ | refine .rg ?_ | refine .rd ?_ | refine .block ?_ | refine .scope ?_ | refine .skip ?_ | refine .label ?_ | refine .exit ?_ | refine .ret ?_
            | refine .ct ?_ | refine .cf ?_ | refine .cy ?_ | refine .cn ?_ | (refine .cond rfl ?_ ?_ <;> intro hc)
            | refine A.nil_seq ?_ | refine .nl ?_ | refine .dd ?_ | refine .ys ?_ | refine .no ?_ | (refine A.guard rfl ?_ ?_ <;> intro hc)
            | refine .lb ?_ | refine .ln ?_ | refine .ls ?_ | refine .pv ?_ | refine .ix ?_ | refine .pt ?_ | refine .pf ?_ | refine .bx ?_ | refine .al ?_ | refine .st ?_ | refine .ad ?_ | refine .sb ?_ | refine .mf ?_ | refine .cl ?_ | refine .cw ?_ | refine .ck ?_ | fail
          exact FinR.ret1 rfl weak_ve0
  · have q2 : (v.kind == 2) = false := by simp [k2]
    rw [if_neg (fun h => k2 h.2.1), if_neg (fun h => k2 h.2)]
    by_cases k1 : v.kind = 1
    · have q1 : (v.kind == 1) = true := by simp [k1]
      have q4 : (v.kind == 4) = false := by simp [k1]
      by_cases n2 : name = sBoolean
      · have b1 : (name == [73, 110, 116]) = false := by rw [n2]; rfl
        have b2 : (name == [66, 111, 111, 108, 101, 97, 110]) = true := by rw [n2]; rfl
        have b3 : (name == [73, 68]) = false := by rw [n2]; rfl
        rw [if_pos (.inr (.inl ⟨n2, k1⟩))]
        repeat' first
          | refine .br ?_
          | refine .seq ?_ | refine .rg ?_ | refine .rd ?_ | refine .block ?_ | refine .scope ?_ | refine .skip ?_ | refine .label ?_ | refine .exit ?_ | refine .ret ?_
          | refine .ct ?_ | refine .cf ?_ | refine .cy ?_ | refine .cn ?_ | (refine .cond rfl ?_ ?_ <;> intro hc)
          | refine A.nil_seq ?_ | refine .nl ?_ | refine .dd ?_ | refine .ys ?_ | refine .no ?_ | (refine A.guard rfl ?_ ?_ <;> intro hc)
          | refine .lb ?_ | refine .ln ?_ | refine .ls ?_ | refine .pv ?_ | refine .ix ?_ | refine .pt ?_ | refine .pf ?_ | refine .bx ?_ | refine .al ?_ | refine .st ?_ | refine .ad ?_ | refine .sb ?_ | refine .mf ?_ | refine .cl ?_ | refine .cw ?_ | refine .ck ?_ | fail
        exact FinR.ret1 rfl (Weak.refl _)
      · have b2 : (name == [66, 111, 111, 108, 101, 97, 110]) = false := by simpa [sBoolean] using n2
        rw [if_neg (by rintro (h | h | h) <;> first | exact n2 h.1 | omega)]
        cases b1 : (name == [73, 110, 116]) <;> cases b3 : (name == [73, 68]) <;> cases b5 : (name == [83, 116, 114, 105, 110, 103])
        all_goals
          repeat' first
            | refine .br ?_
            | refine .seq ?_ | refine .rg ?_ | refine .rd ?_ | refine .block ?_ | refine .scope ?_ | refine .skip ?_ | refine .label ?_ | refine .exit ?_ | refine .ret ?_
            | refine .ct ?_ | refine .cf ?_ | refine .cy ?_ | refine .cn ?_ | (refine .cond rfl ?_ ?_ <;> intro hc)
            | refine A.nil_seq ?_ | refine .nl ?_ | refine .dd ?_ | refine .ys ?_ | refine .no ?_ | (refine A.guard rfl ?_ ?_ <;> intro hc)
            | refine .lb ?_ | refine .ln ?_ | refine .ls ?_ | refine .pv ?_ | refine .ix ?_ | refine .pt ?_ | refine .pf ?_ | refine .bx ?_ | refine .al ?_ | refine .st ?_ | refine .ad ?_ | refine .sb ?_ | refine .mf ?_ | refine .cl ?_ | refine .cw ?_ | refine .ck ?_ | fail
          exact FinR.ret1 rfl weak_ve0
    · have q1 : (v.kind == 1) = false := by simp [k1]
      by_cases k4 : v.kind = 4
      · have q4 : (v.kind == 4) = true := by simp [k4]
        by_cases n4 : name = sString
        · have b1 : (name == [73, 110, 116]) = false := by rw [n4]; rfl
          have b2 : (name == [66, 111, 111, 108, 101, 97, 110]) = false := by rw [n4]; rfl
          have b3 : (name == [73, 68]) = false := by rw [n4]; rfl
          have b5 : (name == [83, 116, 114, 105, 110, 103]) = true := by rw [n4]; rfl
          rw [if_pos (.inr (.inr ⟨.inl n4, k4⟩))]
          repeat' first
            | refine .br ?_
            | refine .seq ?_ | refine .rg ?_ | refine .rd ?_ | refine .block ?_ | refine .scope ?_ | refine .skip ?_ | refine .label ?_ | refine .exit ?_ | refine .ret ?_
            | refine .ct ?_ | refine .cf ?_ | refine .cy ?_ | refine .cn ?_ | (refine .cond rfl ?_ ?_ <;> intro hc)
            | refine A.nil_seq ?_ | refine .nl ?_ | refine .dd ?_ | refine .ys ?_ | refine .no ?_ | (refine A.guard rfl ?_ ?_ <;> intro hc)
            | refine .lb ?_ | refine .ln ?_ | refine .ls ?_ | refine .pv ?_ | refine .ix ?_ | refine .pt ?_ | refine .pf ?_ | refine .bx ?_ | refine .al ?_ | refine .st ?_ | refine .ad ?_ | refine .sb ?_ | refine .mf ?_ | refine .cl ?_ | refine .cw ?_ | refine .ck ?_ | fail
          exact FinR.ret1 rfl (Weak.refl _)
        · have b5 : (name == [83, 116, 114, 105, 110, 103]) = false := by simpa [sString] using n4
          by_cases n3 : name = sID
          · have b1 : (name == [73, 110, 116]) = false := by rw [n3]; rfl
            have b2 : (name == [66, 111, 111, 108, 101, 97, 110]) = false := by rw [n3]; rfl
            have b3 : (name == [73, 68]) = true := by rw [n3]; rfl
            rw [if_pos (.inr (.inr ⟨.inr n3, k4⟩))]
            repeat' first
              | refine .br ?_
              | refine .seq ?_ | refine .rg ?_ | refine .rd ?_ | refine .block ?_ | refine .scope ?_ | refine .skip ?_ | refine .label ?_ | refine .exit ?_ | refine .ret ?_
              | refine .ct ?_ | refine .cf ?_ | refine .cy ?_ | refine .cn ?_ | (refine .cond rfl ?_ ?_ <;> intro hc)
              | refine A.nil_seq ?_ | refine .nl ?_ | refine .dd ?_ | refine .ys ?_ | refine .no ?_ | (refine A.guard rfl ?_ ?_ <;> intro hc)
              | refine .lb ?_ | refine .ln ?_ | refine .ls ?_ | refine .pv ?_ | refine .ix ?_ | refine .pt ?_ | refine .pf ?_ | refine .bx ?_ | refine .al ?_ | refine .st ?_ | refine .ad ?_ | refine .sb ?_ | refine .mf ?_ | refine .cl ?_ | refine .cw ?_ | refine .ck ?_ | fail
            exact FinR.ret1 rfl (Weak.refl _)
          · have b3 : (name == [73, 68]) = false := by simpa [sID] using n3
            rw [if_neg (by rintro (h | h | h) <;> first | exact h.1.elim n4 n3 | omega)]
            cases b1 : (name == [73, 110, 116]) <;> cases b2 : (name == [66, 111, 111, 108, 101, 97, 110])
            all_goals
              repeat' first
                | refine .br ?_
                | refine .seq ?_ | refine .rg ?_ | refine .rd ?_ | refine .block ?_ | refine .scope ?_ | refine .skip ?_ | refine .label ?_ | refine .exit ?_ | refine .ret ?_
                | refine .ct ?_ | refine .cf ?_ | refine .cy ?_ | refine .cn ?_ | (refine .cond rfl ?_ ?_ <;> intro hc)
                | refine A.nil_seq ?_ | refine .nl ?_ | refine .dd ?_ | refine .ys ?_ | refine .no ?_ | (refine A.guard rfl ?_ ?_ <;> intro hc)
                | refine .lb ?_ | refine .ln ?_ | refine .ls ?_ | refine .pv ?_ | refine .ix ?_ | refine .pt ?_ | refine .pf ?_ | refine .bx ?_ | refine .al ?_ | refine .st ?_ | refine .ad ?_ | refine .sb ?_ | refine .mf ?_ | refine .cl ?_ | refine .cw ?_ | refine .ck ?_ | fail
              exact FinR.ret1 rfl weak_ve0
      · have q4 : (v.kind == 4) = false := by simp [k4]
        rw [if_neg (by omega)]
        cases b1 : (name == [73, 110, 116]) <;> cases b2 : (name == [66, 111, 111, 108, 101, 97, 110]) <;> cases b3 : (name == [73, 68]) <;> cases b5 : (name == [83, 116, 114, 105, 110, 103])
        all_goals
          repeat' first
            | refine .br ?_
            | refine .seq ?_ | refine .rg ?_ | refine .rd ?_ | refine .block ?_ | refine .scope ?_ | refine .skip ?_ | refine .label ?_ | refine .exit ?_ | refine .ret ?_
            | refine .ct ?_ | refine .cf ?_ | refine .cy ?_ | refine .cn ?_ | (refine .cond rfl ?_ ?_ <;> intro hc)
            | refine A.nil_seq ?_ | refine .nl ?_ | refine .dd ?_ | refine .ys ?_ | refine .no ?_ | (refine A.guard rfl ?_ ?_ <;> intro hc)
            | refine .lb ?_ | refine .ln ?_ | refine .ls ?_ | refine .pv ?_ | refine .ix ?_ | refine .pt ?_ | refine .pf ?_ | refine .bx ?_ | refine .al ?_ | refine .st ?_ | refine .ad ?_ | refine .sb ?_ | refine .mf ?_ | refine .cl ?_ | refine .cw ?_ | refine .ck ?_ | fail
          exact FinR.ret1 rfl weak_ve0
theorem cEnum (s : Sch) (wr within : Bool) (env : List Mem) (d : Dfn) (v : Val) (hd : d.parts.length ≤ 9223372036854775807) : PFn Tryz.prog 146 [mkE s wr within env, d.enc, v.enc] (VE.enc (enumMk wr d v.kind v.s)) := by
  have hc := sContainsStr d.parts v.s hd
  have ht := text v.s
  refine AFn.plain (VE.closed _) (by simp [AV.closed, AV.closedL, mkE_closed, Dfn.closed, Val.closed]) (AFn.enterR [.cell 6 30, .tmp 7] Tryz.func146 rfl rfl rfl rfl rfl ?_)
  unfold enumMk
  by_cases hm : v.s ∈ d.parts
  · rw [decide_eq_true hm] at hc
    cases wr with
    | true =>
      by_cases k : v.kind = 5
      · have q : (v.kind != 5) = false := by simp [k]
        rw [if_pos ⟨by rw [if_pos rfl]; exact k, hm⟩]
        repeat' first
          | refine .br ?_
          | refine .seq ?_ | refine .rg ?_ | refine .rd ?_ | refine .block ?_ | refine .scope ?_ | refine .skip ?_ | refine .label ?_ | refine .exit ?_ | refine .ret ?_
          | refine .ct ?_ | refine .cf ?_ | refine .cy ?_ | refine .cn ?_ | (refine .cond rfl ?_ ?_ <;> intro hc)
          | refine A.nil_seq ?_ | refine .nl ?_ | refine .dd ?_ | refine .ys ?_ | refine .no ?_ | (refine A.guard rfl ?_ ?_ <;> intro hc)
          | refine .lb ?_ | refine .ln ?_ | refine .ls ?_ | refine .pv ?_ | refine .ix ?_ | refine .pt ?_ | refine .pf ?_ | refine .bx ?_ | refine .al ?_ | refine .st ?_ | refine .ad ?_ | refine .sb ?_ | refine .mf ?_ | refine .cl ?_ | refine .cw ?_ | refine .ck ?_ | fail
        exact FinR.ret1 rfl (Weak.refl _)
      · have q : (v.kind != 5) = true := by simp [k]
        rw [if_neg (fun h => k (by have := h.1; rwa [if_pos rfl] at this))]
        repeat' first
          | refine .br ?_
          | refine .seq ?_ | refine .rg ?_ | refine .rd ?_ | refine .block ?_ | refine .scope ?_ | refine .skip ?_ | refine .label ?_ | refine .exit ?_ | refine .ret ?_
          | refine .ct ?_ | refine .cf ?_ | refine .cy ?_ | refine .cn ?_ | (refine .cond rfl ?_ ?_ <;> intro hc)
          | refine A.nil_seq ?_ | refine .nl ?_ | refine .dd ?_ | refine .ys ?_ | refine .no ?_ | (refine A.guard rfl ?_ ?_ <;> intro hc)
          | refine .lb ?_ | refine .ln ?_ | refine .ls ?_ | refine .pv ?_ | refine .ix ?_ | refine .pt ?_ | refine .pf ?_ | refine .bx ?_ | refine .al ?_ | refine .st ?_ | refine .ad ?_ | refine .sb ?_ | refine .mf ?_ | refine .cl ?_ | refine .cw ?_ | refine .ck ?_ | fail
        exact FinR.ret1 rfl weak_ve0
    | false =>
      by_cases k : v.kind = 4
      · have q : (v.kind != 4) = false := by simp [k]
        rw [if_pos ⟨by rw [if_neg (by decide)]; exact k, hm⟩]
        repeat' first
          | refine .br ?_
          | refine .seq ?_ | refine .rg ?_ | refine .rd ?_ | refine .block ?_ | refine .scope ?_ | refine .skip ?_ | refine .label ?_ | refine .exit ?_ | refine .ret ?_
          | refine .ct ?_ | refine .cf ?_ | refine .cy ?_ | refine .cn ?_ | (refine .cond rfl ?_ ?_ <;> intro hc)
          | refine A.nil_seq ?_ | refine .nl ?_ | refine .dd ?_ | refine .ys ?_ | refine .no ?_ | (refine A.guard rfl ?_ ?_ <;> intro hc)
          | refine .lb ?_ | refine .ln ?_ | refine .ls ?_ | refine .pv ?_ | refine .ix ?_ | refine .pt ?_ | refine .pf ?_ | refine .bx ?_ | refine .al ?_ | refine .st ?_ | refine .ad ?_ | refine .sb ?_ | refine .mf ?_ | refine .cl ?_ | refine .cw ?_ | refine .ck ?_ | fail
        exact FinR.ret1 rfl (Weak.refl _)
      · have q : (v.kind != 4) = true := by simp [k]
        rw [if_neg (fun h => k (by have := h.1; rwa [if_neg (by decide)] at this))]
        repeat' first
          | refine .br ?_
          | refine .seq ?_ | refine .rg ?_ | refine .rd ?_ | refine .block ?_ | refine .scope ?_ | refine .skip ?_ | refine .label ?_ | refine .exit ?_ | refine .ret ?_
          | refine .ct ?_ | refine .cf ?_ | refine .cy ?_ | refine .cn ?_ | (refine .cond rfl ?_ ?_ <;> intro hc)
          | refine A.nil_seq ?_ | refine .nl ?_ | refine .dd ?_ | refine .ys ?_ | refine .no ?_ | (refine A.guard rfl ?_ ?_ <;> intro hc)
          | refine .lb ?_ | refine .ln ?_ | refine .ls ?_ | refine .pv ?_ | refine .ix ?_ | refine .pt ?_ | refine .pf ?_ | refine .bx ?_ | refine .al ?_ | refine .st ?_ | refine .ad ?_ | refine .sb ?_ | refine .mf ?_ | refine .cl ?_ | refine .cw ?_ | refine .ck ?_ | fail
        exact FinR.ret1 rfl weak_ve0
  · rw [decide_eq_false hm] at hc
    rw [if_neg (fun h => hm h.2)]
    cases wr with
    | true =>
      cases q : (v.kind != 5)
      all_goals
        repeat' first
          | refine .br ?_
          | refine .seq ?_ | refine .rg ?_ | refine .rd ?_ | refine .block ?_ | refine .scope ?_ | refine .skip ?_ | refine .label ?_ | refine .exit ?_ | refine .ret ?_
          | refine .ct ?_ | refine .cf ?_ | refine .cy ?_ | refine .cn ?_ | (refine .cond rfl ?_ ?_ <;> intro hc)
          | refine A.nil_seq ?_ | refine .nl ?_ | refine .dd ?_ | refine .ys ?_ | refine .no ?_ | (refine A.guard rfl ?_ ?_ <;> intro hc)
          | refine .lb ?_ | refine .ln ?_ | refine .ls ?_ | refine .pv ?_ | refine .ix ?_ | refine .pt ?_ | refine .pf ?_ | refine .bx ?_ | refine .al ?_ | refine .st ?_ | refine .ad ?_ | refine .sb ?_ | refine .mf ?_ | refine .cl ?_ | refine .cw ?_ | refine .ck ?_ | fail
        exact FinR.ret1 rfl weak_ve0
    | false =>
      cases q : (v.kind != 4)
      all_goals
        repeat' first
          | refine .br ?_
          | refine .seq ?_ | refine .rg ?_ | refine .rd ?_ | refine .block ?_ | refine .scope ?_ | refine .skip ?_ | refine .label ?_ | refine .exit ?_ | refine .ret ?_
          | refine .ct ?_ | refine .cf ?_ | refine .cy ?_ | refine .cn ?_ | (refine .cond rfl ?_ ?_ <;> intro hc)
          | refine A.nil_seq ?_ | refine .nl ?_ | refine .dd ?_ | refine .ys ?_ | refine .no ?_ | (refine A.guard rfl ?_ ?_ <;> intro hc)
          | refine .lb ?_ | refine .ln ?_ | refine .ls ?_ | refine .pv ?_ | refine .ix ?_ | refine .pt ?_ | refine .pf ?_ | refine .bx ?_ | refine .al ?_ | refine .st ?_ | refine .ad ?_ | refine .sb ?_ | refine .mf ?_ | refine .cl ?_ | refine .cw ?_ | refine .ck ?_ | fail
        exact FinR.ret1 rfl weak_ve0
end Go.Proofs.YtpidjkihngiaoaaGreatDoor
namespace Go.Proofs.YtpidjkihngiaoaaGreatDoor
open Go Go.Av
set_option maxRecDepth 100000
set_option maxHeartbeats 16000000
set_option linter.unusedVariables false
set_option linter.unusedSimpArgs false
attribute [local irreducible] HCode AOps PFn AFn Av.Step TStep

theorem firstF_mkM (s : Sch) (wr : Bool) (env : List Mem) (dfl : Par → VE) (nm : Str) : ∀ m : List Mem, firstF (mkM s wr env dfl m) nm = (m.find? fun x => x.name == nm).map fun x => (x.name, x.v, fun t => askV s wr env dfl t x.v)
  | [] => by rw [mkM]; rfl
  | .mk n v :: m => by
    have ih := firstF_mkM s wr env dfl nm m
    unfold firstF at ih ⊢
    rw [mkM, List.find?_cons, List.find?_cons]
    show (match n == nm with | true => _ | false => _) = Option.map _ (match n == nm with | true => _ | false => _)
    cases n == nm with
    | true => rfl
    | false => exact ih
def memD (s : Sch) (within : Bool) (dfl : Par → VE) (p : Par) : Val × Bool × Int :=
  if p.has = true ∧ (within = false ∨ leafB s p.t.name = true) then ((dfl p).1, true, (dfl p).2) else if isT p.t = true then (val0, false, 9) else (val0, false, 0)
theorem memMk_none {s : Sch} {wr within : Bool} {env g : List Mem} {dfl D : Par → VE} {p : Par} (h : envO g p.name = none) : memMk s wr within env D (mkM s wr env dfl g) p = memD s within D p := by
  unfold memMk memD
  rw [firstF_mkM]
  unfold envO at h
  rw [Option.map_eq_none_iff] at h
  rw [h]; rfl
theorem memMk_some {s : Sch} {wr within : Bool} {env g : List Mem} {dfl D : Par → VE} {p : Par} {x : Val} (h : envO g p.name = some x) : memMk s wr within env D (mkM s wr env dfl g) p = if thereB wr env x = true then ((askV s wr env dfl p.t x).1, true, (askV s wr env dfl p.t x).2) else memD s within D p := by
  unfold memMk memD
  rw [firstF_mkM]
  unfold envO at h
  rw [Option.map_eq_some_iff] at h
  obtain ⟨m, h1, rfl⟩ := h
  rw [h1]
  simp only [Option.map_some, Option.bind_some]
  by_cases c : thereB wr env m.v = true
  · rw [if_pos c, if_pos c]
  · rw [if_neg c, if_neg c]
def M3.enc (x : Val × Bool × Int) : AV := .tup [x.1.enc, .bool x.2.1, .int .i64 x.2.2]
theorem M3.closed (x : Val × Bool × Int) : (M3.enc x).closed = true := by simp [M3.enc, AV.closed, AV.closedL, Val.closed]
theorem weak_m0 {b : Bool} {e : Int} {t1 t2 : Tk} : Weak (.tup [.agg [.int .i64 0, .int .i64 0, .str [], .slice [] t1, .slice [] t2], .bool b, .int .i64 e]) (M3.enc (val0, b, e)) := Weak.tup (WeakL.cons weak_flatV (WeakL.refl _))
theorem weak_mk0 (s : Sch) (t : Tk) : Weak (.agg [.slice (s.defs.map Dfn.enc) .no, .str s.query, .str s.mutation, .bool true, .bool false, .slice [] t]) (mkE s true false []) :=
  Weak.agg (WeakL.cons (Weak.refl _) (WeakL.cons (Weak.refl _) (WeakL.cons (Weak.refl _) (WeakL.cons (Weak.refl _) (WeakL.cons (Weak.refl _) (WeakL.cons (Weak.no (WeakL.refl _)) (WeakL.refl _)))))))
theorem cMember (s : Sch) (hs : s.size ≤ 2097152) (wr within : Bool) (env g : List Mem) (dfl D : Par → VE) (p : Par) (he : env.length ≤ 2097152) (hgl : g.length ≤ 2097152) (hp : p.t.name.length ≤ 2097152)
    (hA : ∀ x ∈ g, PFn Tryz.prog 52 [mkE s wr within env, p.t.enc, x.v.enc] (VE.enc (askV s wr env dfl p.t x.v)))
    (hD : p.has = true → (within = false ∨ leafB s p.t.name = true) → PFn Tryz.prog 52 [mkE s true false [], p.t.enc, p.d.enc] (VE.enc (D p))) :
    PFn Tryz.prog 105 [mkE s wr within env, p.enc, .slice (g.map Mem.enc) .no] (M3.enc (memMk s wr within env D (mkM s wr env dfl g) p)) := by
  have hg := get p.name g (by omega)
  have hlf := dLeaf s p.t.name hs
  have hi := wIs p.t (by omega)
  rw [envO_getG] at hg
  refine AFn.plain (M3.closed _) (by simp [AV.closed, AV.closedL, mkE_closed, Par.closed, Mem.closedL]) (AFn.enterR [.cell 6 30, .tmp 7, .tmp 8] Tryz.func105 rfl rfl rfl rfl rfl ?_)
  cases ho : envO g p.name with
  | none =>
    rw [memMk_none ho]
    rw [ho] at hg
    unfold memD
    cases b1 : p.has with
    | false =>
      rw [if_neg (by simp)]
      cases b4 : isT p.t <;> rw [b4] at hi
      all_goals
        repeat' first
          | refine .br ?_
          | refine .seq ?_ | refine .rg ?_ | refine .rd ?_ | refine .block ?_ | refine .scope ?_ | refine .skip ?_ | refine .label ?_ | refine .exit ?_ | refine .ret ?_
          | refine .ct ?_ | refine .cf ?_ | refine .cy ?_ | refine .cn ?_ | (refine .cond rfl ?_ ?_ <;> intro hc)
          | refine A.nil_seq ?_ | refine .nl ?_ | refine .dd ?_ | refine .ys ?_ | refine .no ?_ | (refine A.guard rfl ?_ ?_ <;> intro hc)
          | refine .lb ?_ | refine .ln ?_ | refine .ls ?_ | refine .pv ?_ | refine .ix ?_ | refine .pt ?_ | refine .pf ?_ | refine .bx ?_ | refine .al ?_ | refine .st ?_ | refine .ad ?_ | refine .sb ?_ | refine .mf ?_ | refine .cl ?_ | refine .cw ?_ | refine .ck ?_ | fail
        exact FinR.ret1 rfl weak_m0
    | true =>
      cases within with
      | false =>
        rw [if_pos ⟨rfl, .inl rfl⟩]
        have hd := hD b1 (.inl rfl)
        generalize D p = r at hd
        obtain ⟨rv, re⟩ := r
        unfold VE.enc at hd
        simp only at hd
        repeat' first
          | refine .br ?_
          | refine .seq ?_ | refine .rg ?_ | refine .rd ?_ | refine .block ?_ | refine .scope ?_ | refine .skip ?_ | refine .label ?_ | refine .exit ?_ | refine .ret ?_
          | refine .ct ?_ | refine .cf ?_ | refine .cy ?_ | refine .cn ?_ | (refine .cond rfl ?_ ?_ <;> intro hc)
          | refine A.nil_seq ?_ | refine .nl ?_ | refine .dd ?_ | refine .ys ?_ | refine .no ?_ | (refine A.guard rfl ?_ ?_ <;> intro hc)
          | refine .lb ?_ | refine .ln ?_ | refine .ls ?_ | refine .pv ?_ | refine .ix ?_ | refine .pt ?_ | refine .pf ?_ | refine .bx ?_ | refine .al ?_ | refine .st ?_ | refine .ad ?_ | refine .sb ?_ | refine .mf ?_ | refine .cl ?_ | refine .cw ?_ | refine .ck ?_
          | refine A.call rfl hd (WeakL.cons (weak_mk0 s _) (WeakL.refl _)) ?_ | fail
        exact FinR.ret1 rfl (Weak.refl _)
      | true =>
        cases b3 : leafB s p.t.name with
        | true =>
          rw [b3] at hlf
          rw [if_pos ⟨rfl, .inr rfl⟩]
          have hd := hD b1 (.inr b3)
          generalize D p = r at hd
          obtain ⟨rv, re⟩ := r
          unfold VE.enc at hd
          simp only at hd
          repeat' first
            | refine .br ?_
            | refine .seq ?_ | refine .rg ?_ | refine .rd ?_ | refine .block ?_ | refine .scope ?_ | refine .skip ?_ | refine .label ?_ | refine .exit ?_ | refine .ret ?_
            | refine .ct ?_ | refine .cf ?_ | refine .cy ?_ | refine .cn ?_ | (refine .cond rfl ?_ ?_ <;> intro hc)
            | refine A.nil_seq ?_ | refine .nl ?_ | refine .dd ?_ | refine .ys ?_ | refine .no ?_ | (refine A.guard rfl ?_ ?_ <;> intro hc)
            | refine .lb ?_ | refine .ln ?_ | refine .ls ?_ | refine .pv ?_ | refine .ix ?_ | refine .pt ?_ | refine .pf ?_ | refine .bx ?_ | refine .al ?_ | refine .st ?_ | refine .ad ?_ | refine .sb ?_ | refine .mf ?_ | refine .cl ?_ | refine .cw ?_ | refine .ck ?_
            | refine A.call rfl hd (WeakL.cons (weak_mk0 s _) (WeakL.refl _)) ?_ | fail
          exact FinR.ret1 rfl (Weak.refl _)
        | false =>
          rw [b3] at hlf
          rw [if_neg (by simp)]
          cases b4 : isT p.t <;> rw [b4] at hi
          all_goals
            repeat' first
              | refine .br ?_
              | refine .seq ?_ | refine .rg ?_ | refine .rd ?_ | refine .block ?_ | refine .scope ?_ | refine .skip ?_ | refine .label ?_ | refine .exit ?_ | refine .ret ?_
              | refine .ct ?_ | refine .cf ?_ | refine .cy ?_ | refine .cn ?_ | (refine .cond rfl ?_ ?_ <;> intro hc)
              | refine A.nil_seq ?_ | refine .nl ?_ | refine .dd ?_ | refine .ys ?_ | refine .no ?_ | (refine A.guard rfl ?_ ?_ <;> intro hc)
              | refine .lb ?_ | refine .ln ?_ | refine .ls ?_ | refine .pv ?_ | refine .ix ?_ | refine .pt ?_ | refine .pf ?_ | refine .bx ?_ | refine .al ?_ | refine .st ?_ | refine .ad ?_ | refine .sb ?_ | refine .mf ?_ | refine .cl ?_ | refine .cw ?_ | refine .ck ?_ | fail
            exact FinR.ret1 rfl weak_m0
  | some x =>
    rw [memMk_some ho]
    rw [ho] at hg
    have hth := cThere s wr within env x (by omega)
    cases c : thereB wr env x with
    | true =>
      rw [c] at hth
      rw [if_pos rfl]
      have hx : ∃ m ∈ g, m.v = x := by
        unfold envO at ho
        rw [Option.map_eq_some_iff] at ho
        obtain ⟨m, h1, h2⟩ := ho
        exact ⟨m, List.mem_of_find?_eq_some h1, h2⟩
      obtain ⟨m, hm, rfl⟩ := hx
      have ha := hA m hm
      generalize askV s wr env dfl p.t m.v = r at ha
      obtain ⟨rv, re⟩ := r
      unfold VE.enc at ha
      simp only at ha
      repeat' first
        | refine .br ?_
        | refine .seq ?_ | refine .rg ?_ | refine .rd ?_ | refine .block ?_ | refine .scope ?_ | refine .skip ?_ | refine .label ?_ | refine .exit ?_ | refine .ret ?_
        | refine .ct ?_ | refine .cf ?_ | refine .cy ?_ | refine .cn ?_ | (refine .cond rfl ?_ ?_ <;> intro hc)
        | refine A.nil_seq ?_ | refine .nl ?_ | refine .dd ?_ | refine .ys ?_ | refine .no ?_ | (refine A.guard rfl ?_ ?_ <;> intro hc)
        | refine .lb ?_ | refine .ln ?_ | refine .ls ?_ | refine .pv ?_ | refine .ix ?_ | refine .pt ?_ | refine .pf ?_ | refine .bx ?_ | refine .al ?_ | refine .st ?_ | refine .ad ?_ | refine .sb ?_ | refine .mf ?_ | refine .cl ?_ | refine .cw ?_ | refine .ck ?_ | fail
      exact FinR.ret1 rfl (Weak.refl _)
    | false =>
      rw [c] at hth
      rw [if_neg (by decide)]
      unfold memD
      cases b1 : p.has with
      | false =>
        rw [if_neg (by simp)]
        cases b4 : isT p.t <;> rw [b4] at hi
        all_goals
          repeat' first
            | refine .br ?_
            | refine .seq ?_ | refine .rg ?_ | refine .rd ?_ | refine .block ?_ | refine .scope ?_ | refine .skip ?_ | refine .label ?_ | refine .exit ?_ | refine .ret ?_
            | refine .ct ?_ | refine .cf ?_ | refine .cy ?_ | refine .cn ?_ | (refine .cond rfl ?_ ?_ <;> intro hc)
            | refine A.nil_seq ?_ | refine .nl ?_ | refine .dd ?_ | refine .ys ?_ | refine .no ?_ | (refine A.guard rfl ?_ ?_ <;> intro hc)
            | refine .lb ?_ | refine .ln ?_ | refine .ls ?_ | refine .pv ?_ | refine .ix ?_ | refine .pt ?_ | refine .pf ?_ | refine .bx ?_ | refine .al ?_ | refine .st ?_ | refine .ad ?_ | refine .sb ?_ | refine .mf ?_ | refine .cl ?_ | refine .cw ?_ | refine .ck ?_ | fail
          exact FinR.ret1 rfl weak_m0
      | true =>
        cases within with
        | false =>
          rw [if_pos ⟨rfl, .inl rfl⟩]
          have hd := hD b1 (.inl rfl)
          generalize D p = r at hd
          obtain ⟨rv, re⟩ := r
          unfold VE.enc at hd
          simp only at hd
          repeat' first
            | refine .br ?_
            | refine .seq ?_ | refine .rg ?_ | refine .rd ?_ | refine .block ?_ | refine .scope ?_ | refine .skip ?_ | refine .label ?_ | refine .exit ?_ | refine .ret ?_
            | refine .ct ?_ | refine .cf ?_ | refine .cy ?_ | refine .cn ?_ | (refine .cond rfl ?_ ?_ <;> intro hc)
            | refine A.nil_seq ?_ | refine .nl ?_ | refine .dd ?_ | refine .ys ?_ | refine .no ?_ | (refine A.guard rfl ?_ ?_ <;> intro hc)
            | refine .lb ?_ | refine .ln ?_ | refine .ls ?_ | refine .pv ?_ | refine .ix ?_ | refine .pt ?_ | refine .pf ?_ | refine .bx ?_ | refine .al ?_ | refine .st ?_ | refine .ad ?_ | refine .sb ?_ | refine .mf ?_ | refine .cl ?_ | refine .cw ?_ | refine .ck ?_
            | refine A.call rfl hd (WeakL.cons (weak_mk0 s _) (WeakL.refl _)) ?_ | fail
          exact FinR.ret1 rfl (Weak.refl _)
        | true =>
          cases b3 : leafB s p.t.name with
          | true =>
            rw [b3] at hlf
            rw [if_pos ⟨rfl, .inr rfl⟩]
            have hd := hD b1 (.inr b3)
            generalize D p = r at hd
            obtain ⟨rv, re⟩ := r
            unfold VE.enc at hd
            simp only at hd
            repeat' first
              | refine .br ?_
              | refine .seq ?_ | refine .rg ?_ | refine .rd ?_ | refine .block ?_ | refine .scope ?_ | refine .skip ?_ | refine .label ?_ | refine .exit ?_ | refine .ret ?_
              | refine .ct ?_ | refine .cf ?_ | refine .cy ?_ | refine .cn ?_ | (refine .cond rfl ?_ ?_ <;> intro hc)
              | refine A.nil_seq ?_ | refine .nl ?_ | refine .dd ?_ | refine .ys ?_ | refine .no ?_ | (refine A.guard rfl ?_ ?_ <;> intro hc)
              | refine .lb ?_ | refine .ln ?_ | refine .ls ?_ | refine .pv ?_ | refine .ix ?_ | refine .pt ?_ | refine .pf ?_ | refine .bx ?_ | refine .al ?_ | refine .st ?_ | refine .ad ?_ | refine .sb ?_ | refine .mf ?_ | refine .cl ?_ | refine .cw ?_ | refine .ck ?_
              | refine A.call rfl hd (WeakL.cons (weak_mk0 s _) (WeakL.refl _)) ?_ | fail
            exact FinR.ret1 rfl (Weak.refl _)
          | false =>
            rw [b3] at hlf
            rw [if_neg (by simp)]
            cases b4 : isT p.t <;> rw [b4] at hi
            all_goals
              repeat' first
                | refine .br ?_
                | refine .seq ?_ | refine .rg ?_ | refine .rd ?_ | refine .block ?_ | refine .scope ?_ | refine .skip ?_ | refine .label ?_ | refine .exit ?_ | refine .ret ?_
                | refine .ct ?_ | refine .cf ?_ | refine .cy ?_ | refine .cn ?_ | (refine .cond rfl ?_ ?_ <;> intro hc)
                | refine A.nil_seq ?_ | refine .nl ?_ | refine .dd ?_ | refine .ys ?_ | refine .no ?_ | (refine A.guard rfl ?_ ?_ <;> intro hc)
                | refine .lb ?_ | refine .ln ?_ | refine .ls ?_ | refine .pv ?_ | refine .ix ?_ | refine .pt ?_ | refine .pf ?_ | refine .bx ?_ | refine .al ?_ | refine .st ?_ | refine .ad ?_ | refine .sb ?_ | refine .mf ?_ | refine .cl ?_ | refine .cw ?_ | refine .ck ?_ | fail
              exact FinR.ret1 rfl weak_m0
end Go.Proofs.YtpidjkihngiaoaaGreatDoor
namespace Go.Proofs.YtpidjkihngiaoaaGreatDoor
open Go Go.Av
set_option maxRecDepth 100000
set_option maxHeartbeats 16000000
set_option linter.unusedVariables false
set_option linter.unusedSimpArgs false
attribute [local irreducible] HCode AOps PFn AFn Av.Step TStep

abbrev R3 := Val × Bool × Int
def memsF (R : Par → R3) : List Par → List Mem × Int
  | [] => ([], 0)
  | p :: ps => if (R p).2.2 ≠ 0 then ([], (R p).2.2) else if (memsF R ps).2 ≠ 0 then ([], (memsF R ps).2) else (if (R p).2.1 = true then .mk p.name (R p).1 :: (memsF R ps).1 else (memsF R ps).1, 0)
theorem memsMk_F (s : Sch) (wr within : Bool) (env : List Mem) (dfl : Par → VE) (fs : List MF) : ∀ ps : List Par, memsMk s wr within env dfl fs ps = memsF (memMk s wr within env dfl fs) ps
  | [] => rfl
  | p :: ps => by
    have ih := memsMk_F s wr within env dfl fs ps
    rw [memsMk, memsF, ih]
def memsA (R : Par → R3) : List Par → List Mem
  | [] => []
  | p :: ps => (if (R p).2.1 = true then [.mk p.name (R p).1] else []) ++ memsA R ps
theorem memsA_app (R : Par → R3) : ∀ a b : List Par, memsA R (a ++ b) = memsA R a ++ memsA R b
  | [], b => rfl
  | p :: a, b => by rw [List.cons_append, memsA, memsA, memsA_app R a b, List.append_assoc]
theorem memsA_len (R : Par → R3) : ∀ a : List Par, (memsA R a).length ≤ a.length
  | [] => Nat.le_refl _
  | p :: a => by
    have := memsA_len R a
    rw [memsA, List.length_append, List.length_cons]
    split <;> simp <;> omega
theorem memsF_err (R : Par → R3) : ∀ l, (memsF R l).2 ≠ 0 → (memsF R l).1 = []
  | [], _ => rfl
  | p :: l, h => by
    rw [memsF] at h ⊢
    by_cases c : (R p).2.2 ≠ 0
    · rw [if_pos c]
    · rw [if_neg c] at h ⊢
      by_cases d : (memsF R l).2 ≠ 0
      · rw [if_pos d]
      · rw [if_neg d] at h; exact absurd rfl h
def memsJ (R : Par → R3) (l : List Par) (k : Nat) : Prop :=
  memsF R l = if (memsF R (l.drop k)).2 ≠ 0 then ([], (memsF R (l.drop k)).2) else (memsA R (l.take k) ++ (memsF R (l.drop k)).1, 0)
theorem memsJ_zero (R : Par → R3) (l : List Par) : memsJ R l 0 := by
  unfold memsJ
  rw [List.drop_zero, List.take_zero, memsA, List.nil_append]
  by_cases h : (memsF R l).2 ≠ 0
  · rw [if_pos h, ← memsF_err R l h]
  · rw [if_neg h]
    have h' : (memsF R l).2 = 0 := by simpa using h
    rw [← h']
section
variable {R : Par → R3} {l : List Par} {k : Nat} (h : k < l.length) (hj : memsJ R l k)
include h hj
theorem memsJ_err (he : (R l[k]).2.2 ≠ 0) : memsF R l = ([], (R l[k]).2.2) := by
  unfold memsJ at hj
  have e : memsF R (l.drop k) = ([], (R l[k]).2.2) := by rw [List.drop_eq_getElem_cons h, memsF, if_pos he]
  rw [hj, e, if_pos he]
theorem memsJ_next (he : (R l[k]).2.2 = 0) : memsJ R l (k + 1) := by
  unfold memsJ at hj ⊢
  have e : memsF R (l.drop k) = if (memsF R (l.drop (k + 1))).2 ≠ 0 then ([], (memsF R (l.drop (k + 1))).2) else (if (R l[k]).2.1 = true then .mk l[k].name (R l[k]).1 :: (memsF R (l.drop (k + 1))).1 else (memsF R (l.drop (k + 1))).1, 0) := by
    rw [List.drop_eq_getElem_cons h, memsF, if_neg (by rw [he]; simp)]
  rw [hj, e, List.take_succ_eq_append_getElem h, memsA_app]
  generalize memsF R (l.drop (k + 1)) = q
  obtain ⟨q1, q2⟩ := q
  by_cases c : q2 = 0
  · subst c
    cases b : (R l[k]).2.1 <;> simp [memsA, b]
  · simp [c]
end
theorem memsJ_end {R : Par → R3} {l : List Par} (hj : memsJ R l l.length) : memsF R l = (memsA R l, 0) := by
  unfold memsJ at hj
  rw [List.drop_length, List.take_length, memsF, if_neg (by simp), List.append_nil] at hj
  exact hj
theorem Fin.ret2C {t1 t2 : Nat} {s : Slots} {v1 v2 r : AV} (h1 : lk? s t1 = some v1) (h2 : lk? s t2 = some v2) (hw : Weak (.tup [v1, v2]) r) : ∃ v', AEnd.ret (resAV s [t1, t2]) = .ret v' ∧ Weak v' r :=
  ⟨_, rfl, by rw [show resAV s [t1, t2] = .tup [v1, v2] by unfold resAV; simp only [List.map_cons, List.map_nil, lk_of h1, lk_of h2]]; exact hw⟩
theorem cMembers (s : Sch) (wr within : Bool) (env g : List Mem) (ps : List Par) (R : Par → R3) (hps : ps.length ≤ 2097152)
    (hR : ∀ p ∈ ps, PFn Tryz.prog 105 [mkE s wr within env, p.enc, .slice (g.map Mem.enc) .no] (M3.enc (R p))) :
    PFn Tryz.prog 58 [mkE s wr within env, .slice (ps.map Par.enc) .no, .slice (g.map Mem.enc) .no] (.tup [.slice ((memsF R ps).1.map Mem.enc) .no, .int .i64 (memsF R ps).2]) := by
  refine AFn.plain (by simp [AV.closed, AV.closedL, Mem.closedL]) (by simp [AV.closed, AV.closedL, mkE_closed, Par.closedL, Mem.closedL]) (AFn.enter [6, 7] Tryz.func58 rfl rfl rfl rfl rfl (by decide) ?_)
  repeat' first
    | refine .br ?_
    | refine .seq ?_ | refine .rg ?_ | refine .rd ?_ | refine .block ?_ | refine .scope ?_ | refine .skip ?_ | refine .label ?_ | refine .exit ?_ | refine .ret ?_
    | refine .ct ?_ | refine .cf ?_ | refine .cy ?_ | refine .cn ?_ | (refine .cond rfl ?_ ?_ <;> intro hc)
    | refine A.nil_seq ?_ | refine .nl ?_ | refine .dd ?_ | refine .ys ?_ | refine .no ?_ | (refine A.guard rfl ?_ ?_ <;> intro hc)
    | refine .lb ?_ | refine .ln ?_ | refine .ls ?_ | refine .pv ?_ | refine .ix ?_ | refine .pt ?_ | refine .pf ?_ | refine .bx ?_ | refine .al ?_ | refine .st ?_ | refine .ad ?_ | refine .sb ?_ | refine .mf ?_ | refine .cl ?_ | refine .cw ?_ | refine .ck ?_ | fail
  refine HCode.adopt 8 true 6 rfl rfl rfl rfl rfl rfl ?_
  refine HCode.forK ps.length (fun k => [(16, .int .i64 k), (15, .int .i64 ps.length), (14, .slice (ps.map Par.enc) .no), (2, .slice (g.map Mem.enc) .no), (3, .rptr (mkE s wr within env)), (8, .slice ((memsA R (ps.take k)).map Mem.enc) (.own 0 6))])
    (fun k => ⟨[], [.len (memsA R (ps.take k)).length]⟩) (memsJ R ps) ⟨rfl, rfl, rfl, rfl, rfl, rfl, trivial⟩ rfl (memsJ_zero R ps) fun k hk hj => ?_
  by_cases h1 : k < ps.length
  · have d1 : decide ((k : Int) < (ps.length : Int)) = true := by simp [h1]
    have x1 := map_get' (f := Par.enc) h1
    have hm := hR ps[k] (List.getElem_mem h1)
    have je := memsJ_err h1 hj
    have jn := memsJ_next h1 hj
    have hla := memsA_len R (ps.take k)
    rw [List.length_take] at hla
    have htk : memsA R (ps.take (k + 1)) = memsA R (ps.take k) ++ (if (R ps[k]).2.1 = true then [.mk ps[k].name (R ps[k]).1] else []) := by
      rw [List.take_succ_eq_append_getElem h1, memsA_app, memsA, memsA, List.append_nil]
    generalize R ps[k] = r at hm je jn htk
    obtain ⟨rv, rb, re⟩ := r
    unfold M3.enc at hm
    simp only at hm je jn htk
    by_cases er : re = 0
    · subst er
      have jn' := jn rfl
      cases rb with
      | true =>
        rw [if_pos rfl] at htk
        repeat' first
          | refine .seq ?_ | refine .rg ?_ | refine .rd ?_ | refine .block ?_ | refine .scope ?_ | refine .skip ?_ | refine .label ?_ | refine .exit ?_ | refine .ret ?_
          | refine .ct ?_ | refine .cf ?_ | refine .cy ?_ | refine .cn ?_ | (refine .cond rfl ?_ ?_ <;> intro hc)
          | refine A.nil_seq ?_ | refine .nl ?_ | refine .dd ?_ | refine .ys ?_ | refine .no ?_ | (refine A.guard rfl ?_ ?_ <;> intro hc)
          | refine .lb ?_ | refine .ln ?_ | refine .ls ?_ | refine .pv ?_ | refine .ix ?_ | refine .pt ?_ | refine .pf ?_ | refine .bx ?_ | refine .al ?_ | refine .st ?_ | refine .ad ?_ | refine .sb ?_ | refine .mf ?_ | refine .cl ?_ | refine .cw ?_ | refine .ck ?_
          | refine A.append (n := (memsA R (ps.take k)).length) rfl rfl rfl rfl rfl rfl rfl rfl (List.length_map ..) rfl (by dsimp only [List.length_cons, List.length_nil]; omega) (by dsimp only [List.length_cons, List.length_nil]; omega) rfl ?_ | fail
        exact ⟨h1, ⟨rfl, rfl, rfl, rfl, rfl, by rw [htk, List.map_append]; rfl, trivial⟩, by simp [belowS, AV.low, AV.low_of_closed, mkE_closed], by simp [belowB, belowT, Ob.low, Tok.low, AV.lowL, AV.low], by rw [htk, List.length_append]; rfl, jn'⟩
      | false =>
        rw [if_neg (by decide), List.append_nil] at htk
        repeat' first
          | refine .seq ?_ | refine .rg ?_ | refine .rd ?_ | refine .block ?_ | refine .scope ?_ | refine .skip ?_ | refine .label ?_ | refine .exit ?_ | refine .ret ?_
          | refine .ct ?_ | refine .cf ?_ | refine .cy ?_ | refine .cn ?_ | (refine .cond rfl ?_ ?_ <;> intro hc)
          | refine A.nil_seq ?_ | refine .nl ?_ | refine .dd ?_ | refine .ys ?_ | refine .no ?_ | (refine A.guard rfl ?_ ?_ <;> intro hc)
          | refine .lb ?_ | refine .ln ?_ | refine .ls ?_ | refine .pv ?_ | refine .ix ?_ | refine .pt ?_ | refine .pf ?_ | refine .bx ?_ | refine .al ?_ | refine .st ?_ | refine .ad ?_ | refine .sb ?_ | refine .mf ?_ | refine .cl ?_ | refine .cw ?_ | refine .ck ?_ | fail
        exact ⟨h1, ⟨rfl, rfl, rfl, rfl, rfl, by rw [htk]; rfl, trivial⟩, by simp [belowS, AV.low, AV.low_of_closed, mkE_closed], by simp [belowB, belowT, Ob.low, Tok.low, AV.lowL, AV.low], by rw [htk]; rfl, jn'⟩
    · have er' : (re != 0) = true := by simpa using er
      rw [je er]
      repeat' first
        | refine .seq ?_ | refine .rg ?_ | refine .rd ?_ | refine .block ?_ | refine .scope ?_ | refine .skip ?_ | refine .label ?_ | refine .exit ?_ | refine .ret ?_
        | refine .ct ?_ | refine .cf ?_ | refine .cy ?_ | refine .cn ?_ | (refine .cond rfl ?_ ?_ <;> intro hc)
        | refine A.nil_seq ?_ | refine .nl ?_ | refine .dd ?_ | refine .ys ?_ | refine .no ?_ | (refine A.guard rfl ?_ ?_ <;> intro hc)
        | refine .lb ?_ | refine .ln ?_ | refine .ls ?_ | refine .pv ?_ | refine .ix ?_ | refine .pt ?_ | refine .pf ?_ | refine .bx ?_ | refine .al ?_ | refine .st ?_ | refine .ad ?_ | refine .sb ?_ | refine .mf ?_ | refine .cl ?_ | refine .cw ?_ | refine .ck ?_ | fail
      exact Fin.ret2C rfl rfl (Weak.tup (WeakL.cons (Weak.no (WeakL.refl _)) (WeakL.refl _)))
  · have d1 : decide ((k : Int) < (ps.length : Int)) = false := by simp; omega
    obtain rfl : k = ps.length := by omega
    rw [memsJ_end hj]
    repeat' first
      | refine .seq ?_ | refine .rg ?_ | refine .rd ?_ | refine .block ?_ | refine .scope ?_ | refine .skip ?_ | refine .label ?_ | refine .exit ?_ | refine .ret ?_
      | refine .ct ?_ | refine .cf ?_ | refine .cy ?_ | refine .cn ?_ | (refine .cond rfl ?_ ?_ <;> intro hc)
      | refine A.nil_seq ?_ | refine .nl ?_ | refine .dd ?_ | refine .ys ?_ | refine .no ?_ | (refine A.guard rfl ?_ ?_ <;> intro hc)
      | refine .lb ?_ | refine .ln ?_ | refine .ls ?_ | refine .pv ?_ | refine .ix ?_ | refine .pt ?_ | refine .pf ?_ | refine .bx ?_ | refine .al ?_ | refine .st ?_ | refine .ad ?_ | refine .sb ?_ | refine .mf ?_ | refine .cl ?_ | refine .cw ?_ | refine .ck ?_ | fail
    refine Fin.ret2C rfl rfl (Weak.tup (WeakL.cons (Weak.no (WeakL.eq ?_)) (WeakL.refl _)))
    rw [List.take_length]
end Go.Proofs.YtpidjkihngiaoaaGreatDoor
namespace Go.Av
open Go
set_option linter.unusedSectionVars false
set_option linter.unusedVariables false
variable [Globals]
/-- A new variable, as a slice of one element: it does not stand in the way of what reads objects. -/
theorem A.allocv {P : Program} [Lay P] {all : Array Oper} {draw : Bool} {K : AX → Slots → St → Prop} {rest : List Oper} {acc : List Tag} {s : Slots} {σ : St} {ty : TypeId} {pos : String} {af : Array Edge} {d : Tmp} {T : TypeId} {k z : Nat} {x : AV} {T' : List Tok} {ti : TI} (hT : ty? P T = some ti) (hz' : ti.size = z) (hx : ti.zero = x)
    (hk : smallLen σ.T = some k) (hT' : snocK σ.T (.vec [x]) some = some T')
    (kk : AOps P all draw K rest (.tk :: acc) ((d, .vptr k z 1 0 0) :: s) ⟨σ.B, T'⟩) : AOps P all draw K (⟨some d, .alloc T, ty, pos, af, none⟩ :: rest) acc s σ :=
  A.step (t := .tk) (σ' := ⟨σ.B, T'⟩) rfl ⟨rfl, fun B => by
    intro g w a next Q hI ho hn
    subst hz'; subst hx
    obtain ⟨zv, hz, hz1, hz2, hz3⟩ := run_zero' hT w
    have h1 : Rep g w ti.zero zv := by rw [← hz1]; exact rep_ofConst g w zv
    have hTe : σ.T ++ [.vec [ti.zero]] = T' := Option.some.inj (snocK_spec _ _ _ _ hT')
    have hkl : σ.T.length = k := smallLen_spec hk
    have hnone : g.tk[k]? = none := by
      have hlt : g.tk.length = σ.T.length := hI.lenT
      rw [← hkl, ← hlt]; simp
    have hzone : ∀ b o, (⟨some ⟨w.heap.size, 0, none⟩, 1, 1, ti.size, 0⟩ : Rec).zone b o → b = w.heap.size ∧ o < zv.cells.size := by
      rintro b o ⟨p, hp, rfl, e1, e2⟩
      cases hp
      refine ⟨rfl, ?_⟩
      rw [hz2]
      simpa using e2
    obtain ⟨g', e1, e2, e3, _⟩ := retk (k := k) (r' := ⟨some ⟨w.heap.size, 0, none⟩, 1, 1, ti.size, 0⟩) (t' := .vec [ti.zero]) (J := fun _ _ => False) hI (w' := pushW w (.cells zv.cells T)) (.inr ⟨hkl.symm, rfl⟩)
      (by rw [push_size]; exact Nat.le_succ _) rfl rfl rfl (fun b hb _ => push_old w _ hb) (fun b o hb _ => (cell_old (push_old w _ hb)).1) (fun b o hb => (cell_old (push_old w _ hb)).2) (fun _ _ h => h.elim)
      (fun b o ho => by
        obtain ⟨rfl, h2⟩ := hzone b o ho
        exact ⟨⟨zv.cells[o], (new_data_cell w zv.cells T o).trans (Array.getElem?_eq_getElem h2)⟩, new_data_frozen w zv.cells T o, .inl (Nat.le_refl _)⟩)
      (fun r hr => by rw [hnone] at hr; cases hr)
      (fun g' hle => ⟨rfl, rfl, Nat.le_refl _, [zv], ⟨zv, [], rfl, Rep.mono hle _ _ h1, rfl⟩, (fun e => by cases e), (fun V hV => by rw [List.mem_singleton.1 hV]; exact hz2), (fun p hp => by
        cases hp
        refine ⟨.inl rfl, inMemE_of_flat (fun V hV => by rw [List.mem_singleton.1 hV]; exact hz2) fun j u hj => ?_⟩
        have hj' : zv.cells.toList[j]? = some u := by simpa [flat] using hj
        refine ⟨trivial, ?_, hz3 u (List.mem_of_getElem? hj')⟩
        show (pushW w (.cells zv.cells T)).cell? ⟨w.heap.size, 0 + j, none⟩ = some u
        rw [Nat.zero_add]
        exact (new_data_cell w zv.cells T j).trans (by simpa using hj'))⟩)
    unfold Oper.wp
    simp only [execOp, Instr.alloc, hz, newVar, newRow, newObj, Sem.run_bind, Result.andThen, Sem.run]
    exact hn _ _ _ e1 (hTe ▸ e2) ⟨w.heap.size, 0, rfl, by omega, _, e3, rfl, Nat.le_refl _, fun _ => ⟨rfl, _, rfl, rfl, rfl, by simp⟩⟩⟩ kk

/-- A variable of its own is never written any more. -/
theorem Turn.freezeP {σ : St} {k z n j : Nat} {xs : List AV} {y : AV} {T' : List Tok} (hT : σ.T[k]? = some (.vec xs)) (hn : xs.length = n) (hy : xs[j]? = some y) (hT' : setTK k (.len (n + 1)) σ.T some = some T') :
    Turn σ (.vptr k z n j 0) ⟨σ.B, T'⟩ (.rptr y) := fun g w v hI hr => by
  obtain ⟨kl, hTe⟩ := setTK_spec _ _ _ _ _ hT'
  obtain ⟨r0, Vs, p, hv, hp, hps, rfl, hj⟩ := vptr_at hI hr hT hn
  obtain ⟨V, hV, hrV⟩ := hv.rep.get hy
  have hkl : k < σ.T.length := (List.getElem?_eq_some_iff.1 hT).1
  obtain ⟨g', e1, e2, e3, e4⟩ := retk (r' := ⟨none, n + 1, 0, z, n + 1⟩) (t' := .len (n + 1)) (J := fun b o => r0.zone b o) hI (w' := w) (.inl ⟨hkl, rfl⟩) (Nat.le_refl _) rfl rfl rfl (fun _ _ _ => rfl) (fun _ _ _ _ => rfl) (fun _ _ _ => rfl)
    (fun b o hzo => ⟨(fun ⟨p, hp, _⟩ => by cases hp), hI.z_lt hv.hr hzo, .inr ⟨r0, hv.hr, hzo⟩⟩)
    (fun b o ⟨p, hp, _⟩ => by cases hp) (fun r1 hr1 => by
      have : r1 = r0 := Option.some.inj (hr1.symm.trans hv.hr)
      subst this
      exact .inr ⟨by rw [hv.n, hn]; show n < n + 1; omega, by rw [hv.sz]⟩) (fun g' _ => ⟨rfl, rfl⟩)
  refine ⟨g', e1, ?_, p.block, p.off + j * z + 0, V, rfl, fun i x hi => ?_, Rep.mono e1.le _ _ hrV⟩
  · rw [← Option.some.inj hTe]; exact e2
  · obtain ⟨m1, m2⟩ := (hv.mem p hp).2 j V hV
    obtain ⟨_, m3, m4⟩ := m2 i x hi
    have hi' : i < z := by have := (Array.getElem?_eq_some_iff.1 hi).1; omega
    have hb : (j + 1) * z ≤ r0.cap * z := Nat.mul_le_mul_right _ (by have := hv.cap; have := hv.len; omega)
    rw [Nat.succ_mul] at hb
    have hz := hv.zone hp (o := j * z + i) (by omega)
    rw [← Nat.add_assoc] at hz
    rw [Nat.add_zero]
    exact ⟨e4 _ _ hz, m3, m4⟩
end Go.Av
