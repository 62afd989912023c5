/-
  The reference: Codes, Good, Int64, GoodValue.
-/
import Derived.Lib.ValidLaws
import Derived.Lib.ParseIntB
import Derived.Test.YtijlmchfepjjkaaGreatDoorMCode3
import Derived.Test.YtijlmchfepjjkaaGreatDoorMGood2
import Derived.Test.YtijlmchfepjjkaaGreatDoorMRefN2
namespace Go.Av
open Go
set_option linter.unusedSectionVars false
set_option linter.unusedVariables false
section
variable [Globals]
variable {P : Program} {all : Array Oper} {draw : Bool} {K : AX → Slots → St → Prop} {rest : List Oper} {acc : List Tag} {s : Slots} {σ : St} {d : Tmp} {ty : TypeId} {pos : String} {af : Array Edge}
theorem A.neg {x : Operand} {T : TypeId} {k : IntKind} {m r : Int} (h : ev? s x = some (.int k m)) (hr : k.wrap (0 - m) = r) (kk : AOps P all draw K rest (.pure :: acc) ((d, .int k r) :: s) σ) :
    AOps P all draw K (⟨some d, .unOp .neg T x, ty, pos, af, none⟩ :: rest) acc s σ :=
  A.step rfl (tpure fun g w a ho => by
    have h1 := ho x (by simp [Op.operands])
    rw [ev_of h] at h1
    have h1' : a.eval x = .int k m := h1
    refine ⟨.int k r, ?_, rfl⟩
    subst hr
    simp [execOp, h1', Op.unary, Op.intArith, Result.andThen]) kk
end
end Go.Av
namespace Go.Proofs.YtijlmchfepjjkaaGreatDoor
open Go Go.Av
set_option maxRecDepth 100000
set_option maxHeartbeats 16000000
set_option linter.unusedVariables false
set_option linter.unusedSimpArgs false
attribute [local irreducible] HCode AOps PFn AFn Av.Step TStep

theorem good_step {l : Str} (h : l ≠ []) : good l = if (codeL l).2 = 0 then false else good (l.drop (codeL l).2) := by
  unfold good codeL
  rw [Lib.validD_step l h]
  have hw := Lib.decodeL_width l
  by_cases c : (Lib.decodeL l).1 = 65533 ∧ (Lib.decodeL l).2 = 1
  · have e : Lib.decodeL l = (65533, 1) := Prod.ext c.1 c.2
    rw [if_pos c, if_pos e]; rfl
  · have e : Lib.decodeL l ≠ (65533, 1) := fun h => c (by rw [h]; exact ⟨rfl, rfl⟩)
    rw [if_neg c, if_neg e, if_neg (by omega)]
theorem codeL_le {l : Str} (h : l ≠ []) : (codeL l).2 ≤ l.length ∧ (codeL l).1 ≤ 1114111 := by
  unfold codeL
  split
  · simp
  · exact ⟨Lib.decodeL_le l h, Lib.decodeL_rune l⟩
theorem rCodes (s : Str) (hs : s.length ≤ 1048576) : PFn Tryz.prog 68 [.str s] (.tup [.undef, .bool (good s)]) := by
  refine AFn.plain rfl rfl (AFn.enter [2, 3] Tryz.func68 rfl rfl rfl rfl rfl (by decide) ?_)
  repeat' first
    | refine .seq ?_ | refine .rg ?_ | refine .rd ?_ | refine .block ?_ | refine .scope ?_ | refine .skip ?_ | refine .label ?_ | refine .exit ?_ | refine .ret ?_
    | refine .ct ?_ | refine .cf ?_ | refine .cy ?_ | refine .cn ?_ | (refine .cond rfl ?_ ?_ <;> intro hc)
    | refine A.nil_seq ?_ | refine .nl ?_ | refine .dd ?_ | refine .ys ?_ | refine .no ?_ | (refine A.guard rfl ?_ ?_ <;> intro hc)
    | refine .lb ?_ | refine .ln ?_ | refine .ls ?_ | refine .pv ?_ | refine .ix ?_ | refine .pt ?_ | refine .pf ?_ | refine .bx ?_ | refine .al ?_ | refine .st ?_ | refine .ad ?_ | refine .sb ?_ | refine .mf ?_ | refine .cl ?_ | refine .cw ?_ | refine .ck ?_ | fail
  change HCode _ _ _ _ _ _ _
  refine HCode.adopt 4 false 1 rfl rfl rfl rfl rfl rfl ?_
  refine HCode.loop (fun n σs σ => ∃ (i : Nat) (xs : List Int), n = s.length - i ∧ i ≤ s.length ∧ xs.length ≤ i ∧ good s = good (s.drop i) ∧ σ = ⟨[], [.len xs.length]⟩ ∧
    σs = [(5, .int .i64 (i : Int)), (4, .slice (xs.map (AV.int .i64)) (.own 0 1)), (0, .str s)])
    (s0 := [(5, .int .i64 ((0 : Nat) : Int)), (4, .slice (([] : List Int).map (AV.int .i64)) (.own 0 1)), (0, .str s)]) ⟨rfl, rfl, rfl, trivial⟩ ⟨0, [], rfl, Nat.zero_le _, Nat.le_refl _, rfl, rfl, rfl⟩ ?_
  rintro n σs σ ⟨i, xs, rfl, hi, hxs, hp, rfl, rfl⟩
  by_cases h1 : i < s.length
  · have d1 : decide ((i : Int) < (s.length : Int)) = true := decide_eq_true (by omega)
    have hne : s.drop i ≠ [] := by intro e; have := congrArg List.length e; rw [List.length_drop] at this; simp at this; omega
    have hc := rCode s i h1 (by omega)
    have hst := good_step hne
    have hcl := codeL_le hne
    rw [List.length_drop] at hcl
    unfold pairV at hc
    by_cases c : (codeL (s.drop i)).2 = 0
    · have e1 : (((codeL (s.drop i)).2 : Int) == 0) = true := beq_yes (by omega)
      repeat' first
        | refine .seq ?_ | refine .rg ?_ | refine .rd ?_ | refine .block ?_ | refine .scope ?_ | refine .skip ?_ | refine .label ?_ | refine .exit ?_ | refine .ret ?_
        | refine .ct ?_ | refine .cf ?_ | refine .cy ?_ | refine .cn ?_ | (refine .cond rfl ?_ ?_ <;> intro hc)
        | refine A.nil_seq ?_ | refine .nl ?_ | refine .dd ?_ | refine .ys ?_ | refine .no ?_ | (refine A.guard rfl ?_ ?_ <;> intro hc)
        | refine .lb ?_ | refine .ln ?_ | refine .ls ?_ | refine .pv ?_ | refine .ix ?_ | refine .pt ?_ | refine .pf ?_ | refine .bx ?_ | refine .al ?_ | refine .st ?_ | refine .ad ?_ | refine .sb ?_ | refine .mf ?_ | refine .cl ?_ | refine .cw ?_ | refine .ck ?_ | fail
      refine Fin.two rfl rfl (Weak.tup (WeakL.cons (Weak.undef _) (WeakL.cons (Weak.eq (congrArg AV.bool ?_)) (WeakL.refl _))))
      rw [hp, hst, if_pos c]
    · have e1 : (((codeL (s.drop i)).2 : Int) == 0) = false := beq_no (by omega)
      rw [if_neg c, List.drop_drop] at hst
      repeat' first
        | refine .seq ?_ | refine .rg ?_ | refine .rd ?_ | refine .block ?_ | refine .scope ?_ | refine .skip ?_ | refine .label ?_ | refine .exit ?_ | refine .ret ?_
        | refine .ct ?_ | refine .cf ?_ | refine .cy ?_ | refine .cn ?_ | (refine .cond rfl ?_ ?_ <;> intro hc)
        | refine A.nil_seq ?_ | refine .nl ?_ | refine .dd ?_ | refine .ys ?_ | refine .no ?_ | (refine A.guard rfl ?_ ?_ <;> intro hc)
        | refine .lb ?_ | refine .ln ?_ | refine .ls ?_ | refine .pv ?_ | refine .ix ?_ | refine .pt ?_ | refine .pf ?_ | refine .bx ?_ | refine .al ?_ | refine .st ?_ | refine .ad ?_ | refine .sb ?_ | refine .mf ?_ | refine .cl ?_ | refine .cw ?_ | refine .ck ?_
        | refine A.append (n := xs.length) rfl rfl rfl rfl rfl rfl rfl rfl (List.length_map ..) rfl (by dsimp only [List.length_cons, List.length_nil]; omega) (by dsimp only [List.length_cons, List.length_nil]; omega) rfl ?_ | fail
      refine ⟨s.length - (i + (codeL (s.drop i)).2), by omega, [(5, .int .i64 ((i + (codeL (s.drop i)).2 : Nat) : Int)), (4, .slice ((xs ++ [((codeL (s.drop i)).1 : Int)]).map (AV.int .i64)) (.own 0 1)), (0, .str s)],
        ⟨congrArg (AV.int .i64) (by omega), by rw [List.map_append]; rfl, rfl, trivial⟩, by simp [belowS, AV.low, -List.map_append], rfl, i + (codeL (s.drop i)).2, xs ++ [((codeL (s.drop i)).1 : Int)], rfl, by omega, by rw [List.length_append]; simp; omega, by rw [hp, hst], by rw [List.length_append]; rfl, rfl⟩
  · have d1 : decide ((i : Int) < (s.length : Int)) = false := decide_eq_false (by omega)
    repeat' first
      | refine .seq ?_ | refine .rg ?_ | refine .rd ?_ | refine .block ?_ | refine .scope ?_ | refine .skip ?_ | refine .label ?_ | refine .exit ?_ | refine .ret ?_
      | refine .ct ?_ | refine .cf ?_ | refine .cy ?_ | refine .cn ?_ | (refine .cond rfl ?_ ?_ <;> intro hc)
      | refine A.nil_seq ?_ | refine .nl ?_ | refine .dd ?_ | refine .ys ?_ | refine .no ?_ | (refine A.guard rfl ?_ ?_ <;> intro hc)
      | refine .lb ?_ | refine .ln ?_ | refine .ls ?_ | refine .pv ?_ | refine .ix ?_ | refine .pt ?_ | refine .pf ?_ | refine .bx ?_ | refine .al ?_ | refine .st ?_ | refine .ad ?_ | refine .sb ?_ | refine .mf ?_ | refine .cl ?_ | refine .cw ?_ | refine .ck ?_ | fail
    refine Fin.two rfl rfl (Weak.tup (WeakL.cons (Weak.undef _) (WeakL.cons (Weak.eq (congrArg AV.bool ?_)) (WeakL.refl _))))
    rw [hp, List.drop_eq_nil_of_le (by omega)]; rfl
theorem rGood (s : Str) (hs : s.length ≤ 1048576) : PFn Tryz.prog 48 [.str s] (.bool (good s)) := by
  have h := rCodes s hs
  refine AFn.plain rfl rfl (AFn.enter [2] Tryz.func48 rfl rfl rfl rfl rfl (by decide) ?_)
  repeat' first
    | refine .seq ?_ | refine .rg ?_ | refine .rd ?_ | refine .block ?_ | refine .scope ?_ | refine .skip ?_ | refine .label ?_ | refine .exit ?_ | refine .ret ?_
    | refine .ct ?_ | refine .cf ?_ | refine .cy ?_ | refine .cn ?_ | (refine .cond rfl ?_ ?_ <;> intro hc)
    | refine A.nil_seq ?_ | refine .nl ?_ | refine .dd ?_ | refine .ys ?_ | refine .no ?_ | (refine A.guard rfl ?_ ?_ <;> intro hc)
    | refine .lb ?_ | refine .ln ?_ | refine .ls ?_ | refine .pv ?_ | refine .ix ?_ | refine .pt ?_ | refine .pf ?_ | refine .bx ?_ | refine .al ?_ | refine .st ?_ | refine .ad ?_ | refine .sb ?_ | refine .mf ?_ | refine .cl ?_ | refine .cw ?_ | refine .ck ?_ | fail
  exact Fin.ret1 rfl (Weak.refl _)
end Go.Proofs.YtijlmchfepjjkaaGreatDoor
