/-
  The law LiteralInts.
-/
import Derived.Test.YtijlmchfepjjkaaDoorMLawLit2
namespace Go.Proofs.YtijlmchfepjjkaaDoor
open Go Go.Av
set_option maxRecDepth 100000
set_option maxHeartbeats 16000000
set_option linter.unusedVariables false
set_option linter.unusedSimpArgs false
attribute [local irreducible] HCode AOps PFn AFn Av.Step TStep

theorem sMust (n : Str) : PFn Tryd.prog 38 [.str n] (Typ.enc ⟨n, 0, 1⟩) := by
  refine AFn.plain rfl rfl (AFn.enterR [.cell 2 60] Tryd.func38 rfl rfl rfl rfl rfl ?_)
  repeat' first
    | refine .seq ?_ | refine .rg ?_ | refine .rd ?_ | refine .block ?_ | refine .scope ?_ | refine .skip ?_ | refine .label ?_ | refine .exit ?_ | refine .ret ?_
    | refine .ct ?_ | refine .cf ?_ | refine .cy ?_ | refine .cn ?_ | (refine .cond rfl ?_ ?_ <;> intro hc)
    | refine A.nil_seq ?_ | refine .nl ?_ | refine .dd ?_ | refine .ys ?_ | refine .no ?_ | (refine A.guard rfl ?_ ?_ <;> intro hc)
    | refine .lb ?_ | refine .ln ?_ | refine .ls ?_ | refine .pv ?_ | refine .ix ?_ | refine .pt ?_ | refine .pf ?_ | refine .bx ?_ | refine .al ?_ | refine .st ?_ | refine .ad ?_ | refine .sb ?_ | refine .mf ?_ | refine .cl ?_ | refine .cw ?_ | refine .ck ?_ | fail
  exact FinR.ret1 rfl (Weak.refl _)
theorem lit_scal (s : Sch) (name : Str) (v : Val) (hr : rightT ⟨name, 0, 1⟩ = true) (hs : scalarB name = true) (h8 : v.kind ≠ 8) (h0 : v.kind ≠ 0) : litR s ⟨name, 0, 1⟩ v = (allV good v && scalFit name v.kind v.n) := by
  unfold litR
  rw [fitsV_bare h8 h0 hr rfl]
  unfold bareV bareB findO
  rw [if_pos hs]
  rfl
def boolV (b : Int) : Val := .mk 1 b [] [] []
theorem good_text (t : Str) : allV good (textV t) = good t := by
  rw [textV, allV_eq]; simp [singleB, Val.kind, Val.l, Val.m, Val.n, Val.s]
theorem good_int (n : Int) : allV good (intV n) = true := by
  rw [intV, allV_eq]; simp [singleB, Val.kind, Val.l, Val.m, Val.n, Val.s]
theorem literalInts (s : Sch) (n : Int) (text' : Str) (b : Int) (h : s.size + text'.length ≤ 1048576) : PFn Tryd.prog 6 [s.enc, .int .i64 n, .str text', .int .i64 b] (.bool true) := by
  have hl := light8 s (by omega)
  have hw := awake10
  have hi := int_ n
  have ht := text text'
  have hg := lgood text' (by omega)
  have m1 := sMust sInt
  have m2 := sMust sString
  have m3 := sMust sBoolean
  have m4 := sMust sID
  have zi : (intV n).size ≤ 2097152 := by rw [intV, Val.size, Val.sizeL, Val.sizeM]; simp
  have zt : (textV text').size ≤ 2097152 := by rw [textV, Val.size, Val.sizeL, Val.sizeM]; omega
  have zb : (boolV b).size ≤ 2097152 := by rw [boolV, Val.size, Val.sizeL, Val.sizeM]; simp
  refine AFn.plain rfl (by simp [AV.closed, AV.closedL, Sch.closed]) (AFn.enter [8] Tryd.func6 rfl rfl rfl rfl rfl (by decide) ?_)
  cases c1 : lightS s with
  | false =>
    rw [c1] at hl
    repeat' first
      | refine .br ?_
      | refine .seq ?_ | refine .rg ?_ | refine .rd ?_ | refine .block ?_ | refine .scope ?_ | refine .skip ?_ | refine .label ?_ | refine .exit ?_ | refine .ret ?_
      | refine .ct ?_ | refine .cf ?_ | refine .cy ?_ | refine .cn ?_ | (refine .cond rfl ?_ ?_ <;> intro hc)
      | refine A.nil_seq ?_ | refine .nl ?_ | refine .dd ?_ | refine .ys ?_ | refine .no ?_ | (refine A.guard rfl ?_ ?_ <;> intro hc)
      | refine .lb ?_ | refine .ln ?_ | refine .ls ?_ | refine .pv ?_ | refine .ix ?_ | refine .pt ?_ | refine .pf ?_ | refine .bx ?_ | refine .al ?_ | refine .st ?_ | refine .ad ?_ | refine .sb ?_ | refine .mf ?_ | refine .cl ?_ | refine .cw ?_ | refine .ck ?_ | fail
    exact Fin.ret1 rfl (Weak.refl _)
  | true =>
    rw [c1] at hl
    by_cases c2 : 1000 < text'.length
    · have e2 : decide ((1000 : Int) < (text'.length : Int)) = true := decide_eq_true (by omega)
      repeat' first
        | refine .br ?_
        | refine .seq ?_ | refine .rg ?_ | refine .rd ?_ | refine .block ?_ | refine .scope ?_ | refine .skip ?_ | refine .label ?_ | refine .exit ?_ | refine .ret ?_
        | refine .ct ?_ | refine .cf ?_ | refine .cy ?_ | refine .cn ?_ | (refine .cond rfl ?_ ?_ <;> intro hc)
        | refine A.nil_seq ?_ | refine .nl ?_ | refine .dd ?_ | refine .ys ?_ | refine .no ?_ | (refine A.guard rfl ?_ ?_ <;> intro hc)
        | refine .lb ?_ | refine .ln ?_ | refine .ls ?_ | refine .pv ?_ | refine .ix ?_ | refine .pt ?_ | refine .pf ?_ | refine .bx ?_ | refine .al ?_ | refine .st ?_ | refine .ad ?_ | refine .sb ?_ | refine .mf ?_ | refine .cl ?_ | refine .cw ?_ | refine .ck ?_ | fail
      exact Fin.ret1 rfl (Weak.refl _)
    · have e2 : decide ((1000 : Int) < (text'.length : Int)) = false := decide_eq_false (by omega)
      by_cases c3 : b = 0 ∨ b = 1
      · have hbg : allV good (boolV b) = true := by
          rw [boolV, allV_eq]; rcases c3 with rfl | rfl <;> simp [singleB, Val.kind, Val.l, Val.m, Val.n, Val.s]
        have q1 := lRight s ⟨sInt, 0, 1⟩ (intV n) (by omega) (by decide) zi
        have q2 := lRight s ⟨sInt, 0, 1⟩ (textV text') (by omega) (by decide) zt
        have q3 := lRight s ⟨sInt, 0, 1⟩ (boolV b) (by omega) (by decide) zb
        have q4 := lRight s ⟨sString, 0, 1⟩ (textV text') (by omega) (by decide) zt
        have q5 := lRight s ⟨sString, 0, 1⟩ (intV n) (by omega) (by decide) zi
        have q6 := lRight s ⟨sBoolean, 0, 1⟩ (boolV b) (by omega) (by decide) zb
        have q7 := lRight s ⟨sBoolean, 0, 1⟩ (intV n) (by omega) (by decide) zi
        have q8 := lRight s ⟨sID, 0, 1⟩ (textV text') (by omega) (by decide) zt
        have q9 := lRight s ⟨sID, 0, 1⟩ (intV n) (by omega) (by decide) zi
        have q10 := lRight s ⟨sID, 0, 1⟩ (boolV b) (by omega) (by decide) zb
        rw [lit_scal s sInt (intV n) (by decide +kernel) (by decide) (show (2 : Int) ≠ 8 by decide) (show (2 : Int) ≠ 0 by decide), good_int, show scalFit sInt (intV n).kind (intV n).n = (decide (-2147483648 ≤ n) && decide (n ≤ 2147483647)) from rfl, Bool.true_and] at q1
        rw [lit_scal s sInt (textV text') (by decide +kernel) (by decide) (show (4 : Int) ≠ 8 by decide) (show (4 : Int) ≠ 0 by decide), show scalFit sInt (textV text').kind (textV text').n = false from rfl, Bool.and_false] at q2
        rw [lit_scal s sInt (boolV b) (by decide +kernel) (by decide) (show (1 : Int) ≠ 8 by decide) (show (1 : Int) ≠ 0 by decide), show scalFit sInt (boolV b).kind (boolV b).n = false from rfl, Bool.and_false] at q3
        rw [lit_scal s sString (textV text') (by decide +kernel) (by decide) (show (4 : Int) ≠ 8 by decide) (show (4 : Int) ≠ 0 by decide), good_text, show scalFit sString (textV text').kind (textV text').n = true from rfl, Bool.and_true] at q4
        rw [lit_scal s sString (intV n) (by decide +kernel) (by decide) (show (2 : Int) ≠ 8 by decide) (show (2 : Int) ≠ 0 by decide), show scalFit sString (intV n).kind (intV n).n = false from rfl, Bool.and_false] at q5
        rw [lit_scal s sBoolean (boolV b) (by decide +kernel) (by decide) (show (1 : Int) ≠ 8 by decide) (show (1 : Int) ≠ 0 by decide), hbg, show scalFit sBoolean (boolV b).kind (boolV b).n = true from rfl, Bool.and_true] at q6
        rw [lit_scal s sBoolean (intV n) (by decide +kernel) (by decide) (show (2 : Int) ≠ 8 by decide) (show (2 : Int) ≠ 0 by decide), show scalFit sBoolean (intV n).kind (intV n).n = false from rfl, Bool.and_false] at q7
        rw [lit_scal s sID (textV text') (by decide +kernel) (by decide) (show (4 : Int) ≠ 8 by decide) (show (4 : Int) ≠ 0 by decide), good_text, show scalFit sID (textV text').kind (textV text').n = true from rfl, Bool.and_true] at q8
        rw [lit_scal s sID (intV n) (by decide +kernel) (by decide) (show (2 : Int) ≠ 8 by decide) (show (2 : Int) ≠ 0 by decide), good_int, show scalFit sID (intV n).kind (intV n).n = true from rfl, Bool.and_true] at q9
        rw [lit_scal s sID (boolV b) (by decide +kernel) (by decide) (show (1 : Int) ≠ 8 by decide) (show (1 : Int) ≠ 0 by decide), show scalFit sID (boolV b).kind (boolV b).n = false from rfl, Bool.and_false] at q10
        have hbw : ∀ x : AV, WeakL [s.enc, x, .agg [.int .i64 1, .int .i64 b, .str [], .slice [] .nil, .slice [] .nil]] [s.enc, x, (boolV b).enc] := fun x => WeakL.cons (Weak.refl _) (WeakL.cons (Weak.refl _) (WeakL.cons weak_flatV (WeakL.refl _)))
        have e3 : (good text' == good text') = true := by simp
        have hb3 : (b != 0) = false ∨ ((b != 0) = true ∧ (b != 1) = false) := by
          rcases c3 with rfl | rfl
          · exact .inl rfl
          · exact .inr ⟨rfl, rfl⟩
        have fin : ∀ i1 i2 : Bool, decide (-2147483648 ≤ n) = i1 → decide (n ≤ 2147483647) = i2 → HCode Tryd.prog Tryd.f6.ntmps [] (bodyOf Tryd.f6) (fin [8] (fun e _ => ∃ v, e = .ret v ∧ Weak v (.bool true))) (argSlots 0 [s.enc, .int .i64 n, .str text', .int .i64 b]) ⟨[], []⟩ := fun i1 i2 j1 j2 => by
          rw [j1, j2] at q1
          have f : (i2 != decide (n ≤ 2147483647)) = false := by rw [j2]; simp
          rcases hb3 with e4 | ⟨e4, e5⟩ <;> cases i1 <;> cases i2 <;> simp only [Bool.and_true, Bool.true_and, Bool.and_false, Bool.false_and] at q1
          all_goals
            repeat' first
              | refine .br ?_
              | refine .seq ?_ | refine .rg ?_ | refine .rd ?_ | refine .block ?_ | refine .scope ?_ | refine .skip ?_ | refine .label ?_ | refine .exit ?_ | refine .ret ?_
              | refine .ct ?_ | refine .cf ?_ | refine .cy ?_ | refine .cn ?_ | (refine .cond rfl ?_ ?_ <;> intro hc)
              | refine A.nil_seq ?_ | refine .nl ?_ | refine .dd ?_ | refine .ys ?_ | refine .no ?_ | (refine A.guard rfl ?_ ?_ <;> intro hc)
              | refine .lb ?_ | refine .ln ?_ | refine .ls ?_ | refine .pv ?_ | refine .ix ?_ | refine .pt ?_ | refine .pf ?_ | refine .bx ?_ | refine .al ?_ | refine .st ?_ | refine .ad ?_ | refine .sb ?_ | refine .mf ?_ | refine .cl ?_ | refine .cw ?_ | refine .ck ?_
              | refine A.call rfl q3 (hbw _) ?_ | refine A.call rfl q6 (hbw _) ?_ | refine A.call rfl q10 (hbw _) ?_ | fail
            exact Fin.ret1 rfl (Weak.refl _)
        exact fin _ _ rfl rfl
      · have e3 : (b != 0) = true := by simp; omega
        have e4 : (b != 1) = true := by simp; omega
        repeat' first
          | refine .br ?_
          | refine .seq ?_ | refine .rg ?_ | refine .rd ?_ | refine .block ?_ | refine .scope ?_ | refine .skip ?_ | refine .label ?_ | refine .exit ?_ | refine .ret ?_
          | refine .ct ?_ | refine .cf ?_ | refine .cy ?_ | refine .cn ?_ | (refine .cond rfl ?_ ?_ <;> intro hc)
          | refine A.nil_seq ?_ | refine .nl ?_ | refine .dd ?_ | refine .ys ?_ | refine .no ?_ | (refine A.guard rfl ?_ ?_ <;> intro hc)
          | refine .lb ?_ | refine .ln ?_ | refine .ls ?_ | refine .pv ?_ | refine .ix ?_ | refine .pt ?_ | refine .pf ?_ | refine .bx ?_ | refine .al ?_ | refine .st ?_ | refine .ad ?_ | refine .sb ?_ | refine .mf ?_ | refine .cl ?_ | refine .cw ?_ | refine .ck ?_ | fail
        exact Fin.ret1 rfl (Weak.refl _)

end Go.Proofs.YtijlmchfepjjkaaDoor
