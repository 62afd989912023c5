/-
  The laws LeafAgain, LeafKinds.
-/
import Derived.Test.YtijlmchfepjjkaaDoorGLeafAgain4
import Derived.Test.YtijlmchfepjjkaaDoorGLeafAgain5
namespace Go.Proofs.YtijlmchfepjjkaaDoor
open Go Go.Av
set_option maxRecDepth 100000
set_option maxHeartbeats 16000000
set_option linter.unusedVariables false
set_option linter.unusedSimpArgs false
attribute [local irreducible] HCode AOps PFn AFn Av.Step TStep

theorem Val.range {v : Val} (h : v.ok) : -9223372036854775808 ≤ v.n ∧ v.n ≤ 9223372036854775807 := by
  cases v
  rw [Val.ok] at h
  have := h.2.1
  unfold Lit.wf IntKind.min IntKind.max at this
  rw [Bool.and_eq_true, decide_eq_true_eq, decide_eq_true_eq] at this
  exact ⟨this.1, this.2⟩
theorem weak_sch0' {t : Tk} : Weak (.agg [.slice [] t, .str [], .str []]) (Sch.mk [] [] []).enc := Weak.agg (WeakL.cons (Weak.no (WeakL.refl _)) (WeakL.refl _))
theorem itoa7 : Lib.itoa 7 = [55] := by
  unfold Lib.itoa
  rw [if_neg (by decide)]
  exact Lib.decDigits_one (by decide)
theorem leafB_scal {s : Sch} {name : Str} (h : scalarB name = true) : leafB s name = true ∧ (findR s name).1.kind = 0 := by
  unfold leafB kindB findR findO
  rw [if_pos h]
  exact ⟨rfl, rfl⟩
theorem out_scal {s : Sch} {name : Str} {v : Val} (h : scalarB name = true) (hg : allV good v = true) : outR s name v = scalOut name v := by
  unfold outR
  rw [if_neg (by rw [hg, (leafB_scal h).1]; simp), if_neg (by rw [(leafB_scal h).2]; decide)]
theorem awake24 : PFn Tryd.prog 16 [] (.bool true) := by
  have h1 := lOut ⟨[], [], []⟩ sID (intV 7) (by decide) (by decide +kernel) (by decide) (by decide)
  have h2 := lOut ⟨[], [], []⟩ sInt (intV 2147483648) (by decide) (by decide +kernel) (by decide) (by decide)
  have e1 : outR ⟨[], [], []⟩ sID (intV 7) = (textV [55], 0) := by
    rw [out_scal (by decide) (by decide +kernel), ← itoa7]; rfl
  have e2 : outR ⟨[], [], []⟩ sInt (intV 2147483648) = (val0, 8) := by
    rw [out_scal (by decide) (by decide +kernel)]; rfl
  rw [e1] at h1
  rw [e2] at h2
  refine AFn.plain rfl rfl (AFn.enter [0] Tryd.func16 rfl rfl rfl rfl rfl (by decide) ?_)
  repeat' first
    | refine .seq ?_ | refine .rg ?_ | refine .rd ?_ | refine .block ?_ | refine .scope ?_ | refine .skip ?_ | refine .label ?_ | refine .exit ?_ | refine .ret ?_
    | refine .ct ?_ | refine .cf ?_ | refine .cy ?_ | refine .cn ?_ | (refine .cond rfl ?_ ?_ <;> intro hc)
    | refine A.nil_seq ?_ | refine .nl ?_ | refine .dd ?_ | refine .ys ?_ | refine .no ?_ | (refine A.guard rfl ?_ ?_ <;> intro hc)
    | refine .lb ?_ | refine .ln ?_ | refine .ls ?_ | refine .pv ?_ | refine .ix ?_ | refine .pt ?_ | refine .pf ?_ | refine .bx ?_ | refine .al ?_ | refine .st ?_ | refine .ad ?_ | refine .sb ?_ | refine .mf ?_ | refine .cl ?_ | refine .cw ?_ | refine .ck ?_
    | refine A.call rfl h1 (WeakL.cons weak_sch0' (WeakL.cons (Weak.refl _) (WeakL.cons weak_flatV (WeakL.refl _)))) ?_ | refine A.call rfl h2 (WeakL.cons weak_sch0' (WeakL.cons (Weak.refl _) (WeakL.cons weak_flatV (WeakL.refl _)))) ?_ | fail
  exact Fin.ret1 rfl (Weak.refl _)
theorem good_textI (n : Int) : allV good (textV (Lib.itoa n)) = true := by
  unfold textV
  rw [allV]
  rw [if_neg (by decide), if_neg (by decide)]
  unfold singleB
  simp only [Val.kind, Val.n, Val.s, Val.l, Val.m]
  rw [good_itoa]; rfl
/-- What comes of a leaf: an error and no value, or a value of which the same comes. -/
theorem outR_cases (s : Sch) (name : Str) (v : Val) (h0 : -9223372036854775808 ≤ v.n) (h1 : v.n ≤ 9223372036854775807) :
    ((outR s name v).1 = val0 ∧ (outR s name v).2 ≠ 0 ∧ ((outR s name v).2 = 1 → allV good v = false ∨ leafB s name = false)) ∨
    (outR s name (outR s name v).1 = ((outR s name v).1, 0) ∧ (outR s name v).2 = 0 ∧ (outR s name v).1.kind ≠ 0 ∧ leafB s name = true ∧ ((outR s name v).1 = v ∨ ∃ n, -9223372036854775808 ≤ n ∧ n ≤ 9223372036854775807 ∧ (outR s name v).1 = textV (Lib.itoa n))) := by
  by_cases c1 : allV good v = false ∨ leafB s name = false
  · have e : outR s name v = (val0, 1) := by unfold outR; rw [if_pos c1]
    rw [e]; exact .inl ⟨rfl, by simp, fun _ => c1⟩
  · have hgl : allV good v = true ∧ leafB s name = true := by simpa using c1
    by_cases d4 : (findR s name).1.kind = 4
    · by_cases k : v.kind = 4 ∧ v.s ∈ (findR s name).1.parts
      · have e : outR s name v = (v, 0) := by unfold outR; rw [if_neg c1, if_pos d4, if_pos k]
        rw [e]; exact .inr ⟨e, rfl, by simp only; omega, hgl.2, .inl rfl⟩
      · have e : outR s name v = (val0, 7) := by unfold outR; rw [if_neg c1, if_pos d4, if_neg k]
        rw [e]; exact .inl ⟨rfl, by simp, by simp⟩
    · have e : outR s name v = scalOut name v := by unfold outR; rw [if_neg c1, if_neg d4]
      have same : scalOut name v = (v, 0) → v.kind ≠ 0 → ((outR s name v).1 = val0 ∧ (outR s name v).2 ≠ 0 ∧ ((outR s name v).2 = 1 → allV good v = false ∨ leafB s name = false)) ∨
          (outR s name (outR s name v).1 = ((outR s name v).1, 0) ∧ (outR s name v).2 = 0 ∧ (outR s name v).1.kind ≠ 0 ∧ leafB s name = true ∧ ((outR s name v).1 = v ∨ ∃ n, -9223372036854775808 ≤ n ∧ n ≤ 9223372036854775807 ∧ (outR s name v).1 = textV (Lib.itoa n))) := fun h hk => by
        rw [h] at e
        rw [e]; exact .inr ⟨e, rfl, hk, hgl.2, .inl rfl⟩
      have bad : ∀ x, x ≠ 0 → x ≠ 1 → scalOut name v = (val0, x) → ((outR s name v).1 = val0 ∧ (outR s name v).2 ≠ 0 ∧ ((outR s name v).2 = 1 → allV good v = false ∨ leafB s name = false)) ∨
          (outR s name (outR s name v).1 = ((outR s name v).1, 0) ∧ (outR s name v).2 = 0 ∧ (outR s name v).1.kind ≠ 0 ∧ leafB s name = true ∧ ((outR s name v).1 = v ∨ ∃ n, -9223372036854775808 ≤ n ∧ n ≤ 9223372036854775807 ∧ (outR s name v).1 = textV (Lib.itoa n))) := fun x hx0 hx1 h => by
        rw [h] at e
        rw [e]; exact .inl ⟨rfl, hx0, fun h => absurd h hx1⟩
      by_cases n1 : name = sInt
      · by_cases k2 : v.kind = 2
        · by_cases hr : v.n < -2147483648 ∨ 2147483647 < v.n
          · exact bad 8 (by decide) (by decide) (by unfold scalOut; rw [if_pos n1, if_pos k2, if_pos hr])
          · exact same (by unfold scalOut; rw [if_pos n1, if_pos k2, if_neg hr]) (by omega)
        · exact bad 7 (by decide) (by decide) (by unfold scalOut; rw [if_pos n1, if_neg k2])
      · by_cases n2 : name = sBoolean
        · by_cases k1 : v.kind = 1
          · exact same (by unfold scalOut; rw [if_neg n1, if_pos n2, if_pos k1]) (by omega)
          · exact bad 7 (by decide) (by decide) (by unfold scalOut; rw [if_neg n1, if_pos n2, if_neg k1])
        · by_cases n3 : name = sID ∧ v.kind = 2
          · have h : scalOut name v = (textV (Lib.itoa v.n), 0) := by unfold scalOut; rw [if_neg n1, if_neg n2, if_pos n3]
            rw [h] at e
            have e2 : outR s name (textV (Lib.itoa v.n)) = (textV (Lib.itoa v.n), 0) := by
              unfold outR
              rw [if_neg (by rw [good_textI, hgl.2]; simp), if_neg d4]
              unfold scalOut
              rw [if_neg n1, if_neg n2, if_neg (fun h => absurd (show (4 : Int) = 2 from h.2) (by decide)), if_pos (.inl n3.1), if_pos (show (textV (Lib.itoa v.n)).kind = 4 from rfl)]
            rw [e]
            exact .inr ⟨e2, rfl, show (4 : Int) ≠ 0 by decide, hgl.2, .inr ⟨v.n, h0, h1, rfl⟩⟩
          · by_cases n4 : name = sID ∨ name = sString
            · by_cases k4 : v.kind = 4
              · exact same (by unfold scalOut; rw [if_neg n1, if_neg n2, if_neg n3, if_pos n4, if_pos k4]) (by omega)
              · exact bad 7 (by decide) (by decide) (by unfold scalOut; rw [if_neg n1, if_neg n2, if_neg n3, if_pos n4, if_neg k4])
            · exact bad 7 (by decide) (by decide) (by unfold scalOut; rw [if_neg n1, if_neg n2, if_neg n3, if_neg n4])
theorem textI_size (n : Int) (h0 : -9223372036854775808 ≤ n) (h1 : n ≤ 9223372036854775807) : (textV (Lib.itoa n)).size ≤ 27 ∧ (textV (Lib.itoa n)).n = 0 := by
  have := itoa_len n h0 h1
  refine ⟨?_, rfl⟩
  unfold textV
  rw [Val.size, Val.sizeL, Val.sizeM]; omega
theorem leafAgain (s : Sch) (name : Str) (v : Val) (hok : v.ok) (h : s.size + name.length + v.size ≤ 1048576) : PFn Tryd.prog 3 [s.enc, .str name, v.enc] (.bool true) := by
  obtain ⟨r0, r1⟩ := Val.range hok
  have hl := light8 s (by omega)
  have hz := kSize' v (by omega)
  have hw := awake24
  have ho := lOut s name v (by omega) (by omega) r0 r1
  have hg := vGood v (by omega)
  have hlf := dLeaf s name (by omega)
  refine AFn.plain rfl (by simp [AV.closed, AV.closedL, Sch.closed, Val.closed]) (AFn.enter [6] Tryd.func3 rfl rfl rfl rfl rfl (by decide) ?_)
  cases c1 : lightS s with
  | false =>
    rw [c1] at hl
    repeat' first
      | refine .br ?_
      | refine .seq ?_ | refine .rg ?_ | refine .rd ?_ | refine .block ?_ | refine .scope ?_ | refine .skip ?_ | refine .label ?_ | refine .exit ?_ | refine .ret ?_
      | refine .ct ?_ | refine .cf ?_ | refine .cy ?_ | refine .cn ?_ | (refine .cond rfl ?_ ?_ <;> intro hc)
      | refine A.nil_seq ?_ | refine .nl ?_ | refine .dd ?_ | refine .ys ?_ | refine .no ?_ | (refine A.guard rfl ?_ ?_ <;> intro hc)
      | refine .lb ?_ | refine .ln ?_ | refine .ls ?_ | refine .pv ?_ | refine .ix ?_ | refine .pt ?_ | refine .pf ?_ | refine .bx ?_ | refine .al ?_ | refine .st ?_ | refine .ad ?_ | refine .sb ?_ | refine .mf ?_ | refine .cl ?_ | refine .cw ?_ | refine .ck ?_ | fail
    exact Fin.ret1 rfl (Weak.refl _)
  | true =>
    rw [c1] at hl
    cases c2 : decide ((2000 : Int) < IntKind.i64.wrap ((name.length : Int) + szV v)) with
    | true =>
      repeat' first
        | refine .br ?_
        | refine .seq ?_ | refine .rg ?_ | refine .rd ?_ | refine .block ?_ | refine .scope ?_ | refine .skip ?_ | refine .label ?_ | refine .exit ?_ | refine .ret ?_
        | refine .ct ?_ | refine .cf ?_ | refine .cy ?_ | refine .cn ?_ | (refine .cond rfl ?_ ?_ <;> intro hc)
        | refine A.nil_seq ?_ | refine .nl ?_ | refine .dd ?_ | refine .ys ?_ | refine .no ?_ | (refine A.guard rfl ?_ ?_ <;> intro hc)
        | refine .lb ?_ | refine .ln ?_ | refine .ls ?_ | refine .pv ?_ | refine .ix ?_ | refine .pt ?_ | refine .pf ?_ | refine .bx ?_ | refine .al ?_ | refine .st ?_ | refine .ad ?_ | refine .sb ?_ | refine .mf ?_ | refine .cl ?_ | refine .cw ?_ | refine .ck ?_
        | refine A.add rfl rfl ?_ | fail
      exact Fin.ret1 rfl (Weak.refl _)
    | false =>
      rcases outR_cases s name v r0 r1 with ⟨p1, p2, p3⟩ | ⟨p1, p2, p3, p4, p5⟩
      · generalize outR s name v = o at ho p1 p2 p3
        obtain ⟨x, e⟩ := o
        simp only at ho p1 p2 p3
        subst p1
        have hs := vSame 6 val0 val0 (by decide +kernel) (by decide) (by decide +kernel)
        rw [sameV_refl0] at hs
        have e0 : (e != 0) = true := by simpa using p2
        by_cases e1 : e = 1
        · have e1' : (e != 1) = false := by simp [e1]
          rcases p3 e1 with p3 | p3
          · rw [p3] at hg
            repeat' first
              | refine .br ?_
              | refine .seq ?_ | refine .rg ?_ | refine .rd ?_ | refine .block ?_ | refine .scope ?_ | refine .skip ?_ | refine .label ?_ | refine .exit ?_ | refine .ret ?_
              | refine .ct ?_ | refine .cf ?_ | refine .cy ?_ | refine .cn ?_ | (refine .cond rfl ?_ ?_ <;> intro hc)
              | refine A.nil_seq ?_ | refine .nl ?_ | refine .dd ?_ | refine .ys ?_ | refine .no ?_ | (refine A.guard rfl ?_ ?_ <;> intro hc)
              | refine .lb ?_ | refine .ln ?_ | refine .ls ?_ | refine .pv ?_ | refine .ix ?_ | refine .pt ?_ | refine .pf ?_ | refine .bx ?_ | refine .al ?_ | refine .st ?_ | refine .ad ?_ | refine .sb ?_ | refine .mf ?_ | refine .cl ?_ | refine .cw ?_ | refine .ck ?_
              | refine A.add rfl rfl ?_ | refine A.call rfl hs (WeakL.cons (Weak.refl _) (WeakL.cons weak_flatV (WeakL.refl _))) ?_ | fail
            exact Fin.ret1 rfl (Weak.refl _)
          · rw [p3] at hlf
            cases c3 : allV good v <;> rw [c3] at hg
            all_goals
              repeat' first
                | refine .br ?_
                | refine .seq ?_ | refine .rg ?_ | refine .rd ?_ | refine .block ?_ | refine .scope ?_ | refine .skip ?_ | refine .label ?_ | refine .exit ?_ | refine .ret ?_
                | refine .ct ?_ | refine .cf ?_ | refine .cy ?_ | refine .cn ?_ | (refine .cond rfl ?_ ?_ <;> intro hc)
                | refine A.nil_seq ?_ | refine .nl ?_ | refine .dd ?_ | refine .ys ?_ | refine .no ?_ | (refine A.guard rfl ?_ ?_ <;> intro hc)
                | refine .lb ?_ | refine .ln ?_ | refine .ls ?_ | refine .pv ?_ | refine .ix ?_ | refine .pt ?_ | refine .pf ?_ | refine .bx ?_ | refine .al ?_ | refine .st ?_ | refine .ad ?_ | refine .sb ?_ | refine .mf ?_ | refine .cl ?_ | refine .cw ?_ | refine .ck ?_
                | refine A.add rfl rfl ?_ | refine A.call rfl hs (WeakL.cons (Weak.refl _) (WeakL.cons weak_flatV (WeakL.refl _))) ?_ | fail
              exact Fin.ret1 rfl (Weak.refl _)
        · have e1' : (e != 1) = true := by simpa using e1
          repeat' first
            | refine .br ?_
            | refine .seq ?_ | refine .rg ?_ | refine .rd ?_ | refine .block ?_ | refine .scope ?_ | refine .skip ?_ | refine .label ?_ | refine .exit ?_ | refine .ret ?_
            | refine .ct ?_ | refine .cf ?_ | refine .cy ?_ | refine .cn ?_ | (refine .cond rfl ?_ ?_ <;> intro hc)
            | refine A.nil_seq ?_ | refine .nl ?_ | refine .dd ?_ | refine .ys ?_ | refine .no ?_ | (refine A.guard rfl ?_ ?_ <;> intro hc)
            | refine .lb ?_ | refine .ln ?_ | refine .ls ?_ | refine .pv ?_ | refine .ix ?_ | refine .pt ?_ | refine .pf ?_ | refine .bx ?_ | refine .al ?_ | refine .st ?_ | refine .ad ?_ | refine .sb ?_ | refine .mf ?_ | refine .cl ?_ | refine .cw ?_ | refine .ck ?_
            | refine A.add rfl rfl ?_ | refine A.call rfl hs (WeakL.cons (Weak.refl _) (WeakL.cons weak_flatV (WeakL.refl _))) ?_ | fail
          exact Fin.ret1 rfl (Weak.refl _)
      · have hxs : (outR s name v).1.size ≤ 1048576 ∧ -9223372036854775808 ≤ (outR s name v).1.n ∧ (outR s name v).1.n ≤ 9223372036854775807 := by
          rcases p5 with q | ⟨n, q0, q1, q⟩
          · rw [q]; exact ⟨by omega, r0, r1⟩
          · rw [q]
            have := textI_size n q0 q1
            exact ⟨by omega, by omega, by omega⟩
        generalize outR s name v = o at ho p1 p2 p3 hxs
        obtain ⟨x, e⟩ := o
        simp only at ho p1 p2 p3 hxs
        subst p2
        have ho2 := lOut s name x (by omega) (by omega) hxs.2.1 hxs.2.2
        rw [p1] at ho2
        rw [p4] at hlf
        have hs := vSame x.size x x (Nat.le_refl _) (by omega) (by omega)
        rw [sameV_refl0] at hs
        have e3 : (x.kind != 0) = true := by simpa using p3
        repeat' first
          | refine .br ?_
          | refine .seq ?_ | refine .rg ?_ | refine .rd ?_ | refine .block ?_ | refine .scope ?_ | refine .skip ?_ | refine .label ?_ | refine .exit ?_ | refine .ret ?_
          | refine .ct ?_ | refine .cf ?_ | refine .cy ?_ | refine .cn ?_ | (refine .cond rfl ?_ ?_ <;> intro hc)
          | refine A.nil_seq ?_ | refine .nl ?_ | refine .dd ?_ | refine .ys ?_ | refine .no ?_ | (refine A.guard rfl ?_ ?_ <;> intro hc)
          | refine .lb ?_ | refine .ln ?_ | refine .ls ?_ | refine .pv ?_ | refine .ix ?_ | refine .pt ?_ | refine .pf ?_ | refine .bx ?_ | refine .al ?_ | refine .st ?_ | refine .ad ?_ | refine .sb ?_ | refine .mf ?_ | refine .cl ?_ | refine .cw ?_ | refine .ck ?_
          | refine A.add rfl rfl ?_ | fail
        exact Fin.ret1 rfl (Weak.refl _)
theorem leafKinds (s : Sch) (v : Val) (hok : v.ok) (h : s.size + v.size ≤ 1048576) : PFn Tryd.prog 4 [s.enc, v.enc] (.bool true) := by
  obtain ⟨r0, r1⟩ := Val.range hok
  have hl := light8 s (by omega)
  have hz := kSize' v (by omega)
  have hw := awake24
  have hg := vGood v (by omega)
  have ho1 := lOut s sInt v (by omega) (by omega) r0 r1
  have ho2 := lOut s sString v (by omega) (by omega) r0 r1
  have ho3 := lOut s sBoolean v (by omega) (by omega) r0 r1
  have ho4 := lOut s sID v (by omega) (by omega) r0 r1
  have hs := vSame v.size v v (Nat.le_refl _) (by omega) (by omega)
  rw [sameV_refl0] at hs
  refine AFn.plain rfl (by simp [AV.closed, AV.closedL, Sch.closed, Val.closed]) (AFn.enter [4] Tryd.func4 rfl rfl rfl rfl rfl (by decide) ?_)
  cases c1 : lightS s with
  | false =>
    rw [c1] at hl
    repeat' first
      | refine .br ?_
      | refine .seq ?_ | refine .rg ?_ | refine .rd ?_ | refine .block ?_ | refine .scope ?_ | refine .skip ?_ | refine .label ?_ | refine .exit ?_ | refine .ret ?_
      | refine .ct ?_ | refine .cf ?_ | refine .cy ?_ | refine .cn ?_ | (refine .cond rfl ?_ ?_ <;> intro hc)
      | refine A.nil_seq ?_ | refine .nl ?_ | refine .dd ?_ | refine .ys ?_ | refine .no ?_ | (refine A.guard rfl ?_ ?_ <;> intro hc)
      | refine .lb ?_ | refine .ln ?_ | refine .ls ?_ | refine .pv ?_ | refine .ix ?_ | refine .pt ?_ | refine .pf ?_ | refine .bx ?_ | refine .al ?_ | refine .st ?_ | refine .ad ?_ | refine .sb ?_ | refine .mf ?_ | refine .cl ?_ | refine .cw ?_ | refine .ck ?_ | fail
    exact Fin.ret1 rfl (Weak.refl _)
  | true =>
    rw [c1] at hl
    cases c2 : decide ((2000 : Int) < szV v) with
    | true =>
      repeat' first
        | refine .br ?_
        | refine .seq ?_ | refine .rg ?_ | refine .rd ?_ | refine .block ?_ | refine .scope ?_ | refine .skip ?_ | refine .label ?_ | refine .exit ?_ | refine .ret ?_
        | refine .ct ?_ | refine .cf ?_ | refine .cy ?_ | refine .cn ?_ | (refine .cond rfl ?_ ?_ <;> intro hc)
        | refine A.nil_seq ?_ | refine .nl ?_ | refine .dd ?_ | refine .ys ?_ | refine .no ?_ | (refine A.guard rfl ?_ ?_ <;> intro hc)
        | refine .lb ?_ | refine .ln ?_ | refine .ls ?_ | refine .pv ?_ | refine .ix ?_ | refine .pt ?_ | refine .pf ?_ | refine .bx ?_ | refine .al ?_ | refine .st ?_ | refine .ad ?_ | refine .sb ?_ | refine .mf ?_ | refine .cl ?_ | refine .cw ?_ | refine .ck ?_ | fail
      exact Fin.ret1 rfl (Weak.refl _)
    | false =>
      cases c3 : allV good v with
      | false =>
        rw [c3] at hg
        repeat' first
          | refine .br ?_
          | refine .seq ?_ | refine .rg ?_ | refine .rd ?_ | refine .block ?_ | refine .scope ?_ | refine .skip ?_ | refine .label ?_ | refine .exit ?_ | refine .ret ?_
          | refine .ct ?_ | refine .cf ?_ | refine .cy ?_ | refine .cn ?_ | (refine .cond rfl ?_ ?_ <;> intro hc)
          | refine A.nil_seq ?_ | refine .nl ?_ | refine .dd ?_ | refine .ys ?_ | refine .no ?_ | (refine A.guard rfl ?_ ?_ <;> intro hc)
          | refine .lb ?_ | refine .ln ?_ | refine .ls ?_ | refine .pv ?_ | refine .ix ?_ | refine .pt ?_ | refine .pf ?_ | refine .bx ?_ | refine .al ?_ | refine .st ?_ | refine .ad ?_ | refine .sb ?_ | refine .mf ?_ | refine .cl ?_ | refine .cw ?_ | refine .ck ?_ | fail
        exact Fin.ret1 rfl (Weak.refl _)
      | true =>
        rw [c3] at hg
        by_cases k2 : v.kind = 2
        · have q2 : (v.kind == 2) = true := by simp [k2]
          have q1 : (v.kind == 1) = false := by simp [k2]
          have q4 : (v.kind == 4) = false := by simp [k2]
          have e2 : outR s sString v = (val0, 7) := by rw [out_scal (by decide) c3]; unfold scalOut; simp [sInt, sString, sBoolean, sID, k2]
          have e3 : outR s sBoolean v = (val0, 7) := by rw [out_scal (by decide) c3]; unfold scalOut; simp [sInt, sString, sBoolean, sID, k2]
          have e4 : outR s sID v = (textV (Lib.itoa v.n), 0) := by rw [out_scal (by decide) c3]; unfold scalOut; simp [sInt, sString, sBoolean, sID, k2]
          rw [e2] at ho2
          rw [e3] at ho3
          rw [e4] at ho4
          have fS : (((7 : Int) == 0) != (v.kind == 4)) = false := by rw [q4]; rfl
          have fB : (((7 : Int) == 0) != (v.kind == 1)) = false := by rw [q1]; rfl
          have fI : (((0 : Int) == 0) != (v.kind == 2)) = false := by rw [q2]; rfl
          by_cases l1 : v.n < -2147483648
          · have e1 : outR s sInt v = (val0, 8) := by rw [out_scal (by decide) c3]; unfold scalOut; rw [if_pos rfl, if_pos k2, if_pos (.inl l1)]
            rw [e1] at ho1
            have d1 : decide (-2147483648 ≤ v.n) = false := decide_eq_false (by omega)
            repeat' first
              | refine .br ?_
              | refine .seq ?_ | refine .rg ?_ | refine .rd ?_ | refine .block ?_ | refine .scope ?_ | refine .skip ?_ | refine .label ?_ | refine .exit ?_ | refine .ret ?_
              | refine .ct ?_ | refine .cf ?_ | refine .cy ?_ | refine .cn ?_ | (refine .cond rfl ?_ ?_ <;> intro hc)
              | refine A.nil_seq ?_ | refine .nl ?_ | refine .dd ?_ | refine .ys ?_ | refine .no ?_ | (refine A.guard rfl ?_ ?_ <;> intro hc)
              | refine .lb ?_ | refine .ln ?_ | refine .ls ?_ | refine .pv ?_ | refine .ix ?_ | refine .pt ?_ | refine .pf ?_ | refine .bx ?_ | refine .al ?_ | refine .st ?_ | refine .ad ?_ | refine .sb ?_ | refine .mf ?_ | refine .cl ?_ | refine .cw ?_ | refine .ck ?_ | fail
            exact Fin.ret1 rfl (Weak.refl _)
          · have d1 : decide (-2147483648 ≤ v.n) = true := decide_eq_true (by omega)
            by_cases l2 : 2147483647 < v.n
            · have e1 : outR s sInt v = (val0, 8) := by rw [out_scal (by decide) c3]; unfold scalOut; rw [if_pos rfl, if_pos k2, if_pos (.inr l2)]
              rw [e1] at ho1
              have d2 : decide (v.n ≤ 2147483647) = false := decide_eq_false (by omega)
              have fN : (((8 : Int) == 0) != decide (v.n ≤ 2147483647)) = false := by rw [d2]; rfl
              repeat' first
                | refine .br ?_
                | refine .seq ?_ | refine .rg ?_ | refine .rd ?_ | refine .block ?_ | refine .scope ?_ | refine .skip ?_ | refine .label ?_ | refine .exit ?_ | refine .ret ?_
                | refine .ct ?_ | refine .cf ?_ | refine .cy ?_ | refine .cn ?_ | (refine .cond rfl ?_ ?_ <;> intro hc)
                | refine A.nil_seq ?_ | refine .nl ?_ | refine .dd ?_ | refine .ys ?_ | refine .no ?_ | (refine A.guard rfl ?_ ?_ <;> intro hc)
                | refine .lb ?_ | refine .ln ?_ | refine .ls ?_ | refine .pv ?_ | refine .ix ?_ | refine .pt ?_ | refine .pf ?_ | refine .bx ?_ | refine .al ?_ | refine .st ?_ | refine .ad ?_ | refine .sb ?_ | refine .mf ?_ | refine .cl ?_ | refine .cw ?_ | refine .ck ?_ | fail
              exact Fin.ret1 rfl (Weak.refl _)
            · have e1 : outR s sInt v = (v, 0) := by rw [out_scal (by decide) c3]; unfold scalOut; rw [if_pos rfl, if_pos k2, if_neg (by omega)]
              rw [e1] at ho1
              have d2 : decide (v.n ≤ 2147483647) = true := decide_eq_true (by omega)
              have fN : (((0 : Int) == 0) != decide (v.n ≤ 2147483647)) = false := by rw [d2]; rfl
              repeat' first
                | refine .br ?_
                | refine .seq ?_ | refine .rg ?_ | refine .rd ?_ | refine .block ?_ | refine .scope ?_ | refine .skip ?_ | refine .label ?_ | refine .exit ?_ | refine .ret ?_
                | refine .ct ?_ | refine .cf ?_ | refine .cy ?_ | refine .cn ?_ | (refine .cond rfl ?_ ?_ <;> intro hc)
                | refine A.nil_seq ?_ | refine .nl ?_ | refine .dd ?_ | refine .ys ?_ | refine .no ?_ | (refine A.guard rfl ?_ ?_ <;> intro hc)
                | refine .lb ?_ | refine .ln ?_ | refine .ls ?_ | refine .pv ?_ | refine .ix ?_ | refine .pt ?_ | refine .pf ?_ | refine .bx ?_ | refine .al ?_ | refine .st ?_ | refine .ad ?_ | refine .sb ?_ | refine .mf ?_ | refine .cl ?_ | refine .cw ?_ | refine .ck ?_ | fail
              exact Fin.ret1 rfl (Weak.refl _)
        by_cases k4 : v.kind = 4
        · have q1 : (v.kind == 1) = false := by simp; omega
          have q2 : (v.kind == 2) = false := by simp; omega
          have q4 : (v.kind == 4) = true := by simp; omega
          have fS : (((0 : Int) == 0) != (v.kind == 4)) = false := by rw [q4]; rfl
          have fB : (((7 : Int) == 0) != (v.kind == 1)) = false := by rw [q1]; rfl
          have e1 : outR s sInt v = (val0, 7) := by rw [out_scal (by decide) c3]; unfold scalOut; simp [sInt, sString, sBoolean, sID, k4]
          rw [e1] at ho1
          have e2 : outR s sString v = (v, 0) := by rw [out_scal (by decide) c3]; unfold scalOut; simp [sInt, sString, sBoolean, sID, k4]
          rw [e2] at ho2
          have e3 : outR s sBoolean v = (val0, 7) := by rw [out_scal (by decide) c3]; unfold scalOut; simp [sInt, sString, sBoolean, sID, k4]
          rw [e3] at ho3
          have e4 : outR s sID v = (v, 0) := by rw [out_scal (by decide) c3]; unfold scalOut; simp [sInt, sString, sBoolean, sID, k4]
          rw [e4] at ho4
          cases d1 : decide (-2147483648 ≤ v.n)
          all_goals
            repeat' first
              | refine .br ?_
              | refine .seq ?_ | refine .rg ?_ | refine .rd ?_ | refine .block ?_ | refine .scope ?_ | refine .skip ?_ | refine .label ?_ | refine .exit ?_ | refine .ret ?_
              | refine .ct ?_ | refine .cf ?_ | refine .cy ?_ | refine .cn ?_ | (refine .cond rfl ?_ ?_ <;> intro hc)
              | refine A.nil_seq ?_ | refine .nl ?_ | refine .dd ?_ | refine .ys ?_ | refine .no ?_ | (refine A.guard rfl ?_ ?_ <;> intro hc)
              | refine .lb ?_ | refine .ln ?_ | refine .ls ?_ | refine .pv ?_ | refine .ix ?_ | refine .pt ?_ | refine .pf ?_ | refine .bx ?_ | refine .al ?_ | refine .st ?_ | refine .ad ?_ | refine .sb ?_ | refine .mf ?_ | refine .cl ?_ | refine .cw ?_ | refine .ck ?_ | fail
            exact Fin.ret1 rfl (Weak.refl _)
        by_cases k1 : v.kind = 1
        · have q1 : (v.kind == 1) = true := by simp; omega
          have q2 : (v.kind == 2) = false := by simp; omega
          have q4 : (v.kind == 4) = false := by simp; omega
          have fS : (((7 : Int) == 0) != (v.kind == 4)) = false := by rw [q4]; rfl
          have fB : (((0 : Int) == 0) != (v.kind == 1)) = false := by rw [q1]; rfl
          have fI : (((7 : Int) == 0) != (v.kind == 2)) = false := by rw [q2]; rfl
          have e1 : outR s sInt v = (val0, 7) := by rw [out_scal (by decide) c3]; unfold scalOut; simp [sInt, sString, sBoolean, sID, k1]
          rw [e1] at ho1
          have e2 : outR s sString v = (val0, 7) := by rw [out_scal (by decide) c3]; unfold scalOut; simp [sInt, sString, sBoolean, sID, k1]
          rw [e2] at ho2
          have e3 : outR s sBoolean v = (v, 0) := by rw [out_scal (by decide) c3]; unfold scalOut; simp [sInt, sString, sBoolean, sID, k1]
          rw [e3] at ho3
          have e4 : outR s sID v = (val0, 7) := by rw [out_scal (by decide) c3]; unfold scalOut; simp [sInt, sString, sBoolean, sID, k1]
          rw [e4] at ho4
          cases d1 : decide (-2147483648 ≤ v.n)
          all_goals
            repeat' first
              | refine .br ?_
              | refine .seq ?_ | refine .rg ?_ | refine .rd ?_ | refine .block ?_ | refine .scope ?_ | refine .skip ?_ | refine .label ?_ | refine .exit ?_ | refine .ret ?_
              | refine .ct ?_ | refine .cf ?_ | refine .cy ?_ | refine .cn ?_ | (refine .cond rfl ?_ ?_ <;> intro hc)
              | refine A.nil_seq ?_ | refine .nl ?_ | refine .dd ?_ | refine .ys ?_ | refine .no ?_ | (refine A.guard rfl ?_ ?_ <;> intro hc)
              | refine .lb ?_ | refine .ln ?_ | refine .ls ?_ | refine .pv ?_ | refine .ix ?_ | refine .pt ?_ | refine .pf ?_ | refine .bx ?_ | refine .al ?_ | refine .st ?_ | refine .ad ?_ | refine .sb ?_ | refine .mf ?_ | refine .cl ?_ | refine .cw ?_ | refine .ck ?_ | fail
            exact Fin.ret1 rfl (Weak.refl _)
        have q1 : (v.kind == 1) = false := by simp; omega
        have q2 : (v.kind == 2) = false := by simp; omega
        have q4 : (v.kind == 4) = false := by simp; omega
        have fS : (((7 : Int) == 0) != (v.kind == 4)) = false := by rw [q4]; rfl
        have fB : (((7 : Int) == 0) != (v.kind == 1)) = false := by rw [q1]; rfl
        have fI : (((7 : Int) == 0) != (v.kind == 2)) = false := by rw [q2]; rfl
        have e1 : outR s sInt v = (val0, 7) := by rw [out_scal (by decide) c3]; unfold scalOut; simp [sInt, sString, sBoolean, sID, k1, k2, k4]
        rw [e1] at ho1
        have e2 : outR s sString v = (val0, 7) := by rw [out_scal (by decide) c3]; unfold scalOut; simp [sInt, sString, sBoolean, sID, k1, k2, k4]
        rw [e2] at ho2
        have e3 : outR s sBoolean v = (val0, 7) := by rw [out_scal (by decide) c3]; unfold scalOut; simp [sInt, sString, sBoolean, sID, k1, k2, k4]
        rw [e3] at ho3
        have e4 : outR s sID v = (val0, 7) := by rw [out_scal (by decide) c3]; unfold scalOut; simp [sInt, sString, sBoolean, sID, k1, k2, k4]
        rw [e4] at ho4
        cases d1 : decide (-2147483648 ≤ v.n)
        all_goals
          repeat' first
            | refine .br ?_
            | refine .seq ?_ | refine .rg ?_ | refine .rd ?_ | refine .block ?_ | refine .scope ?_ | refine .skip ?_ | refine .label ?_ | refine .exit ?_ | refine .ret ?_
            | refine .ct ?_ | refine .cf ?_ | refine .cy ?_ | refine .cn ?_ | (refine .cond rfl ?_ ?_ <;> intro hc)
            | refine A.nil_seq ?_ | refine .nl ?_ | refine .dd ?_ | refine .ys ?_ | refine .no ?_ | (refine A.guard rfl ?_ ?_ <;> intro hc)
            | refine .lb ?_ | refine .ln ?_ | refine .ls ?_ | refine .pv ?_ | refine .ix ?_ | refine .pt ?_ | refine .pf ?_ | refine .bx ?_ | refine .al ?_ | refine .st ?_ | refine .ad ?_ | refine .sb ?_ | refine .mf ?_ | refine .cl ?_ | refine .cw ?_ | refine .ck ?_ | fail
          exact Fin.ret1 rfl (Weak.refl _)
end Go.Proofs.YtijlmchfepjjkaaDoor
