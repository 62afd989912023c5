/-
  The reference: right, Right.
-/
import Derived.Test.YtijlmchfepjjkaaGreatDoorMRef9
namespace Go.Proofs.YtijlmchfepjjkaaGreatDoor
open Go Go.Av
set_option maxRecDepth 100000
set_option maxHeartbeats 16000000
set_option linter.unusedVariables false
set_option linter.unusedSimpArgs false
attribute [local irreducible] HCode AOps PFn AFn Av.Step TStep

theorem rright9 (s : Sch) (hs : s.size ≤ 1048576) : ∀ N : Nat, N ≤ 1048576 → ∀ v : Val, v.size ≤ N → ∀ j : Nat, ∀ t : Typ, t.lists.toNat = j → t.name.length ≤ 2097152 → ∀ w : Bool,
    PFn Tryz.prog 27 [s.enc, t.enc, v.enc, .bool (!w)] (.bool (fitsV s v t w))
  | 0, _, v, hv => absurd hv (by have := v.size_pos; omega)
  | N + 1, hN, v, hv => by
    have ih := rright9 s hs N (by omega)
    have hll := v.l_len
    have hml := v.m_len
    intro j
    induction j with
    | zero =>
      intro t hj ht w
      have hr := rRightType t (by omega)
      have hit := rItem t (by omega)
      unfold itemR at hit
      refine AFn.plain rfl (by simp [AV.closed, AV.closedL, Sch.closed, Val.closed, Typ.closed]) (AFn.enter [8] Tryz.func27 rfl rfl rfl rfl rfl (by decide) ?_)
      cases c : rightT t with
      | false =>
        rw [c] at hr
        rw [fitsV_wrong c]
        repeat' first
          | refine .br ?_
          | refine .seq ?_ | refine .rg ?_ | refine .rd ?_ | refine .block ?_ | refine .scope ?_ | refine .skip ?_ | refine .label ?_ | refine .exit ?_ | refine .ret ?_
          | refine .ct ?_ | refine .cf ?_ | refine .cy ?_ | refine .cn ?_ | (refine .cond rfl ?_ ?_ <;> intro hc)
          | refine A.nil_seq ?_ | refine .nl ?_ | refine .dd ?_ | refine .ys ?_ | refine .no ?_ | (refine A.guard rfl ?_ ?_ <;> intro hc)
          | refine .lb ?_ | refine .ln ?_ | refine .ls ?_ | refine .pv ?_ | refine .ix ?_ | refine .pt ?_ | refine .pf ?_ | refine .bx ?_ | refine .al ?_ | refine .st ?_ | refine .ad ?_ | refine .sb ?_ | refine .mf ?_ | refine .cl ?_ | refine .cw ?_ | refine .ck ?_ | fail
        exact Fin.ret1 rfl (Weak.refl _)
      | true =>
        have hl0 : t.lists = 0 := by have := (rightT_iff.1 c).2.1; omega
        rw [c] at hr
        rw [if_neg (fun h => h.2 hl0)] at hit
        by_cases k8 : v.kind = 8
        · have q8 : (v.kind == 8) = true := by simp [k8]
          rw [fitsV_eq, if_pos k8, c]
          repeat' first
            | refine .br ?_
            | refine .seq ?_ | refine .rg ?_ | refine .rd ?_ | refine .block ?_ | refine .scope ?_ | refine .skip ?_ | refine .label ?_ | refine .exit ?_ | refine .ret ?_
            | refine .ct ?_ | refine .cf ?_ | refine .cy ?_ | refine .cn ?_ | (refine .cond rfl ?_ ?_ <;> intro hc)
            | refine A.nil_seq ?_ | refine .nl ?_ | refine .dd ?_ | refine .ys ?_ | refine .no ?_ | (refine A.guard rfl ?_ ?_ <;> intro hc)
            | refine .lb ?_ | refine .ln ?_ | refine .ls ?_ | refine .pv ?_ | refine .ix ?_ | refine .pt ?_ | refine .pf ?_ | refine .bx ?_ | refine .al ?_ | refine .st ?_ | refine .ad ?_ | refine .sb ?_ | refine .mf ?_ | refine .cl ?_ | refine .cw ?_ | refine .ck ?_ | fail
          exact Fin.ret1 rfl (Weak.refl _)
        · have q8 : (v.kind == 8) = false := by simp [k8]
          by_cases k0 : v.kind = 0
          · have q0 : (v.kind == 0) = true := by simp [k0]
            have h0 := (rightT_iff.1 c).2.2.2.1
            have h5 := musts_lt c
            rw [fits_null k0]
            repeat' first
              | refine .br ?_
              | refine .seq ?_ | refine .rg ?_ | refine .rd ?_ | refine .block ?_ | refine .scope ?_ | refine .skip ?_ | refine .label ?_ | refine .exit ?_ | refine .ret ?_
              | refine .ct ?_ | refine .cf ?_ | refine .cy ?_ | refine .cn ?_ | (refine .cond rfl ?_ ?_ <;> intro hc)
              | refine A.nil_seq ?_ | refine .nl ?_ | refine .dd ?_ | refine .ys ?_ | refine .no ?_ | (refine A.guard rfl ?_ ?_ <;> intro hc)
              | refine .lb ?_ | refine .ln ?_ | refine .ls ?_ | refine .pv ?_ | refine .ix ?_ | refine .pt ?_ | refine .pf ?_ | refine .bx ?_ | refine .al ?_ | refine .st ?_ | refine .ad ?_ | refine .sb ?_ | refine .mf ?_ | refine .cl ?_ | refine .cw ?_ | refine .ck ?_
              | refine A.band (m := t.musts.toNat) (n := 1) rfl rfl (by omega) rfl (by omega) (by decide) (and1 _) ?_ | fail
            refine Fin.ret1 rfl (Weak.eq (congrArg AV.bool ?_))
            unfold isT; rw [c, Bool.true_and, Bool.true_and, Bool.eq_iff_iff, beq_iff_eq, Bool.not_eq_true', decide_eq_false_iff_not]; omega
          · have q0 : (v.kind == 0) = false := by simp [k0]
            rw [fitsV_bare k8 k0 c hl0]
            cases hsc : scalarB t.name with
            | true =>
              rw [bareV_scal hsc]
              unfold scalFit
              repeat' first
                | refine .br ?_
                | refine .seq ?_ | refine .rg ?_ | refine .rd ?_ | refine .block ?_ | refine .scope ?_ | refine .skip ?_ | refine .label ?_ | refine .exit ?_ | refine .ret ?_
                | refine .ct ?_ | refine .cf ?_ | refine .cy ?_ | refine .cn ?_ | (refine .cond rfl ?_ ?_ <;> intro hc)
                | refine A.nil_seq ?_ | refine .nl ?_ | refine .dd ?_ | refine .ys ?_ | refine .no ?_ | (refine A.guard rfl ?_ ?_ <;> intro hc)
                | refine .lb ?_ | refine .ln ?_ | refine .ls ?_ | refine .pv ?_ | refine .ix ?_ | refine .pt ?_ | refine .pf ?_ | refine .bx ?_ | refine .al ?_ | refine .st ?_ | refine .ad ?_ | refine .sb ?_ | refine .mf ?_ | refine .cl ?_ | refine .cw ?_ | refine .ck ?_ | fail
              all_goals first
                | (refine Fin.ret1 rfl (Weak.eq (congrArg AV.bool ?_)); simp only [sInt, sString, sBoolean, sID]; first | (simp_all; done) | (simp_all <;> omega))
                | (exfalso; simp_all [scalarB, sInt, sString, sBoolean, sID]; done)
            | false =>
              have hsc' : (t.name == [73, 110, 116]) = false ∧ (t.name == [83, 116, 114, 105, 110, 103]) = false ∧ (t.name == [66, 111, 111, 108, 101, 97, 110]) = false ∧ (t.name == [73, 68]) = false := by
                unfold scalarB sInt sString sBoolean sID at hsc
                simp only [Bool.or_eq_false_iff] at hsc
                exact ⟨hsc.1.1.1, hsc.1.1.2, hsc.1.2, hsc.2⟩
              obtain ⟨s1, s2, s3, s4⟩ := hsc'
              have hf := rFind9 s t.name hs
              have hsz := findR_size (name := t.name) (s := s) (by omega)
              have hin := rInput9 s (findR s t.name).1.params v.m hs hsz.1 hsz.2.2.2.2 (by omega) (fun x hx u hu => ih x.v (by
                obtain ⟨k, hk, rfl⟩ := List.getElem_of_mem hx
                have := Val.size_m hk; omega) _ u rfl hu false)
              have hhas := rHas (findR s t.name).1.parts v.s (by omega)
              rw [← v.mv_eq] at hin
              have hsf : scalFit t.name v.kind v.n = false := by
                unfold scalFit sInt sString sBoolean sID
                rw [if_neg (by simpa using s1), if_neg (by simpa using s2), if_neg (by simpa using s3), if_neg (by simpa using s4)]
              unfold bareV bareB
              cases hfo : findO s t.name with
              | none =>
                have e : findR s t.name = (zeroD, false) := by rw [findR, hfo]
                rw [e] at hf
                repeat' first
                  | refine .br ?_
                  | refine .seq ?_ | refine .rg ?_ | refine .rd ?_ | refine .block ?_ | refine .scope ?_ | refine .skip ?_ | refine .label ?_ | refine .exit ?_ | refine .ret ?_
                  | refine .ct ?_ | refine .cf ?_ | refine .cy ?_ | refine .cn ?_ | (refine .cond rfl ?_ ?_ <;> intro hc)
                  | refine A.nil_seq ?_ | refine .nl ?_ | refine .dd ?_ | refine .ys ?_ | refine .no ?_ | (refine A.guard rfl ?_ ?_ <;> intro hc)
                  | refine .lb ?_ | refine .ln ?_ | refine .ls ?_ | refine .pv ?_ | refine .ix ?_ | refine .pt ?_ | refine .pf ?_ | refine .bx ?_ | refine .al ?_ | refine .st ?_ | refine .ad ?_ | refine .sb ?_ | refine .mf ?_ | refine .cl ?_ | refine .cw ?_ | refine .ck ?_ | fail
                exact Fin.ret1 rfl (Weak.refl _)
              | some d =>
                have e : findR s t.name = (d, true) := by rw [findR, hfo]
                rw [e] at hf hin hhas
                simp only at hf hin hhas ⊢
                rw [hsf]
                by_cases k4 : d.kind = 4
                · have q4 : (d.kind == 4) = true := by rw [k4]; rfl
                  rw [if_pos k4]
                  repeat' first
                    | refine .br ?_
                    | refine .seq ?_ | refine .rg ?_ | refine .rd ?_ | refine .block ?_ | refine .scope ?_ | refine .skip ?_ | refine .label ?_ | refine .exit ?_ | refine .ret ?_
                    | refine .ct ?_ | refine .cf ?_ | refine .cy ?_ | refine .cn ?_ | (refine .cond rfl ?_ ?_ <;> intro hc)
                    | refine A.nil_seq ?_ | refine .nl ?_ | refine .dd ?_ | refine .ys ?_ | refine .no ?_ | (refine A.guard rfl ?_ ?_ <;> intro hc)
                    | refine .lb ?_ | refine .ln ?_ | refine .ls ?_ | refine .pv ?_ | refine .ix ?_ | refine .pt ?_ | refine .pf ?_ | refine .bx ?_ | refine .al ?_ | refine .st ?_ | refine .ad ?_ | refine .sb ?_ | refine .mf ?_ | refine .cl ?_ | refine .cw ?_ | refine .ck ?_ | fail
                  all_goals
                    refine Fin.ret1 rfl (Weak.eq (congrArg AV.bool ?_))
                    simp_all
                · have q4 : (d.kind == 4) = false := by simp [k4]
                  rw [if_neg k4]
                  by_cases k5 : d.kind = 5
                  · have q5 : (d.kind == 5) = true := by rw [k5]; rfl
                    rw [if_pos k5]
                    repeat' first
                      | refine .br ?_
                      | refine .seq ?_ | refine .rg ?_ | refine .rd ?_ | refine .block ?_ | refine .scope ?_ | refine .skip ?_ | refine .label ?_ | refine .exit ?_ | refine .ret ?_
                      | refine .ct ?_ | refine .cf ?_ | refine .cy ?_ | refine .cn ?_ | (refine .cond rfl ?_ ?_ <;> intro hc)
                      | refine A.nil_seq ?_ | refine .nl ?_ | refine .dd ?_ | refine .ys ?_ | refine .no ?_ | (refine A.guard rfl ?_ ?_ <;> intro hc)
                      | refine .lb ?_ | refine .ln ?_ | refine .ls ?_ | refine .pv ?_ | refine .ix ?_ | refine .pt ?_ | refine .pf ?_ | refine .bx ?_ | refine .al ?_ | refine .st ?_ | refine .ad ?_ | refine .sb ?_ | refine .mf ?_ | refine .cl ?_ | refine .cw ?_ | refine .ck ?_ | fail
                    all_goals
                      refine Fin.ret1 rfl (Weak.eq (congrArg AV.bool ?_))
                      simp_all
                  · have q5 : (d.kind == 5) = false := by simp [k5]
                    rw [if_neg k5, ite_self]
                    repeat' first
                      | refine .br ?_
                      | refine .seq ?_ | refine .rg ?_ | refine .rd ?_ | refine .block ?_ | refine .scope ?_ | refine .skip ?_ | refine .label ?_ | refine .exit ?_ | refine .ret ?_
                      | refine .ct ?_ | refine .cf ?_ | refine .cy ?_ | refine .cn ?_ | (refine .cond rfl ?_ ?_ <;> intro hc)
                      | refine A.nil_seq ?_ | refine .nl ?_ | refine .dd ?_ | refine .ys ?_ | refine .no ?_ | (refine A.guard rfl ?_ ?_ <;> intro hc)
                      | refine .lb ?_ | refine .ln ?_ | refine .ls ?_ | refine .pv ?_ | refine .ix ?_ | refine .pt ?_ | refine .pf ?_ | refine .bx ?_ | refine .al ?_ | refine .st ?_ | refine .ad ?_ | refine .sb ?_ | refine .mf ?_ | refine .cl ?_ | refine .cw ?_ | refine .ck ?_ | fail
                    exact Fin.ret1 rfl (Weak.refl _)
    | succ j ihj =>
      intro t hj ht w
      have hr := rRightType t (by omega)
      have hit := rItem t (by omega)
      have hl0 : t.lists ≠ 0 := by omega
      have hdown := ihj (itemT t) (by show (t.lists - 1).toNat = j; omega) ht false
      unfold itemR at hit
      refine AFn.plain rfl (by simp [AV.closed, AV.closedL, Sch.closed, Val.closed, Typ.closed]) (AFn.enter [8] Tryz.func27 rfl rfl rfl rfl rfl (by decide) ?_)
      cases c : rightT t with
      | false =>
        rw [c] at hr
        rw [fitsV_wrong c]
        repeat' first
          | refine .br ?_
          | refine .seq ?_ | refine .rg ?_ | refine .rd ?_ | refine .block ?_ | refine .scope ?_ | refine .skip ?_ | refine .label ?_ | refine .exit ?_ | refine .ret ?_
          | refine .ct ?_ | refine .cf ?_ | refine .cy ?_ | refine .cn ?_ | (refine .cond rfl ?_ ?_ <;> intro hc)
          | refine A.nil_seq ?_ | refine .nl ?_ | refine .dd ?_ | refine .ys ?_ | refine .no ?_ | (refine A.guard rfl ?_ ?_ <;> intro hc)
          | refine .lb ?_ | refine .ln ?_ | refine .ls ?_ | refine .pv ?_ | refine .ix ?_ | refine .pt ?_ | refine .pf ?_ | refine .bx ?_ | refine .al ?_ | refine .st ?_ | refine .ad ?_ | refine .sb ?_ | refine .mf ?_ | refine .cl ?_ | refine .cw ?_ | refine .ck ?_ | fail
        exact Fin.ret1 rfl (Weak.refl _)
      | true =>
        rw [c] at hr
        rw [if_pos ⟨c, hl0⟩] at hit
        by_cases k8 : v.kind = 8
        · have q8 : (v.kind == 8) = true := by simp [k8]
          rw [fitsV_eq, if_pos k8, c]
          repeat' first
            | refine .br ?_
            | refine .seq ?_ | refine .rg ?_ | refine .rd ?_ | refine .block ?_ | refine .scope ?_ | refine .skip ?_ | refine .label ?_ | refine .exit ?_ | refine .ret ?_
            | refine .ct ?_ | refine .cf ?_ | refine .cy ?_ | refine .cn ?_ | (refine .cond rfl ?_ ?_ <;> intro hc)
            | refine A.nil_seq ?_ | refine .nl ?_ | refine .dd ?_ | refine .ys ?_ | refine .no ?_ | (refine A.guard rfl ?_ ?_ <;> intro hc)
            | refine .lb ?_ | refine .ln ?_ | refine .ls ?_ | refine .pv ?_ | refine .ix ?_ | refine .pt ?_ | refine .pf ?_ | refine .bx ?_ | refine .al ?_ | refine .st ?_ | refine .ad ?_ | refine .sb ?_ | refine .mf ?_ | refine .cl ?_ | refine .cw ?_ | refine .ck ?_ | fail
          exact Fin.ret1 rfl (Weak.refl _)
        · have q8 : (v.kind == 8) = false := by simp [k8]
          by_cases k0 : v.kind = 0
          · have q0 : (v.kind == 0) = true := by simp [k0]
            have h0 := (rightT_iff.1 c).2.2.2.1
            have h5 := musts_lt c
            rw [fits_null k0]
            repeat' first
              | refine .br ?_
              | refine .seq ?_ | refine .rg ?_ | refine .rd ?_ | refine .block ?_ | refine .scope ?_ | refine .skip ?_ | refine .label ?_ | refine .exit ?_ | refine .ret ?_
              | refine .ct ?_ | refine .cf ?_ | refine .cy ?_ | refine .cn ?_ | (refine .cond rfl ?_ ?_ <;> intro hc)
              | refine A.nil_seq ?_ | refine .nl ?_ | refine .dd ?_ | refine .ys ?_ | refine .no ?_ | (refine A.guard rfl ?_ ?_ <;> intro hc)
              | refine .lb ?_ | refine .ln ?_ | refine .ls ?_ | refine .pv ?_ | refine .ix ?_ | refine .pt ?_ | refine .pf ?_ | refine .bx ?_ | refine .al ?_ | refine .st ?_ | refine .ad ?_ | refine .sb ?_ | refine .mf ?_ | refine .cl ?_ | refine .cw ?_ | refine .ck ?_
              | refine A.band (m := t.musts.toNat) (n := 1) rfl rfl (by omega) rfl (by omega) (by decide) (and1 _) ?_ | fail
            refine Fin.ret1 rfl (Weak.eq (congrArg AV.bool ?_))
            unfold isT; rw [c, Bool.true_and, Bool.true_and, Bool.eq_iff_iff, beq_iff_eq, Bool.not_eq_true', decide_eq_false_iff_not]; omega
          · have q0 : (v.kind == 0) = false := by simp [k0]
            by_cases k6 : v.kind = 6
            · have q6 : (v.kind != 6) = false := by simp [k6]
              rw [fitsV_list k6 c hl0]
              repeat' first
                | refine .br ?_
                | refine .seq ?_ | refine .rg ?_ | refine .rd ?_ | refine .block ?_ | refine .scope ?_ | refine .skip ?_ | refine .label ?_ | refine .exit ?_ | refine .ret ?_
                | refine .ct ?_ | refine .cf ?_ | refine .cy ?_ | refine .cn ?_ | (refine .cond rfl ?_ ?_ <;> intro hc)
                | refine A.nil_seq ?_ | refine .nl ?_ | refine .dd ?_ | refine .ys ?_ | refine .no ?_ | (refine A.guard rfl ?_ ?_ <;> intro hc)
                | refine .lb ?_ | refine .ln ?_ | refine .ls ?_ | refine .pv ?_ | refine .ix ?_ | refine .pt ?_ | refine .pf ?_ | refine .bx ?_ | refine .al ?_ | refine .st ?_ | refine .ad ?_ | refine .sb ?_ | refine .mf ?_ | refine .cl ?_ | refine .cw ?_ | refine .ck ?_ | fail
              refine HCode.forK v.l.length (fun k => [(11, .int .i64 k), (6, .rptr v.enc), (4, .rptr s.enc), (9, .ptr 0 0)])
                (fun _ => ⟨[.cells [.str t.name, .int .i64 (t.lists - 1), .int .i64 (t.musts / 2)]], []⟩) (fun k => fitsL s v.l (itemT t) = fitsL s (v.l.drop k) (itemT t)) ⟨rfl, rfl, rfl, rfl, trivial⟩ rfl rfl fun k hk hp => ?_
              by_cases h1 : k < v.l.length
              · have d1 : decide ((k : Int) < (v.lv.length : Int)) = true := by rw [v.lv_len]; simp [h1]
                have x1 := Val.lv_get h1
                have hc1 := ih v.l[k] (by have := Val.size_l h1; omega) _ (itemT t) rfl ht true
                have hd := fitsL_drop (s := s) (t := itemT t) h1
                repeat' first
                  | refine .seq ?_ | refine .rg ?_ | refine .rd ?_ | refine .block ?_ | refine .scope ?_ | refine .skip ?_ | refine .label ?_ | refine .exit ?_ | refine .ret ?_
                  | refine .ct ?_ | refine .cf ?_ | refine .cy ?_ | refine .cn ?_ | (refine .cond rfl ?_ ?_ <;> intro hc)
                  | refine A.nil_seq ?_ | refine .nl ?_ | refine .dd ?_ | refine .ys ?_ | refine .no ?_ | (refine A.guard rfl ?_ ?_ <;> intro hc)
                  | refine .lb ?_ | refine .ln ?_ | refine .ls ?_ | refine .pv ?_ | refine .ix ?_ | refine .pt ?_ | refine .pf ?_ | refine .bx ?_ | refine .al ?_ | refine .st ?_ | refine .ad ?_ | refine .sb ?_ | refine .mf ?_ | refine .cl ?_ | refine .cw ?_ | refine .ck ?_ | fail
                all_goals first
                  | (refine Fin.ret1 rfl (Weak.eq (congrArg AV.bool ?_)); rw [hp, hd]; simp_all; done)
                  | (exact ⟨h1, ⟨rfl, rfl, rfl, rfl, trivial⟩, by simp [belowS, AV.low], rfl, rfl, by rw [hp, hd]; simp_all⟩)
              · have d1 : decide ((k : Int) < (v.lv.length : Int)) = false := by rw [v.lv_len]; simp; omega
                repeat' first
                  | refine .seq ?_ | refine .rg ?_ | refine .rd ?_ | refine .block ?_ | refine .scope ?_ | refine .skip ?_ | refine .label ?_ | refine .exit ?_ | refine .ret ?_
                  | refine .ct ?_ | refine .cf ?_ | refine .cy ?_ | refine .cn ?_ | (refine .cond rfl ?_ ?_ <;> intro hc)
                  | refine A.nil_seq ?_ | refine .nl ?_ | refine .dd ?_ | refine .ys ?_ | refine .no ?_ | (refine A.guard rfl ?_ ?_ <;> intro hc)
                  | refine .lb ?_ | refine .ln ?_ | refine .ls ?_ | refine .pv ?_ | refine .ix ?_ | refine .pt ?_ | refine .pf ?_ | refine .bx ?_ | refine .al ?_ | refine .st ?_ | refine .ad ?_ | refine .sb ?_ | refine .mf ?_ | refine .cl ?_ | refine .cw ?_ | refine .ck ?_ | fail
                refine Fin.ret1 rfl (Weak.eq (congrArg AV.bool ?_))
                rw [hp, List.drop_eq_nil_of_le (by omega), fitsL]
            · have q6 : (v.kind != 6) = true := by simp [k6]
              rw [fitsV_down k8 k0 k6 c hl0]
              cases w with
              | true =>
                repeat' first
                  | refine .br ?_
                  | refine .seq ?_ | refine .rg ?_ | refine .rd ?_ | refine .block ?_ | refine .scope ?_ | refine .skip ?_ | refine .label ?_ | refine .exit ?_ | refine .ret ?_
                  | refine .ct ?_ | refine .cf ?_ | refine .cy ?_ | refine .cn ?_ | (refine .cond rfl ?_ ?_ <;> intro hc)
                  | refine A.nil_seq ?_ | refine .nl ?_ | refine .dd ?_ | refine .ys ?_ | refine .no ?_ | (refine A.guard rfl ?_ ?_ <;> intro hc)
                  | refine .lb ?_ | refine .ln ?_ | refine .ls ?_ | refine .pv ?_ | refine .ix ?_ | refine .pt ?_ | refine .pf ?_ | refine .bx ?_ | refine .al ?_ | refine .st ?_ | refine .ad ?_ | refine .sb ?_ | refine .mf ?_ | refine .cl ?_ | refine .cw ?_ | refine .ck ?_ | fail
                exact Fin.ret1 rfl (Weak.refl _)
              | false =>
                repeat' first
                  | refine .br ?_
                  | refine .seq ?_ | refine .rg ?_ | refine .rd ?_ | refine .block ?_ | refine .scope ?_ | refine .skip ?_ | refine .label ?_ | refine .exit ?_ | refine .ret ?_
                  | refine .ct ?_ | refine .cf ?_ | refine .cy ?_ | refine .cn ?_ | (refine .cond rfl ?_ ?_ <;> intro hc)
                  | refine A.nil_seq ?_ | refine .nl ?_ | refine .dd ?_ | refine .ys ?_ | refine .no ?_ | (refine A.guard rfl ?_ ?_ <;> intro hc)
                  | refine .lb ?_ | refine .ln ?_ | refine .ls ?_ | refine .pv ?_ | refine .ix ?_ | refine .pt ?_ | refine .pf ?_ | refine .bx ?_ | refine .al ?_ | refine .st ?_ | refine .ad ?_ | refine .sb ?_ | refine .mf ?_ | refine .cl ?_ | refine .cw ?_ | refine .ck ?_ | fail
                exact Fin.ret1 rfl (Weak.refl _)
theorem rRight9 (s : Sch) (t : Typ) (v : Val) (hs : s.size ≤ 1048576) (ht : t.name.length ≤ 2097152) (hv : v.size ≤ 1048576) : PFn Tryz.prog 7 [s.enc, t.enc, v.enc] (.bool (litR s t v)) := by
  have hr := rRightType t (by omega)
  have hg := rGoodValue 1048576 (Nat.le_refl _) v hv
  have hf := rright9 s hs 1048576 (Nat.le_refl _) v hv _ t rfl ht false
  refine AFn.plain rfl (by simp [AV.closed, AV.closedL, Sch.closed, Val.closed, Typ.closed]) (AFn.enter [6] Tryz.func7 rfl rfl rfl rfl rfl (by decide) ?_)
  unfold litR
  cases c : rightT t with
  | false =>
    rw [c] at hr
    rw [fitsV_wrong c, Bool.and_false]
    repeat' first
      | refine .br ?_
      | refine .seq ?_ | refine .rg ?_ | refine .rd ?_ | refine .block ?_ | refine .scope ?_ | refine .skip ?_ | refine .label ?_ | refine .exit ?_ | refine .ret ?_
      | refine .ct ?_ | refine .cf ?_ | refine .cy ?_ | refine .cn ?_ | (refine .cond rfl ?_ ?_ <;> intro hc)
      | refine A.nil_seq ?_ | refine .nl ?_ | refine .dd ?_ | refine .ys ?_ | refine .no ?_ | (refine A.guard rfl ?_ ?_ <;> intro hc)
      | refine .lb ?_ | refine .ln ?_ | refine .ls ?_ | refine .pv ?_ | refine .ix ?_ | refine .pt ?_ | refine .pf ?_ | refine .bx ?_ | refine .al ?_ | refine .st ?_ | refine .ad ?_ | refine .sb ?_ | refine .mf ?_ | refine .cl ?_ | refine .cw ?_ | refine .ck ?_ | fail
    all_goals exact Fin.ret1 rfl (Weak.refl _)
  | true =>
    rw [c] at hr
    repeat' first
      | refine .br ?_
      | refine .seq ?_ | refine .rg ?_ | refine .rd ?_ | refine .block ?_ | refine .scope ?_ | refine .skip ?_ | refine .label ?_ | refine .exit ?_ | refine .ret ?_
      | refine .ct ?_ | refine .cf ?_ | refine .cy ?_ | refine .cn ?_ | (refine .cond rfl ?_ ?_ <;> intro hc)
      | refine A.nil_seq ?_ | refine .nl ?_ | refine .dd ?_ | refine .ys ?_ | refine .no ?_ | (refine A.guard rfl ?_ ?_ <;> intro hc)
      | refine .lb ?_ | refine .ln ?_ | refine .ls ?_ | refine .pv ?_ | refine .ix ?_ | refine .pt ?_ | refine .pf ?_ | refine .bx ?_ | refine .al ?_ | refine .st ?_ | refine .ad ?_ | refine .sb ?_ | refine .mf ?_ | refine .cl ?_ | refine .cw ?_ | refine .ck ?_ | fail
    all_goals
      refine Fin.ret1 rfl (Weak.eq (congrArg AV.bool ?_))
      simp_all
end Go.Proofs.YtijlmchfepjjkaaGreatDoor
