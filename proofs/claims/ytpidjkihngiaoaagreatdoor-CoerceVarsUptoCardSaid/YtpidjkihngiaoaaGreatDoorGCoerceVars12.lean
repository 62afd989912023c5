/-
  The package literal: bare, fits, Right.
  The reference: scalar, Find, Param, Get, input, right, Right.
  The reference's coerce: Text, scalar.
-/
import Derived.Test.YtpidjkihngiaoaaGreatDoorGCoerceVars6
import Derived.Test.YtpidjkihngiaoaaGreatDoorGCoerceVars11
import Derived.Test.YtpidjkihngiaoaaGreatDoorGCoerceVars7
import Derived.Test.YtpidjkihngiaoaaGreatDoorGCoerceVars10
namespace Go.Proofs.YtpidjkihngiaoaaGreatDoor
open Go Go.Av
set_option maxRecDepth 100000
set_option maxHeartbeats 16000000
set_option linter.unusedVariables false
set_option linter.unusedSimpArgs false
attribute [local irreducible] HCode AOps PFn AFn Av.Step TStep

theorem lBare (s : Sch) (name : Str) (v : Val) (hs : s.size ≤ 2097152) (hv : v.size ≤ 2097152)
    (ih : ∀ x ∈ v.m, ∀ t : Typ, t.name.length ≤ 2097152 → PFn Tryz.prog 74 [s.enc, t.enc, x.v.enc, .bool false] (.bool (fitsV s x.v t false))) :
    PFn Tryz.prog 133 [s.enc, .str name, v.enc] (.bool (bareV s name v)) := by
  have hf := dFind s name hs
  have hsz := findR_size (name := name) hs
  have hin := lInput s (findR s name).1.params v hs hsz.1 hsz.2.2.2.2 hv ih
  have hct := sContainsStr (findR s name).1.parts v.s (by omega)
  refine AFn.plain rfl (by simp [AV.closed, AV.closedL, Sch.closed, Val.closed]) (AFn.enter [6] Tryz.func133 rfl rfl rfl rfl rfl (by decide) ?_)
  unfold bareV bareB
  unfold inputB at hin
  cases hfo : findO s name with
  | none =>
    have e : findR s name = (zeroD, false) := by rw [findR, hfo]
    rw [e] at hf
    repeat' first
      | refine .br ?_
      | refine .seq ?_ | refine .rg ?_ | refine .rd ?_ | refine .block ?_ | refine .scope ?_ | refine .skip ?_ | refine .label ?_ | refine .exit ?_ | refine .ret ?_
      | refine .ct ?_ | refine .cf ?_ | refine .cy ?_ | refine .cn ?_ | (refine .cond rfl ?_ ?_ <;> intro hc)
      | refine A.nil_seq ?_ | refine .nl ?_ | refine .dd ?_ | refine .ys ?_ | refine .no ?_ | (refine A.guard rfl ?_ ?_ <;> intro hc)
      | refine .lb ?_ | refine .ln ?_ | refine .ls ?_ | refine .pv ?_ | refine .ix ?_ | refine .pt ?_ | refine .pf ?_ | refine .bx ?_ | refine .al ?_ | refine .st ?_ | refine .ad ?_ | refine .sb ?_ | refine .mf ?_ | refine .cl ?_ | refine .cw ?_ | refine .ck ?_ | fail
    exact Fin.ret1 rfl (Weak.refl _)
  | some d =>
    have e : findR s name = (d, true) := by rw [findR, hfo]
    rw [e] at hf hin hct
    simp only at hf hin hct ⊢
    by_cases k4 : d.kind = 4
    · have q4 : (d.kind == 4) = true := by rw [k4]; rfl
      rw [if_pos k4]
      repeat' first
        | refine .br ?_
        | refine .seq ?_ | refine .rg ?_ | refine .rd ?_ | refine .block ?_ | refine .scope ?_ | refine .skip ?_ | refine .label ?_ | refine .exit ?_ | refine .ret ?_
        | refine .ct ?_ | refine .cf ?_ | refine .cy ?_ | refine .cn ?_ | (refine .cond rfl ?_ ?_ <;> intro hc)
        | refine A.nil_seq ?_ | refine .nl ?_ | refine .dd ?_ | refine .ys ?_ | refine .no ?_ | (refine A.guard rfl ?_ ?_ <;> intro hc)
        | refine .lb ?_ | refine .ln ?_ | refine .ls ?_ | refine .pv ?_ | refine .ix ?_ | refine .pt ?_ | refine .pf ?_ | refine .bx ?_ | refine .al ?_ | refine .st ?_ | refine .ad ?_ | refine .sb ?_ | refine .mf ?_ | refine .cl ?_ | refine .cw ?_ | refine .ck ?_ | fail
      all_goals
        refine Fin.ret1 rfl (Weak.eq (congrArg AV.bool ?_))
        simp_all
    · have q4 : (d.kind == 4) = false := by simp [k4]
      rw [if_neg k4]
      by_cases k5 : d.kind = 5
      · have q5 : (d.kind == 5) = true := by rw [k5]; rfl
        rw [if_pos k5]
        repeat' first
          | refine .br ?_
          | refine .seq ?_ | refine .rg ?_ | refine .rd ?_ | refine .block ?_ | refine .scope ?_ | refine .skip ?_ | refine .label ?_ | refine .exit ?_ | refine .ret ?_
          | refine .ct ?_ | refine .cf ?_ | refine .cy ?_ | refine .cn ?_ | (refine .cond rfl ?_ ?_ <;> intro hc)
          | refine A.nil_seq ?_ | refine .nl ?_ | refine .dd ?_ | refine .ys ?_ | refine .no ?_ | (refine A.guard rfl ?_ ?_ <;> intro hc)
          | refine .lb ?_ | refine .ln ?_ | refine .ls ?_ | refine .pv ?_ | refine .ix ?_ | refine .pt ?_ | refine .pf ?_ | refine .bx ?_ | refine .al ?_ | refine .st ?_ | refine .ad ?_ | refine .sb ?_ | refine .mf ?_ | refine .cl ?_ | refine .cw ?_ | refine .ck ?_ | fail
        exact Fin.ret1 rfl (Weak.refl _)
      · have q5 : (d.kind == 5) = false := by simp [k5]
        rw [if_neg k5]
        by_cases k0 : d.kind = 0
        · have q0 : (d.kind != 0) = false := by simp [k0]
          rw [if_pos k0]
          unfold scalFit
          repeat' first
            | refine .br ?_
            | refine .seq ?_ | refine .rg ?_ | refine .rd ?_ | refine .block ?_ | refine .scope ?_ | refine .skip ?_ | refine .label ?_ | refine .exit ?_ | refine .ret ?_
            | refine .ct ?_ | refine .cf ?_ | refine .cy ?_ | refine .cn ?_ | (refine .cond rfl ?_ ?_ <;> intro hc)
            | refine A.nil_seq ?_ | refine .nl ?_ | refine .dd ?_ | refine .ys ?_ | refine .no ?_ | (refine A.guard rfl ?_ ?_ <;> intro hc)
            | refine .lb ?_ | refine .ln ?_ | refine .ls ?_ | refine .pv ?_ | refine .ix ?_ | refine .pt ?_ | refine .pf ?_ | refine .bx ?_ | refine .al ?_ | refine .st ?_ | refine .ad ?_ | refine .sb ?_ | refine .mf ?_ | refine .cl ?_ | refine .cw ?_ | refine .ck ?_ | fail
          all_goals
            refine Fin.ret1 rfl (Weak.eq (congrArg AV.bool ?_))
            simp only [sInt, sString, sBoolean, sID]
            first | (simp_all; done) | (simp_all <;> omega)
        · have q0 : (d.kind != 0) = true := by simp [k0]
          rw [if_neg k0]
          repeat' first
            | refine .br ?_
            | refine .seq ?_ | refine .rg ?_ | refine .rd ?_ | refine .block ?_ | refine .scope ?_ | refine .skip ?_ | refine .label ?_ | refine .exit ?_ | refine .ret ?_
            | refine .ct ?_ | refine .cf ?_ | refine .cy ?_ | refine .cn ?_ | (refine .cond rfl ?_ ?_ <;> intro hc)
            | refine A.nil_seq ?_ | refine .nl ?_ | refine .dd ?_ | refine .ys ?_ | refine .no ?_ | (refine A.guard rfl ?_ ?_ <;> intro hc)
            | refine .lb ?_ | refine .ln ?_ | refine .ls ?_ | refine .pv ?_ | refine .ix ?_ | refine .pt ?_ | refine .pf ?_ | refine .bx ?_ | refine .al ?_ | refine .st ?_ | refine .ad ?_ | refine .sb ?_ | refine .mf ?_ | refine .cl ?_ | refine .cw ?_ | refine .ck ?_ | fail
          exact Fin.ret1 rfl (Weak.refl _)

theorem lFits (s : Sch) (hs : s.size ≤ 2097152) : ∀ N : Nat, N ≤ 2097152 → ∀ v : Val, v.size ≤ N → ∀ j : Nat, ∀ t : Typ, t.lists.toNat = j → t.name.length ≤ 2097152 → ∀ w : Bool,
    PFn Tryz.prog 74 [s.enc, t.enc, v.enc, .bool w] (.bool (fitsV s v t w))
  | 0, _, v, hv => absurd hv (by have := v.size_pos; omega)
  | N + 1, hN, v, hv => by
    have ih := lFits s hs N (by omega)
    have hbare := lBare s
    have hll := v.l_len
    intro j
    induction j with
    | zero =>
      intro t hj ht w
      have hr := wRight t (by omega)
      have his := wIs t (by omega)
      have hit := wItem t (by omega)
      have hb := lBare s t.name v hs (by omega) (fun x hx u hu => ih x.v (by
        obtain ⟨k, hk, rfl⟩ := List.getElem_of_mem hx
        have := Val.size_m hk; omega) _ u rfl hu false)
      refine AFn.plain rfl (by simp [AV.closed, AV.closedL, Sch.closed, Val.closed, Typ.closed]) (AFn.enter [8] Tryz.func74 rfl rfl rfl rfl rfl (by decide) ?_)
      rw [fitsV_eq]
      unfold itemR at hit
      cases c : rightT t with
      | false =>
        rw [c] at hr
        repeat' first
          | refine .br ?_
          | refine .seq ?_ | refine .rg ?_ | refine .rd ?_ | refine .block ?_ | refine .scope ?_ | refine .skip ?_ | refine .label ?_ | refine .exit ?_ | refine .ret ?_
          | refine .ct ?_ | refine .cf ?_ | refine .cy ?_ | refine .cn ?_ | (refine .cond rfl ?_ ?_ <;> intro hc)
          | refine A.nil_seq ?_ | refine .nl ?_ | refine .dd ?_ | refine .ys ?_ | refine .no ?_ | (refine A.guard rfl ?_ ?_ <;> intro hc)
          | refine .lb ?_ | refine .ln ?_ | refine .ls ?_ | refine .pv ?_ | refine .ix ?_ | refine .pt ?_ | refine .pf ?_ | refine .bx ?_ | refine .al ?_ | refine .st ?_ | refine .ad ?_ | refine .sb ?_ | refine .mf ?_ | refine .cl ?_ | refine .cw ?_ | refine .ck ?_ | fail
        all_goals
          refine Fin.ret1 rfl (Weak.eq (congrArg AV.bool ?_))
          simp_all
      | true =>
        have hl0 : t.lists = 0 := by have := (rightT_iff.1 c).2.1; omega
        rw [c] at hr
        rw [if_neg (fun h => h.2 hl0)] at hit
        rw [if_pos hl0]
        repeat' first
          | refine .br ?_
          | refine .seq ?_ | refine .rg ?_ | refine .rd ?_ | refine .block ?_ | refine .scope ?_ | refine .skip ?_ | refine .label ?_ | refine .exit ?_ | refine .ret ?_
          | refine .ct ?_ | refine .cf ?_ | refine .cy ?_ | refine .cn ?_ | (refine .cond rfl ?_ ?_ <;> intro hc)
          | refine A.nil_seq ?_ | refine .nl ?_ | refine .dd ?_ | refine .ys ?_ | refine .no ?_ | (refine A.guard rfl ?_ ?_ <;> intro hc)
          | refine .lb ?_ | refine .ln ?_ | refine .ls ?_ | refine .pv ?_ | refine .ix ?_ | refine .pt ?_ | refine .pf ?_ | refine .bx ?_ | refine .al ?_ | refine .st ?_ | refine .ad ?_ | refine .sb ?_ | refine .mf ?_ | refine .cl ?_ | refine .cw ?_ | refine .ck ?_ | fail
        all_goals
          refine Fin.ret1 rfl (Weak.eq (congrArg AV.bool ?_))
          simp_all
    | succ j ihj =>
      intro t hj ht w
      have hr := wRight t (by omega)
      have his := wIs t (by omega)
      have hit := wItem t (by omega)
      have hl0 : t.lists ≠ 0 := by omega
      have hdown := ihj (itemT t) (by show (t.lists - 1).toNat = j; omega) ht false
      refine AFn.plain rfl (by simp [AV.closed, AV.closedL, Sch.closed, Val.closed, Typ.closed]) (AFn.enter [8] Tryz.func74 rfl rfl rfl rfl rfl (by decide) ?_)
      unfold itemR at hit
      cases c : rightT t with
      | false =>
        rw [c] at hr
        rw [fitsV_eq]
        repeat' first
          | refine .br ?_
          | refine .seq ?_ | refine .rg ?_ | refine .rd ?_ | refine .block ?_ | refine .scope ?_ | refine .skip ?_ | refine .label ?_ | refine .exit ?_ | refine .ret ?_
          | refine .ct ?_ | refine .cf ?_ | refine .cy ?_ | refine .cn ?_ | (refine .cond rfl ?_ ?_ <;> intro hc)
          | refine A.nil_seq ?_ | refine .nl ?_ | refine .dd ?_ | refine .ys ?_ | refine .no ?_ | (refine A.guard rfl ?_ ?_ <;> intro hc)
          | refine .lb ?_ | refine .ln ?_ | refine .ls ?_ | refine .pv ?_ | refine .ix ?_ | refine .pt ?_ | refine .pf ?_ | refine .bx ?_ | refine .al ?_ | refine .st ?_ | refine .ad ?_ | refine .sb ?_ | refine .mf ?_ | refine .cl ?_ | refine .cw ?_ | refine .ck ?_ | fail
        all_goals
          refine Fin.ret1 rfl (Weak.eq (congrArg AV.bool ?_))
          simp_all
      | true =>
        rw [c] at hr
        rw [if_pos ⟨c, hl0⟩] at hit
        by_cases k8 : v.kind = 8
        · have q8 : (v.kind == 8) = true := by simp [k8]
          rw [fitsV_eq, if_pos k8]
          repeat' first
            | refine .br ?_
            | refine .seq ?_ | refine .rg ?_ | refine .rd ?_ | refine .block ?_ | refine .scope ?_ | refine .skip ?_ | refine .label ?_ | refine .exit ?_ | refine .ret ?_
            | refine .ct ?_ | refine .cf ?_ | refine .cy ?_ | refine .cn ?_ | (refine .cond rfl ?_ ?_ <;> intro hc)
            | refine A.nil_seq ?_ | refine .nl ?_ | refine .dd ?_ | refine .ys ?_ | refine .no ?_ | (refine A.guard rfl ?_ ?_ <;> intro hc)
            | refine .lb ?_ | refine .ln ?_ | refine .ls ?_ | refine .pv ?_ | refine .ix ?_ | refine .pt ?_ | refine .pf ?_ | refine .bx ?_ | refine .al ?_ | refine .st ?_ | refine .ad ?_ | refine .sb ?_ | refine .mf ?_ | refine .cl ?_ | refine .cw ?_ | refine .ck ?_ | fail
          exact Fin.ret1 rfl (Weak.eq (congrArg AV.bool c.symm))
        · have q8 : (v.kind == 8) = false := by simp [k8]
          by_cases k0 : v.kind = 0
          · have q0 : (v.kind == 0) = true := by simp [k0]
            rw [fits_null k0]
            repeat' first
              | refine .br ?_
              | refine .seq ?_ | refine .rg ?_ | refine .rd ?_ | refine .block ?_ | refine .scope ?_ | refine .skip ?_ | refine .label ?_ | refine .exit ?_ | refine .ret ?_
              | refine .ct ?_ | refine .cf ?_ | refine .cy ?_ | refine .cn ?_ | (refine .cond rfl ?_ ?_ <;> intro hc)
              | refine A.nil_seq ?_ | refine .nl ?_ | refine .dd ?_ | refine .ys ?_ | refine .no ?_ | (refine A.guard rfl ?_ ?_ <;> intro hc)
              | refine .lb ?_ | refine .ln ?_ | refine .ls ?_ | refine .pv ?_ | refine .ix ?_ | refine .pt ?_ | refine .pf ?_ | refine .bx ?_ | refine .al ?_ | refine .st ?_ | refine .ad ?_ | refine .sb ?_ | refine .mf ?_ | refine .cl ?_ | refine .cw ?_ | refine .ck ?_ | fail
            all_goals
              refine Fin.ret1 rfl (Weak.eq (congrArg AV.bool ?_))
              simp_all
          · have q0 : (v.kind == 0) = false := by simp [k0]
            by_cases k6 : v.kind = 6
            · have q6 : (v.kind != 6) = false := by simp [k6]
              rw [fitsV_list k6 c hl0]
              repeat' first
                | refine .br ?_
                | refine .seq ?_ | refine .rg ?_ | refine .rd ?_ | refine .block ?_ | refine .scope ?_ | refine .skip ?_ | refine .label ?_ | refine .exit ?_ | refine .ret ?_
                | refine .ct ?_ | refine .cf ?_ | refine .cy ?_ | refine .cn ?_ | (refine .cond rfl ?_ ?_ <;> intro hc)
                | refine A.nil_seq ?_ | refine .nl ?_ | refine .dd ?_ | refine .ys ?_ | refine .no ?_ | (refine A.guard rfl ?_ ?_ <;> intro hc)
                | refine .lb ?_ | refine .ln ?_ | refine .ls ?_ | refine .pv ?_ | refine .ix ?_ | refine .pt ?_ | refine .pf ?_ | refine .bx ?_ | refine .al ?_ | refine .st ?_ | refine .ad ?_ | refine .sb ?_ | refine .mf ?_ | refine .cl ?_ | refine .cw ?_ | refine .ck ?_ | fail
              refine HCode.forK v.l.length (fun k => [(59, .int .i64 k), (58, .int .i64 v.lv.length), (57, .slice v.lv .no), (4, .rptr s.enc), (9, .ptr 0 0)])
                (fun _ => ⟨[.cells [.str t.name, .int .i64 (t.lists - 1), .int .i64 (t.musts / 2)]], []⟩) (fun k => fitsL s v.l (itemT t) = fitsL s (v.l.drop k) (itemT t)) ⟨rfl, rfl, rfl, rfl, rfl, trivial⟩ rfl rfl fun k hk hp => ?_
              by_cases h1 : k < v.l.length
              · have d1 : decide ((k : Int) < (v.lv.length : Int)) = true := by rw [v.lv_len]; simp [h1]
                have x1 := Val.lv_get h1
                have hc1 := ih v.l[k] (by have := Val.size_l h1; omega) _ (itemT t) rfl ht true
                have hd := fitsL_drop (s := s) (t := itemT t) h1
                repeat' first
                  | refine .seq ?_ | refine .rg ?_ | refine .rd ?_ | refine .block ?_ | refine .scope ?_ | refine .skip ?_ | refine .label ?_ | refine .exit ?_ | refine .ret ?_
                  | refine .ct ?_ | refine .cf ?_ | refine .cy ?_ | refine .cn ?_ | (refine .cond rfl ?_ ?_ <;> intro hc)
                  | refine A.nil_seq ?_ | refine .nl ?_ | refine .dd ?_ | refine .ys ?_ | refine .no ?_ | (refine A.guard rfl ?_ ?_ <;> intro hc)
                  | refine .lb ?_ | refine .ln ?_ | refine .ls ?_ | refine .pv ?_ | refine .ix ?_ | refine .pt ?_ | refine .pf ?_ | refine .bx ?_ | refine .al ?_ | refine .st ?_ | refine .ad ?_ | refine .sb ?_ | refine .mf ?_ | refine .cl ?_ | refine .cw ?_ | refine .ck ?_ | fail
                all_goals first
                  | (refine Fin.ret1 rfl (Weak.eq (congrArg AV.bool ?_)); rw [hp, hd]; simp_all; done)
                  | (exact ⟨h1, ⟨rfl, rfl, rfl, rfl, rfl, trivial⟩, by simp [belowS, AV.low], rfl, rfl, by rw [hp, hd]; simp_all⟩)
              · have d1 : decide ((k : Int) < (v.lv.length : Int)) = false := by rw [v.lv_len]; simp; omega
                repeat' first
                  | refine .seq ?_ | refine .rg ?_ | refine .rd ?_ | refine .block ?_ | refine .scope ?_ | refine .skip ?_ | refine .label ?_ | refine .exit ?_ | refine .ret ?_
                  | refine .ct ?_ | refine .cf ?_ | refine .cy ?_ | refine .cn ?_ | (refine .cond rfl ?_ ?_ <;> intro hc)
                  | refine A.nil_seq ?_ | refine .nl ?_ | refine .dd ?_ | refine .ys ?_ | refine .no ?_ | (refine A.guard rfl ?_ ?_ <;> intro hc)
                  | refine .lb ?_ | refine .ln ?_ | refine .ls ?_ | refine .pv ?_ | refine .ix ?_ | refine .pt ?_ | refine .pf ?_ | refine .bx ?_ | refine .al ?_ | refine .st ?_ | refine .ad ?_ | refine .sb ?_ | refine .mf ?_ | refine .cl ?_ | refine .cw ?_ | refine .ck ?_ | fail
                refine Fin.ret1 rfl (Weak.eq (congrArg AV.bool ?_))
                rw [hp, List.drop_eq_nil_of_le (by omega), fitsL]
            · have q6 : (v.kind != 6) = true := by simp [k6]
              rw [fitsV_down k8 k0 k6 c hl0]
              repeat' first
                | refine .br ?_
                | refine .seq ?_ | refine .rg ?_ | refine .rd ?_ | refine .block ?_ | refine .scope ?_ | refine .skip ?_ | refine .label ?_ | refine .exit ?_ | refine .ret ?_
                | refine .ct ?_ | refine .cf ?_ | refine .cy ?_ | refine .cn ?_ | (refine .cond rfl ?_ ?_ <;> intro hc)
                | refine A.nil_seq ?_ | refine .nl ?_ | refine .dd ?_ | refine .ys ?_ | refine .no ?_ | (refine A.guard rfl ?_ ?_ <;> intro hc)
                | refine .lb ?_ | refine .ln ?_ | refine .ls ?_ | refine .pv ?_ | refine .ix ?_ | refine .pt ?_ | refine .pf ?_ | refine .bx ?_ | refine .al ?_ | refine .st ?_ | refine .ad ?_ | refine .sb ?_ | refine .mf ?_ | refine .cl ?_ | refine .cw ?_ | refine .ck ?_ | fail
              all_goals
                refine Fin.ret1 rfl (Weak.eq (congrArg AV.bool ?_))
                simp_all
theorem lRight (s : Sch) (t : Typ) (v : Val) (hs : s.size ≤ 2097152) (ht : t.name.length ≤ 2097152) (hv : v.size ≤ 2097152) : PFn Tryz.prog 36 [s.enc, t.enc, v.enc] (.bool (litR s t v)) := by
  have hg := vGood v hv
  have hf := lFits s hs 2097152 (Nat.le_refl _) v hv _ t rfl ht false
  refine AFn.plain rfl (by simp [AV.closed, AV.closedL, Sch.closed, Val.closed, Typ.closed]) (AFn.enter [6] Tryz.func36 rfl rfl rfl rfl rfl (by decide) ?_)
  unfold litR
  repeat' first
    | refine .br ?_
    | refine .seq ?_ | refine .rg ?_ | refine .rd ?_ | refine .block ?_ | refine .scope ?_ | refine .skip ?_ | refine .label ?_ | refine .exit ?_ | refine .ret ?_
    | refine .ct ?_ | refine .cf ?_ | refine .cy ?_ | refine .cn ?_ | (refine .cond rfl ?_ ?_ <;> intro hc)
    | refine A.nil_seq ?_ | refine .nl ?_ | refine .dd ?_ | refine .ys ?_ | refine .no ?_ | (refine A.guard rfl ?_ ?_ <;> intro hc)
    | refine .lb ?_ | refine .ln ?_ | refine .ls ?_ | refine .pv ?_ | refine .ix ?_ | refine .pt ?_ | refine .pf ?_ | refine .bx ?_ | refine .al ?_ | refine .st ?_ | refine .ad ?_ | refine .sb ?_ | refine .mf ?_ | refine .cl ?_ | refine .cw ?_ | refine .ck ?_ | fail
  all_goals
    refine Fin.ret1 rfl (Weak.eq (congrArg AV.bool ?_))
    simp_all
end Go.Proofs.YtpidjkihngiaoaaGreatDoor
namespace Go.Proofs.YtpidjkihngiaoaaGreatDoor
open Go Go.Av
set_option maxRecDepth 100000
set_option maxHeartbeats 16000000
set_option linter.unusedVariables false
set_option linter.unusedSimpArgs false
attribute [local irreducible] HCode AOps PFn AFn Av.Step TStep

theorem rScalar9 (n : Str) : PFn Tryz.prog 152 [.str n] (.bool (scalarB n)) := by
  refine AFn.plain rfl rfl (AFn.enter [2] Tryz.func152 rfl rfl rfl rfl rfl (by decide) ?_)
  repeat' first
    | refine .seq ?_ | refine .rg ?_ | refine .rd ?_ | refine .block ?_ | refine .scope ?_ | refine .skip ?_ | refine .label ?_ | refine .exit ?_ | refine .ret ?_
    | refine .ct ?_ | refine .cf ?_ | refine .cy ?_ | refine .cn ?_ | (refine .cond rfl ?_ ?_ <;> intro hc)
    | refine A.nil_seq ?_ | refine .nl ?_ | refine .dd ?_ | refine .ys ?_ | refine .no ?_ | (refine A.guard rfl ?_ ?_ <;> intro hc)
    | refine .lb ?_ | refine .ln ?_ | refine .ls ?_ | refine .pv ?_ | refine .ix ?_ | refine .pt ?_ | refine .pf ?_ | refine .bx ?_ | refine .al ?_ | refine .st ?_ | refine .ad ?_ | refine .sb ?_ | refine .mf ?_ | refine .cl ?_ | refine .cw ?_ | refine .ck ?_ | fail
  all_goals
    refine Fin.ret1 rfl (Weak.eq (congrArg AV.bool ?_))
    unfold scalarB sInt sString sBoolean sID
    simp_all
theorem rFind9 (s : Sch) (name : Str) (hs : s.size ≤ 1048576) : PFn Tryz.prog 100 [s.enc, .str name] (.tup [(findR s name).1.enc, .bool (findR s name).2]) := by
  have hsc := rScalar9 name
  have hl := s.len
  refine AFn.plain (by simp [AV.closed, AV.closedL, Dfn.closed]) (by simp [AV.closed, AV.closedL, Sch.closed]) (AFn.enterR [.cell 4 66, .tmp 5] Tryz.func100 rfl rfl rfl rfl rfl ?_)
  cases c : scalarB name with
  | true =>
    rw [c] at hsc
    repeat' first
      | refine .br ?_
      | refine .seq ?_ | refine .rg ?_ | refine .rd ?_ | refine .block ?_ | refine .scope ?_ | refine .skip ?_ | refine .label ?_ | refine .exit ?_ | refine .ret ?_
      | refine .ct ?_ | refine .cf ?_ | refine .cy ?_ | refine .cn ?_ | (refine .cond rfl ?_ ?_ <;> intro hc)
      | refine A.nil_seq ?_ | refine .nl ?_ | refine .dd ?_ | refine .ys ?_ | refine .no ?_ | (refine A.guard rfl ?_ ?_ <;> intro hc)
      | refine .lb ?_ | refine .ln ?_ | refine .ls ?_ | refine .pv ?_ | refine .ix ?_ | refine .pt ?_ | refine .pf ?_ | refine .bx ?_ | refine .al ?_ | refine .st ?_ | refine .ad ?_ | refine .sb ?_ | refine .mf ?_ | refine .cl ?_ | refine .cw ?_ | refine .ck ?_ | fail
    refine FinR.ret1 rfl ?_
    rw [findR, findO, if_pos c]
    exact Weak.tup (WeakL.cons weak_dfn (WeakL.refl _))
  | false =>
    rw [c] at hsc
    repeat' first
      | refine .br ?_
      | refine .seq ?_ | refine .rg ?_ | refine .rd ?_ | refine .block ?_ | refine .scope ?_ | refine .skip ?_ | refine .label ?_ | refine .exit ?_ | refine .ret ?_
      | refine .ct ?_ | refine .cf ?_ | refine .cy ?_ | refine .cn ?_ | (refine .cond rfl ?_ ?_ <;> intro hc)
      | refine A.nil_seq ?_ | refine .nl ?_ | refine .dd ?_ | refine .ys ?_ | refine .no ?_ | (refine A.guard rfl ?_ ?_ <;> intro hc)
      | refine .lb ?_ | refine .ln ?_ | refine .ls ?_ | refine .pv ?_ | refine .ix ?_ | refine .pt ?_ | refine .pf ?_ | refine .bx ?_ | refine .al ?_ | refine .st ?_ | refine .ad ?_ | refine .sb ?_ | refine .mf ?_ | refine .cl ?_ | refine .cw ?_ | refine .ck ?_ | fail
    refine HCode.forK s.defs.length (fun k => [(6, .int .i64 k), (2, .rptr s.enc), (1, .str name), (4, .ptr 0 0)])
      (fun _ => ⟨[.cells [.int .i64 0, .str [], .slice [] .nil, .slice [] .nil, .slice [] .nil, .slice [] .nil]], []⟩) (fun k => findO s name = (s.defs.drop k).find? (fun d => d.name == name))
      ⟨rfl, rfl, rfl, rfl, trivial⟩ rfl (by rw [findO, if_neg (by rw [c]; decide)]; rfl) fun k hk hp => ?_
    by_cases h1 : k < s.defs.length
    · have d1 : decide ((k : Int) < (s.defs.length : Int)) = true := by simp [h1]
      have x1 := map_get' (f := Dfn.enc) h1
      have hd := find_drop (p := fun d : Dfn => d.name == name) h1
      repeat' first
        | refine .lb ?_
        | refine .seq ?_ | refine .rg ?_ | refine .rd ?_ | refine .block ?_ | refine .scope ?_ | refine .skip ?_ | refine .label ?_ | refine .exit ?_ | refine .ret ?_
        | refine .ct ?_ | refine .cf ?_ | refine .cy ?_ | refine .cn ?_ | (refine .cond rfl ?_ ?_ <;> intro hc)
        | refine A.nil_seq ?_ | refine .nl ?_ | refine .dd ?_ | refine .ys ?_ | refine .no ?_ | (refine A.guard rfl ?_ ?_ <;> intro hc)
        | refine .lb ?_ | refine .ln ?_ | refine .ls ?_ | refine .pv ?_ | refine .ix ?_ | refine .pt ?_ | refine .pf ?_ | refine .bx ?_ | refine .al ?_ | refine .st ?_ | refine .ad ?_ | refine .sb ?_ | refine .mf ?_ | refine .cl ?_ | refine .cw ?_ | refine .ck ?_ | fail
      · refine FinR.ret1 rfl (Weak.eq ?_)
        rw [findR, hp, hd, if_pos hc]; rfl
      · exact ⟨h1, ⟨rfl, rfl, rfl, rfl, trivial⟩, by simp [belowS, AV.low], rfl, rfl, by rw [hp, hd, if_neg (by simp [hc])]⟩
    · have d1 : decide ((k : Int) < (s.defs.length : Int)) = false := by simp; omega
      repeat' first
        | refine .seq ?_ | refine .rg ?_ | refine .rd ?_ | refine .block ?_ | refine .scope ?_ | refine .skip ?_ | refine .label ?_ | refine .exit ?_ | refine .ret ?_
        | refine .ct ?_ | refine .cf ?_ | refine .cy ?_ | refine .cn ?_ | (refine .cond rfl ?_ ?_ <;> intro hc)
        | refine A.nil_seq ?_ | refine .nl ?_ | refine .dd ?_ | refine .ys ?_ | refine .no ?_ | (refine A.guard rfl ?_ ?_ <;> intro hc)
        | refine .lb ?_ | refine .ln ?_ | refine .ls ?_ | refine .pv ?_ | refine .ix ?_ | refine .pt ?_ | refine .pf ?_ | refine .bx ?_ | refine .al ?_ | refine .st ?_ | refine .ad ?_ | refine .sb ?_ | refine .mf ?_ | refine .cl ?_ | refine .cw ?_ | refine .ck ?_ | fail
      refine FinR.ret1 rfl ?_
      rw [findR, hp, List.drop_eq_nil_of_le (by omega)]
      exact Weak.tup (WeakL.cons weak_dfn (WeakL.refl _))
theorem rParam9 (l : List Par) (name : Str) (hl : l.length ≤ 2097152) : PFn Tryz.prog 140 [.slice (l.map Par.enc) .no, .str name] (.tup [(parR l name).1.enc, .bool (parR l name).2]) := by
  refine AFn.plain (by simp [AV.closed, AV.closedL, Par.closed]) (by simp [AV.closed, AV.closedL, Par.closedL]) (AFn.enterR [.cell 4 74, .tmp 5] Tryz.func140 rfl rfl rfl rfl rfl ?_)
  repeat' first
    | refine .seq ?_ | refine .rg ?_ | refine .rd ?_ | refine .block ?_ | refine .scope ?_ | refine .skip ?_ | refine .label ?_ | refine .exit ?_ | refine .ret ?_
    | refine .ct ?_ | refine .cf ?_ | refine .cy ?_ | refine .cn ?_ | (refine .cond rfl ?_ ?_ <;> intro hc)
    | refine A.nil_seq ?_ | refine .nl ?_ | refine .dd ?_ | refine .ys ?_ | refine .no ?_ | (refine A.guard rfl ?_ ?_ <;> intro hc)
    | refine .lb ?_ | refine .ln ?_ | refine .ls ?_ | refine .pv ?_ | refine .ix ?_ | refine .pt ?_ | refine .pf ?_ | refine .bx ?_ | refine .al ?_ | refine .st ?_ | refine .ad ?_ | refine .sb ?_ | refine .mf ?_ | refine .cl ?_ | refine .cw ?_ | refine .ck ?_ | fail
  refine HCode.forK l.length (fun k => [(6, .int .i64 k), (0, .slice (l.map Par.enc) .no), (1, .str name), (4, .ptr 0 0)])
    (fun _ => ⟨[.cells [.str [], .str [], .int .i64 0, .int .i64 0, .bool false, .int .i64 0, .int .i64 0, .str [], .slice [] .nil, .slice [] .nil]], []⟩) (fun k => parO l name = (l.drop k).find? (fun p => p.name == name))
    ⟨rfl, rfl, rfl, rfl, trivial⟩ rfl rfl fun k hk hp => ?_
  by_cases h1 : k < l.length
  · have d1 : decide ((k : Int) < (l.length : Int)) = true := by simp [h1]
    have x1 := map_get' (f := Par.enc) h1
    have hd := find_drop (p := fun p : Par => p.name == name) h1
    repeat' first
      | refine .seq ?_ | refine .rg ?_ | refine .rd ?_ | refine .block ?_ | refine .scope ?_ | refine .skip ?_ | refine .label ?_ | refine .exit ?_ | refine .ret ?_
      | refine .ct ?_ | refine .cf ?_ | refine .cy ?_ | refine .cn ?_ | (refine .cond rfl ?_ ?_ <;> intro hc)
      | refine A.nil_seq ?_ | refine .nl ?_ | refine .dd ?_ | refine .ys ?_ | refine .no ?_ | (refine A.guard rfl ?_ ?_ <;> intro hc)
      | refine .lb ?_ | refine .ln ?_ | refine .ls ?_ | refine .pv ?_ | refine .ix ?_ | refine .pt ?_ | refine .pf ?_ | refine .bx ?_ | refine .al ?_ | refine .st ?_ | refine .ad ?_ | refine .sb ?_ | refine .mf ?_ | refine .cl ?_ | refine .cw ?_ | refine .ck ?_ | fail
    · refine FinR.ret1 rfl (Weak.eq ?_)
      rw [parR, hp, hd, if_pos hc]; rfl
    · exact ⟨h1, ⟨rfl, rfl, rfl, rfl, trivial⟩, by simp [belowS, AV.low], rfl, rfl, by rw [hp, hd, if_neg (by simp [hc])]⟩
  · have d1 : decide ((k : Int) < (l.length : Int)) = false := by simp; omega
    repeat' first
      | refine .seq ?_ | refine .rg ?_ | refine .rd ?_ | refine .block ?_ | refine .scope ?_ | refine .skip ?_ | refine .label ?_ | refine .exit ?_ | refine .ret ?_
      | refine .ct ?_ | refine .cf ?_ | refine .cy ?_ | refine .cn ?_ | (refine .cond rfl ?_ ?_ <;> intro hc)
      | refine A.nil_seq ?_ | refine .nl ?_ | refine .dd ?_ | refine .ys ?_ | refine .no ?_ | (refine A.guard rfl ?_ ?_ <;> intro hc)
      | refine .lb ?_ | refine .ln ?_ | refine .ls ?_ | refine .pv ?_ | refine .ix ?_ | refine .pt ?_ | refine .pf ?_ | refine .bx ?_ | refine .al ?_ | refine .st ?_ | refine .ad ?_ | refine .sb ?_ | refine .mf ?_ | refine .cl ?_ | refine .cw ?_ | refine .ck ?_ | fail
    refine FinR.ret1 rfl ?_
    rw [parR, hp, List.drop_eq_nil_of_le (by omega)]
    exact Weak.tup (WeakL.cons weak_zeroP (WeakL.refl _))
theorem rGetV (name : Str) (l : List Mem) (hl : l.length ≤ 9223372036854775807) : PFn Tryz.prog 59 [.str name, .slice (l.map Mem.enc) .no] (.tup [(getG name l).1.enc, .bool (getG name l).2]) := by
  refine AFn.plain (by simp [AV.closed, AV.closedL, Val.closed]) (by simp [AV.closed, AV.closedL, Mem.closedL]) (AFn.enterR [.cell 4 30, .tmp 5] Tryz.func59 rfl rfl rfl rfl rfl ?_)
  repeat' first
    | refine .seq ?_ | refine .rg ?_ | refine .rd ?_ | refine .block ?_ | refine .scope ?_ | refine .skip ?_ | refine .label ?_ | refine .exit ?_ | refine .ret ?_
    | refine .ct ?_ | refine .cf ?_ | refine .cy ?_ | refine .cn ?_ | (refine .cond rfl ?_ ?_ <;> intro hc)
    | refine A.nil_seq ?_ | refine .nl ?_ | refine .dd ?_ | refine .ys ?_ | refine .no ?_ | (refine A.guard rfl ?_ ?_ <;> intro hc)
    | refine .lb ?_ | refine .ln ?_ | refine .ls ?_ | refine .pv ?_ | refine .ix ?_ | refine .pt ?_ | refine .pf ?_ | refine .bx ?_ | refine .al ?_ | refine .st ?_ | refine .ad ?_ | refine .sb ?_ | refine .mf ?_ | refine .cl ?_ | refine .cw ?_ | refine .ck ?_ | fail
  refine HCode.forK l.length (fun k => [(6, .int .i64 k), (1, .slice (l.map Mem.enc) .no), (0, .str name), (4, .ptr 0 0)]) (fun _ => ⟨[.cells zeroV], []⟩) (fun k => getG name l = getG name (l.drop k)) ⟨rfl, rfl, rfl, rfl, trivial⟩ rfl rfl fun k hk hp => ?_
  by_cases h1 : k < l.length
  · have d1 : decide ((k : Int) < (l.length : Int)) = true := by simp [h1]
    have x1 := map_get' (f := Mem.enc) h1
    repeat' first
      | refine .seq ?_ | refine .rg ?_ | refine .rd ?_ | refine .block ?_ | refine .scope ?_ | refine .skip ?_ | refine .label ?_ | refine .exit ?_ | refine .ret ?_
      | refine .ct ?_ | refine .cf ?_ | refine .cy ?_ | refine .cn ?_ | (refine .cond rfl ?_ ?_ <;> intro hc)
      | refine A.nil_seq ?_ | refine .nl ?_ | refine .dd ?_ | refine .ys ?_ | refine .no ?_ | (refine A.guard rfl ?_ ?_ <;> intro hc)
      | refine .lb ?_ | refine .ln ?_ | refine .ls ?_ | refine .pv ?_ | refine .ix ?_ | refine .pt ?_ | refine .pf ?_ | refine .bx ?_ | refine .al ?_ | refine .st ?_ | refine .ad ?_ | refine .sb ?_ | refine .mf ?_ | refine .cl ?_ | refine .cw ?_ | refine .ck ?_ | fail
    · refine FinR.ret1 rfl (Weak.eq ?_)
      rw [hp, getG_drop h1, if_pos hc]; rfl
    · exact ⟨h1, ⟨rfl, rfl, rfl, rfl, trivial⟩, by simp [belowS, AV.low], rfl, rfl, by rw [hp, getG_drop h1, if_neg (by simp [hc])]⟩
  · have d1 : decide ((k : Int) < (l.length : Int)) = false := by simp; omega
    repeat' first
      | refine .seq ?_ | refine .rg ?_ | refine .rd ?_ | refine .block ?_ | refine .scope ?_ | refine .skip ?_ | refine .label ?_ | refine .exit ?_ | refine .ret ?_
      | refine .ct ?_ | refine .cf ?_ | refine .cy ?_ | refine .cn ?_ | (refine .cond rfl ?_ ?_ <;> intro hc)
      | refine A.nil_seq ?_ | refine .nl ?_ | refine .dd ?_ | refine .ys ?_ | refine .no ?_ | (refine A.guard rfl ?_ ?_ <;> intro hc)
      | refine .lb ?_ | refine .ln ?_ | refine .ls ?_ | refine .pv ?_ | refine .ix ?_ | refine .pt ?_ | refine .pf ?_ | refine .bx ?_ | refine .al ?_ | refine .st ?_ | refine .ad ?_ | refine .sb ?_ | refine .mf ?_ | refine .cl ?_ | refine .cw ?_ | refine .ck ?_ | fail
    refine FinR.ret1 rfl ?_
    rw [hp, List.drop_eq_nil_of_le (by omega), getG]
    exact Weak.tup (WeakL.cons weak_flatV (WeakL.refl _))
theorem rInput9 (s : Sch) (ps : List Par) (m : List Mem) (hs : s.size ≤ 1048576) (hps : ps.length ≤ 2097152) (hpz : ∀ p ∈ ps, p.size ≤ 2097152) (hm : m.length ≤ 2097152)
    (ih : ∀ x ∈ m, ∀ t : Typ, t.name.length ≤ 2097152 → PFn Tryz.prog 250 [s.enc, t.enc, x.v.enc, .bool true] (.bool (fitsV s x.v t false))) :
    PFn Tryz.prog 264 [s.enc, .slice (ps.map Par.enc) .no, .slice (m.map Mem.enc) .no] (.bool (fitsM s ps m [] && needsB m ps)) := by
  refine AFn.plain rfl (by simp [AV.closed, AV.closedL, Sch.closed, Par.closedL, Mem.closedL]) (AFn.enter [6] Tryz.func264 rfl rfl rfl rfl rfl (by decide) ?_)
  repeat' first
    | refine .br ?_
    | refine .seq ?_ | refine .rg ?_ | refine .rd ?_ | refine .block ?_ | refine .scope ?_ | refine .skip ?_ | refine .label ?_ | refine .exit ?_ | refine .ret ?_
    | refine .ct ?_ | refine .cf ?_ | refine .cy ?_ | refine .cn ?_ | (refine .cond rfl ?_ ?_ <;> intro hc)
    | refine A.nil_seq ?_ | refine .nl ?_ | refine .dd ?_ | refine .ys ?_ | refine .no ?_ | (refine A.guard rfl ?_ ?_ <;> intro hc)
    | refine .lb ?_ | refine .ln ?_ | refine .ls ?_ | refine .pv ?_ | refine .ix ?_ | refine .pt ?_ | refine .pf ?_ | refine .bx ?_ | refine .al ?_ | refine .st ?_ | refine .ad ?_ | refine .sb ?_ | refine .mf ?_ | refine .cl ?_ | refine .cw ?_ | refine .ck ?_ | fail
  refine HCode.forK m.length (fun k => [(7, .int .i64 k), (1, .slice (ps.map Par.enc) .no), (2, .slice (m.map Mem.enc) .no), (3, .rptr s.enc)])
    (fun _ => ⟨[], []⟩) (fun k => fitsM s ps m [] = fitsM s ps (m.drop k) ((m.take k).map Mem.name)) ⟨rfl, rfl, rfl, rfl, trivial⟩ rfl rfl fun k hk hp => ?_
  by_cases h1 : k < m.length
  · have d1 : decide ((k : Int) < (m.length : Int)) = true := by simp [h1]
    have x1 := map_get' (f := Mem.enc) h1
    have hpar := rParam9 ps m[k].name hps
    have hd := fitsM_drop (s := s) (ps := ps) h1
    cases hpo : parO ps m[k].name with
    | none =>
      have e1 : parR ps m[k].name = (zeroP, false) := by rw [parR, hpo]
      rw [e1] at hpar
      rw [hpo] at hd
      repeat' first
        | refine .seq ?_ | refine .rg ?_ | refine .rd ?_ | refine .block ?_ | refine .scope ?_ | refine .skip ?_ | refine .label ?_ | refine .exit ?_ | refine .ret ?_
        | refine .ct ?_ | refine .cf ?_ | refine .cy ?_ | refine .cn ?_ | (refine .cond rfl ?_ ?_ <;> intro hc)
        | refine A.nil_seq ?_ | refine .nl ?_ | refine .dd ?_ | refine .ys ?_ | refine .no ?_ | (refine A.guard rfl ?_ ?_ <;> intro hc)
        | refine .lb ?_ | refine .ln ?_ | refine .ls ?_ | refine .pv ?_ | refine .ix ?_ | refine .pt ?_ | refine .pf ?_ | refine .bx ?_ | refine .al ?_ | refine .st ?_ | refine .ad ?_ | refine .sb ?_ | refine .mf ?_ | refine .cl ?_ | refine .cw ?_ | refine .ck ?_ | fail
      refine Fin.ret1 rfl (Weak.eq (congrArg AV.bool ?_))
      rw [hp, hd]; rfl
    | some p =>
      have e1 : parR ps m[k].name = (p, true) := by rw [parR, hpo]
      have hpm : p ∈ ps := List.mem_of_find?_eq_some hpo
      have hpl := p.lens
      have hpz' := hpz p hpm
      have hft := ih m[k] (List.getElem_mem h1) p.t (by omega)
      rw [e1] at hpar
      rw [hpo] at hd
      simp only at hd
      cases hfv : fitsV s m[k].v p.t false with
      | false =>
        rw [hfv] at hft hd
        repeat' first
          | refine .seq ?_ | refine .rg ?_ | refine .rd ?_ | refine .block ?_ | refine .scope ?_ | refine .skip ?_ | refine .label ?_ | refine .exit ?_ | refine .ret ?_
          | refine .ct ?_ | refine .cf ?_ | refine .cy ?_ | refine .cn ?_ | (refine .cond rfl ?_ ?_ <;> intro hc)
          | refine A.nil_seq ?_ | refine .nl ?_ | refine .dd ?_ | refine .ys ?_ | refine .no ?_ | (refine A.guard rfl ?_ ?_ <;> intro hc)
          | refine .lb ?_ | refine .ln ?_ | refine .ls ?_ | refine .pv ?_ | refine .ix ?_ | refine .pt ?_ | refine .pf ?_ | refine .bx ?_ | refine .al ?_ | refine .st ?_ | refine .ad ?_ | refine .sb ?_ | refine .mf ?_ | refine .cl ?_ | refine .cw ?_ | refine .ck ?_ | fail
        refine Fin.ret1 rfl (Weak.eq (congrArg AV.bool ?_))
        rw [hp, hd]; rfl
      | true =>
        rw [hfv, Bool.true_and] at hd
        rw [hfv] at hft
        repeat' first
          | refine .seq ?_ | refine .rg ?_ | refine .rd ?_ | refine .block ?_ | refine .scope ?_ | refine .skip ?_ | refine .label ?_ | refine .exit ?_ | refine .ret ?_
          | refine .ct ?_ | refine .cf ?_ | refine .cy ?_ | refine .cn ?_ | (refine .cond rfl ?_ ?_ <;> intro hc)
          | refine A.nil_seq ?_ | refine .nl ?_ | refine .dd ?_ | refine .ys ?_ | refine .no ?_ | (refine A.guard rfl ?_ ?_ <;> intro hc)
          | refine .lb ?_ | refine .ln ?_ | refine .ls ?_ | refine .pv ?_ | refine .ix ?_ | refine .pt ?_ | refine .pf ?_ | refine .bx ?_ | refine .al ?_ | refine .st ?_ | refine .ad ?_ | refine .sb ?_ | refine .mf ?_ | refine .cl ?_ | refine .cw ?_ | refine .ck ?_ | fail
        refine HCode.forK k (fun j => [(10, .int .i64 j), (7, .int .i64 k), (1, .slice (ps.map Par.enc) .no), (2, .slice (m.map Mem.enc) .no), (3, .rptr s.enc)])
          (fun _ => ⟨[.cells [.str p.name, .str p.t.name, .int .i64 p.t.lists, .int .i64 p.t.musts, .bool p.has, .int .i64 p.d.kind, .int .i64 p.d.n, .str p.d.s, .slice p.d.lv .no, .slice p.d.mv .no]], []⟩) (fun j => m[k].name ∉ (m.take j).map Mem.name) ⟨rfl, rfl, rfl, rfl, rfl, trivial⟩ rfl (by simp) fun j hj hq => ?_
        by_cases h2 : j < k
        · have d2 : decide ((j : Int) < (k : Int)) = true := by simp [h2]
          have hjm : j < m.length := by omega
          have x2 := map_get' (f := Mem.enc) hjm
          have hmt : (m.take (j + 1)).map Mem.name = (m.take j).map Mem.name ++ [m[j].name] := by rw [List.take_succ_eq_append_getElem hjm, List.map_append]; rfl
          by_cases ce : m[j].name = m[k].name
          · have e2 : (m[j].name == m[k].name) = true := by simpa using ce
            repeat' first
              | refine .seq ?_ | refine .rg ?_ | refine .rd ?_ | refine .block ?_ | refine .scope ?_ | refine .skip ?_ | refine .label ?_ | refine .exit ?_ | refine .ret ?_
              | refine .ct ?_ | refine .cf ?_ | refine .cy ?_ | refine .cn ?_ | (refine .cond rfl ?_ ?_ <;> intro hc)
              | refine A.nil_seq ?_ | refine .nl ?_ | refine .dd ?_ | refine .ys ?_ | refine .no ?_ | (refine A.guard rfl ?_ ?_ <;> intro hc)
              | refine .lb ?_ | refine .ln ?_ | refine .ls ?_ | refine .pv ?_ | refine .ix ?_ | refine .pt ?_ | refine .pf ?_ | refine .bx ?_ | refine .al ?_ | refine .st ?_ | refine .ad ?_ | refine .sb ?_ | refine .mf ?_ | refine .cl ?_ | refine .cw ?_ | refine .ck ?_ | fail
            refine Fin.ret1 rfl (Weak.eq (congrArg AV.bool ?_))
            have hin : m[k].name ∈ (m.take k).map Mem.name := by
              rw [← ce, List.mem_map]
              exact ⟨m[j], List.mem_take_iff_getElem.2 ⟨j, by omega, rfl⟩, rfl⟩
            rw [hp, hd, decide_eq_true hin]; rfl
          · have e2 : (m[j].name == m[k].name) = false := by simpa using ce
            repeat' first
              | refine .seq ?_ | refine .rg ?_ | refine .rd ?_ | refine .block ?_ | refine .scope ?_ | refine .skip ?_ | refine .label ?_ | refine .exit ?_ | refine .ret ?_
              | refine .ct ?_ | refine .cf ?_ | refine .cy ?_ | refine .cn ?_ | (refine .cond rfl ?_ ?_ <;> intro hc)
              | refine A.nil_seq ?_ | refine .nl ?_ | refine .dd ?_ | refine .ys ?_ | refine .no ?_ | (refine A.guard rfl ?_ ?_ <;> intro hc)
              | refine .lb ?_ | refine .ln ?_ | refine .ls ?_ | refine .pv ?_ | refine .ix ?_ | refine .pt ?_ | refine .pf ?_ | refine .bx ?_ | refine .al ?_ | refine .st ?_ | refine .ad ?_ | refine .sb ?_ | refine .mf ?_ | refine .cl ?_ | refine .cw ?_ | refine .ck ?_ | fail
            exact ⟨h2, ⟨rfl, rfl, rfl, rfl, rfl, trivial⟩, by simp [belowS, AV.low], by simp [belowB, belowT, Ob.low, AV.lowL, AV.low], rfl, by rw [hmt, List.mem_append, not_or]; exact ⟨hq, by simpa using fun e => ce e.symm⟩⟩
        · have d2 : decide ((j : Int) < (k : Int)) = false := by simp; omega
          obtain rfl : j = k := by omega
          repeat' first
            | refine .seq ?_ | refine .rg ?_ | refine .rd ?_ | refine .block ?_ | refine .scope ?_ | refine .skip ?_ | refine .label ?_ | refine .exit ?_ | refine .ret ?_
            | refine .ct ?_ | refine .cf ?_ | refine .cy ?_ | refine .cn ?_ | (refine .cond rfl ?_ ?_ <;> intro hc)
            | refine A.nil_seq ?_ | refine .nl ?_ | refine .dd ?_ | refine .ys ?_ | refine .no ?_ | (refine A.guard rfl ?_ ?_ <;> intro hc)
            | refine .lb ?_ | refine .ln ?_ | refine .ls ?_ | refine .pv ?_ | refine .ix ?_ | refine .pt ?_ | refine .pf ?_ | refine .bx ?_ | refine .al ?_ | refine .st ?_ | refine .ad ?_ | refine .sb ?_ | refine .mf ?_ | refine .cl ?_ | refine .cw ?_ | refine .ck ?_ | fail
          exact ⟨h1, ⟨rfl, rfl, rfl, rfl, trivial⟩, by simp [belowS, AV.low], rfl, rfl, by rw [hp, hd, decide_eq_false hq]; rfl⟩
  · have d1 : decide ((k : Int) < (m.length : Int)) = false := by simp; omega
    have hpe : fitsM s ps m [] = true := by rw [hp, List.drop_eq_nil_of_le (by omega), fitsM]
    rw [hpe, Bool.true_and]
    repeat' first
      | refine .seq ?_ | refine .rg ?_ | refine .rd ?_ | refine .block ?_ | refine .scope ?_ | refine .skip ?_ | refine .label ?_ | refine .exit ?_ | refine .ret ?_
      | refine .ct ?_ | refine .cf ?_ | refine .cy ?_ | refine .cn ?_ | (refine .cond rfl ?_ ?_ <;> intro hc)
      | refine A.nil_seq ?_ | refine .nl ?_ | refine .dd ?_ | refine .ys ?_ | refine .no ?_ | (refine A.guard rfl ?_ ?_ <;> intro hc)
      | refine .lb ?_ | refine .ln ?_ | refine .ls ?_ | refine .pv ?_ | refine .ix ?_ | refine .pt ?_ | refine .pf ?_ | refine .bx ?_ | refine .al ?_ | refine .st ?_ | refine .ad ?_ | refine .sb ?_ | refine .mf ?_ | refine .cl ?_ | refine .cw ?_ | refine .ck ?_ | fail
    refine HCode.forK ps.length (fun k => [(11, .int .i64 k), (1, .slice (ps.map Par.enc) .no), (2, .slice (m.map Mem.enc) .no)])
      (fun _ => ⟨[], []⟩) (fun k => needsB m ps = needsB m (ps.drop k)) ⟨rfl, rfl, rfl, trivial⟩ rfl rfl fun j hj hq => ?_
    by_cases h2 : j < ps.length
    · have d2 : decide ((j : Int) < (ps.length : Int)) = true := by simp [h2]
      have x2 := map_get' (f := Par.enc) h2
      have hg := rGetV ps[j].name m (by omega)
      rw [getG_snd] at hg
      have his := rIs ps[j].t (by have := hpz _ (List.getElem_mem h2); have := ps[j].lens; omega)
      have hd := needsB_drop (m := m) h2
      unfold reqB at hd
      repeat' first
        | refine .seq ?_ | refine .rg ?_ | refine .rd ?_ | refine .block ?_ | refine .scope ?_ | refine .skip ?_ | refine .label ?_ | refine .exit ?_ | refine .ret ?_
        | refine .ct ?_ | refine .cf ?_ | refine .cy ?_ | refine .cn ?_ | (refine .cond rfl ?_ ?_ <;> intro hc)
        | refine A.nil_seq ?_ | refine .nl ?_ | refine .dd ?_ | refine .ys ?_ | refine .no ?_ | (refine A.guard rfl ?_ ?_ <;> intro hc)
        | refine .lb ?_ | refine .ln ?_ | refine .ls ?_ | refine .pv ?_ | refine .ix ?_ | refine .pt ?_ | refine .pf ?_ | refine .bx ?_ | refine .al ?_ | refine .st ?_ | refine .ad ?_ | refine .sb ?_ | refine .mf ?_ | refine .cl ?_ | refine .cw ?_ | refine .ck ?_ | fail
      all_goals first
        | (refine Fin.ret1 rfl (Weak.eq (congrArg AV.bool ?_)); rw [hq, hd]; simp_all; done)
        | (exact ⟨h2, ⟨rfl, rfl, rfl, trivial⟩, by simp [belowS, AV.low], rfl, rfl, by rw [hq, hd]; simp_all⟩)
    · have d2 : decide ((j : Int) < (ps.length : Int)) = false := by simp; omega
      repeat' first
        | refine .seq ?_ | refine .rg ?_ | refine .rd ?_ | refine .block ?_ | refine .scope ?_ | refine .skip ?_ | refine .label ?_ | refine .exit ?_ | refine .ret ?_
        | refine .ct ?_ | refine .cf ?_ | refine .cy ?_ | refine .cn ?_ | (refine .cond rfl ?_ ?_ <;> intro hc)
        | refine A.nil_seq ?_ | refine .nl ?_ | refine .dd ?_ | refine .ys ?_ | refine .no ?_ | (refine A.guard rfl ?_ ?_ <;> intro hc)
        | refine .lb ?_ | refine .ln ?_ | refine .ls ?_ | refine .pv ?_ | refine .ix ?_ | refine .pt ?_ | refine .pf ?_ | refine .bx ?_ | refine .al ?_ | refine .st ?_ | refine .ad ?_ | refine .sb ?_ | refine .mf ?_ | refine .cl ?_ | refine .cw ?_ | refine .ck ?_ | fail
      refine Fin.ret1 rfl (Weak.eq (congrArg AV.bool ?_))
      rw [hq, List.drop_eq_nil_of_le (by omega), needsB]
theorem bareV_scal {s : Sch} {name : Str} {v : Val} (h : scalarB name = true) : bareV s name v = scalFit name v.kind v.n := by
  unfold bareV bareB findO
  rw [if_pos h]; rfl
end Go.Proofs.YtpidjkihngiaoaaGreatDoor
namespace Go.Proofs.YtpidjkihngiaoaaGreatDoor
open Go Go.Av
set_option maxRecDepth 100000
set_option maxHeartbeats 16000000
set_option linter.unusedVariables false
set_option linter.unusedSimpArgs false
attribute [local irreducible] HCode AOps PFn AFn Av.Step TStep

theorem rText (n : Str) : PFn Tryz.prog 103 [.str n] (textV n).enc := by
  refine AFn.plain (Val.closed _) rfl (AFn.enterR [.cell 2 30] Tryz.func103 rfl rfl rfl rfl rfl ?_)
  repeat' first
    | refine .seq ?_ | refine .rg ?_ | refine .rd ?_ | refine .block ?_ | refine .scope ?_ | refine .skip ?_ | refine .label ?_ | refine .exit ?_ | refine .ret ?_
    | refine .ct ?_ | refine .cf ?_ | refine .cy ?_ | refine .cn ?_ | (refine .cond rfl ?_ ?_ <;> intro hc)
    | refine A.nil_seq ?_ | refine .nl ?_ | refine .dd ?_ | refine .ys ?_ | refine .no ?_ | (refine A.guard rfl ?_ ?_ <;> intro hc)
    | refine .lb ?_ | refine .ln ?_ | refine .ls ?_ | refine .pv ?_ | refine .ix ?_ | refine .pt ?_ | refine .pf ?_ | refine .bx ?_ | refine .al ?_ | refine .st ?_ | refine .ad ?_ | refine .sb ?_ | refine .mf ?_ | refine .cl ?_ | refine .cw ?_ | refine .ck ?_ | fail
  exact FinR.ret1 rfl weak_flatV
theorem scal_names (n : Str) : ((n == [73, 110, 116]) = true ∧ (n == [83, 116, 114, 105, 110, 103]) = false ∧ (n == [66, 111, 111, 108, 101, 97, 110]) = false ∧ (n == [73, 68]) = false ∧ n = sInt) ∨
    ((n == [73, 110, 116]) = false ∧ (n == [83, 116, 114, 105, 110, 103]) = true ∧ (n == [66, 111, 111, 108, 101, 97, 110]) = false ∧ (n == [73, 68]) = false ∧ n = sString) ∨
    ((n == [73, 110, 116]) = false ∧ (n == [83, 116, 114, 105, 110, 103]) = false ∧ (n == [66, 111, 111, 108, 101, 97, 110]) = true ∧ (n == [73, 68]) = false ∧ n = sBoolean) ∨
    ((n == [73, 110, 116]) = false ∧ (n == [83, 116, 114, 105, 110, 103]) = false ∧ (n == [66, 111, 111, 108, 101, 97, 110]) = false ∧ (n == [73, 68]) = true ∧ n = sID) ∨
    ((n == [73, 110, 116]) = false ∧ (n == [83, 116, 114, 105, 110, 103]) = false ∧ (n == [66, 111, 111, 108, 101, 97, 110]) = false ∧ (n == [73, 68]) = false ∧ n ≠ sInt ∧ n ≠ sString ∧ n ≠ sBoolean ∧ n ≠ sID) := by
  by_cases h1 : n = sInt
  · subst h1; exact .inl ⟨rfl, rfl, rfl, rfl, rfl⟩
  by_cases h2 : n = sString
  · subst h2; exact .inr (.inl ⟨rfl, rfl, rfl, rfl, rfl⟩)
  by_cases h3 : n = sBoolean
  · subst h3; exact .inr (.inr (.inl ⟨rfl, rfl, rfl, rfl, rfl⟩))
  by_cases h4 : n = sID
  · subst h4; exact .inr (.inr (.inr (.inl ⟨rfl, rfl, rfl, rfl, rfl⟩)))
  exact .inr (.inr (.inr (.inr ⟨by simpa [sInt] using h1, by simpa [sString] using h2, by simpa [sBoolean] using h3, by simpa [sID] using h4, h1, h2, h3, h4⟩)))
theorem scal_kinds (k : Int) : ((k == 2) = true ∧ (k == 1) = false ∧ (k == 4) = false ∧ k = 2) ∨ ((k == 2) = false ∧ (k == 1) = true ∧ (k == 4) = false ∧ k = 1) ∨ ((k == 2) = false ∧ (k == 1) = false ∧ (k == 4) = true ∧ k = 4) ∨ ((k == 2) = false ∧ (k == 1) = false ∧ (k == 4) = false ∧ k ≠ 2 ∧ k ≠ 1 ∧ k ≠ 4) := by
  by_cases h2 : k = 2
  · subst h2; exact .inl ⟨rfl, rfl, rfl, rfl⟩
  by_cases h1 : k = 1
  · subst h1; exact .inr (.inl ⟨rfl, rfl, rfl, rfl⟩)
  by_cases h4 : k = 4
  · subst h4; exact .inr (.inr (.inl ⟨rfl, rfl, rfl, rfl⟩))
  exact .inr (.inr (.inr ⟨by simp [h2], by simp [h1], by simp [h4], h2, h1, h4⟩))
theorem scalMk_b (name : Str) (v : Val) : scalMk name v = (if ((name == [73, 110, 116]) && ((v.kind == 2) && (decide (v.n < -2147483648) || decide (2147483647 < v.n)))) = true then (val0, 8)
    else if ((name == [73, 68]) && (v.kind == 2)) = true then (textV (Lib.itoa v.n), 0)
    else if (((name == [73, 110, 116]) && (v.kind == 2)) || (((name == [66, 111, 111, 108, 101, 97, 110]) && (v.kind == 1)) || (((name == [83, 116, 114, 105, 110, 103]) || (name == [73, 68])) && (v.kind == 4)))) = true then (v, 0) else (val0, 7)) := by
  unfold scalMk
  simp only [Bool.and_eq_true, Bool.or_eq_true, beq_iff_eq, decide_eq_true_eq]
  rfl
theorem rScalar23 (name : Str) (v : Val) (h0 : -9223372036854775808 ≤ v.n) (h1 : v.n ≤ 9223372036854775807) : PFn Tryz.prog 101 [.str name, v.enc] (VE.enc (scalMk name v)) := by
  have hi := rDecimal v.n h0 h1
  have ht := rText (Lib.itoa v.n)
  refine AFn.plain (VE.closed _) (by simp [AV.closed, AV.closedL, Val.closed]) (AFn.enterR [.cell 4 30, .tmp 5] Tryz.func101 rfl rfl rfl rfl rfl ?_)
  rw [scalMk_b]
  rcases scal_names name with ⟨bI, bS, bB, bD, _⟩ | ⟨bI, bS, bB, bD, _⟩ | ⟨bI, bS, bB, bD, _⟩ | ⟨bI, bS, bB, bD, _⟩ | ⟨bI, bS, bB, bD, _⟩ <;> rcases scal_kinds v.kind with ⟨q2, q1, q4, _⟩ | ⟨q2, q1, q4, _⟩ | ⟨q2, q1, q4, _⟩ | ⟨q2, q1, q4, _⟩ <;> rw [bI, bS, bB, bD, q2, q1, q4]
  · by_cases hr : v.n < -2147483648
    · have r1 : decide (v.n < -2147483648) = true := decide_eq_true hr
      rw [r1]
      repeat' first
        | refine .br ?_
        | refine .seq ?_ | refine .rg ?_ | refine .rd ?_ | refine .block ?_ | refine .scope ?_ | refine .skip ?_ | refine .label ?_ | refine .exit ?_ | refine .ret ?_
        | refine .ct ?_ | refine .cf ?_ | refine .cy ?_ | refine .cn ?_ | (refine .cond rfl ?_ ?_ <;> intro hc)
        | refine A.nil_seq ?_ | refine .nl ?_ | refine .dd ?_ | refine .ys ?_ | refine .no ?_ | (refine A.guard rfl ?_ ?_ <;> intro hc)
        | refine .lb ?_ | refine .ln ?_ | refine .ls ?_ | refine .pv ?_ | refine .ix ?_ | refine .pt ?_ | refine .pf ?_ | refine .bx ?_ | refine .al ?_ | refine .st ?_ | refine .ad ?_ | refine .sb ?_ | refine .mf ?_ | refine .cl ?_ | refine .cw ?_ | refine .ck ?_ | fail
      exact FinR.ret1 rfl weak_ve0
    · have r1 : decide (v.n < -2147483648) = false := decide_eq_false hr
      by_cases hr2 : 2147483647 < v.n
      · have r2 : decide (2147483647 < v.n) = true := decide_eq_true hr2
        rw [r1, r2]
        repeat' first
          | refine .br ?_
          | refine .seq ?_ | refine .rg ?_ | refine .rd ?_ | refine .block ?_ | refine .scope ?_ | refine .skip ?_ | refine .label ?_ | refine .exit ?_ | refine .ret ?_
          | refine .ct ?_ | refine .cf ?_ | refine .cy ?_ | refine .cn ?_ | (refine .cond rfl ?_ ?_ <;> intro hc)
          | refine A.nil_seq ?_ | refine .nl ?_ | refine .dd ?_ | refine .ys ?_ | refine .no ?_ | (refine A.guard rfl ?_ ?_ <;> intro hc)
          | refine .lb ?_ | refine .ln ?_ | refine .ls ?_ | refine .pv ?_ | refine .ix ?_ | refine .pt ?_ | refine .pf ?_ | refine .bx ?_ | refine .al ?_ | refine .st ?_ | refine .ad ?_ | refine .sb ?_ | refine .mf ?_ | refine .cl ?_ | refine .cw ?_ | refine .ck ?_ | fail
        exact FinR.ret1 rfl weak_ve0
      · have r2 : decide (2147483647 < v.n) = false := decide_eq_false hr2
        rw [r1, r2]
        repeat' first
          | refine .br ?_
          | refine .seq ?_ | refine .rg ?_ | refine .rd ?_ | refine .block ?_ | refine .scope ?_ | refine .skip ?_ | refine .label ?_ | refine .exit ?_ | refine .ret ?_
          | refine .ct ?_ | refine .cf ?_ | refine .cy ?_ | refine .cn ?_ | (refine .cond rfl ?_ ?_ <;> intro hc)
          | refine A.nil_seq ?_ | refine .nl ?_ | refine .dd ?_ | refine .ys ?_ | refine .no ?_ | (refine A.guard rfl ?_ ?_ <;> intro hc)
          | refine .lb ?_ | refine .ln ?_ | refine .ls ?_ | refine .pv ?_ | refine .ix ?_ | refine .pt ?_ | refine .pf ?_ | refine .bx ?_ | refine .al ?_ | refine .st ?_ | refine .ad ?_ | refine .sb ?_ | refine .mf ?_ | refine .cl ?_ | refine .cw ?_ | refine .ck ?_ | fail
        exact FinR.ret1 rfl (Weak.refl _)
  all_goals
    repeat' first
      | refine .br ?_
      | refine .seq ?_ | refine .rg ?_ | refine .rd ?_ | refine .block ?_ | refine .scope ?_ | refine .skip ?_ | refine .label ?_ | refine .exit ?_ | refine .ret ?_
      | refine .ct ?_ | refine .cf ?_ | refine .cy ?_ | refine .cn ?_ | (refine .cond rfl ?_ ?_ <;> intro hc)
      | refine A.nil_seq ?_ | refine .nl ?_ | refine .dd ?_ | refine .ys ?_ | refine .no ?_ | (refine A.guard rfl ?_ ?_ <;> intro hc)
      | refine .lb ?_ | refine .ln ?_ | refine .ls ?_ | refine .pv ?_ | refine .ix ?_ | refine .pt ?_ | refine .pf ?_ | refine .bx ?_ | refine .al ?_ | refine .st ?_ | refine .ad ?_ | refine .sb ?_ | refine .mf ?_ | refine .cl ?_ | refine .cw ?_ | refine .ck ?_ | fail
    first
      | exact FinR.ret1 rfl weak_ve0
      | exact FinR.ret1 rfl (Weak.refl _)
end Go.Proofs.YtpidjkihngiaoaaGreatDoor
