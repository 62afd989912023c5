/-
  The package table: stands.
  The reference of the layer table: cell, Cell, rowMay, May.
  The laws of tables: what they show when awake.
  May tables be?
  The law CommandMays.
-/
import Derived.Test.YtijlmchfepjjkaaDoorGCommandMays7
import Derived.Test.YtijlmchfepjjkaaDoorGCommandMays5
import Derived.Test.YtijlmchfepjjkaaDoorGCommandMays11
import Derived.Test.YtijlmchfepjjkaaDoorGCommandMays10
import Derived.Test.YtijlmchfepjjkaaDoorGCommandMays4
import Derived.Test.YtijlmchfepjjkaaDoorGCommandMays3
namespace Go.Proofs.YtijlmchfepjjkaaDoor
open Go Go.Av
set_option maxRecDepth 100000
set_option maxHeartbeats 8000000
set_option linter.unusedVariables false
set_option linter.unusedSimpArgs false
attribute [local irreducible] HCode AOps PFn AFn Av.Step TStep

mutual
def standV : Val → Bool
  | .mk k _ _ l _ => k == 0 || k == 1 || k == 2 || k == 4 || k == 6 && standL l
def standL : List Val → Bool
  | [] => true
  | v :: l => standV v && standL l
end
theorem standV_eq (v : Val) : standV v = (v.kind == 0 || v.kind == 1 || v.kind == 2 || v.kind == 4 || v.kind == 6 && standL v.l) := by
  cases v; rw [standV]; rfl
/-- The first place where some hold. -/
def firstV (f : Val → Bool) : List Val → Nat → Int
  | [], _ => -1
  | v :: l, k => if f v = true then k else firstV f l (k + 1)
theorem firstV_drop {f : Val → Bool} {l : List Val} {k : Nat} (h : k < l.length) : firstV f (l.drop k) k = if f l[k] = true then (k : Int) else firstV f (l.drop (k + 1)) (k + 1) := by
  rw [List.drop_eq_getElem_cons h, firstV]
theorem firstV_stand : ∀ (l : List Val) (k : Nat), decide (firstV (fun v => !standV v) l k ≥ 0) = !standL l
  | [], _ => by rw [firstV, standL]; rfl
  | v :: l, k => by
    have e : firstV (fun v => !standV v) (v :: l) k = if (!standV v) = true then (k : Int) else firstV (fun v => !standV v) l (k + 1) := by rw [firstV]
    rw [e, standL]
    by_cases h : standV v = true
    · rw [if_neg (by rw [h]; decide), firstV_stand l (k + 1), h]; rfl
    · have h' : standV v = false := by simpa using h
      rw [if_pos (by rw [h']; rfl), h']
      simp
theorem indexV (f : Val → Bool) (F : FuncId) (l : List Val) (hl : l.length ≤ 1048576) (hF : ∀ x ∈ l, PFn Tryd.prog F [x.enc] (.bool (f x))) :
    PFn Tryd.prog 154 [.slice (l.map Val.enc) .no, .fn (.func F) [] []] (.int .i64 (firstV f l 0)) := by
  refine AFn.plain rfl (by simp [AV.closedL, AV.closed, Val.closedL']) (AFn.enter [4] Tryd.func154 rfl rfl rfl rfl rfl (by decide) ?_)
  repeat' first
    | refine .seq ?_ | refine .rg ?_ | refine .rd ?_ | refine .block ?_ | refine .scope ?_ | refine .skip ?_ | refine .label ?_ | refine .exit ?_ | refine .ret ?_
    | refine .ct ?_ | refine .cf ?_ | refine .cy ?_ | refine .cn ?_ | (refine .cond rfl ?_ ?_ <;> intro hc)
    | refine A.nil_seq ?_ | refine .nl ?_ | refine .dd ?_ | refine .ys ?_ | refine .no ?_ | (refine A.guard rfl ?_ ?_ <;> intro hc)
    | refine .lb ?_ | refine .ln ?_ | refine .ls ?_ | refine .pv ?_ | refine .ix ?_ | refine .pt ?_ | refine .pf ?_ | refine .bx ?_ | refine .al ?_ | refine .st ?_ | refine .ad ?_ | refine .sb ?_ | refine .mf ?_ | refine .cl ?_ | refine .cw ?_ | refine .ck ?_ | fail
  change HCode _ _ _ _ _ _ _
  refine HCode.loop (fun n s σ => ∃ k : Nat, n = l.length - k ∧ k ≤ l.length ∧ firstV f l 0 = firstV f (l.drop k) k ∧ σ = ⟨[], []⟩ ∧
    s = [(8, .int .i64 k), (7, .int .i64 l.length), (0, .slice (l.map Val.enc) .no), (1, .fn (.func F) [] [])])
    (s0 := [(8, .int .i64 (0 : Nat)), (7, .int .i64 l.length), (0, .slice (l.map Val.enc) .no), (1, .fn (.func F) [] [])])
    ⟨rfl, rfl, rfl, rfl, trivial⟩ ⟨0, rfl, Nat.zero_le _, rfl, rfl, rfl⟩ ?_
  rintro n s σ ⟨k, rfl, hk, hp, rfl, rfl⟩
  by_cases h1 : k < l.length
  · have d1 : decide ((k : Int) < (l.length : Int)) = true := by simp [h1]
    have x1 := map_get' (f := Val.enc) h1
    have hf := hF l[k] (List.getElem_mem h1)
    by_cases c : f l[k] = true
    · repeat' first
        | refine .seq ?_ | refine .rg ?_ | refine .rd ?_ | refine .block ?_ | refine .scope ?_ | refine .skip ?_ | refine .label ?_ | refine .exit ?_ | refine .ret ?_
        | refine .ct ?_ | refine .cf ?_ | refine .cy ?_ | refine .cn ?_ | (refine .cond rfl ?_ ?_ <;> intro hc)
        | refine A.nil_seq ?_ | refine .nl ?_ | refine .dd ?_ | refine .ys ?_ | refine .no ?_ | (refine A.guard rfl ?_ ?_ <;> intro hc)
        | refine .lb ?_ | refine .ln ?_ | refine .ls ?_ | refine .pv ?_ | refine .ix ?_ | refine .pt ?_ | refine .pf ?_ | refine .bx ?_ | refine .al ?_ | refine .st ?_ | refine .ad ?_ | refine .sb ?_ | refine .mf ?_ | refine .cl ?_ | refine .cw ?_ | refine .ck ?_
        | refine A.callv rfl rfl hf (WeakL.refl _) ?_ | fail
      refine Fin.ret1 rfl (Weak.eq (congrArg (AV.int .i64) ?_))
      rw [hp, firstV_drop h1, if_pos c]
    · have c' : f l[k] = false := by simpa using c
      repeat' first
        | refine .seq ?_ | refine .rg ?_ | refine .rd ?_ | refine .block ?_ | refine .scope ?_ | refine .skip ?_ | refine .label ?_ | refine .exit ?_ | refine .ret ?_
        | refine .ct ?_ | refine .cf ?_ | refine .cy ?_ | refine .cn ?_ | (refine .cond rfl ?_ ?_ <;> intro hc)
        | refine A.nil_seq ?_ | refine .nl ?_ | refine .dd ?_ | refine .ys ?_ | refine .no ?_ | (refine A.guard rfl ?_ ?_ <;> intro hc)
        | refine .lb ?_ | refine .ln ?_ | refine .ls ?_ | refine .pv ?_ | refine .ix ?_ | refine .pt ?_ | refine .pf ?_ | refine .bx ?_ | refine .al ?_ | refine .st ?_ | refine .ad ?_ | refine .sb ?_ | refine .mf ?_ | refine .cl ?_ | refine .cw ?_ | refine .ck ?_
        | refine A.callv rfl rfl hf (WeakL.refl _) ?_ | fail
      refine ⟨l.length - (k + 1), by omega, [(8, .int .i64 ((k + 1 : Nat) : Int)), (7, .int .i64 l.length), (0, .slice (l.map Val.enc) .no), (1, .fn (.func F) [] [])], ⟨rfl, rfl, rfl, rfl, trivial⟩, by simp [belowS, AV.low, AV.lowL, Val.lowL'], rfl, k + 1, rfl, by omega, by rw [hp, firstV_drop h1, if_neg c], rfl, rfl⟩
  · have d1 : decide ((k : Int) < (l.length : Int)) = false := by simp; omega
    repeat' first
      | refine .seq ?_ | refine .rg ?_ | refine .rd ?_ | refine .block ?_ | refine .scope ?_ | refine .skip ?_ | refine .label ?_ | refine .exit ?_ | refine .ret ?_
      | refine .ct ?_ | refine .cf ?_ | refine .cy ?_ | refine .cn ?_ | (refine .cond rfl ?_ ?_ <;> intro hc)
      | refine A.nil_seq ?_ | refine .nl ?_ | refine .dd ?_ | refine .ys ?_ | refine .no ?_ | (refine A.guard rfl ?_ ?_ <;> intro hc)
      | refine .lb ?_ | refine .ln ?_ | refine .ls ?_ | refine .pv ?_ | refine .ix ?_ | refine .pt ?_ | refine .pf ?_ | refine .bx ?_ | refine .al ?_ | refine .st ?_ | refine .ad ?_ | refine .sb ?_ | refine .mf ?_ | refine .cl ?_ | refine .cw ?_ | refine .ck ?_ | fail
    refine Fin.ret1 rfl (Weak.eq (congrArg (AV.int .i64) ?_))
    rw [hp, List.drop_eq_nil_of_le (by omega), firstV]
theorem containsV (f : Val → Bool) (F : FuncId) (l : List Val) (hl : l.length ≤ 1048576) (hF : ∀ x ∈ l, PFn Tryd.prog F [x.enc] (.bool (f x))) :
    PFn Tryd.prog 133 [.slice (l.map Val.enc) .no, .fn (.func F) [] []] (.bool (decide (firstV f l 0 ≥ 0))) := by
  have h := indexV f F l hl hF
  refine AFn.plain rfl (by simp [AV.closedL, AV.closed, Val.closedL']) (AFn.enter [4] Tryd.func133 rfl rfl rfl rfl rfl (by decide) ?_)
  repeat' first
    | refine .seq ?_ | refine .rg ?_ | refine .rd ?_ | refine .block ?_ | refine .scope ?_ | refine .skip ?_ | refine .label ?_ | refine .exit ?_ | refine .ret ?_
    | refine .ct ?_ | refine .cf ?_ | refine .cy ?_ | refine .cn ?_ | (refine .cond rfl ?_ ?_ <;> intro hc)
    | refine A.nil_seq ?_ | refine .nl ?_ | refine .dd ?_ | refine .ys ?_ | refine .no ?_ | (refine A.guard rfl ?_ ?_ <;> intro hc)
    | refine .lb ?_ | refine .ln ?_ | refine .ls ?_ | refine .pv ?_ | refine .ix ?_ | refine .pt ?_ | refine .pf ?_ | refine .bx ?_ | refine .al ?_ | refine .st ?_ | refine .ad ?_ | refine .sb ?_ | refine .mf ?_ | refine .cl ?_ | refine .cw ?_ | refine .ck ?_
    | refine A.call rfl h (WeakL.refl _) ?_ | fail
  exact Fin.ret1 rfl (Weak.refl _)
theorem tstands : ∀ N : Nat, N ≤ 1048576 → ∀ v : Val, v.size ≤ N → PFn Tryd.prog 113 [v.enc] (.bool (standV v))
  | 0, _, v, hv => absurd hv (by have := v.size_pos; omega)
  | N + 1, hN, v, hv => by
    have ih := tstands N (by omega)
    have hll := v.l_len
    have hnot : ∀ x ∈ v.l, PFn Tryd.prog 134 [x.enc] (.bool (!standV x)) := fun x hx => by
      have hi := ih x (by
        obtain ⟨k, hk, rfl⟩ := List.getElem_of_mem hx
        have := Val.size_l hk; omega)
      refine AFn.plain rfl (by simp [AV.closedL, Val.closed]) (AFn.enter [2] Tryd.func134 rfl rfl rfl rfl rfl (by decide) ?_)
      repeat' first
        | refine A.box_r rfl rfl ?_
        | refine .seq ?_ | refine .rg ?_ | refine .rd ?_ | refine .block ?_ | refine .scope ?_ | refine .skip ?_ | refine .label ?_ | refine .exit ?_ | refine .ret ?_
        | refine .ct ?_ | refine .cf ?_ | refine .cy ?_ | refine .cn ?_ | (refine .cond rfl ?_ ?_ <;> intro hc)
        | refine A.nil_seq ?_ | refine .nl ?_ | refine .dd ?_ | refine .ys ?_ | refine .no ?_ | (refine A.guard rfl ?_ ?_ <;> intro hc)
        | refine .lb ?_ | refine .ln ?_ | refine .ls ?_ | refine .pv ?_ | refine .ix ?_ | refine .pt ?_ | refine .pf ?_ | refine .bx ?_ | refine .al ?_ | refine .st ?_ | refine .ad ?_ | refine .sb ?_ | refine .mf ?_ | refine .cl ?_ | refine .cw ?_ | refine .ck ?_
        | refine A.call rfl hi (WeakL.refl _) ?_ | fail
      exact Fin.ret1 rfl (Weak.refl _)
    have hcall := containsV (fun x => !standV x) 134 v.l (by omega) hnot
    rw [firstV_stand, ← v.lv_eq] at hcall
    refine AFn.plain rfl (by simp [AV.closedL, Val.closed]) (AFn.enter [2] Tryd.func113 rfl rfl rfl rfl rfl (by decide) ?_)
    rw [standV_eq]
    repeat' first
      | refine A.box_r rfl rfl ?_
      | refine .seq ?_ | refine .rg ?_ | refine .rd ?_ | refine .block ?_ | refine .scope ?_ | refine .skip ?_ | refine .label ?_ | refine .exit ?_ | refine .ret ?_
      | refine .ct ?_ | refine .cf ?_ | refine .cy ?_ | refine .cn ?_ | (refine .cond rfl ?_ ?_ <;> intro hc)
      | refine A.nil_seq ?_ | refine .nl ?_ | refine .dd ?_ | refine .ys ?_ | refine .no ?_ | (refine A.guard rfl ?_ ?_ <;> intro hc)
      | refine .lb ?_ | refine .ln ?_ | refine .ls ?_ | refine .pv ?_ | refine .ix ?_ | refine .pt ?_ | refine .pf ?_ | refine .bx ?_ | refine .al ?_ | refine .st ?_ | refine .ad ?_ | refine .sb ?_ | refine .mf ?_ | refine .cl ?_ | refine .cw ?_ | refine .ck ?_
      | refine A.call rfl hcall (WeakL.refl _) ?_ | fail
    all_goals
      refine Fin.ret1 rfl (Weak.eq (congrArg AV.bool ?_))
      simp_all
/-- What may stand in a column. -/
theorem valFns : ValFns (allV good) standV 1048576 := ⟨fun v hv => vGood v (by omega), tstands 1048576 (Nat.le_refl _)⟩
end Go.Proofs.YtijlmchfepjjkaaDoor
namespace Go.Proofs.YtijlmchfepjjkaaDoor
open Go Go.Av
set_option maxRecDepth 100000
set_option maxHeartbeats 16000000
set_option linter.unusedVariables false
set_option linter.unusedSimpArgs false
attribute [local irreducible] HCode AOps PFn AFn Av.Step TStep

mutual
def cellV : Val → Bool
  | .mk k n s l m => (k == 0 || k == 1 || k == 2 || k == 4 || k == 6) && cellL l
def cellL : List Val → Bool
  | [] => true
  | v :: l => cellV v && cellL l
end
theorem cellV_eq (v : Val) : cellV v = ((v.kind == 0 || v.kind == 1 || v.kind == 2 || v.kind == 4 || v.kind == 6) && cellL v.l) := by cases v; rw [cellV]; rfl
theorem cellL_drop {l : List Val} {k : Nat} (h : k < l.length) : cellL (l.drop k) = (cellV l[k] && cellL (l.drop (k + 1))) := by
  rw [List.drop_eq_getElem_cons h, cellL]
theorem single_nil {v : Val} (h : singleB v = true) : v.l = [] := by
  unfold singleB at h
  rw [Bool.and_eq_true, Bool.and_eq_true, decide_eq_true_eq] at h
  exact List.eq_nil_of_length_eq_zero h.1.1
mutual
theorem cell_stand : ∀ v : Val, (allV good v && standV v) = (allV good v && cellV v)
  | .mk k n s l m => by
    have q1 : standV (Val.mk k n s l m) = (k == 0 || k == 1 || k == 2 || k == 4 || k == 6 && standL l) := standV_eq _
    have q2 : cellV (Val.mk k n s l m) = ((k == 0 || k == 1 || k == 2 || k == 4 || k == 6) && cellL l) := cellV_eq _
    have q3 : allV good (Val.mk k n s l m) = if k = 6 then allL good l && (n == 0 && s == [] && decide (m.length = 0)) else if k = 7 then allM good m && (n == 0 && s == [] && decide (l.length = 0)) else singleB (.mk k n s l m) := by rw [allV]
    rw [q1, q2, q3]
    by_cases k6 : k = 6
    · subst k6
      rw [if_pos rfl]
      have := cell_standL l
      have e : ((6 : Int) == 0 || (6 : Int) == 1 || (6 : Int) == 2 || (6 : Int) == 4 || (6 : Int) == 6 && standL l) = standL l := by simp
      have e2 : ((6 : Int) == 0 || (6 : Int) == 1 || (6 : Int) == 2 || (6 : Int) == 4 || (6 : Int) == 6) = true := by decide
      rw [e, e2, Bool.true_and, Bool.and_right_comm, this, Bool.and_right_comm]
    · rw [if_neg k6]
      by_cases k7 : k = 7
      · subst k7
        have e : ((7 : Int) == 0 || (7 : Int) == 1 || (7 : Int) == 2 || (7 : Int) == 4 || (7 : Int) == 6 && standL l) = false := by simp
        have e2 : ((7 : Int) == 0 || (7 : Int) == 1 || (7 : Int) == 2 || (7 : Int) == 4 || (7 : Int) == 6) = false := by decide
        rw [e, e2, Bool.false_and]
      · rw [if_neg k7]
        have e6 : (k == 6) = false := by simpa using k6
        rw [e6, Bool.false_and, Bool.or_false]
        cases hs : singleB (.mk k n s l m) with
        | false => rfl
        | true =>
          have hl : l = [] := single_nil hs
          subst hl
          rw [cellL, Bool.and_true]
theorem cell_standL : ∀ l : List Val, (allL good l && standL l) = (allL good l && cellL l)
  | [] => by rw [standL, cellL]
  | v :: l => by
    have h1 := cell_stand v
    have h2 := cell_standL l
    rw [allL, standL, cellL]
    cases a : allV good v <;> cases b : allL good l <;> rw [a] at h1 <;> rw [b] at h2 <;> simp_all
end
theorem rcell : ∀ N : Nat, N ≤ 1048576 → ∀ v : Val, v.size ≤ N → PFn Tryd.prog 95 [v.enc] (.bool (cellV v))
  | 0, _, v, hv => absurd hv (by have := v.size_pos; omega)
  | N + 1, hN, v, hv => by
    have ih := rcell N (by omega)
    have hll := v.l_len
    refine AFn.plain rfl (by simp [AV.closed, AV.closedL, Val.closed]) (AFn.enter [2] Tryd.func95 rfl rfl rfl rfl rfl (by decide) ?_)
    rw [cellV_eq]
    by_cases c : v.kind = 0 ∨ v.kind = 1 ∨ v.kind = 2 ∨ v.kind = 4 ∨ v.kind = 6
    · have e : (v.kind == 0 || v.kind == 1 || v.kind == 2 || v.kind == 4 || v.kind == 6) = true := by
        rcases c with c | c | c | c | c <;> rw [c] <;> decide
      rw [e, Bool.true_and]
      rcases c with c | c | c | c | c
      all_goals
        try (have f0 : (v.kind != 0) = true := by (rw [c]; decide))
        try (have f0 : (v.kind != 0) = false := by (rw [c]; decide))
        try (have f1 : (v.kind != 1) = true := by (rw [c]; decide))
        try (have f1 : (v.kind != 1) = false := by (rw [c]; decide))
        try (have f2 : (v.kind != 2) = true := by (rw [c]; decide))
        try (have f2 : (v.kind != 2) = false := by (rw [c]; decide))
        try (have f4 : (v.kind != 4) = true := by (rw [c]; decide))
        try (have f4 : (v.kind != 4) = false := by (rw [c]; decide))
        try (have f6 : (v.kind != 6) = true := by (rw [c]; decide))
        try (have f6 : (v.kind != 6) = false := by (rw [c]; decide))
        repeat' first
          | refine .br ?_
          | refine .seq ?_ | refine .rg ?_ | refine .rd ?_ | refine .block ?_ | refine .scope ?_ | refine .skip ?_ | refine .label ?_ | refine .exit ?_ | refine .ret ?_
          | refine .ct ?_ | refine .cf ?_ | refine .cy ?_ | refine .cn ?_ | (refine .cond rfl ?_ ?_ <;> intro hc)
          | refine A.nil_seq ?_ | refine .nl ?_ | refine .dd ?_ | refine .ys ?_ | refine .no ?_ | (refine A.guard rfl ?_ ?_ <;> intro hc)
          | refine .lb ?_ | refine .ln ?_ | refine .ls ?_ | refine .pv ?_ | refine .ix ?_ | refine .pt ?_ | refine .pf ?_ | refine .bx ?_ | refine .al ?_ | refine .st ?_ | refine .ad ?_ | refine .sb ?_ | refine .mf ?_ | refine .cl ?_ | refine .cw ?_ | refine .ck ?_ | fail
        refine HCode.forK v.l.length (fun k => [(3, .int .i64 k), (1, .rptr v.enc)])
          (fun _ => ⟨[], []⟩) (fun k => cellL v.l = cellL (v.l.drop k)) ⟨rfl, rfl, trivial⟩ rfl rfl fun k hk hp => ?_
        by_cases h1 : k < v.l.length
        · have d1 : decide ((k : Int) < (v.lv.length : Int)) = true := by rw [v.lv_len]; simp [h1]
          have x1 := Val.lv_get h1
          have hc1 := ih v.l[k] (by have := Val.size_l h1; omega)
          have hd := cellL_drop h1
          repeat' first
            | refine .seq ?_ | refine .rg ?_ | refine .rd ?_ | refine .block ?_ | refine .scope ?_ | refine .skip ?_ | refine .label ?_ | refine .exit ?_ | refine .ret ?_
            | refine .ct ?_ | refine .cf ?_ | refine .cy ?_ | refine .cn ?_ | (refine .cond rfl ?_ ?_ <;> intro hc)
            | refine A.nil_seq ?_ | refine .nl ?_ | refine .dd ?_ | refine .ys ?_ | refine .no ?_ | (refine A.guard rfl ?_ ?_ <;> intro hc)
            | refine .lb ?_ | refine .ln ?_ | refine .ls ?_ | refine .pv ?_ | refine .ix ?_ | refine .pt ?_ | refine .pf ?_ | refine .bx ?_ | refine .al ?_ | refine .st ?_ | refine .ad ?_ | refine .sb ?_ | refine .mf ?_ | refine .cl ?_ | refine .cw ?_ | refine .ck ?_ | fail
          all_goals first
            | (refine Fin.ret1 rfl (Weak.eq (congrArg AV.bool ?_)); rw [hp, hd]; simp_all; done)
            | (exact ⟨h1, ⟨rfl, rfl, trivial⟩, by simp [belowS, AV.low], rfl, rfl, by rw [hp, hd]; simp_all⟩)
        · have d1 : decide ((k : Int) < (v.lv.length : Int)) = false := by rw [v.lv_len]; simp; omega
          repeat' first
            | refine .seq ?_ | refine .rg ?_ | refine .rd ?_ | refine .block ?_ | refine .scope ?_ | refine .skip ?_ | refine .label ?_ | refine .exit ?_ | refine .ret ?_
            | refine .ct ?_ | refine .cf ?_ | refine .cy ?_ | refine .cn ?_ | (refine .cond rfl ?_ ?_ <;> intro hc)
            | refine A.nil_seq ?_ | refine .nl ?_ | refine .dd ?_ | refine .ys ?_ | refine .no ?_ | (refine A.guard rfl ?_ ?_ <;> intro hc)
            | refine .lb ?_ | refine .ln ?_ | refine .ls ?_ | refine .pv ?_ | refine .ix ?_ | refine .pt ?_ | refine .pf ?_ | refine .bx ?_ | refine .al ?_ | refine .st ?_ | refine .ad ?_ | refine .sb ?_ | refine .mf ?_ | refine .cl ?_ | refine .cw ?_ | refine .ck ?_ | fail
          refine Fin.ret1 rfl (Weak.eq (congrArg AV.bool ?_))
          rw [hp, List.drop_eq_nil_of_le (by omega), cellL]
    · have f0 : (v.kind != 0) = true := by simp; omega
      have f1 : (v.kind != 1) = true := by simp; omega
      have f2 : (v.kind != 2) = true := by simp; omega
      have f4 : (v.kind != 4) = true := by simp; omega
      have f6 : (v.kind != 6) = true := by simp; omega
      repeat' first
        | refine .br ?_
        | refine .seq ?_ | refine .rg ?_ | refine .rd ?_ | refine .block ?_ | refine .scope ?_ | refine .skip ?_ | refine .label ?_ | refine .exit ?_ | refine .ret ?_
        | refine .ct ?_ | refine .cf ?_ | refine .cy ?_ | refine .cn ?_ | (refine .cond rfl ?_ ?_ <;> intro hc)
        | refine A.nil_seq ?_ | refine .nl ?_ | refine .dd ?_ | refine .ys ?_ | refine .no ?_ | (refine A.guard rfl ?_ ?_ <;> intro hc)
        | refine .lb ?_ | refine .ln ?_ | refine .ls ?_ | refine .pv ?_ | refine .ix ?_ | refine .pt ?_ | refine .pf ?_ | refine .bx ?_ | refine .al ?_ | refine .st ?_ | refine .ad ?_ | refine .sb ?_ | refine .mf ?_ | refine .cl ?_ | refine .cw ?_ | refine .ck ?_ | fail
      refine Fin.ret1 rfl (Weak.eq (congrArg AV.bool ?_))
      simp at f0 f1 f2 f4 f6
      simp [f0, f1, f2, f4, f6]
theorem rCell (v : Val) (hv : v.size ≤ 1048576) : PFn Tryd.prog 55 [v.enc] (.bool (allV good v && cellV v)) := by
  have hg := rGoodValue 1048576 (Nat.le_refl _) v hv
  have hc := rcell 1048576 (Nat.le_refl _) v hv
  refine AFn.plain rfl (by simp [AV.closed, AV.closedL, Val.closed]) (AFn.enter [2] Tryd.func55 rfl rfl rfl rfl rfl (by decide) ?_)
  cases c : allV good v <;> rw [c] at hg
  all_goals
    repeat' first
      | refine .br ?_
      | refine .seq ?_ | refine .rg ?_ | refine .rd ?_ | refine .block ?_ | refine .scope ?_ | refine .skip ?_ | refine .label ?_ | refine .exit ?_ | refine .ret ?_
      | refine .ct ?_ | refine .cf ?_ | refine .cy ?_ | refine .cn ?_ | (refine .cond rfl ?_ ?_ <;> intro hc)
      | refine A.nil_seq ?_ | refine .nl ?_ | refine .dd ?_ | refine .ys ?_ | refine .no ?_ | (refine A.guard rfl ?_ ?_ <;> intro hc)
      | refine .lb ?_ | refine .ln ?_ | refine .ls ?_ | refine .pv ?_ | refine .ix ?_ | refine .pt ?_ | refine .pf ?_ | refine .bx ?_ | refine .al ?_ | refine .st ?_ | refine .ad ?_ | refine .sb ?_ | refine .mf ?_ | refine .cl ?_ | refine .cw ?_ | refine .ck ?_ | fail
    exact Fin.ret1 rfl (Weak.refl _)
theorem getG_snd27 (name : Str) : ∀ l : List Mem, (getG name l).2 = l.any fun x => x.name == name
  | [] => rfl
  | m :: l => by
    rw [getG, List.any_cons]
    cases m.name == name with
    | true => rfl
    | false => rw [if_neg (by decide), getG_snd27 name l]; rfl
theorem any_name27 (x : Str) (l : List Mem) : (l.any fun y => y.name == x) = decide (x ∈ l.map Mem.name) := by
  rw [Bool.eq_iff_iff, List.any_eq_true, decide_eq_true_eq, List.mem_map]
  constructor
  · rintro ⟨y, hy, e⟩; exact ⟨y, hy, by simpa using e⟩
  · rintro ⟨y, hy, e⟩; exact ⟨y, hy, by simp [e]⟩
theorem idx_first {α : Type} (f : α → Str) : ∀ (l : List α) (k n : Nat) (h : k < l.length), (idxFrom (fun x => f x == f l[k]) l n != ((n + k : Nat) : Int)) = decide (f l[k] ∈ (l.take k).map f)
  | x :: l, 0, n, h => by
    simp only [List.getElem_cons_zero]
    rw [idxFrom, if_pos (by simp)]
    simp
  | x :: l, k + 1, n, h => by
    have ih := idx_first f l k (n + 1) (by simpa using h)
    simp only [List.getElem_cons_succ, List.take_succ_cons, List.map_cons, List.mem_cons]
    rw [idxFrom]
    by_cases c : f x = f (l[k]'(by simpa using h))
    · rw [if_pos (by simp [c])]
      rw [Bool.eq_iff_iff]
      simp [c]; omega
    · rw [if_neg (by simp [c])]
      rw [show n + (k + 1) = n + 1 + k by omega, ih]
      rw [Bool.eq_iff_iff]
      simp only [decide_eq_true_eq]
      constructor
      · exact .inr
      · rintro (h' | h')
        · exact absurd h'.symm c
        · exact h'
theorem rrowMay (r : Row) (hl : r.cols.length ≤ 1048576) (hk : r.key.length ≤ 1048576) (ht : r.typ.length ≤ 1048576) (hc : ∀ m ∈ r.cols, m.name.length ≤ 1048576 ∧ m.v.size ≤ 1048576) :
    PFn Tryd.prog 81 [r.enc] (.bool (rowOk (allV good) cellV r)) := by
  have g1 := rGood r.key hk
  have g2 := rGood r.typ ht
  refine AFn.plain rfl (by simp [AV.closed, AV.closedL, Row.closed]) (AFn.enter [2] Tryd.func81 rfl rfl rfl rfl rfl (by decide) ?_)
  unfold rowOk
  repeat' first
    | refine .br ?_
    | refine .seq ?_ | refine .rg ?_ | refine .rd ?_ | refine .block ?_ | refine .scope ?_ | refine .skip ?_ | refine .label ?_ | refine .exit ?_ | refine .ret ?_
    | refine .ct ?_ | refine .cf ?_ | refine .cy ?_ | refine .cn ?_ | (refine .cond rfl ?_ ?_ <;> intro hc)
    | refine A.nil_seq ?_ | refine .nl ?_ | refine .dd ?_ | refine .ys ?_ | refine .no ?_ | (refine A.guard rfl ?_ ?_ <;> intro hc)
    | refine .lb ?_ | refine .ln ?_ | refine .ls ?_ | refine .pv ?_ | refine .ix ?_ | refine .pt ?_ | refine .pf ?_ | refine .bx ?_ | refine .al ?_ | refine .st ?_ | refine .ad ?_ | refine .sb ?_ | refine .mf ?_ | refine .cl ?_ | refine .cw ?_ | refine .ck ?_ | fail
  refine HCode.forK r.cols.length (fun k => [(3, .int .i64 k), (1, .rptr r.enc)])
    (fun _ => ⟨[], []⟩) (fun k => colsOk (allV good) cellV r.cols [] = colsOk (allV good) cellV (r.cols.drop k) ((r.cols.take k).map Mem.name)) ⟨rfl, rfl, trivial⟩ rfl rfl fun k hk1 hp => ?_
  by_cases h1 : k < r.cols.length
  · have d1 : decide ((k : Int) < (r.cols.length : Int)) = true := by simp [h1]
    have d1' : decide ((k : Int) < ((r.cols.map Mem.enc).length : Int)) = true := by simp [h1]
    have x1 := map_get' (f := Mem.enc) h1
    have hm := hc _ (List.getElem_mem h1)
    have hg := rGet r.cols[k].name (r.cols.take k) (by rw [List.length_take]; omega)
    have hsn := getG_snd27 r.cols[k].name (r.cols.take k)
    rw [any_name27] at hsn
    rw [List.map_take] at hg
    have hkv : k ≤ (r.cols.map Mem.enc).length := by rw [List.length_map]; omega
    have hd := colsOk_drop (allV good) cellV h1
    have g3 := rGood r.cols[k].name hm.1
    have g4 := rCell r.cols[k].v hm.2
    unfold colOk at hd
    generalize getG r.cols[k].name (r.cols.take k) = gg at hg hsn
    obtain ⟨gv, gb⟩ := gg
    simp only at hg hsn
    subst hsn
    generalize decide (r.cols[k].name ∈ (r.cols.take k).map Mem.name) = b1 at hg hd
    generalize good r.cols[k].name = b2 at g3 hd
    generalize (allV good r.cols[k].v && cellV r.cols[k].v) = b3 at g4 hd
    cases b1 <;> cases b2 <;> cases b3
    all_goals
      repeat' first
        | refine A.allocv (d := 4) rfl rfl rfl rfl rfl ?_ | refine HCode.turn 4 rfl (Turn.freezeP rfl rfl rfl rfl) ?_
        | refine .seq ?_ | refine .rg ?_ | refine .rd ?_ | refine .block ?_ | refine .scope ?_ | refine .skip ?_ | refine .label ?_ | refine .exit ?_ | refine .ret ?_
        | refine .ct ?_ | refine .cf ?_ | refine .cy ?_ | refine .cn ?_ | (refine .cond rfl ?_ ?_ <;> intro hc)
        | refine A.nil_seq ?_ | refine .nl ?_ | refine .dd ?_ | refine .ys ?_ | refine .no ?_ | (refine A.guard rfl ?_ ?_ <;> intro hc)
        | refine .lb ?_ | refine .ln ?_ | refine .ls ?_ | refine .pv ?_ | refine .ix ?_ | refine .pt ?_ | refine .pf ?_ | refine .bx ?_ | refine .al ?_ | refine .st ?_ | refine .ad ?_ | refine .sb ?_ | refine .mf ?_ | refine .cl ?_ | refine .cw ?_ | refine .ck ?_
        | refine A.vstore (agg := true) rfl rfl rfl rfl rfl rfl rfl rfl rfl rfl rfl ?_ | refine A.slice 0 k rfl rfl rfl rfl rfl rfl rfl rfl (Nat.zero_le _) hkv (.inl rfl) ?_ | fail
      first
        | (refine Fin.ret1 rfl (Weak.eq (congrArg AV.bool ?_)); rw [hp, hd]; simp; done)
        | (exact ⟨h1, ⟨rfl, rfl, trivial⟩, by simp [belowS, AV.low, AV.low_of_closed, Row.closed], rfl, rfl, hp.trans hd⟩)
  · have d1 : decide ((k : Int) < (r.cols.length : Int)) = false := by simp; omega
    have d1' : decide ((k : Int) < ((r.cols.map Mem.enc).length : Int)) = false := by simp; omega
    have hd : colsOk (allV good) cellV r.cols [] = true := by rw [hp, List.drop_eq_nil_of_le (by omega), colsOk]
    rw [hd, Bool.true_and]
    repeat' first
      | refine .seq ?_ | refine .rg ?_ | refine .rd ?_ | refine .block ?_ | refine .scope ?_ | refine .skip ?_ | refine .label ?_ | refine .exit ?_ | refine .ret ?_
      | refine .ct ?_ | refine .cf ?_ | refine .cy ?_ | refine .cn ?_ | (refine .cond rfl ?_ ?_ <;> intro hc)
      | refine A.nil_seq ?_ | refine .nl ?_ | refine .dd ?_ | refine .ys ?_ | refine .no ?_ | (refine A.guard rfl ?_ ?_ <;> intro hc)
      | refine .lb ?_ | refine .ln ?_ | refine .ls ?_ | refine .pv ?_ | refine .ix ?_ | refine .pt ?_ | refine .pf ?_ | refine .bx ?_ | refine .al ?_ | refine .st ?_ | refine .ad ?_ | refine .sb ?_ | refine .mf ?_ | refine .cl ?_ | refine .cw ?_ | refine .ck ?_ | fail
    all_goals
      refine Fin.ret1 rfl (Weak.eq (congrArg AV.bool ?_))
      simp_all
theorem rMay (l : List Tbl) (hl : TblsIn 1048576 l) : PFn Tryd.prog 26 [Tbls.enc l] (.bool (tblsOk (allV good) cellV l [])) := by
  have hll := hl.len
  refine AFn.plain rfl (by simp [AV.closedL, Tbls.closed]) (AFn.enter [2] Tryd.func26 rfl rfl rfl rfl rfl (by decide) ?_)
  repeat' first
    | refine .seq ?_ | refine .rg ?_ | refine .rd ?_ | refine .block ?_ | refine .scope ?_ | refine .skip ?_ | refine .label ?_ | refine .exit ?_ | refine .ret ?_
    | refine .ct ?_ | refine .cf ?_ | refine .cy ?_ | refine .cn ?_ | (refine .cond rfl ?_ ?_ <;> intro hc)
    | refine A.nil_seq ?_ | refine .nl ?_ | refine .dd ?_ | refine .ys ?_ | refine .no ?_ | (refine A.guard rfl ?_ ?_ <;> intro hc)
    | refine .lb ?_ | refine .ln ?_ | refine .ls ?_ | refine .pv ?_ | refine .ix ?_ | refine .pt ?_ | refine .pf ?_ | refine .bx ?_ | refine .al ?_ | refine .st ?_ | refine .ad ?_ | refine .sb ?_ | refine .mf ?_ | refine .cl ?_ | refine .cw ?_ | refine .ck ?_ | fail
  refine HCode.forK l.length (fun k => [(3, .int .i64 k), (0, Tbls.enc l)])
    (fun _ => ⟨[], []⟩) (fun k => tblsOk (allV good) cellV l [] = tblsOk (allV good) cellV (l.drop k) ((l.take k).map Tbl.name)) ⟨rfl, rfl, trivial⟩ rfl rfl fun k hk1 hp => ?_
  by_cases h1 : k < l.length
  · have d1 : decide ((k : Int) < (l.length : Int)) = true := by simp [h1]
    have x1 := map_get' (f := Tbl.enc) h1
    have hm := List.getElem_mem h1
    have hrl := hl.rows _ hm
    have ht := rTable l l[k].name (by omega)
    have e0 := idx_first Tbl.name l k 0 h1
    rw [Nat.zero_add] at e0
    have hd := tblsOk_drop (allV good) cellV h1
    have g1 := rGood l[k].name (hl.name _ hm)
    generalize idxFrom (fun t => t.name == l[k].name) l 0 = ix at ht e0
    generalize decide (l[k].name ∈ (l.take k).map Tbl.name) = b1 at e0 hd
    generalize good l[k].name = b2 at g1 hd
    cases b1
    · cases b2
      · repeat' first
          | refine .seq ?_ | refine .rg ?_ | refine .rd ?_ | refine .block ?_ | refine .scope ?_ | refine .skip ?_ | refine .label ?_ | refine .exit ?_ | refine .ret ?_
          | refine .ct ?_ | refine .cf ?_ | refine .cy ?_ | refine .cn ?_ | (refine .cond rfl ?_ ?_ <;> intro hc)
          | refine A.nil_seq ?_ | refine .nl ?_ | refine .dd ?_ | refine .ys ?_ | refine .no ?_ | (refine A.guard rfl ?_ ?_ <;> intro hc)
          | refine .lb ?_ | refine .ln ?_ | refine .ls ?_ | refine .pv ?_ | refine .ix ?_ | refine .pt ?_ | refine .pf ?_ | refine .bx ?_ | refine .al ?_ | refine .st ?_ | refine .ad ?_ | refine .sb ?_ | refine .mf ?_ | refine .cl ?_ | refine .cw ?_ | refine .ck ?_ | fail
        refine Fin.ret1 rfl (Weak.eq (congrArg AV.bool ?_))
        rw [hp, hd]; simp
      · rw [Bool.not_false, Bool.true_and, Bool.true_and] at hd
        repeat' first
          | refine .seq ?_ | refine .rg ?_ | refine .rd ?_ | refine .block ?_ | refine .scope ?_ | refine .skip ?_ | refine .label ?_ | refine .exit ?_ | refine .ret ?_
          | refine .ct ?_ | refine .cf ?_ | refine .cy ?_ | refine .cn ?_ | (refine .cond rfl ?_ ?_ <;> intro hc)
          | refine A.nil_seq ?_ | refine .nl ?_ | refine .dd ?_ | refine .ys ?_ | refine .no ?_ | (refine A.guard rfl ?_ ?_ <;> intro hc)
          | refine .lb ?_ | refine .ln ?_ | refine .ls ?_ | refine .pv ?_ | refine .ix ?_ | refine .pt ?_ | refine .pf ?_ | refine .bx ?_ | refine .al ?_ | refine .st ?_ | refine .ad ?_ | refine .sb ?_ | refine .mf ?_ | refine .cl ?_ | refine .cw ?_ | refine .ck ?_ | fail
        refine HCode.forK l[k].rows.length (fun j => [(4, .int .i64 j), (3, .int .i64 k), (0, Tbls.enc l)])
          (fun _ => ⟨[], []⟩) (fun j => rowsOk (allV good) cellV l[k].rows [] = rowsOk (allV good) cellV (l[k].rows.drop j) ((l[k].rows.take j).map Row.key)) ⟨rfl, rfl, rfl, trivial⟩ rfl rfl fun j hj1 hq => ?_
        by_cases h2 : j < l[k].rows.length
        · have d2 : decide ((j : Int) < (l[k].rows.length : Int)) = true := by simp [h2]
          have x2 := map_get' (f := Row.enc) h2
          have hm2 := List.getElem_mem h2
          have hr := rRow l[k].rows l[k].rows[j].key (by omega)
          have e2 := idx_first Row.key l[k].rows j 0 h2
          rw [Nat.zero_add] at e2
          have hd2 := rowsOk_drop (allV good) cellV h2
          obtain ⟨z1, z2, z3⟩ := hl.key _ hm _ hm2
          have g2 := rrowMay l[k].rows[j] z3 z1 z2 (hl.cols _ hm _ hm2)
          generalize idxFrom (fun r => r.key == l[k].rows[j].key) l[k].rows 0 = iy at hr e2
          generalize decide (l[k].rows[j].key ∈ (l[k].rows.take j).map Row.key) = b3 at e2 hd2
          generalize rowOk (allV good) cellV l[k].rows[j] = b4 at g2 hd2
          cases b3 <;> cases b4
          all_goals
            repeat' first
              | refine .seq ?_ | refine .rg ?_ | refine .rd ?_ | refine .block ?_ | refine .scope ?_ | refine .skip ?_ | refine .label ?_ | refine .exit ?_ | refine .ret ?_
              | refine .ct ?_ | refine .cf ?_ | refine .cy ?_ | refine .cn ?_ | (refine .cond rfl ?_ ?_ <;> intro hc)
              | refine A.nil_seq ?_ | refine .nl ?_ | refine .dd ?_ | refine .ys ?_ | refine .no ?_ | (refine A.guard rfl ?_ ?_ <;> intro hc)
              | refine .lb ?_ | refine .ln ?_ | refine .ls ?_ | refine .pv ?_ | refine .ix ?_ | refine .pt ?_ | refine .pf ?_ | refine .bx ?_ | refine .al ?_ | refine .st ?_ | refine .ad ?_ | refine .sb ?_ | refine .mf ?_ | refine .cl ?_ | refine .cw ?_ | refine .ck ?_ | fail
            first
              | (refine Fin.ret1 rfl (Weak.eq (congrArg AV.bool ?_)); rw [hp, hd, hq, hd2]; rfl)
              | (exact ⟨h2, ⟨rfl, rfl, rfl, trivial⟩, by simp [belowS, AV.low, Tbls.enc, Tbl.lowL], rfl, rfl, hq.trans hd2⟩)
        · have d2 : decide ((j : Int) < (l[k].rows.length : Int)) = false := by simp; omega
          repeat' first
            | refine .seq ?_ | refine .rg ?_ | refine .rd ?_ | refine .block ?_ | refine .scope ?_ | refine .skip ?_ | refine .label ?_ | refine .exit ?_ | refine .ret ?_
            | refine .ct ?_ | refine .cf ?_ | refine .cy ?_ | refine .cn ?_ | (refine .cond rfl ?_ ?_ <;> intro hc)
            | refine A.nil_seq ?_ | refine .nl ?_ | refine .dd ?_ | refine .ys ?_ | refine .no ?_ | (refine A.guard rfl ?_ ?_ <;> intro hc)
            | refine .lb ?_ | refine .ln ?_ | refine .ls ?_ | refine .pv ?_ | refine .ix ?_ | refine .pt ?_ | refine .pf ?_ | refine .bx ?_ | refine .al ?_ | refine .st ?_ | refine .ad ?_ | refine .sb ?_ | refine .mf ?_ | refine .cl ?_ | refine .cw ?_ | refine .ck ?_ | fail
          exact ⟨h1, ⟨rfl, rfl, trivial⟩, by simp [belowS, AV.low, Tbls.enc, Tbl.lowL], rfl, rfl, by rw [hp, hd, hq, List.drop_eq_nil_of_le (by omega), rowsOk, Bool.true_and]⟩
    · repeat' first
        | refine .seq ?_ | refine .rg ?_ | refine .rd ?_ | refine .block ?_ | refine .scope ?_ | refine .skip ?_ | refine .label ?_ | refine .exit ?_ | refine .ret ?_
        | refine .ct ?_ | refine .cf ?_ | refine .cy ?_ | refine .cn ?_ | (refine .cond rfl ?_ ?_ <;> intro hc)
        | refine A.nil_seq ?_ | refine .nl ?_ | refine .dd ?_ | refine .ys ?_ | refine .no ?_ | (refine A.guard rfl ?_ ?_ <;> intro hc)
        | refine .lb ?_ | refine .ln ?_ | refine .ls ?_ | refine .pv ?_ | refine .ix ?_ | refine .pt ?_ | refine .pf ?_ | refine .bx ?_ | refine .al ?_ | refine .st ?_ | refine .ad ?_ | refine .sb ?_ | refine .mf ?_ | refine .cl ?_ | refine .cw ?_ | refine .ck ?_ | fail
      all_goals
        refine Fin.ret1 rfl (Weak.eq (congrArg AV.bool ?_))
        rw [hp, hd]; simp
  · have d1 : decide ((k : Int) < (l.length : Int)) = false := by simp; omega
    repeat' first
      | refine .seq ?_ | refine .rg ?_ | refine .rd ?_ | refine .block ?_ | refine .scope ?_ | refine .skip ?_ | refine .label ?_ | refine .exit ?_ | refine .ret ?_
      | refine .ct ?_ | refine .cf ?_ | refine .cy ?_ | refine .cn ?_ | (refine .cond rfl ?_ ?_ <;> intro hc)
      | refine A.nil_seq ?_ | refine .nl ?_ | refine .dd ?_ | refine .ys ?_ | refine .no ?_ | (refine A.guard rfl ?_ ?_ <;> intro hc)
      | refine .lb ?_ | refine .ln ?_ | refine .ls ?_ | refine .pv ?_ | refine .ix ?_ | refine .pt ?_ | refine .pf ?_ | refine .bx ?_ | refine .al ?_ | refine .st ?_ | refine .ad ?_ | refine .sb ?_ | refine .mf ?_ | refine .cl ?_ | refine .cw ?_ | refine .ck ?_ | fail
    refine Fin.ret1 rfl (Weak.eq (congrArg AV.bool ?_))
    rw [hp, List.drop_eq_nil_of_le (by omega), tblsOk]
section
variable {gv st st' : Val → Bool} (h : ∀ v, (gv v && st v) = (gv v && st' v))
include h
theorem colsOk_same : ∀ (l : List Mem) (ns : List Str), colsOk gv st l ns = colsOk gv st' l ns
  | [], _ => rfl
  | m :: l, ns => by rw [colsOk, colsOk, colsOk_same l, colOk, colOk, h]
theorem rowsOk_same : ∀ (l : List Row) (ns : List Str), rowsOk gv st l ns = rowsOk gv st' l ns
  | [], _ => rfl
  | r :: l, ns => by rw [rowsOk, rowsOk, rowsOk_same l, rowOk, rowOk, colsOk_same h]
theorem tblsOk_same : ∀ (l : List Tbl) (ns : List Str), tblsOk gv st l ns = tblsOk gv st' l ns
  | [], _ => rfl
  | t :: l, ns => by rw [tblsOk, tblsOk, tblsOk_same l, rowsOk_same h]
end
end Go.Proofs.YtijlmchfepjjkaaDoor
namespace Go.Proofs.YtijlmchfepjjkaaDoor
open Go Go.Av
set_option maxRecDepth 100000
set_option maxHeartbeats 16000000
set_option linter.unusedVariables false
set_option linter.unusedSimpArgs false
attribute [local irreducible] HCode AOps PFn AFn Av.Step TStep

theorem fine_le {B B' : Nat} {l : List Tbl} (hf : Fine B l) (h : B ≤ B') : Fine B' l := ⟨Nat.le_trans hf.len h, fun t ht => Nat.le_trans (hf.rows t ht) h, fun t ht r hr => Nat.le_trans (hf.cols t ht r hr) h⟩
def kRow : Row := ⟨[107], [84], [], false⟩
def kTbl : List Tbl := [⟨[116], [kRow]⟩]
theorem val_pos (v : Val) : 0 < v.size := by cases v; rw [Val.size]; omega
theorem noFns : ValFns (fun _ => true) (fun _ => true) 0 := ⟨fun v h => by have := val_pos v; omega, fun v h => by have := val_pos v; omega⟩
theorem kIn : TblsIn 0 kTbl := by
  refine ⟨by decide, ?_, ?_, ?_, ?_⟩ <;> simp [kTbl, kRow]
theorem fine_k : Fine 1048576 kTbl := by refine ⟨by decide, ?_, ?_⟩ <;> simp [kTbl, kRow]
theorem fine_0 : Fine 1048576 [] := by refine ⟨by decide, ?_, ?_⟩ <;> simp
theorem kMay : tblsOk (fun _ => true) (fun _ => true) kTbl [] = true := by decide
theorem kPut : putG [] [116] kRow = kTbl := rfl
theorem kCut : (cutG kTbl [116] [107]).length = 1 := rfl

theorem weak_row {key typ : Str} {t : Tk} {b : Bool} : Weak (.agg [.str key, .str typ, .slice [] t, .bool b]) (Row.mk key typ [] b).enc := Weak.agg (WeakL.cons (Weak.refl _) (WeakL.cons (Weak.refl _) (WeakL.cons (Weak.no (WeakL.refl _)) (WeakL.refl _))))
theorem weak_nil : Weak (.slice [] .nil) (Tbls.enc []) := Weak.no (WeakL.refl _)
theorem awake27 : PFn Tryd.prog 22 [] (.bool true) := by
  refine AFn.plain rfl rfl (AFn.enter [0] Tryd.func22 rfl rfl rfl rfl rfl (by decide) ?_)
  have h1 := find [] ⟨[116], [107]⟩ (by decide) (by simp) (by simp)
  have h2 := put [] [116] kRow fine_0.len fine_0.rows fine_0.cols (by decide)
  rw [kPut] at h2
  have h3 := find kTbl ⟨[116], [107]⟩ (by decide) (by simp [kTbl, kRow]) (by simp [kTbl, kRow])
  have h4 := tableMay noFns (by decide) kTbl kIn
  rw [kMay] at h4
  have h5 := cut kTbl [116] [107] fine_k.len fine_k.rows fine_k.cols
  have e1 : findG [] ⟨[116], [107]⟩ = gotNone := rfl
  have e3 : findG kTbl ⟨[116], [107]⟩ = ⟨kRow, true, 0⟩ := rfl
  rw [e1] at h1
  rw [e3] at h3
  repeat' first
    | refine .seq ?_ | refine .rg ?_ | refine .rd ?_ | refine .block ?_ | refine .scope ?_ | refine .skip ?_ | refine .label ?_ | refine .exit ?_ | refine .ret ?_
    | refine .ct ?_ | refine .cf ?_ | refine .cy ?_ | refine .cn ?_ | (refine .cond rfl ?_ ?_ <;> intro hc)
    | refine A.nil_seq ?_ | refine .nl ?_ | refine .dd ?_ | refine .ys ?_ | refine .no ?_ | (refine A.guard rfl ?_ ?_ <;> intro hc)
    | refine .lb ?_ | refine .ln ?_ | refine .ls ?_ | refine .pv ?_ | refine .ix ?_ | refine .pt ?_ | refine .pf ?_ | refine .bx ?_ | refine .al ?_ | refine .st ?_ | refine .ad ?_ | refine .sb ?_ | refine .mf ?_ | refine .cl ?_ | refine .cw ?_ | refine .ck ?_
    | refine A.call rfl h1 (WeakL.cons weak_nil (WeakL.refl _)) ?_ | refine A.call rfl h2 (WeakL.cons weak_nil (WeakL.cons (Weak.refl _) (WeakL.cons weak_row (WeakL.refl _)))) ?_ | refine A.call rfl h3 (WeakL.refl _) ?_ | refine A.call rfl h4 (WeakL.refl _) ?_ | refine A.call rfl h5 (WeakL.refl _) ?_ | fail
  all_goals exact Fin.ret1 rfl (Weak.refl _)

def wI (n : Int) : Int := IntKind.i64.wrap n
end Go.Proofs.YtijlmchfepjjkaaDoor
namespace Go.Proofs.YtijlmchfepjjkaaDoor
open Go Go.Av
set_option maxRecDepth 100000
set_option maxHeartbeats 16000000
set_option linter.unusedVariables false
set_option linter.unusedSimpArgs false
attribute [local irreducible] HCode AOps PFn AFn Av.Step TStep

/-- May tables be? -/
def okT (l : List Tbl) : Bool := tblsOk (allV good) standV l []
theorem mayOf (l : List Tbl) (h : tabSize l ≤ 1048576) : PFn Tryd.prog 25 [Tbls.enc l] (.bool (okT l)) := tableMay valFns (Nat.le_refl _) l (in_of h)
end Go.Proofs.YtijlmchfepjjkaaDoor
namespace Go.Proofs.YtijlmchfepjjkaaDoor
open Go Go.Av
set_option maxRecDepth 100000
set_option maxHeartbeats 16000000
set_option linter.unusedVariables false
set_option linter.unusedSimpArgs false
attribute [local irreducible] HCode AOps PFn AFn Av.Step TStep

theorem colOk_cell (m : Mem) : colOk (allV good) standV m = (good m.name && (allV good m.v && cellV m.v)) := by
  unfold colOk; rw [cell_stand]
theorem commandMays (l : List Tbl) (c : Cmd) (h : tabSize l + c.size + 1 ≤ 1048576) : PFn Tryd.prog 12 [Tbls.enc l, c.enc] (.bool true) := by
  refine AFn.plain rfl (by simp [AV.closedL, Tbls.closed, Cmd.closed]) (AFn.enter [4] Tryd.func12 rfl rfl rfl rfl rfl (by decide) ?_)
  have hcs : c.size = c.name.length + c.table.length + c.col.length + c.typ.length + sumSize Mem.size c.args + 5 := rfl
  have hal := sumSize_length Mem.size_pos c.args
  have hF : Fine 1048576 l := fine_le (fine_of (Nat.le_refl (tabSize l))) (by omega)
  have hl := light_of l _ (Nat.le_refl _) (by omega)
  have hc := lightC c (by omega)
  have hw := awake
  have hm := mayOf l (by omega)
  have hd := cmdDo l c (fine_of (Nat.le_refl _)) (by omega)
  have g1 := lgood c.table (by omega)
  have g2 := lgood c.typ (by omega)
  have g3 := lgood c.col (by omega)
  cases d1 : lightT l <;> rw [d1] at hl
  · repeat' first
      | refine .br ?_
      | refine .seq ?_ | refine .rg ?_ | refine .rd ?_ | refine .block ?_ | refine .scope ?_ | refine .skip ?_ | refine .label ?_ | refine .exit ?_ | refine .ret ?_
      | refine .ct ?_ | refine .cf ?_ | refine .cy ?_ | refine .cn ?_ | (refine .cond rfl ?_ ?_ <;> intro hc)
      | refine A.nil_seq ?_ | refine .nl ?_ | refine .dd ?_ | refine .ys ?_ | refine .no ?_ | (refine A.guard rfl ?_ ?_ <;> intro hc)
      | refine .lb ?_ | refine .ln ?_ | refine .ls ?_ | refine .pv ?_ | refine .ix ?_ | refine .pt ?_ | refine .pf ?_ | refine .bx ?_ | refine .al ?_ | refine .st ?_ | refine .ad ?_ | refine .sb ?_ | refine .mf ?_ | refine .cl ?_ | refine .cw ?_ | refine .ck ?_ | fail
    exact Fin.ret1 rfl (Weak.refl _)
  cases d2 : lightCmd c <;> rw [d2] at hc
  · repeat' first
      | refine .br ?_
      | refine .seq ?_ | refine .rg ?_ | refine .rd ?_ | refine .block ?_ | refine .scope ?_ | refine .skip ?_ | refine .label ?_ | refine .exit ?_ | refine .ret ?_
      | refine .ct ?_ | refine .cf ?_ | refine .cy ?_ | refine .cn ?_ | (refine .cond rfl ?_ ?_ <;> intro hc)
      | refine A.nil_seq ?_ | refine .nl ?_ | refine .dd ?_ | refine .ys ?_ | refine .no ?_ | (refine A.guard rfl ?_ ?_ <;> intro hc)
      | refine .lb ?_ | refine .ln ?_ | refine .ls ?_ | refine .pv ?_ | refine .ix ?_ | refine .pt ?_ | refine .pf ?_ | refine .bx ?_ | refine .al ?_ | refine .st ?_ | refine .ad ?_ | refine .sb ?_ | refine .mf ?_ | refine .cl ?_ | refine .cw ?_ | refine .ck ?_ | fail
    exact Fin.ret1 rfl (Weak.refl _)
  cases d3 : okT l <;> rw [d3] at hm
  · repeat' first
      | refine .br ?_
      | refine .seq ?_ | refine .rg ?_ | refine .rd ?_ | refine .block ?_ | refine .scope ?_ | refine .skip ?_ | refine .label ?_ | refine .exit ?_ | refine .ret ?_
      | refine .ct ?_ | refine .cf ?_ | refine .cy ?_ | refine .cn ?_ | (refine .cond rfl ?_ ?_ <;> intro hc)
      | refine A.nil_seq ?_ | refine .nl ?_ | refine .dd ?_ | refine .ys ?_ | refine .no ?_ | (refine A.guard rfl ?_ ?_ <;> intro hc)
      | refine .lb ?_ | refine .ln ?_ | refine .ls ?_ | refine .pv ?_ | refine .ix ?_ | refine .pt ?_ | refine .pf ?_ | refine .bx ?_ | refine .al ?_ | refine .st ?_ | refine .ad ?_ | refine .sb ?_ | refine .mf ?_ | refine .cl ?_ | refine .cw ?_ | refine .ck ?_ | fail
    exact Fin.ret1 rfl (Weak.refl _)
  cases d4 : good c.table <;> rw [d4] at g1
  · repeat' first
      | refine .br ?_
      | refine .seq ?_ | refine .rg ?_ | refine .rd ?_ | refine .block ?_ | refine .scope ?_ | refine .skip ?_ | refine .label ?_ | refine .exit ?_ | refine .ret ?_
      | refine .ct ?_ | refine .cf ?_ | refine .cy ?_ | refine .cn ?_ | (refine .cond rfl ?_ ?_ <;> intro hc)
      | refine A.nil_seq ?_ | refine .nl ?_ | refine .dd ?_ | refine .ys ?_ | refine .no ?_ | (refine A.guard rfl ?_ ?_ <;> intro hc)
      | refine .lb ?_ | refine .ln ?_ | refine .ls ?_ | refine .pv ?_ | refine .ix ?_ | refine .pt ?_ | refine .pf ?_ | refine .bx ?_ | refine .al ?_ | refine .st ?_ | refine .ad ?_ | refine .sb ?_ | refine .mf ?_ | refine .cl ?_ | refine .cw ?_ | refine .ck ?_ | fail
    exact Fin.ret1 rfl (Weak.refl _)
  cases d5 : good c.typ <;> rw [d5] at g2
  · repeat' first
      | refine .br ?_
      | refine .seq ?_ | refine .rg ?_ | refine .rd ?_ | refine .block ?_ | refine .scope ?_ | refine .skip ?_ | refine .label ?_ | refine .exit ?_ | refine .ret ?_
      | refine .ct ?_ | refine .cf ?_ | refine .cy ?_ | refine .cn ?_ | (refine .cond rfl ?_ ?_ <;> intro hc)
      | refine A.nil_seq ?_ | refine .nl ?_ | refine .dd ?_ | refine .ys ?_ | refine .no ?_ | (refine A.guard rfl ?_ ?_ <;> intro hc)
      | refine .lb ?_ | refine .ln ?_ | refine .ls ?_ | refine .pv ?_ | refine .ix ?_ | refine .pt ?_ | refine .pf ?_ | refine .bx ?_ | refine .al ?_ | refine .st ?_ | refine .ad ?_ | refine .sb ?_ | refine .mf ?_ | refine .cl ?_ | refine .cw ?_ | refine .ck ?_ | fail
    exact Fin.ret1 rfl (Weak.refl _)
  cases d6 : good c.col <;> rw [d6] at g3
  · repeat' first
      | refine .br ?_
      | refine .seq ?_ | refine .rg ?_ | refine .rd ?_ | refine .block ?_ | refine .scope ?_ | refine .skip ?_ | refine .label ?_ | refine .exit ?_ | refine .ret ?_
      | refine .ct ?_ | refine .cf ?_ | refine .cy ?_ | refine .cn ?_ | (refine .cond rfl ?_ ?_ <;> intro hc)
      | refine A.nil_seq ?_ | refine .nl ?_ | refine .dd ?_ | refine .ys ?_ | refine .no ?_ | (refine A.guard rfl ?_ ?_ <;> intro hc)
      | refine .lb ?_ | refine .ln ?_ | refine .ls ?_ | refine .pv ?_ | refine .ix ?_ | refine .pt ?_ | refine .pf ?_ | refine .bx ?_ | refine .al ?_ | refine .st ?_ | refine .ad ?_ | refine .sb ?_ | refine .mf ?_ | refine .cl ?_ | refine .cw ?_ | refine .ck ?_ | fail
    exact Fin.ret1 rfl (Weak.refl _)
  repeat' first
    | refine .br ?_
    | refine .seq ?_ | refine .rg ?_ | refine .rd ?_ | refine .block ?_ | refine .scope ?_ | refine .skip ?_ | refine .label ?_ | refine .exit ?_ | refine .ret ?_
    | refine .ct ?_ | refine .cf ?_ | refine .cy ?_ | refine .cn ?_ | (refine .cond rfl ?_ ?_ <;> intro hc)
    | refine A.nil_seq ?_ | refine .nl ?_ | refine .dd ?_ | refine .ys ?_ | refine .no ?_ | (refine A.guard rfl ?_ ?_ <;> intro hc)
    | refine .lb ?_ | refine .ln ?_ | refine .ls ?_ | refine .pv ?_ | refine .ix ?_ | refine .pt ?_ | refine .pf ?_ | refine .bx ?_ | refine .al ?_ | refine .st ?_ | refine .ad ?_ | refine .sb ?_ | refine .mf ?_ | refine .cl ?_ | refine .cw ?_ | refine .ck ?_ | fail
  refine HCode.forK c.args.length (fun k => [(5, .int .i64 k), (3, .rptr c.enc), (0, Tbls.enc l)])
    (fun _ => ⟨[], []⟩) (fun k => ∀ m ∈ c.args.take k, colOk (allV good) standV m = true) ⟨rfl, rfl, rfl, trivial⟩ rfl (by simp) fun k hk hp => ?_
  by_cases h1 : k < c.args.length
  · have e1 : decide ((k : Int) < (c.args.length : Int)) = true := by simp [h1]
    have e1' : decide ((k : Int) < ((c.args.map Mem.enc).length : Int)) = true := by simp [h1]
    have x1 := map_get' (f := Mem.enc) h1
    have hz := sumSize_mem (size := Mem.size) (List.getElem_mem h1)
    have hz2 : c.args[k].size = c.args[k].name.length + 2 + c.args[k].v.size := rfl
    have g4 := lgood c.args[k].name (by omega)
    have g5 := rCell c.args[k].v (by omega)
    have hco := colOk_cell c.args[k]
    generalize good c.args[k].name = b1 at g4 hco
    generalize (allV good c.args[k].v && cellV c.args[k].v) = b2 at g5 hco
    cases b1 <;> cases b2
    all_goals
      repeat' first
        | refine .seq ?_ | refine .rg ?_ | refine .rd ?_ | refine .block ?_ | refine .scope ?_ | refine .skip ?_ | refine .label ?_ | refine .exit ?_ | refine .ret ?_
        | refine .ct ?_ | refine .cf ?_ | refine .cy ?_ | refine .cn ?_ | (refine .cond rfl ?_ ?_ <;> intro hc)
        | refine A.nil_seq ?_ | refine .nl ?_ | refine .dd ?_ | refine .ys ?_ | refine .no ?_ | (refine A.guard rfl ?_ ?_ <;> intro hc)
        | refine .lb ?_ | refine .ln ?_ | refine .ls ?_ | refine .pv ?_ | refine .ix ?_ | refine .pt ?_ | refine .pf ?_ | refine .bx ?_ | refine .al ?_ | refine .st ?_ | refine .ad ?_ | refine .sb ?_ | refine .mf ?_ | refine .cl ?_ | refine .cw ?_ | refine .ck ?_ | fail
      first
        | exact Fin.ret1 rfl (Weak.refl _)
        | (exact ⟨h1, ⟨rfl, rfl, rfl, trivial⟩, by simp [belowS, AV.low, Tbls.enc, Tbl.lowL, AV.low_of_closed, Cmd.closed], rfl, rfl, fun m hm => by
            rw [List.take_succ_eq_append_getElem h1] at hm
            rcases List.mem_append.1 hm with hm | hm
            · exact hp m hm
            · rw [List.mem_singleton.1 hm]; exact hco⟩)
  · have e1 : decide ((k : Int) < (c.args.length : Int)) = false := by simp; omega
    have e1' : decide ((k : Int) < ((c.args.map Mem.enc).length : Int)) = false := by simp; omega
    obtain rfl : k = c.args.length := by omega
    rw [List.take_length] at hp
    have hok : okT (cmdG l c).1 = true := cmd_ok (fun n => ⟨good_int n, rfl⟩) (fun v => good_text) d3 ⟨d4, d5, d6, hp⟩
    have hm2 : PFn Tryd.prog 25 [Tbls.enc (cmdG l c).1] (.bool (okT (cmdG l c).1)) := tableMay valFns (Nat.le_refl _) _ (cmd_in h)
    rw [hok] at hm2
    repeat' first
      | refine .seq ?_ | refine .rg ?_ | refine .rd ?_ | refine .block ?_ | refine .scope ?_ | refine .skip ?_ | refine .label ?_ | refine .exit ?_ | refine .ret ?_
      | refine .ct ?_ | refine .cf ?_ | refine .cy ?_ | refine .cn ?_ | (refine .cond rfl ?_ ?_ <;> intro hc)
      | refine A.nil_seq ?_ | refine .nl ?_ | refine .dd ?_ | refine .ys ?_ | refine .no ?_ | (refine A.guard rfl ?_ ?_ <;> intro hc)
      | refine .lb ?_ | refine .ln ?_ | refine .ls ?_ | refine .pv ?_ | refine .ix ?_ | refine .pt ?_ | refine .pf ?_ | refine .bx ?_ | refine .al ?_ | refine .st ?_ | refine .ad ?_ | refine .sb ?_ | refine .mf ?_ | refine .cl ?_ | refine .cw ?_ | refine .ck ?_ | fail
    exact Fin.ret1 rfl (Weak.refl _)
end Go.Proofs.YtijlmchfepjjkaaDoor
