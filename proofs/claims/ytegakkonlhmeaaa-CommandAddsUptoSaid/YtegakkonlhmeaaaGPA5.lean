/-
  Contracts and plain facts for a law, joined.
-/
import Derived.Test.YtegakkonlhmeaaaGPA1
import Derived.Test.YtegakkonlhmeaaaAvFun
import Derived.Test.YtegakkonlhmeaaaGPA4
set_option maxRecDepth 100000
set_option maxHeartbeats 16000000
set_option linter.unusedVariables false
set_option linter.unusedSimpArgs false
set_option linter.unusedSectionVars false
namespace Go.Proofs.Ytegakkonlhmeaaa
open Go Go.Av
attribute [local irreducible] HCode AOps PFn AFn Av.Step TStep
theorem eqFuncV (F : FuncId) (a b : List Val) (ha : a.length ≤ 9223372036854775806) (hb : b.length ≤ 9223372036854775806) (hF : ∀ x ∈ a, ∀ y ∈ b, PFn Try.prog F [x.enc, y.enc] (.bool (sameV x y))) :
    PFn Try.prog 22 [.slice (a.map Val.enc) .no, .slice (b.map Val.enc) .no, .fn (.func F) [] []] (.bool (sameL a b)) := by
  refine AFn.plain rfl (by simp [AV.closedL, AV.closed, Val.closedL']) (AFn.enter [6] Try.func22 rfl rfl rfl rfl rfl (by decide) ?_)
  by_cases hl : a.length = b.length
  · have d0 : ((a.length : Int) != (b.length : Int)) = false := by simp [hl]
    repeat' first | refine .seq ?_ | refine .rg ?_ | refine .rd ?_ | refine .block ?_ | refine .scope ?_ | refine .skip ?_ | refine .label ?_ | refine .exit ?_ | refine .ret ?_ | refine .ct ?_ | refine .cf ?_ | refine .cy ?_ | refine .cn ?_ | (refine .cond rfl ?_ ?_ <;> intro hc) | refine A.nil_seq ?_ | refine .nl ?_ | refine .dd ?_ | refine .ys ?_ | refine .no ?_ | (refine A.guard rfl ?_ ?_ <;> intro hc) | refine .lb ?_ | refine .ln ?_ | refine .ls ?_ | refine .pv ?_ | refine .ix ?_ | refine .pt ?_ | refine .pf ?_ | refine .bx ?_ | refine .al ?_ | refine .st ?_ | refine .ad ?_ | refine .sb ?_ | refine .mf ?_ | refine .cl ?_ | refine .cw ?_ | refine .ck ?_ | fail
    change HCode _ _ _ _ _ _ _
    refine HCode.loop (fun n s σ => ∃ k : Nat, n = a.length - k ∧ k ≤ a.length ∧ sameL a b = sameL (a.drop k) (b.drop k) ∧ σ = ⟨[], []⟩ ∧
      s = [(17, .int .i64 k), (16, .int .i64 a.length), (15, .slice (a.map Val.enc) .no), (1, .slice (b.map Val.enc) .no), (2, .fn (.func F) [] [])])
      (s0 := [(17, .int .i64 (0 : Nat)), (16, .int .i64 a.length), (15, .slice (a.map Val.enc) .no), (1, .slice (b.map Val.enc) .no), (2, .fn (.func F) [] [])])
      ⟨rfl, rfl, rfl, rfl, rfl, trivial⟩ ⟨0, rfl, Nat.zero_le _, rfl, rfl, rfl⟩ ?_
    rintro n s σ ⟨k, rfl, hk, hp, rfl, rfl⟩
    by_cases h1 : k < a.length
    · have d1 : decide ((k : Int) < (a.length : Int)) = true := by simp [h1]
      have x1 := map_get' (f := Val.enc) h1
      have h2 : k < b.length := by omega
      have x2 := map_get' (f := Val.enc) h2
      have hf := hF a[k] (List.getElem_mem h1) b[k] (List.getElem_mem h2)
      by_cases c : sameV a[k] b[k] = true
      · have e1 : (!sameV a[k] b[k]) = false := by rw [c]; rfl
        repeat' first | refine .seq ?_ | refine .rg ?_ | refine .rd ?_ | refine .block ?_ | refine .scope ?_ | refine .skip ?_ | refine .label ?_ | refine .exit ?_ | refine .ret ?_ | refine .ct ?_ | refine .cf ?_ | refine .cy ?_ | refine .cn ?_ | (refine .cond rfl ?_ ?_ <;> intro hc) | refine A.nil_seq ?_ | refine .nl ?_ | refine .dd ?_ | refine .ys ?_ | refine .no ?_ | (refine A.guard rfl ?_ ?_ <;> intro hc) | refine .lb ?_ | refine .ln ?_ | refine .ls ?_ | refine .pv ?_ | refine .ix ?_ | refine .pt ?_ | refine .pf ?_ | refine .bx ?_ | refine .al ?_ | refine .st ?_ | refine .ad ?_ | refine .sb ?_ | refine .mf ?_ | refine .cl ?_ | refine .cw ?_ | refine .ck ?_ | refine A.callv rfl rfl hf (WeakL.refl _) ?_ | fail
        refine ⟨a.length - (k + 1), by omega, [(17, .int .i64 ((k + 1 : Nat) : Int)), (16, .int .i64 a.length), (15, .slice (a.map Val.enc) .no), (1, .slice (b.map Val.enc) .no), (2, .fn (.func F) [] [])],
          ⟨rfl, rfl, rfl, rfl, rfl, trivial⟩, by simp [belowS, AV.low, AV.lowL, Val.lowL'], rfl, k + 1, rfl, by omega, by rw [hp, sameL_drop h1 h2, c]; rfl, rfl, rfl⟩
      · have c' : sameV a[k] b[k] = false := by simpa using c
        have e1 : (!sameV a[k] b[k]) = true := by rw [c']; rfl
        repeat' first | refine .seq ?_ | refine .rg ?_ | refine .rd ?_ | refine .block ?_ | refine .scope ?_ | refine .skip ?_ | refine .label ?_ | refine .exit ?_ | refine .ret ?_ | refine .ct ?_ | refine .cf ?_ | refine .cy ?_ | refine .cn ?_ | (refine .cond rfl ?_ ?_ <;> intro hc) | refine A.nil_seq ?_ | refine .nl ?_ | refine .dd ?_ | refine .ys ?_ | refine .no ?_ | (refine A.guard rfl ?_ ?_ <;> intro hc) | refine .lb ?_ | refine .ln ?_ | refine .ls ?_ | refine .pv ?_ | refine .ix ?_ | refine .pt ?_ | refine .pf ?_ | refine .bx ?_ | refine .al ?_ | refine .st ?_ | refine .ad ?_ | refine .sb ?_ | refine .mf ?_ | refine .cl ?_ | refine .cw ?_ | refine .ck ?_ | refine A.callv rfl rfl hf (WeakL.refl _) ?_ | fail
        refine Fin.ret1 rfl (Weak.eq (congrArg AV.bool ?_))
        rw [hp, sameL_drop h1 h2, c']; rfl
    · have d1 : decide ((k : Int) < (a.length : Int)) = false := by simp; omega
      repeat' first | refine .seq ?_ | refine .rg ?_ | refine .rd ?_ | refine .block ?_ | refine .scope ?_ | refine .skip ?_ | refine .label ?_ | refine .exit ?_ | refine .ret ?_ | refine .ct ?_ | refine .cf ?_ | refine .cy ?_ | refine .cn ?_ | (refine .cond rfl ?_ ?_ <;> intro hc) | refine A.nil_seq ?_ | refine .nl ?_ | refine .dd ?_ | refine .ys ?_ | refine .no ?_ | (refine A.guard rfl ?_ ?_ <;> intro hc) | refine .lb ?_ | refine .ln ?_ | refine .ls ?_ | refine .pv ?_ | refine .ix ?_ | refine .pt ?_ | refine .pf ?_ | refine .bx ?_ | refine .al ?_ | refine .st ?_ | refine .ad ?_ | refine .sb ?_ | refine .mf ?_ | refine .cl ?_ | refine .cw ?_ | refine .ck ?_ | fail
      refine Fin.ret1 rfl (Weak.eq (congrArg AV.bool ?_))
      rw [hp, List.drop_eq_nil_of_le (by omega), List.drop_eq_nil_of_le (by omega)]
      rfl
  · have d0 : ((a.length : Int) != (b.length : Int)) = true := by simp; omega
    repeat' first | refine .seq ?_ | refine .rg ?_ | refine .rd ?_ | refine .block ?_ | refine .scope ?_ | refine .skip ?_ | refine .label ?_ | refine .exit ?_ | refine .ret ?_ | refine .ct ?_ | refine .cf ?_ | refine .cy ?_ | refine .cn ?_ | (refine .cond rfl ?_ ?_ <;> intro hc) | refine A.nil_seq ?_ | refine .nl ?_ | refine .dd ?_ | refine .ys ?_ | refine .no ?_ | (refine A.guard rfl ?_ ?_ <;> intro hc) | refine .lb ?_ | refine .ln ?_ | refine .ls ?_ | refine .pv ?_ | refine .ix ?_ | refine .pt ?_ | refine .pf ?_ | refine .bx ?_ | refine .al ?_ | refine .st ?_ | refine .ad ?_ | refine .sb ?_ | refine .mf ?_ | refine .cl ?_ | refine .cw ?_ | refine .ck ?_ | fail
    exact Fin.ret1 rfl (Weak.eq (by rw [sameL_len hl]))
theorem eqFuncM (F : FuncId) (a b : List Mem) (ha : a.length ≤ 9223372036854775806) (hb : b.length ≤ 9223372036854775806) (hF : ∀ x ∈ a, ∀ y ∈ b, PFn Try.prog F [x.enc, y.enc] (.bool (x.name == y.name && sameV x.v y.v))) :
    PFn Try.prog 23 [.slice (a.map Mem.enc) .no, .slice (b.map Mem.enc) .no, .fn (.func F) [] []] (.bool (sameM a b)) := by
  refine AFn.plain rfl (by simp [AV.closedL, AV.closed, Mem.closedL]) (AFn.enter [6] Try.func23 rfl rfl rfl rfl rfl (by decide) ?_)
  by_cases hl : a.length = b.length
  · have d0 : ((a.length : Int) != (b.length : Int)) = false := by simp [hl]
    repeat' first | refine .seq ?_ | refine .rg ?_ | refine .rd ?_ | refine .block ?_ | refine .scope ?_ | refine .skip ?_ | refine .label ?_ | refine .exit ?_ | refine .ret ?_ | refine .ct ?_ | refine .cf ?_ | refine .cy ?_ | refine .cn ?_ | (refine .cond rfl ?_ ?_ <;> intro hc) | refine A.nil_seq ?_ | refine .nl ?_ | refine .dd ?_ | refine .ys ?_ | refine .no ?_ | (refine A.guard rfl ?_ ?_ <;> intro hc) | refine .lb ?_ | refine .ln ?_ | refine .ls ?_ | refine .pv ?_ | refine .ix ?_ | refine .pt ?_ | refine .pf ?_ | refine .bx ?_ | refine .al ?_ | refine .st ?_ | refine .ad ?_ | refine .sb ?_ | refine .mf ?_ | refine .cl ?_ | refine .cw ?_ | refine .ck ?_ | fail
    change HCode _ _ _ _ _ _ _
    refine HCode.loop (fun n s σ => ∃ k : Nat, n = a.length - k ∧ k ≤ a.length ∧ sameM a b = sameM (a.drop k) (b.drop k) ∧ σ = ⟨[], []⟩ ∧
      s = [(17, .int .i64 k), (16, .int .i64 a.length), (15, .slice (a.map Mem.enc) .no), (1, .slice (b.map Mem.enc) .no), (2, .fn (.func F) [] [])])
      (s0 := [(17, .int .i64 (0 : Nat)), (16, .int .i64 a.length), (15, .slice (a.map Mem.enc) .no), (1, .slice (b.map Mem.enc) .no), (2, .fn (.func F) [] [])])
      ⟨rfl, rfl, rfl, rfl, rfl, trivial⟩ ⟨0, rfl, Nat.zero_le _, rfl, rfl, rfl⟩ ?_
    rintro n s σ ⟨k, rfl, hk, hp, rfl, rfl⟩
    by_cases h1 : k < a.length
    · have d1 : decide ((k : Int) < (a.length : Int)) = true := by simp [h1]
      have x1 := map_get' (f := Mem.enc) h1
      have h2 : k < b.length := by omega
      have x2 := map_get' (f := Mem.enc) h2
      have hf := hF a[k] (List.getElem_mem h1) b[k] (List.getElem_mem h2)
      by_cases c : (a[k].name == b[k].name && sameV a[k].v b[k].v) = true
      · have e1 : (!(a[k].name == b[k].name && sameV a[k].v b[k].v)) = false := by rw [c]; rfl
        repeat' first | refine .seq ?_ | refine .rg ?_ | refine .rd ?_ | refine .block ?_ | refine .scope ?_ | refine .skip ?_ | refine .label ?_ | refine .exit ?_ | refine .ret ?_ | refine .ct ?_ | refine .cf ?_ | refine .cy ?_ | refine .cn ?_ | (refine .cond rfl ?_ ?_ <;> intro hc) | refine A.nil_seq ?_ | refine .nl ?_ | refine .dd ?_ | refine .ys ?_ | refine .no ?_ | (refine A.guard rfl ?_ ?_ <;> intro hc) | refine .lb ?_ | refine .ln ?_ | refine .ls ?_ | refine .pv ?_ | refine .ix ?_ | refine .pt ?_ | refine .pf ?_ | refine .bx ?_ | refine .al ?_ | refine .st ?_ | refine .ad ?_ | refine .sb ?_ | refine .mf ?_ | refine .cl ?_ | refine .cw ?_ | refine .ck ?_ | refine A.callv rfl rfl hf (WeakL.refl _) ?_ | fail
        refine ⟨a.length - (k + 1), by omega, [(17, .int .i64 ((k + 1 : Nat) : Int)), (16, .int .i64 a.length), (15, .slice (a.map Mem.enc) .no), (1, .slice (b.map Mem.enc) .no), (2, .fn (.func F) [] [])],
          ⟨rfl, rfl, rfl, rfl, rfl, trivial⟩, by simp [belowS, AV.low, AV.lowL, Mem.lowL], rfl, k + 1, rfl, by omega, by rw [hp, sameM_drop h1 h2, c]; rfl, rfl, rfl⟩
      · have c' : (a[k].name == b[k].name && sameV a[k].v b[k].v) = false := by simpa using c
        have e1 : (!(a[k].name == b[k].name && sameV a[k].v b[k].v)) = true := by rw [c']; rfl
        repeat' first | refine .seq ?_ | refine .rg ?_ | refine .rd ?_ | refine .block ?_ | refine .scope ?_ | refine .skip ?_ | refine .label ?_ | refine .exit ?_ | refine .ret ?_ | refine .ct ?_ | refine .cf ?_ | refine .cy ?_ | refine .cn ?_ | (refine .cond rfl ?_ ?_ <;> intro hc) | refine A.nil_seq ?_ | refine .nl ?_ | refine .dd ?_ | refine .ys ?_ | refine .no ?_ | (refine A.guard rfl ?_ ?_ <;> intro hc) | refine .lb ?_ | refine .ln ?_ | refine .ls ?_ | refine .pv ?_ | refine .ix ?_ | refine .pt ?_ | refine .pf ?_ | refine .bx ?_ | refine .al ?_ | refine .st ?_ | refine .ad ?_ | refine .sb ?_ | refine .mf ?_ | refine .cl ?_ | refine .cw ?_ | refine .ck ?_ | refine A.callv rfl rfl hf (WeakL.refl _) ?_ | fail
        refine Fin.ret1 rfl (Weak.eq (congrArg AV.bool ?_))
        rw [hp, sameM_drop h1 h2, c']; rfl
    · have d1 : decide ((k : Int) < (a.length : Int)) = false := by simp; omega
      repeat' first | refine .seq ?_ | refine .rg ?_ | refine .rd ?_ | refine .block ?_ | refine .scope ?_ | refine .skip ?_ | refine .label ?_ | refine .exit ?_ | refine .ret ?_ | refine .ct ?_ | refine .cf ?_ | refine .cy ?_ | refine .cn ?_ | (refine .cond rfl ?_ ?_ <;> intro hc) | refine A.nil_seq ?_ | refine .nl ?_ | refine .dd ?_ | refine .ys ?_ | refine .no ?_ | (refine A.guard rfl ?_ ?_ <;> intro hc) | refine .lb ?_ | refine .ln ?_ | refine .ls ?_ | refine .pv ?_ | refine .ix ?_ | refine .pt ?_ | refine .pf ?_ | refine .bx ?_ | refine .al ?_ | refine .st ?_ | refine .ad ?_ | refine .sb ?_ | refine .mf ?_ | refine .cl ?_ | refine .cw ?_ | refine .ck ?_ | fail
      refine Fin.ret1 rfl (Weak.eq (congrArg AV.bool ?_))
      rw [hp, List.drop_eq_nil_of_le (by omega), List.drop_eq_nil_of_le (by omega)]
      rfl
  · have d0 : ((a.length : Int) != (b.length : Int)) = true := by simp; omega
    repeat' first | refine .seq ?_ | refine .rg ?_ | refine .rd ?_ | refine .block ?_ | refine .scope ?_ | refine .skip ?_ | refine .label ?_ | refine .exit ?_ | refine .ret ?_ | refine .ct ?_ | refine .cf ?_ | refine .cy ?_ | refine .cn ?_ | (refine .cond rfl ?_ ?_ <;> intro hc) | refine A.nil_seq ?_ | refine .nl ?_ | refine .dd ?_ | refine .ys ?_ | refine .no ?_ | (refine A.guard rfl ?_ ?_ <;> intro hc) | refine .lb ?_ | refine .ln ?_ | refine .ls ?_ | refine .pv ?_ | refine .ix ?_ | refine .pt ?_ | refine .pf ?_ | refine .bx ?_ | refine .al ?_ | refine .st ?_ | refine .ad ?_ | refine .sb ?_ | refine .mf ?_ | refine .cl ?_ | refine .cw ?_ | refine .ck ?_ | fail
    exact Fin.ret1 rfl (Weak.eq (by rw [sameM_len hl]))
theorem vSame : ∀ (N : Nat) (a b : Val), a.size ≤ N → N ≤ 9223372036854775806 → b.size ≤ 9223372036854775806 → PFn Try.prog 13 [a.enc, b.enc] (.bool (sameV a b))
  | 0, a, _, ha, _, _ => absurd ha (by have := a.size_pos; omega)
  | N + 1, a, b, ha, hN, hb => by
    have ih := vSame N
    have hl := eqFuncV 13 a.l b.l (by have := a.l_len; omega) (by have := b.l_len; omega) (fun x hx y hy => by
      obtain ⟨i, hi, rfl⟩ := List.getElem_of_mem hx
      obtain ⟨j, hj, rfl⟩ := List.getElem_of_mem hy
      have h1 := Val.size_l hi
      have h2 := Val.size_l hj
      exact ih _ _ (by omega) (by omega) (by omega))
    have hm := eqFuncM 24 a.m b.m (by have := a.m_len; omega) (by have := b.m_len; omega) (fun x hx y hy => by
      obtain ⟨i, hi, rfl⟩ := List.getElem_of_mem hx
      obtain ⟨j, hj, rfl⟩ := List.getElem_of_mem hy
      have h1 := Val.size_m hi
      have h2 := Val.size_m hj
      have hv := ih a.m[i].v b.m[j].v (by omega) (by omega) (by omega)
      refine AFn.plain rfl (by simp [AV.closedL, Mem.closed]) (AFn.enter [4] Try.func24 rfl rfl rfl rfl rfl (by decide) ?_)
      repeat' first | refine A.box_r rfl rfl ?_ | refine .seq ?_ | refine .rg ?_ | refine .rd ?_ | refine .block ?_ | refine .scope ?_ | refine .skip ?_ | refine .label ?_ | refine .exit ?_ | refine .ret ?_ | refine .ct ?_ | refine .cf ?_ | refine .cy ?_ | refine .cn ?_ | (refine .cond rfl ?_ ?_ <;> intro hc) | refine A.nil_seq ?_ | refine .nl ?_ | refine .dd ?_ | refine .ys ?_ | refine .no ?_ | (refine A.guard rfl ?_ ?_ <;> intro hc) | refine .lb ?_ | refine .ln ?_ | refine .ls ?_ | refine .pv ?_ | refine .ix ?_ | refine .pt ?_ | refine .pf ?_ | refine .bx ?_ | refine .al ?_ | refine .st ?_ | refine .ad ?_ | refine .sb ?_ | refine .mf ?_ | refine .cl ?_ | refine .cw ?_ | refine .ck ?_ | refine A.call rfl hv (WeakL.refl _) ?_ | fail
      all_goals
        refine Fin.ret1 rfl (Weak.eq (congrArg AV.bool ?_))
        simp_all)
    rw [← a.lv_eq, ← b.lv_eq] at hl
    rw [← a.mv_eq, ← b.mv_eq] at hm
    refine AFn.plain rfl (by simp [AV.closedL, Val.closed]) (AFn.enter [4] Try.func13 rfl rfl rfl rfl rfl (by decide) ?_)
    rw [sameV_eq]
    repeat' first | refine A.box_r rfl rfl ?_ | refine .seq ?_ | refine .rg ?_ | refine .rd ?_ | refine .block ?_ | refine .scope ?_ | refine .skip ?_ | refine .label ?_ | refine .exit ?_ | refine .ret ?_ | refine .ct ?_ | refine .cf ?_ | refine .cy ?_ | refine .cn ?_ | (refine .cond rfl ?_ ?_ <;> intro hc) | refine A.nil_seq ?_ | refine .nl ?_ | refine .dd ?_ | refine .ys ?_ | refine .no ?_ | (refine A.guard rfl ?_ ?_ <;> intro hc) | refine .lb ?_ | refine .ln ?_ | refine .ls ?_ | refine .pv ?_ | refine .ix ?_ | refine .pt ?_ | refine .pf ?_ | refine .bx ?_ | refine .al ?_ | refine .st ?_ | refine .ad ?_ | refine .sb ?_ | refine .mf ?_ | refine .cl ?_ | refine .cw ?_ | refine .ck ?_ | refine A.call rfl hl (WeakL.refl _) ?_ | refine A.call rfl hm (WeakL.refl _) ?_ | fail
    all_goals
      refine Fin.ret1 rfl (Weak.eq (congrArg AV.bool ?_))
      simp_all
end Go.Proofs.Ytegakkonlhmeaaa
namespace Go.Av
open Go
section
variable {P : Program} {all : Array Oper} {draw : Bool} {K : AX → Slots → St → Prop} {rest : List Oper} {acc : List Tag} {s : Slots} {σ : St} {ty : TypeId} {pos : String} {af : Array Edge}
theorem A.min2 {d : Tmp} {x y : Operand} {tys : Array TypeId} {m n r : Int} (hx : ev? s x = some (.int .i64 m)) (hy : ev? s y = some (.int .i64 n)) (hr : (if n < m then n else m) = r)
    (k : AOps P all draw K rest (.pure :: acc) ((d, .int .i64 r) :: s) σ) : AOps P all draw K (⟨some d, .call ⟨.builtin .min, #[x, y], tys⟩, ty, pos, af, none⟩ :: rest) acc s σ :=
  A.step rfl (tpure fun g w a ho => by
    have h1 : a.eval x = .int .i64 m := op1 hx (by simp [Op.operands, Call.operands]) ho
    have h2 : a.eval y = .int .i64 n := op1 hy (by simp [Op.operands, Call.operands]) ho
    exact ⟨.int .i64 r, by subst hr; simp [execOp, resolve, invoke, builtin, Builtin.min_, Builtin.min2, h1, h2, Result.andThen], rfl⟩) k
end
end Go.Av
namespace Go.Proofs.Ytegakkonlhmeaaa
open Go Go.Av
attribute [local irreducible] HCode AOps PFn AFn Av.Step TStep
theorem fidxA_none {α : Type} {p : α → Bool} : ∀ {l : List α}, fidx p l = none → ∀ x ∈ l, p x = false
  | [], _, x, hx => by simp at hx
  | y :: l, h, x, hx => by
    rw [fidx] at h
    by_cases c : p y = true
    · rw [if_pos c] at h; cases h
    · rw [if_neg c] at h
      have h' : fidx p l = none := by cases e : fidx p l <;> simp_all
      rcases List.mem_cons.1 hx with rfl | hx
      · simpa using c
      · exact fidxA_none h' x hx
theorem fidxA_some {α : Type} {p : α → Bool} {l : List α} {i : Nat} (h : fidx p l = some i) : ∃ hi : i < l.length, p l[i] = true := by
  rcases fidx_spec p l 0 with ⟨_, h2⟩ | ⟨j, hj, _, h2, h3⟩
  · rw [h2] at h; cases h
  · rw [h2] at h; cases h; exact ⟨hj, h3⟩
theorem findA_none {α : Type} {p : α → Bool} {l : List α} (h : fidx p l = none) : l.find? p = none := List.find?_eq_none.2 fun x hx => by rw [fidxA_none h x hx]; simp
theorem findA_hit {α : Type} {p : α → Bool} : ∀ {l : List α} {i : Nat} {y : α}, fidx p l = some i → p y = true → (l.set i y).find? p = some y
  | [], _, _, h, _ => by cases h
  | x :: l, i, y, h, hy => by
    rw [fidx] at h
    by_cases c : p x = true
    · rw [if_pos c] at h; cases h
      simp [List.find?, hy]
    · rw [if_neg c] at h
      cases e : fidx p l with
      | none => rw [e] at h; cases h
      | some j =>
        rw [e] at h; cases h
        rw [List.set_cons_succ, List.find?, show p x = false by simpa using c]
        exact findA_hit e hy
theorem findA_put (l : List Tbl) (name : Str) (r : Row) : findG (putG l name r) ⟨name, r.key⟩ = gotOf r := by
  unfold findG putG
  cases e : fidx (fun t : Tbl => t.name == name) l with
  | none =>
    have h := findA_none e
    rw [List.find?_append, h]
    simp
  | some i =>
    obtain ⟨hi, hp⟩ := fidxA_some e
    dsimp only
    rw [modAt_eq hi, findA_hit e (by simpa using hp)]
    dsimp only
    unfold putRows
    cases e2 : fidx (fun x : Row => x.key == r.key) l[i].rows with
    | none =>
      have h := findA_none e2
      rw [List.find?_append, h]
      simp
    | some k =>
      rw [findA_hit e2 (by simp)]
def sAdds : Str := [97, 100, 100, 115]
def sK : Str := [107]
def sN : Str := [110]
def rowA (n : Int) : Row := ⟨sK, [84], [.mk sN (intV n)], false⟩
def cmdA (n : Int) : Cmd := ⟨sAdd, sAdds, sN, [], [.mk sKey (textV sK), .mk sBy (intV n)]⟩
theorem find_rowA (l : List Tbl) (n : Int) : findG (putG l sAdds (rowA n)) ⟨sAdds, sK⟩ = ⟨rowA n, true, 0⟩ := findA_put l sAdds (rowA n)
theorem cmd_rowA (l : List Tbl) (x y : Int) (h : findG l ⟨sAdds, sK⟩ = ⟨rowA x, true, 0⟩) :
    cmdG l (cmdA y) = if (!withinB y || !withinB x || !withinB (wrap64 (y + x))) = true then (l, val0, 8) else (putG l sAdds (rowA (wrap64 (y + x))), intV (wrap64 (y + x)), 0) := by
  have e1 : (getG sKey (cmdA y).args).1 = textV sK := rfl
  have e2 : (getG sBy (cmdA y).args).1 = intV y := rfl
  have e3 : colG (rowA x) (cmdA y).col = intV x := rfl
  have e4 : ∀ v, setG (rowA x).cols (cmdA y).col v = [.mk sN v] := fun v => rfl
  unfold cmdG
  rw [e1, show knownG (cmdA y).name = true from rfl, show ((cmdA y).name == sBurn) = false from rfl, show ((cmdA y).name == sPut) = false from rfl, show ((cmdA y).name == sCut) = false from rfl]
  rw [show findG l ⟨(cmdA y).table, (textV sK).s⟩ = ⟨rowA x, true, 0⟩ from h]
  unfold addG
  dsimp only
  rw [e2, e3, e4]
  rfl
theorem half_size {α : Type} {size : α → Nat} (h : ∀ x, 2 ≤ size x) : ∀ l : List α, 2 * l.length ≤ sumSize size l
  | [] => by simp [sumSize]
  | x :: l => by
    have := half_size h l
    have := h x
    simp only [sumSize, List.length_cons]; omega
theorem slims_half (l : List Tbl) : Slims (tabSize l / 2) (tabSize l) l := by
  have ht : ∀ t ∈ l, t.size ≤ tabSize l := fun t ht => sumSize_mem (size := Tbl.size) ht
  have hz : ∀ t : Tbl, t.size = t.name.length + sumSize Row.size t.rows + 2 := fun _ => rfl
  have hy : ∀ r : Row, r.size = r.key.length + r.typ.length + sumSize Mem.size r.cols + 4 := fun _ => rfl
  refine ⟨?_, fun t h => ?_, fun t h r hr => ⟨?_, ?_⟩⟩
  · have := half_size (size := Tbl.size) (fun t => by rw [hz]; omega) l
    unfold tabSize; omega
  · have h1 := half_size (size := Row.size) (fun t => by rw [hy]; omega) t.rows
    have := ht t h
    have := hz t
    omega
  · have h1 := half_size (size := Mem.size) (fun m => by rw [show m.size = m.name.length + 2 + m.v.size from rfl]; omega) r.cols
    have := ht t h
    have := hz t
    have h2 := sumSize_mem (size := Row.size) hr
    have := hy r
    omega
  · have := ht t h
    have := hz t
    have h2 := sumSize_mem (size := Row.size) hr
    have := hy r
    omega
theorem slim_rowA {B R : Nat} {l : List Tbl} (h : Slims B R l) (n : Int) : Slims (B + 0 + 1) (R + 15) (putG l sAdds (rowA n)) := put_slims (a := 0) (b := 15) (r := rowA n) h ⟨by show 1 ≤ B + 0 + 1; omega, by show sumSize Mem.size (rowA n).cols ≤ R + 15; simp only [rowA, sumSize, Mem.size, Mem.name, Mem.v, intV_size]; show 1 + 2 + 6 + 0 ≤ R + 15; omega⟩
theorem inF (n : Int) : PFn Try.prog 5 [.int .i64 n] (.bool (withinB n)) := by
  refine AFn.plain rfl rfl (AFn.enter [2] Try.func5 rfl rfl rfl rfl rfl (by decide) ?_)
  repeat' first | refine .seq ?_ | refine .rg ?_ | refine .rd ?_ | refine .block ?_ | refine .scope ?_ | refine .skip ?_ | refine .label ?_ | refine .exit ?_ | refine .ret ?_ | refine .ct ?_ | refine .cf ?_ | refine .cy ?_ | refine .cn ?_ | (refine .cond rfl ?_ ?_ <;> intro hc) | refine A.nil_seq ?_ | refine .nl ?_ | refine .dd ?_ | refine .ys ?_ | refine .no ?_ | (refine A.guard rfl ?_ ?_ <;> intro hc) | refine .lb ?_ | refine .ln ?_ | refine .ls ?_ | refine .pv ?_ | refine .ix ?_ | refine .pt ?_ | refine .pf ?_ | refine .bx ?_ | refine .al ?_ | refine .st ?_ | refine .ad ?_ | refine .sb ?_ | refine .mf ?_ | refine .cl ?_ | refine .cw ?_ | refine .ck ?_ | fail
  all_goals refine Fin.ret1 rfl (Weak.eq ?_)
  all_goals first | (simp_all [withinB]; done) | (simp_all [withinB]; omega)
theorem within_iff {n : Int} (h : withinB n = true) : -2147483648 ≤ n ∧ n ≤ 2147483647 := by simpa [withinB] using h
theorem wrap_small {n : Int} (h : -9223372036854775808 ≤ n ∧ n ≤ 9223372036854775807) : wrap64 n = n := by
  unfold wrap64; rw [IntKind.wrap_i64]; omega
theorem commandAdds (l : List Tbl) (x a b : Int) (h : tabSize l ≤ 1048576) : PFn Try.prog 3 [Tbls.enc l, .int .i64 x, .int .i64 a, .int .i64 b] (.bool true) := by
  refine AFn.plain rfl (by simp [AV.closedL, Tbls.closed, AV.closed]) (AFn.enter [8] Try.func3 rfl rfl rfl rfl rfl (by decide) ?_)
  have hl := light_of l _ (Nat.le_refl _) h
  have hw := awake
  have hx := inF x
  have ha := inF a
  have hb := inF b
  have hxa := inF (x + a)
  have hxab := inF (x + a + b)
  cases c0 : lightT l <;> rw [c0] at hl
  · repeat' first | refine .seq ?_ | refine .rg ?_ | refine .rd ?_ | refine .block ?_ | refine .scope ?_ | refine .skip ?_ | refine .label ?_ | refine .exit ?_ | refine .ret ?_ | refine .ct ?_ | refine .cf ?_ | refine .cy ?_ | refine .cn ?_ | (refine .cond rfl ?_ ?_ <;> intro hc) | refine A.nil_seq ?_ | refine .nl ?_ | refine .dd ?_ | refine .ys ?_ | refine .no ?_ | (refine A.guard rfl ?_ ?_ <;> intro hc) | refine .lb ?_ | refine .ln ?_ | refine .ls ?_ | refine .pv ?_ | refine .ix ?_ | refine .pt ?_ | refine .pf ?_ | refine .bx ?_ | refine .al ?_ | refine .st ?_ | refine .ad ?_ | refine .sb ?_ | refine .mf ?_ | refine .cl ?_ | refine .cw ?_ | refine .ck ?_ | fail
    exact Fin.ret1 rfl (Weak.refl _)
  cases c1 : withinB x <;> rw [c1] at hx
  · repeat' first | refine .seq ?_ | refine .rg ?_ | refine .rd ?_ | refine .block ?_ | refine .scope ?_ | refine .skip ?_ | refine .label ?_ | refine .exit ?_ | refine .ret ?_ | refine .ct ?_ | refine .cf ?_ | refine .cy ?_ | refine .cn ?_ | (refine .cond rfl ?_ ?_ <;> intro hc) | refine A.nil_seq ?_ | refine .nl ?_ | refine .dd ?_ | refine .ys ?_ | refine .no ?_ | (refine A.guard rfl ?_ ?_ <;> intro hc) | refine .lb ?_ | refine .ln ?_ | refine .ls ?_ | refine .pv ?_ | refine .ix ?_ | refine .pt ?_ | refine .pf ?_ | refine .bx ?_ | refine .al ?_ | refine .st ?_ | refine .ad ?_ | refine .sb ?_ | refine .mf ?_ | refine .cl ?_ | refine .cw ?_ | refine .ck ?_ | fail
    exact Fin.ret1 rfl (Weak.refl _)
  cases c2 : withinB a <;> rw [c2] at ha
  · repeat' first | refine .seq ?_ | refine .rg ?_ | refine .rd ?_ | refine .block ?_ | refine .scope ?_ | refine .skip ?_ | refine .label ?_ | refine .exit ?_ | refine .ret ?_ | refine .ct ?_ | refine .cf ?_ | refine .cy ?_ | refine .cn ?_ | (refine .cond rfl ?_ ?_ <;> intro hc) | refine A.nil_seq ?_ | refine .nl ?_ | refine .dd ?_ | refine .ys ?_ | refine .no ?_ | (refine A.guard rfl ?_ ?_ <;> intro hc) | refine .lb ?_ | refine .ln ?_ | refine .ls ?_ | refine .pv ?_ | refine .ix ?_ | refine .pt ?_ | refine .pf ?_ | refine .bx ?_ | refine .al ?_ | refine .st ?_ | refine .ad ?_ | refine .sb ?_ | refine .mf ?_ | refine .cl ?_ | refine .cw ?_ | refine .ck ?_ | fail
    exact Fin.ret1 rfl (Weak.refl _)
  cases c3 : withinB b <;> rw [c3] at hb
  · repeat' first | refine .seq ?_ | refine .rg ?_ | refine .rd ?_ | refine .block ?_ | refine .scope ?_ | refine .skip ?_ | refine .label ?_ | refine .exit ?_ | refine .ret ?_ | refine .ct ?_ | refine .cf ?_ | refine .cy ?_ | refine .cn ?_ | (refine .cond rfl ?_ ?_ <;> intro hc) | refine A.nil_seq ?_ | refine .nl ?_ | refine .dd ?_ | refine .ys ?_ | refine .no ?_ | (refine A.guard rfl ?_ ?_ <;> intro hc) | refine .lb ?_ | refine .ln ?_ | refine .ls ?_ | refine .pv ?_ | refine .ix ?_ | refine .pt ?_ | refine .pf ?_ | refine .bx ?_ | refine .al ?_ | refine .st ?_ | refine .ad ?_ | refine .sb ?_ | refine .mf ?_ | refine .cl ?_ | refine .cw ?_ | refine .ck ?_ | fail
    exact Fin.ret1 rfl (Weak.refl _)
  have b1 := within_iff c1
  have b2 := within_iff c2
  have b3 := within_iff c3
  cases c4 : withinB (x + a) <;> rw [c4] at hxa
  · repeat' first | refine .seq ?_ | refine .rg ?_ | refine .rd ?_ | refine .block ?_ | refine .scope ?_ | refine .skip ?_ | refine .label ?_ | refine .exit ?_ | refine .ret ?_ | refine .ct ?_ | refine .cf ?_ | refine .cy ?_ | refine .cn ?_ | (refine .cond rfl ?_ ?_ <;> intro hc) | refine A.nil_seq ?_ | refine .nl ?_ | refine .dd ?_ | refine .ys ?_ | refine .no ?_ | (refine A.guard rfl ?_ ?_ <;> intro hc) | refine .lb ?_ | refine .ln ?_ | refine .ls ?_ | refine .pv ?_ | refine .ix ?_ | refine .pt ?_ | refine .pf ?_ | refine .bx ?_ | refine .al ?_ | refine .st ?_ | refine .ad ?_ | refine .sb ?_ | refine .mf ?_ | refine .cl ?_ | refine .cw ?_ | refine .ck ?_ | fail
    exact Fin.ret1 rfl (Weak.refl _)
  cases c5 : withinB (x + a + b) <;> rw [c5] at hxab
  · repeat' first | refine .seq ?_ | refine .rg ?_ | refine .rd ?_ | refine .block ?_ | refine .scope ?_ | refine .skip ?_ | refine .label ?_ | refine .exit ?_ | refine .ret ?_ | refine .ct ?_ | refine .cf ?_ | refine .cy ?_ | refine .cn ?_ | (refine .cond rfl ?_ ?_ <;> intro hc) | refine A.nil_seq ?_ | refine .nl ?_ | refine .dd ?_ | refine .ys ?_ | refine .no ?_ | (refine A.guard rfl ?_ ?_ <;> intro hc) | refine .lb ?_ | refine .ln ?_ | refine .ls ?_ | refine .pv ?_ | refine .ix ?_ | refine .pt ?_ | refine .pf ?_ | refine .bx ?_ | refine .al ?_ | refine .st ?_ | refine .ad ?_ | refine .sb ?_ | refine .mf ?_ | refine .cl ?_ | refine .cw ?_ | refine .ck ?_ | fail
    exact Fin.ret1 rfl (Weak.refl _)
  have b4 := within_iff c4
  have b5 := within_iff c5
  have hF : Fine 1048576 l := (slims_half l).fine.le (by omega)
  have s0 := slim_rowA (slims_half l) x
  have s1 := slim_rowA s0 (x + a)
  have s2 := slim_rowA s1 (x + a + b)
  have f0 := find_rowA l x
  have f1 := find_rowA (putG l sAdds (rowA x)) (x + a)
  have f2 := find_rowA (putG (putG l sAdds (rowA x)) sAdds (rowA (x + a))) (x + a + b)
  obtain ⟨z, hz⟩ : ∃ z : Int, 2147483647 - (if (0 : Int) < x + a + b then 0 else x + a + b) + 1 = z := ⟨_, rfl⟩
  have hz1 : 2147483648 ≤ z ∧ z ≤ 4294967296 := by split at hz <;> omega
  have q1 := cmd_rowA _ x a f0
  have q2 := cmd_rowA _ (x + a) b f1
  have q3 := cmd_rowA _ (x + a + b) z f2
  rw [wrap_small (by omega), Int.add_comm a x, if_neg (by rw [c1, c2, c4]; decide)] at q1
  rw [wrap_small (by omega), Int.add_comm b (x + a), if_neg (by rw [c3, c4, c5]; decide)] at q2
  rw [if_pos (by rw [show withinB z = false by simp [withinB]; omega]; rfl)] at q3
  generalize hm0 : putG l sAdds (rowA x) = m0 at *
  generalize hm1 : putG m0 sAdds (rowA (x + a)) = m1 at *
  generalize hm2 : putG m1 sAdds (rowA (x + a + b)) = m2 at *
  have h1 := cmdDoV m0 (cmdA a) rfl s0.fine (by show _ + 2 + 1 ≤ _; omega)
  have h2 := cmdDoV m1 (cmdA b) rfl s1.fine (by show _ + 2 + 1 ≤ _; omega)
  have h3 := cmdDoV m2 (cmdA z) rfl s2.fine (by show _ + 2 + 1 ≤ _; omega)
  rw [q1] at h1
  rw [q2] at h2
  rw [q3] at h3
  dsimp only at h1 h2 h3
  have F2 : Fine 1048576 m2 := s2.fine.le (by omega)
  have hput := put l sAdds (rowA x) hF.len hF.rows hF.cols (by show 1 ≤ 1048576; omega)
  rw [hm0] at hput
  have hfd := find m2 ⟨sAdds, sK⟩ (Nat.le_trans F2.len (by decide)) (fun t ht => Nat.le_trans (F2.rows t ht) (by decide)) F2.cols
  rw [f2] at hfd
  have i1 := int_ x
  have i2 := int_ a
  have i3 := int_ b
  have i4 : PFn Try.prog 9 [.int .i64 (2147483647 - (if (0 : Int) < x + a + b then 0 else x + a + b) + 1)] (intV z).enc := by rw [hz]; exact int_ z
  have i5 := int_ (x + a)
  have i6 := int_ (x + a + b)
  have it := text sK
  have a1 := arg sN (intV x)
  have a2 := arg sKey (textV sK)
  have a3 := arg sBy (intV a)
  have hco := col (rowA (x + a + b)) sN (by show 1 ≤ _; omega)
  rw [show colG (rowA (x + a + b)) sN = intV (x + a + b) from rfl] at hco
  have w1 := vSame 6 (intV (x + a)) (intV (x + a)) (by rw [intV_size]; omega) (by decide) (by rw [intV_size]; omega)
  have w2 := vSame 6 (intV (x + a + b)) (intV (x + a + b)) (by rw [intV_size]; omega) (by decide) (by rw [intV_size]; omega)
  rw [sameV_refl] at w1 w2
  repeat' first | refine A.buildSliceV (len := 2) (xs := [(Mem.mk sKey (textV sK)).enc, (Mem.mk sBy (intV a)).enc]) rfl rfl rfl rfl rfl rfl rfl rfl rfl rfl ?_ | refine A.callV 0 rfl h1 rfl rfl (Mem.closedL _) (Mem.closedL _) (lowV2 _ _) (hwkV m0 (cmdA a) _ _) (renTup _ _ _ _ _) rfl ?_ | refine A.callV 0 rfl h2 rfl rfl (Mem.closedL _) (Mem.closedL _) (lowV2 _ _) (hwkV m1 (cmdA b) _ _) (renTup _ _ _ _ _) rfl ?_ | refine A.callV 0 rfl h3 rfl rfl (Mem.closedL _) (Mem.closedL _) (lowV2 _ _) (hwkV m2 (cmdA z) _ _) (renTup _ _ _ _ _) rfl ?_ | refine A.min2 rfl rfl rfl ?_ | refine A.call rfl hput (WeakL.cons (Weak.refl _) (WeakL.cons (Weak.refl _) (WeakL.cons (Weak.agg (WeakL.cons (Weak.refl _) (WeakL.cons (Weak.refl _) (WeakL.cons (Weak.no (WeakL.refl _)) (WeakL.cons (Weak.refl _) (WeakL.refl _)))))) (WeakL.refl _)))) ?_ | refine .seq ?_ | refine .rg ?_ | refine .rd ?_ | refine .block ?_ | refine .scope ?_ | refine .skip ?_ | refine .label ?_ | refine .exit ?_ | refine .ret ?_ | refine .ct ?_ | refine .cf ?_ | refine .cy ?_ | refine .cn ?_ | (refine .cond rfl ?_ ?_ <;> intro hc) | refine A.nil_seq ?_ | refine .nl ?_ | refine .dd ?_ | refine .ys ?_ | refine .no ?_ | (refine A.guard rfl ?_ ?_ <;> intro hc) | refine .lb ?_ | refine .ln ?_ | refine .ls ?_ | refine .pv ?_ | refine .ix ?_ | refine .pt ?_ | refine .pf ?_ | refine .bx ?_ | refine .al ?_ | refine .st ?_ | refine .ad ?_ | refine .sb ?_ | refine .mf ?_ | refine .cl ?_ | refine .cw ?_ | refine .ck ?_ | refine A.vindex (j := 1) rfl rfl rfl rfl rfl rfl rfl (show 1 < 2 - 0 by decide) rfl ?_ | refine A.vstore (agg := true) rfl rfl rfl rfl rfl rfl rfl rfl rfl rfl rfl ?_ | fail
  exact Fin.ret1 rfl (Weak.refl _)
end Go.Proofs.Ytegakkonlhmeaaa
