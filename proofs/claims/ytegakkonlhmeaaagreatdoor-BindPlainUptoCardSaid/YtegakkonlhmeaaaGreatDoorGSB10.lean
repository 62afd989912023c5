/-
  Contracts and plain facts for a law, joined.
-/
import Derived.Test.YtegakkonlhmeaaaGreatDoorGSB1
import Derived.Test.YtegakkonlhmeaaaGreatDoorAvFun
import Derived.Test.YtegakkonlhmeaaaGreatDoorGSB9
import Derived.Test.YtegakkonlhmeaaaGreatDoorGSB3
set_option maxRecDepth 100000
set_option maxHeartbeats 16000000
set_option linter.unusedVariables false
set_option linter.unusedSimpArgs false
set_option linter.unusedSectionVars false
namespace Go.Proofs.YtegakkonlhmeaaaGreatDoor
open Go Go.Av
attribute [local irreducible] HCode AOps PFn AFn Av.Step TStep
theorem eqFuncV (F : FuncId) (a b : List Val) (ha : a.length ≤ 9223372036854775806) (hb : b.length ≤ 9223372036854775806) (hF : ∀ x ∈ a, ∀ y ∈ b, PFn Tryz.prog F [x.enc, y.enc] (.bool (sameV x y))) :
    PFn Tryz.prog 69 [.slice (a.map Val.enc) .no, .slice (b.map Val.enc) .no, .fn (.func F) [] []] (.bool (sameL a b)) := by
  refine AFn.plain rfl (by simp [AV.closedL, AV.closed, Val.closedL']) (AFn.enter [6] Tryz.func69 rfl rfl rfl rfl rfl (by decide) ?_)
  by_cases hl : a.length = b.length
  · have d0 : ((a.length : Int) != (b.length : Int)) = false := by simp [hl]
    repeat' first | refine .seq ?_ | refine .rg ?_ | refine .rd ?_ | refine .block ?_ | refine .scope ?_ | refine .skip ?_ | refine .label ?_ | refine .exit ?_ | refine .ret ?_ | refine .ct ?_ | refine .cf ?_ | refine .cy ?_ | refine .cn ?_ | (refine .cond rfl ?_ ?_ <;> intro hc) | refine A.nil_seq ?_ | refine .nl ?_ | refine .dd ?_ | refine .ys ?_ | refine .no ?_ | (refine A.guard rfl ?_ ?_ <;> intro hc) | refine .lb ?_ | refine .ln ?_ | refine .ls ?_ | refine .pv ?_ | refine .ix ?_ | refine .pt ?_ | refine .pf ?_ | refine .bx ?_ | refine .al ?_ | refine .st ?_ | refine .ad ?_ | refine .sb ?_ | refine .mf ?_ | refine .cl ?_ | refine .cw ?_ | refine .ck ?_ | fail
    change HCode _ _ _ _ _ _ _
    refine HCode.loop (fun n s σ => ∃ k : Nat, n = a.length - k ∧ k ≤ a.length ∧ sameL a b = sameL (a.drop k) (b.drop k) ∧ σ = ⟨[], []⟩ ∧
      s = [(17, .int .i64 k), (16, .int .i64 a.length), (15, .slice (a.map Val.enc) .no), (1, .slice (b.map Val.enc) .no), (2, .fn (.func F) [] [])])
      (s0 := [(17, .int .i64 (0 : Nat)), (16, .int .i64 a.length), (15, .slice (a.map Val.enc) .no), (1, .slice (b.map Val.enc) .no), (2, .fn (.func F) [] [])])
      ⟨rfl, rfl, rfl, rfl, rfl, trivial⟩ ⟨0, rfl, Nat.zero_le _, rfl, rfl, rfl⟩ ?_
    rintro n s σ ⟨k, rfl, hk, hp, rfl, rfl⟩
    by_cases h1 : k < a.length
    · have d1 : decide ((k : Int) < (a.length : Int)) = true := by simp [h1]
      have x1 := map_get' (f := Val.enc) h1
      have h2 : k < b.length := by omega
      have x2 := map_get' (f := Val.enc) h2
      have hf := hF a[k] (List.getElem_mem h1) b[k] (List.getElem_mem h2)
      by_cases c : sameV a[k] b[k] = true
      · have e1 : (!sameV a[k] b[k]) = false := by rw [c]; rfl
        repeat' first | refine .seq ?_ | refine .rg ?_ | refine .rd ?_ | refine .block ?_ | refine .scope ?_ | refine .skip ?_ | refine .label ?_ | refine .exit ?_ | refine .ret ?_ | refine .ct ?_ | refine .cf ?_ | refine .cy ?_ | refine .cn ?_ | (refine .cond rfl ?_ ?_ <;> intro hc) | refine A.nil_seq ?_ | refine .nl ?_ | refine .dd ?_ | refine .ys ?_ | refine .no ?_ | (refine A.guard rfl ?_ ?_ <;> intro hc) | refine .lb ?_ | refine .ln ?_ | refine .ls ?_ | refine .pv ?_ | refine .ix ?_ | refine .pt ?_ | refine .pf ?_ | refine .bx ?_ | refine .al ?_ | refine .st ?_ | refine .ad ?_ | refine .sb ?_ | refine .mf ?_ | refine .cl ?_ | refine .cw ?_ | refine .ck ?_ | refine A.callv rfl rfl hf (WeakL.refl _) ?_ | fail
        refine ⟨a.length - (k + 1), by omega, [(17, .int .i64 ((k + 1 : Nat) : Int)), (16, .int .i64 a.length), (15, .slice (a.map Val.enc) .no), (1, .slice (b.map Val.enc) .no), (2, .fn (.func F) [] [])],
          ⟨rfl, rfl, rfl, rfl, rfl, trivial⟩, by simp [belowS, AV.low, AV.lowL, Val.lowL'], rfl, k + 1, rfl, by omega, by rw [hp, sameL_drop h1 h2, c]; rfl, rfl, rfl⟩
      · have c' : sameV a[k] b[k] = false := by simpa using c
        have e1 : (!sameV a[k] b[k]) = true := by rw [c']; rfl
        repeat' first | refine .seq ?_ | refine .rg ?_ | refine .rd ?_ | refine .block ?_ | refine .scope ?_ | refine .skip ?_ | refine .label ?_ | refine .exit ?_ | refine .ret ?_ | refine .ct ?_ | refine .cf ?_ | refine .cy ?_ | refine .cn ?_ | (refine .cond rfl ?_ ?_ <;> intro hc) | refine A.nil_seq ?_ | refine .nl ?_ | refine .dd ?_ | refine .ys ?_ | refine .no ?_ | (refine A.guard rfl ?_ ?_ <;> intro hc) | refine .lb ?_ | refine .ln ?_ | refine .ls ?_ | refine .pv ?_ | refine .ix ?_ | refine .pt ?_ | refine .pf ?_ | refine .bx ?_ | refine .al ?_ | refine .st ?_ | refine .ad ?_ | refine .sb ?_ | refine .mf ?_ | refine .cl ?_ | refine .cw ?_ | refine .ck ?_ | refine A.callv rfl rfl hf (WeakL.refl _) ?_ | fail
        refine Fin.ret1 rfl (Weak.eq (congrArg AV.bool ?_))
        rw [hp, sameL_drop h1 h2, c']; rfl
    · have d1 : decide ((k : Int) < (a.length : Int)) = false := by simp; omega
      repeat' first | refine .seq ?_ | refine .rg ?_ | refine .rd ?_ | refine .block ?_ | refine .scope ?_ | refine .skip ?_ | refine .label ?_ | refine .exit ?_ | refine .ret ?_ | refine .ct ?_ | refine .cf ?_ | refine .cy ?_ | refine .cn ?_ | (refine .cond rfl ?_ ?_ <;> intro hc) | refine A.nil_seq ?_ | refine .nl ?_ | refine .dd ?_ | refine .ys ?_ | refine .no ?_ | (refine A.guard rfl ?_ ?_ <;> intro hc) | refine .lb ?_ | refine .ln ?_ | refine .ls ?_ | refine .pv ?_ | refine .ix ?_ | refine .pt ?_ | refine .pf ?_ | refine .bx ?_ | refine .al ?_ | refine .st ?_ | refine .ad ?_ | refine .sb ?_ | refine .mf ?_ | refine .cl ?_ | refine .cw ?_ | refine .ck ?_ | fail
      refine Fin.ret1 rfl (Weak.eq (congrArg AV.bool ?_))
      rw [hp, List.drop_eq_nil_of_le (by omega), List.drop_eq_nil_of_le (by omega)]
      rfl
  · have d0 : ((a.length : Int) != (b.length : Int)) = true := by simp; omega
    repeat' first | refine .seq ?_ | refine .rg ?_ | refine .rd ?_ | refine .block ?_ | refine .scope ?_ | refine .skip ?_ | refine .label ?_ | refine .exit ?_ | refine .ret ?_ | refine .ct ?_ | refine .cf ?_ | refine .cy ?_ | refine .cn ?_ | (refine .cond rfl ?_ ?_ <;> intro hc) | refine A.nil_seq ?_ | refine .nl ?_ | refine .dd ?_ | refine .ys ?_ | refine .no ?_ | (refine A.guard rfl ?_ ?_ <;> intro hc) | refine .lb ?_ | refine .ln ?_ | refine .ls ?_ | refine .pv ?_ | refine .ix ?_ | refine .pt ?_ | refine .pf ?_ | refine .bx ?_ | refine .al ?_ | refine .st ?_ | refine .ad ?_ | refine .sb ?_ | refine .mf ?_ | refine .cl ?_ | refine .cw ?_ | refine .ck ?_ | fail
    exact Fin.ret1 rfl (Weak.eq (by rw [sameL_len hl]))
theorem eqFuncM (F : FuncId) (a b : List Mem) (ha : a.length ≤ 9223372036854775806) (hb : b.length ≤ 9223372036854775806) (hF : ∀ x ∈ a, ∀ y ∈ b, PFn Tryz.prog F [x.enc, y.enc] (.bool (x.name == y.name && sameV x.v y.v))) :
    PFn Tryz.prog 70 [.slice (a.map Mem.enc) .no, .slice (b.map Mem.enc) .no, .fn (.func F) [] []] (.bool (sameM a b)) := by
  refine AFn.plain rfl (by simp [AV.closedL, AV.closed, Mem.closedL]) (AFn.enter [6] Tryz.func70 rfl rfl rfl rfl rfl (by decide) ?_)
  by_cases hl : a.length = b.length
  · have d0 : ((a.length : Int) != (b.length : Int)) = false := by simp [hl]
    repeat' first | refine .seq ?_ | refine .rg ?_ | refine .rd ?_ | refine .block ?_ | refine .scope ?_ | refine .skip ?_ | refine .label ?_ | refine .exit ?_ | refine .ret ?_ | refine .ct ?_ | refine .cf ?_ | refine .cy ?_ | refine .cn ?_ | (refine .cond rfl ?_ ?_ <;> intro hc) | refine A.nil_seq ?_ | refine .nl ?_ | refine .dd ?_ | refine .ys ?_ | refine .no ?_ | (refine A.guard rfl ?_ ?_ <;> intro hc) | refine .lb ?_ | refine .ln ?_ | refine .ls ?_ | refine .pv ?_ | refine .ix ?_ | refine .pt ?_ | refine .pf ?_ | refine .bx ?_ | refine .al ?_ | refine .st ?_ | refine .ad ?_ | refine .sb ?_ | refine .mf ?_ | refine .cl ?_ | refine .cw ?_ | refine .ck ?_ | fail
    change HCode _ _ _ _ _ _ _
    refine HCode.loop (fun n s σ => ∃ k : Nat, n = a.length - k ∧ k ≤ a.length ∧ sameM a b = sameM (a.drop k) (b.drop k) ∧ σ = ⟨[], []⟩ ∧
      s = [(17, .int .i64 k), (16, .int .i64 a.length), (15, .slice (a.map Mem.enc) .no), (1, .slice (b.map Mem.enc) .no), (2, .fn (.func F) [] [])])
      (s0 := [(17, .int .i64 (0 : Nat)), (16, .int .i64 a.length), (15, .slice (a.map Mem.enc) .no), (1, .slice (b.map Mem.enc) .no), (2, .fn (.func F) [] [])])
      ⟨rfl, rfl, rfl, rfl, rfl, trivial⟩ ⟨0, rfl, Nat.zero_le _, rfl, rfl, rfl⟩ ?_
    rintro n s σ ⟨k, rfl, hk, hp, rfl, rfl⟩
    by_cases h1 : k < a.length
    · have d1 : decide ((k : Int) < (a.length : Int)) = true := by simp [h1]
      have x1 := map_get' (f := Mem.enc) h1
      have h2 : k < b.length := by omega
      have x2 := map_get' (f := Mem.enc) h2
      have hf := hF a[k] (List.getElem_mem h1) b[k] (List.getElem_mem h2)
      by_cases c : (a[k].name == b[k].name && sameV a[k].v b[k].v) = true
      · have e1 : (!(a[k].name == b[k].name && sameV a[k].v b[k].v)) = false := by rw [c]; rfl
        repeat' first | refine .seq ?_ | refine .rg ?_ | refine .rd ?_ | refine .block ?_ | refine .scope ?_ | refine .skip ?_ | refine .label ?_ | refine .exit ?_ | refine .ret ?_ | refine .ct ?_ | refine .cf ?_ | refine .cy ?_ | refine .cn ?_ | (refine .cond rfl ?_ ?_ <;> intro hc) | refine A.nil_seq ?_ | refine .nl ?_ | refine .dd ?_ | refine .ys ?_ | refine .no ?_ | (refine A.guard rfl ?_ ?_ <;> intro hc) | refine .lb ?_ | refine .ln ?_ | refine .ls ?_ | refine .pv ?_ | refine .ix ?_ | refine .pt ?_ | refine .pf ?_ | refine .bx ?_ | refine .al ?_ | refine .st ?_ | refine .ad ?_ | refine .sb ?_ | refine .mf ?_ | refine .cl ?_ | refine .cw ?_ | refine .ck ?_ | refine A.callv rfl rfl hf (WeakL.refl _) ?_ | fail
        refine ⟨a.length - (k + 1), by omega, [(17, .int .i64 ((k + 1 : Nat) : Int)), (16, .int .i64 a.length), (15, .slice (a.map Mem.enc) .no), (1, .slice (b.map Mem.enc) .no), (2, .fn (.func F) [] [])],
          ⟨rfl, rfl, rfl, rfl, rfl, trivial⟩, by simp [belowS, AV.low, AV.lowL, Mem.lowL], rfl, k + 1, rfl, by omega, by rw [hp, sameM_drop h1 h2, c]; rfl, rfl, rfl⟩
      · have c' : (a[k].name == b[k].name && sameV a[k].v b[k].v) = false := by simpa using c
        have e1 : (!(a[k].name == b[k].name && sameV a[k].v b[k].v)) = true := by rw [c']; rfl
        repeat' first | refine .seq ?_ | refine .rg ?_ | refine .rd ?_ | refine .block ?_ | refine .scope ?_ | refine .skip ?_ | refine .label ?_ | refine .exit ?_ | refine .ret ?_ | refine .ct ?_ | refine .cf ?_ | refine .cy ?_ | refine .cn ?_ | (refine .cond rfl ?_ ?_ <;> intro hc) | refine A.nil_seq ?_ | refine .nl ?_ | refine .dd ?_ | refine .ys ?_ | refine .no ?_ | (refine A.guard rfl ?_ ?_ <;> intro hc) | refine .lb ?_ | refine .ln ?_ | refine .ls ?_ | refine .pv ?_ | refine .ix ?_ | refine .pt ?_ | refine .pf ?_ | refine .bx ?_ | refine .al ?_ | refine .st ?_ | refine .ad ?_ | refine .sb ?_ | refine .mf ?_ | refine .cl ?_ | refine .cw ?_ | refine .ck ?_ | refine A.callv rfl rfl hf (WeakL.refl _) ?_ | fail
        refine Fin.ret1 rfl (Weak.eq (congrArg AV.bool ?_))
        rw [hp, sameM_drop h1 h2, c']; rfl
    · have d1 : decide ((k : Int) < (a.length : Int)) = false := by simp; omega
      repeat' first | refine .seq ?_ | refine .rg ?_ | refine .rd ?_ | refine .block ?_ | refine .scope ?_ | refine .skip ?_ | refine .label ?_ | refine .exit ?_ | refine .ret ?_ | refine .ct ?_ | refine .cf ?_ | refine .cy ?_ | refine .cn ?_ | (refine .cond rfl ?_ ?_ <;> intro hc) | refine A.nil_seq ?_ | refine .nl ?_ | refine .dd ?_ | refine .ys ?_ | refine .no ?_ | (refine A.guard rfl ?_ ?_ <;> intro hc) | refine .lb ?_ | refine .ln ?_ | refine .ls ?_ | refine .pv ?_ | refine .ix ?_ | refine .pt ?_ | refine .pf ?_ | refine .bx ?_ | refine .al ?_ | refine .st ?_ | refine .ad ?_ | refine .sb ?_ | refine .mf ?_ | refine .cl ?_ | refine .cw ?_ | refine .ck ?_ | fail
      refine Fin.ret1 rfl (Weak.eq (congrArg AV.bool ?_))
      rw [hp, List.drop_eq_nil_of_le (by omega), List.drop_eq_nil_of_le (by omega)]
      rfl
  · have d0 : ((a.length : Int) != (b.length : Int)) = true := by simp; omega
    repeat' first | refine .seq ?_ | refine .rg ?_ | refine .rd ?_ | refine .block ?_ | refine .scope ?_ | refine .skip ?_ | refine .label ?_ | refine .exit ?_ | refine .ret ?_ | refine .ct ?_ | refine .cf ?_ | refine .cy ?_ | refine .cn ?_ | (refine .cond rfl ?_ ?_ <;> intro hc) | refine A.nil_seq ?_ | refine .nl ?_ | refine .dd ?_ | refine .ys ?_ | refine .no ?_ | (refine A.guard rfl ?_ ?_ <;> intro hc) | refine .lb ?_ | refine .ln ?_ | refine .ls ?_ | refine .pv ?_ | refine .ix ?_ | refine .pt ?_ | refine .pf ?_ | refine .bx ?_ | refine .al ?_ | refine .st ?_ | refine .ad ?_ | refine .sb ?_ | refine .mf ?_ | refine .cl ?_ | refine .cw ?_ | refine .ck ?_ | fail
    exact Fin.ret1 rfl (Weak.eq (by rw [sameM_len hl]))
theorem vSame : ∀ (N : Nat) (a b : Val), a.size ≤ N → N ≤ 9223372036854775806 → b.size ≤ 9223372036854775806 → PFn Tryz.prog 35 [a.enc, b.enc] (.bool (sameV a b))
  | 0, a, _, ha, _, _ => absurd ha (by have := a.size_pos; omega)
  | N + 1, a, b, ha, hN, hb => by
    have ih := vSame N
    have hl := eqFuncV 35 a.l b.l (by have := a.l_len; omega) (by have := b.l_len; omega) (fun x hx y hy => by
      obtain ⟨i, hi, rfl⟩ := List.getElem_of_mem hx
      obtain ⟨j, hj, rfl⟩ := List.getElem_of_mem hy
      have h1 := Val.size_l hi
      have h2 := Val.size_l hj
      exact ih _ _ (by omega) (by omega) (by omega))
    have hm := eqFuncM 71 a.m b.m (by have := a.m_len; omega) (by have := b.m_len; omega) (fun x hx y hy => by
      obtain ⟨i, hi, rfl⟩ := List.getElem_of_mem hx
      obtain ⟨j, hj, rfl⟩ := List.getElem_of_mem hy
      have h1 := Val.size_m hi
      have h2 := Val.size_m hj
      have hv := ih a.m[i].v b.m[j].v (by omega) (by omega) (by omega)
      refine AFn.plain rfl (by simp [AV.closedL, Mem.closed]) (AFn.enter [4] Tryz.func71 rfl rfl rfl rfl rfl (by decide) ?_)
      repeat' first | refine A.box_r rfl rfl ?_ | refine .seq ?_ | refine .rg ?_ | refine .rd ?_ | refine .block ?_ | refine .scope ?_ | refine .skip ?_ | refine .label ?_ | refine .exit ?_ | refine .ret ?_ | refine .ct ?_ | refine .cf ?_ | refine .cy ?_ | refine .cn ?_ | (refine .cond rfl ?_ ?_ <;> intro hc) | refine A.nil_seq ?_ | refine .nl ?_ | refine .dd ?_ | refine .ys ?_ | refine .no ?_ | (refine A.guard rfl ?_ ?_ <;> intro hc) | refine .lb ?_ | refine .ln ?_ | refine .ls ?_ | refine .pv ?_ | refine .ix ?_ | refine .pt ?_ | refine .pf ?_ | refine .bx ?_ | refine .al ?_ | refine .st ?_ | refine .ad ?_ | refine .sb ?_ | refine .mf ?_ | refine .cl ?_ | refine .cw ?_ | refine .ck ?_ | refine A.call rfl hv (WeakL.refl _) ?_ | fail
      all_goals
        refine Fin.ret1 rfl (Weak.eq (congrArg AV.bool ?_))
        simp_all)
    rw [← a.lv_eq, ← b.lv_eq] at hl
    rw [← a.mv_eq, ← b.mv_eq] at hm
    refine AFn.plain rfl (by simp [AV.closedL, Val.closed]) (AFn.enter [4] Tryz.func35 rfl rfl rfl rfl rfl (by decide) ?_)
    rw [sameV_eq]
    repeat' first | refine A.box_r rfl rfl ?_ | refine .seq ?_ | refine .rg ?_ | refine .rd ?_ | refine .block ?_ | refine .scope ?_ | refine .skip ?_ | refine .label ?_ | refine .exit ?_ | refine .ret ?_ | refine .ct ?_ | refine .cf ?_ | refine .cy ?_ | refine .cn ?_ | (refine .cond rfl ?_ ?_ <;> intro hc) | refine A.nil_seq ?_ | refine .nl ?_ | refine .dd ?_ | refine .ys ?_ | refine .no ?_ | (refine A.guard rfl ?_ ?_ <;> intro hc) | refine .lb ?_ | refine .ln ?_ | refine .ls ?_ | refine .pv ?_ | refine .ix ?_ | refine .pt ?_ | refine .pf ?_ | refine .bx ?_ | refine .al ?_ | refine .st ?_ | refine .ad ?_ | refine .sb ?_ | refine .mf ?_ | refine .cl ?_ | refine .cw ?_ | refine .ck ?_ | refine A.call rfl hl (WeakL.refl _) ?_ | refine A.call rfl hm (WeakL.refl _) ?_ | fail
    all_goals
      refine Fin.ret1 rfl (Weak.eq (congrArg AV.bool ?_))
      simp_all
structure WS where
  l : List Tkn
  ok : Bool
def WS.cs (W : WS) : List AV := [.slice (W.l.map Tkn.enc) (.own 0 2), .bool W.ok, .int .i64 0]
theorem WS.low (W : WS) : AV.lowL 1 1 W.cs = true := by simp [WS.cs, AV.lowL, AV.low]
theorem low_snoc (l : List Tkn) (s : Str) : AV.lowL 1 1 (List.map Tkn.enc l ++ [AV.agg [AV.int .i64 1, AV.str s]]) = true := by
  have := lowL_Tkn 1 1 (l ++ [tP s])
  rwa [List.map_append] at this
abbrev WC (f : FuncId) (x0 : AV) (vals : List AV) (W W' : WS) : Prop := AFn Tryz.prog f (x0 :: vals) ⟨[.cells W.cs], [.len W.l.length]⟩ (fun e σ1 => e = .ret (.tup []) ∧ σ1 = ⟨[.cells W'.cs], [.len W'.l.length]⟩)
section
variable {all : Array Oper} {draw : Bool} {K : AX → Slots → St → Prop} {rest : List Oper} {acc : List Tag} {s : Slots} {σ : St} {ty : TypeId} {pos : String} {af : Array Edge}
theorem A.callWC {d : Option Tmp} {f : FuncId} {args : Array Operand} {tys : Array TypeId} {x0 : AV} {vals vals0 : List AV} {W W' : WS} {B : List Ob} {T : List Tok}
    (hp : WC f x0 vals0 W W') (ha : evsK s args.toList some = some (x0 :: vals)) (hσ : σ = ⟨.cells W.cs :: B, .len W.l.length :: T⟩)
    (hx0 : x0.low 1 1 = true) (hc : AV.closedL vals0 = true) (hw : WeakL vals vals0)
    (kk : AOps Tryz.prog all draw K rest (.all :: acc) (putS d (.tup []) s) ⟨.cells W'.cs :: B, .len W'.l.length :: T⟩) : AOps Tryz.prog all draw K (⟨d, .call ⟨.value (.func f), args, tys⟩, ty, pos, af, none⟩ :: rest) acc s σ :=
  A.callW hp ha hσ hx0 hc W.low W'.low rfl hw kk
end
theorem WC.of {f : FuncId} {x0 : AV} {vals : List AV} {W W' : WS} (h : AFn Tryz.prog f (x0 :: vals) ⟨[.cells W.cs], [.len W.l.length]⟩ (fun e σ1 => e = .ret (.tup []) ∧ σ1.B.take 1 = [.cells W'.cs] ∧ σ1.T.take 1 = [.len W'.l.length])) : WC f x0 vals W W' :=
  AFn.dropped (AFn.mono h fun e σ1 hh => ⟨.tup [], 1, 1, hh.1, Nat.le_refl _, Nat.le_refl _, rfl, by rw [hh.2.1]; simp [belowB, Ob.low, WS.low], by rw [hh.2.2]; rfl, rfl, by rw [hh.2.1, hh.2.2]⟩)
theorem ws_app (l ys : List Tkn) (ok : Bool) : (⟨[.cells [.slice (l.map Tkn.enc ++ ys.map Tkn.enc) (.own 0 2), .bool ok, .int .i64 0]], [.len (l.length + (ys.map Tkn.enc).length)]⟩ : St) = ⟨[.cells (WS.mk (l ++ ys) ok).cs], [.len (WS.mk (l ++ ys) ok).l.length]⟩ := by
  simp [WS.cs]
def wNeed (b : Bool) (W : WS) : WS := ⟨W.l, W.ok && b⟩
def wMark (s : Str) (W : WS) : WS := ⟨W.l ++ [tP s], W.ok⟩
def wName (s : Str) (W : WS) : WS := ⟨W.l ++ [tW s], W.ok && nameB s⟩
def wVal (v : Val) (fixed : Bool) (W : WS) : WS := ⟨W.l ++ (if plainV v = true then toksV v else []), W.ok && (plainV v && !(fixed && decide (varsV v [] ≠ [])))⟩
def wDflt (has : Bool) (v : Val) (W : WS) : WS := if has = true then wVal v true (wMark [61] W) else wNeed (sameV v val0) W
theorem cNeed (W : WS) (b : Bool) : WC 229 (.ptr 0 0) [.bool b] W (wNeed b W) := by
  obtain ⟨l, ok⟩ := W
  refine AFn.enter [] Tryz.func229 rfl rfl rfl rfl rfl (by decide) ?_
  unfold wNeed WS.cs
  cases ok with
  | true =>
    repeat' first | refine .seq ?_ | refine .rg ?_ | refine .rd ?_ | refine .block ?_ | refine .scope ?_ | refine .skip ?_ | refine .label ?_ | refine .exit ?_ | refine .ret ?_ | refine .ct ?_ | refine .cf ?_ | refine .cy ?_ | refine .cn ?_ | (refine .cond rfl ?_ ?_ <;> intro hc) | refine A.nil_seq ?_ | refine .nl ?_ | refine .dd ?_ | refine .ys ?_ | refine .no ?_ | (refine A.guard rfl ?_ ?_ <;> intro hc) | refine .lb ?_ | refine .ln ?_ | refine .ls ?_ | refine .pv ?_ | refine .ix ?_ | refine .pt ?_ | refine .pf ?_ | refine .bx ?_ | refine .al ?_ | refine .st ?_ | refine .ad ?_ | refine .sb ?_ | refine .mf ?_ | refine .cl ?_ | refine .cw ?_ | refine .ck ?_ | refine A.nilPtr rfl ?_ | fail
    exact ⟨rfl, rfl⟩
  | false =>
    repeat' first | refine .seq ?_ | refine .rg ?_ | refine .rd ?_ | refine .block ?_ | refine .scope ?_ | refine .skip ?_ | refine .label ?_ | refine .exit ?_ | refine .ret ?_ | refine .ct ?_ | refine .cf ?_ | refine .cy ?_ | refine .cn ?_ | (refine .cond rfl ?_ ?_ <;> intro hc) | refine A.nil_seq ?_ | refine .nl ?_ | refine .dd ?_ | refine .ys ?_ | refine .no ?_ | (refine A.guard rfl ?_ ?_ <;> intro hc) | refine .lb ?_ | refine .ln ?_ | refine .ls ?_ | refine .pv ?_ | refine .ix ?_ | refine .pt ?_ | refine .pf ?_ | refine .bx ?_ | refine .al ?_ | refine .st ?_ | refine .ad ?_ | refine .sb ?_ | refine .mf ?_ | refine .cl ?_ | refine .cw ?_ | refine .ck ?_ | refine A.nilPtr rfl ?_ | fail
    exact ⟨rfl, rfl⟩
theorem cName (W : WS) (s : Str) (hs : s.length ≤ 1048640) (hW : W.l.length ≤ 1099511627776) : WC 211 (.ptr 0 0) [.str s] W (wName s W) := by
  have h1 := lName s (by omega)
  have h2 := cNeed W (nameB s)
  obtain ⟨l, ok⟩ := W
  simp only at hW
  refine AFn.enter [] Tryz.func211 rfl rfl rfl rfl rfl (by decide) ?_
  repeat' first | refine .seq ?_ | refine .rg ?_ | refine .rd ?_ | refine .block ?_ | refine .scope ?_ | refine .skip ?_ | refine .label ?_ | refine .exit ?_ | refine .ret ?_ | refine .ct ?_ | refine .cf ?_ | refine .cy ?_ | refine .cn ?_ | (refine .cond rfl ?_ ?_ <;> intro hc) | refine A.nil_seq ?_ | refine .nl ?_ | refine .dd ?_ | refine .ys ?_ | refine .no ?_ | (refine A.guard rfl ?_ ?_ <;> intro hc) | refine .lb ?_ | refine .ln ?_ | refine .ls ?_ | refine .pv ?_ | refine .ix ?_ | refine .pt ?_ | refine .pf ?_ | refine .bx ?_ | refine .al ?_ | refine .st ?_ | refine .ad ?_ | refine .sb ?_ | refine .mf ?_ | refine .cl ?_ | refine .cw ?_ | refine .ck ?_ | refine A.nilPtr rfl ?_ | refine A.callWC h2 rfl rfl rfl rfl (WeakL.refl _) ?_ | refine A.append (n := l.length) rfl rfl rfl rfl rfl rfl rfl rfl (List.length_map ..) rfl (by dsimp only [List.length_cons, List.length_nil]; omega) (by dsimp only [List.length_cons, List.length_nil]; omega) rfl ?_ | fail
  exact ⟨rfl, ws_app l [tW s] _⟩
theorem cMark (W : WS) (s : Str) (hW : W.l.length ≤ 1099511627776) : WC 212 (.ptr 0 0) [.slice [.str s] .no] W (wMark s W) := by
  obtain ⟨l, ok⟩ := W
  simp only at hW
  refine AFn.enter [] Tryz.func212 rfl rfl rfl rfl rfl (by decide) ?_
  repeat' first | refine .seq ?_ | refine .rg ?_ | refine .rd ?_ | refine .block ?_ | refine .scope ?_ | refine .skip ?_ | refine .label ?_ | refine .exit ?_ | refine .ret ?_ | refine .ct ?_ | refine .cf ?_ | refine .cy ?_ | refine .cn ?_ | (refine .cond rfl ?_ ?_ <;> intro hc) | refine A.nil_seq ?_ | refine .nl ?_ | refine .dd ?_ | refine .ys ?_ | refine .no ?_ | (refine A.guard rfl ?_ ?_ <;> intro hc) | refine .lb ?_ | refine .ln ?_ | refine .ls ?_ | refine .pv ?_ | refine .ix ?_ | refine .pt ?_ | refine .pf ?_ | refine .bx ?_ | refine .al ?_ | refine .st ?_ | refine .ad ?_ | refine .sb ?_ | refine .mf ?_ | refine .cl ?_ | refine .cw ?_ | refine .ck ?_ | fail
  refine HCode.forK 1 (fun k => [(8, .int .i64 k), (7, .int .i64 1), (6, .slice [.str s] .no), (0, .ptr 0 0)])
    (fun k => ⟨[.cells (if k = 0 then WS.mk l ok else wMark s ⟨l, ok⟩).cs], [.len (if k = 0 then WS.mk l ok else wMark s ⟨l, ok⟩).l.length]⟩) (fun _ => True) ⟨rfl, rfl, rfl, rfl, trivial⟩ rfl trivial fun k hk _ => ?_
  match k, hk with
  | 0, _ =>
    have d1 : decide (((0 : Nat) : Int) < 1) = true := rfl
    have x1 : ([AV.str s] : List AV)[0]? = some (.str s) := rfl
    repeat' first | refine .seq ?_ | refine .rg ?_ | refine .rd ?_ | refine .block ?_ | refine .scope ?_ | refine .skip ?_ | refine .label ?_ | refine .exit ?_ | refine .ret ?_ | refine .ct ?_ | refine .cf ?_ | refine .cy ?_ | refine .cn ?_ | (refine .cond rfl ?_ ?_ <;> intro hc) | refine A.nil_seq ?_ | refine .nl ?_ | refine .dd ?_ | refine .ys ?_ | refine .no ?_ | (refine A.guard rfl ?_ ?_ <;> intro hc) | refine .lb ?_ | refine .ln ?_ | refine .ls ?_ | refine .pv ?_ | refine .ix ?_ | refine .pt ?_ | refine .pf ?_ | refine .bx ?_ | refine .al ?_ | refine .st ?_ | refine .ad ?_ | refine .sb ?_ | refine .mf ?_ | refine .cl ?_ | refine .cw ?_ | refine .ck ?_ | refine A.nilPtr rfl ?_ | refine A.append (n := l.length) rfl rfl rfl rfl rfl rfl rfl rfl (List.length_map ..) rfl (by dsimp only [List.length_cons, List.length_nil]; omega) (by dsimp only [List.length_cons, List.length_nil]; omega) rfl ?_ | fail
    exact ⟨Nat.one_pos, ⟨rfl, rfl, rfl, rfl, trivial⟩, rfl, (by simp [belowB, belowT, Ob.low, AV.lowL, AV.low, Tok.low]; exact low_snoc l s), ws_app l [tP s] _, trivial⟩
  | 1, _ =>
    have d1 : decide (((1 : Nat) : Int) < 1) = false := rfl
    repeat' first | refine .seq ?_ | refine .rg ?_ | refine .rd ?_ | refine .block ?_ | refine .scope ?_ | refine .skip ?_ | refine .label ?_ | refine .exit ?_ | refine .ret ?_ | refine .ct ?_ | refine .cf ?_ | refine .cy ?_ | refine .cn ?_ | (refine .cond rfl ?_ ?_ <;> intro hc) | refine A.nil_seq ?_ | refine .nl ?_ | refine .dd ?_ | refine .ys ?_ | refine .no ?_ | (refine A.guard rfl ?_ ?_ <;> intro hc) | refine .lb ?_ | refine .ln ?_ | refine .ls ?_ | refine .pv ?_ | refine .ix ?_ | refine .pt ?_ | refine .pf ?_ | refine .bx ?_ | refine .al ?_ | refine .st ?_ | refine .ad ?_ | refine .sb ?_ | refine .mf ?_ | refine .cl ?_ | refine .cw ?_ | refine .ck ?_ | fail
    exact ⟨rfl, rfl⟩
theorem cValue (W : WS) (v : Val) (fixed : Bool) (hv : v.size ≤ 1048640) (ho : v.ok) (hW : W.l.length ≤ 1099511627776) : WC 265 (.ptr 0 0) [v.enc, .bool fixed] W (wVal v fixed W) := by
  have h1 := vTokens v (by omega) ho
  have h2 := cNeed W (plainV v && !(fixed && decide (varsV v [] ≠ [])))
  have h3 := vDepth v.size (by omega) v (Nat.le_refl _)
  have h4 := vVars v (by omega)
  have hl := toksV_len v
  have hdl := depV_le v
  obtain ⟨l, ok⟩ := W
  simp only at hW
  refine AFn.enter [] Tryz.func265 rfl rfl rfl rfl rfl (by decide) ?_
  unfold wVal
  generalize hT : (if plainV v = true then toksV v else []) = ys at *
  have hys : ys.length ≤ 137438953472 := by
    rw [← hT]
    split
    · omega
    · exact Nat.zero_le _
  have hym : (ys.map Tkn.enc).length = ys.length := List.length_map ..
  cases hp : plainV v with
  | false =>
    rw [hp] at h1 h2
    repeat' first | refine .br ?_ | refine .seq ?_ | refine .rg ?_ | refine .rd ?_ | refine .block ?_ | refine .scope ?_ | refine .skip ?_ | refine .label ?_ | refine .exit ?_ | refine .ret ?_ | refine .ct ?_ | refine .cf ?_ | refine .cy ?_ | refine .cn ?_ | (refine .cond rfl ?_ ?_ <;> intro hc) | refine A.nil_seq ?_ | refine .nl ?_ | refine .dd ?_ | refine .ys ?_ | refine .no ?_ | (refine A.guard rfl ?_ ?_ <;> intro hc) | refine .lb ?_ | refine .ln ?_ | refine .ls ?_ | refine .pv ?_ | refine .ix ?_ | refine .pt ?_ | refine .pf ?_ | refine .bx ?_ | refine .al ?_ | refine .st ?_ | refine .ad ?_ | refine .sb ?_ | refine .mf ?_ | refine .cl ?_ | refine .cw ?_ | refine .ck ?_ | refine A.nilPtr rfl ?_ | refine A.callWC h2 rfl rfl rfl rfl (WeakL.refl _) ?_ | refine A.append (n := l.length) rfl rfl rfl rfl rfl rfl rfl rfl (List.length_map ..) (Tkn.fitsAll _) (by rw [hym]; dsimp only; omega) (by rw [hym]; omega) rfl ?_ | fail
    exact ⟨rfl, ws_app l ys _⟩
  | true =>
    rw [hp] at h1 h2
    have hd : decide ((0 : Int) + (depV v : Int) ≤ 16) = true := by
      unfold plainV at hp
      simp only [Bool.and_eq_true, decide_eq_true_eq] at hp
      exact decide_eq_true (by omega)
    cases fixed with
    | false =>
      repeat' first | refine .br ?_ | refine .seq ?_ | refine .rg ?_ | refine .rd ?_ | refine .block ?_ | refine .scope ?_ | refine .skip ?_ | refine .label ?_ | refine .exit ?_ | refine .ret ?_ | refine .ct ?_ | refine .cf ?_ | refine .cy ?_ | refine .cn ?_ | (refine .cond rfl ?_ ?_ <;> intro hc) | refine A.nil_seq ?_ | refine .nl ?_ | refine .dd ?_ | refine .ys ?_ | refine .no ?_ | (refine A.guard rfl ?_ ?_ <;> intro hc) | refine .lb ?_ | refine .ln ?_ | refine .ls ?_ | refine .pv ?_ | refine .ix ?_ | refine .pt ?_ | refine .pf ?_ | refine .bx ?_ | refine .al ?_ | refine .st ?_ | refine .ad ?_ | refine .sb ?_ | refine .mf ?_ | refine .cl ?_ | refine .cw ?_ | refine .ck ?_ | refine A.nilPtr rfl ?_ | refine A.callWC h2 rfl rfl rfl rfl (WeakL.refl _) ?_ | refine A.append (n := l.length) rfl rfl rfl rfl rfl rfl rfl rfl (List.length_map ..) (Tkn.fitsAll _) (by rw [hym]; dsimp only; omega) (by rw [hym]; omega) rfl ?_ | fail
      exact ⟨rfl, ws_app l ys _⟩
    | true =>
      have d1 : (true && !(true && decide (varsV v [] ≠ []))) = !decide (0 < ((varsV v []).length : Int)) := by
        cases varsV v [] <;> simp <;> omega
      rw [d1] at h2 ⊢
      repeat' first | refine .br ?_ | refine .seq ?_ | refine .rg ?_ | refine .rd ?_ | refine .block ?_ | refine .scope ?_ | refine .skip ?_ | refine .label ?_ | refine .exit ?_ | refine .ret ?_ | refine .ct ?_ | refine .cf ?_ | refine .cy ?_ | refine .cn ?_ | (refine .cond rfl ?_ ?_ <;> intro hc) | refine A.nil_seq ?_ | refine .nl ?_ | refine .dd ?_ | refine .ys ?_ | refine .no ?_ | (refine A.guard rfl ?_ ?_ <;> intro hc) | refine .lb ?_ | refine .ln ?_ | refine .ls ?_ | refine .pv ?_ | refine .ix ?_ | refine .pt ?_ | refine .pf ?_ | refine .bx ?_ | refine .al ?_ | refine .st ?_ | refine .ad ?_ | refine .sb ?_ | refine .mf ?_ | refine .cl ?_ | refine .cw ?_ | refine .ck ?_ | refine A.nilPtr rfl ?_ | refine A.callWC h2 rfl rfl rfl rfl (WeakL.refl _) ?_ | refine A.append (n := l.length) rfl rfl rfl rfl rfl rfl rfl rfl (List.length_map ..) (Tkn.fitsAll _) (by rw [hym]; dsimp only; omega) (by rw [hym]; omega) rfl ?_ | fail
      exact ⟨rfl, ws_app l ys _⟩
theorem cDflt (W : WS) (has : Bool) (v : Val) (hv : v.size ≤ 1048640) (ho : v.ok) (hW : W.l.length ≤ 1099511627775) : WC 249 (.ptr 0 0) [.bool has, v.enc] W (wDflt has v W) := by
  have h1 := vSame v.size v val0 (Nat.le_refl _) (by omega) (by decide)
  have h2 := cNeed W (sameV v val0)
  have h3 := cMark W [61] (by omega)
  have h4 := cValue (wMark [61] W) v true hv ho (by unfold wMark; simp only [List.length_append, List.length_cons, List.length_nil]; omega)
  refine AFn.enter [] Tryz.func249 rfl rfl rfl rfl rfl (by decide) ?_
  unfold wDflt
  cases has with
  | true =>
    rw [if_pos rfl]
    repeat' first | refine .br ?_ | refine .seq ?_ | refine .rg ?_ | refine .rd ?_ | refine .block ?_ | refine .scope ?_ | refine .skip ?_ | refine .label ?_ | refine .exit ?_ | refine .ret ?_ | refine .ct ?_ | refine .cf ?_ | refine .cy ?_ | refine .cn ?_ | (refine .cond rfl ?_ ?_ <;> intro hc) | refine A.nil_seq ?_ | refine .nl ?_ | refine .dd ?_ | refine .ys ?_ | refine .no ?_ | (refine A.guard rfl ?_ ?_ <;> intro hc) | refine .lb ?_ | refine .ln ?_ | refine .ls ?_ | refine .pv ?_ | refine .ix ?_ | refine .pt ?_ | refine .pf ?_ | refine .bx ?_ | refine .al ?_ | refine .st ?_ | refine .ad ?_ | refine .sb ?_ | refine .mf ?_ | refine .cl ?_ | refine .cw ?_ | refine .ck ?_ | refine A.callWC h3 rfl rfl rfl rfl (WeakL.cons (Weak.no (WeakL.refl _)) (WeakL.refl _)) ?_ | refine A.callWC h4 rfl rfl rfl (by simp [AV.closedL, AV.closed, Val.closed]) (WeakL.refl _) ?_ | fail
    exact ⟨rfl, rfl⟩
  | false =>
    rw [if_neg (by simp)]
    repeat' first | refine .br ?_ | refine .seq ?_ | refine .rg ?_ | refine .rd ?_ | refine .block ?_ | refine .scope ?_ | refine .skip ?_ | refine .label ?_ | refine .exit ?_ | refine .ret ?_ | refine .ct ?_ | refine .cf ?_ | refine .cy ?_ | refine .cn ?_ | (refine .cond rfl ?_ ?_ <;> intro hc) | refine A.nil_seq ?_ | refine .nl ?_ | refine .dd ?_ | refine .ys ?_ | refine .no ?_ | (refine A.guard rfl ?_ ?_ <;> intro hc) | refine .lb ?_ | refine .ln ?_ | refine .ls ?_ | refine .pv ?_ | refine .ix ?_ | refine .pt ?_ | refine .pf ?_ | refine .bx ?_ | refine .al ?_ | refine .st ?_ | refine .ad ?_ | refine .sb ?_ | refine .mf ?_ | refine .cl ?_ | refine .cw ?_ | refine .ck ?_ | refine A.callWC h2 rfl rfl rfl rfl (WeakL.refl _) ?_ | refine A.call rfl h1 (WeakL.cons (Weak.refl _) (WeakL.cons weak_flatV (WeakL.refl _))) ?_ | fail
    exact ⟨rfl, rfl⟩
end Go.Proofs.YtegakkonlhmeaaaGreatDoor
namespace Go.Proofs.YtegakkonlhmeaaaGreatDoor
open Go Go.Av
attribute [local irreducible] HCode AOps PFn AFn Av.Step TStep
abbrev wst (W : WS) : St := ⟨[.cells W.cs], [.len W.l.length]⟩
theorem wst_below (W : WS) : (belowB 1 1 [.cells W.cs] && belowT 1 1 [.len W.l.length]) = true := by simp [belowB, Ob.low, WS.low, belowT, Tok.low]
theorem len_need (b : Bool) (W : WS) : (wNeed b W).l.length = W.l.length := rfl
theorem len_mark (s : Str) (W : WS) : (wMark s W).l.length = W.l.length + 1 := by simp [wMark]
theorem len_name (s : Str) (W : WS) : (wName s W).l.length = W.l.length + 1 := by simp [wName]
theorem len_val (v : Val) (f : Bool) (W : WS) : (wVal v f W).l.length ≤ W.l.length + 2 * v.size := by
  have := toksV_len v
  unfold wVal
  simp only [List.length_append]
  split
  · omega
  · simp
theorem len_dflt (h : Bool) (v : Val) (W : WS) : (wDflt h v W).l.length ≤ W.l.length + 1 + 2 * v.size := by
  unfold wDflt
  split
  · have := len_val v true (wMark [61] W)
    rw [len_mark] at this
    omega
  · rw [len_need]; omega
theorem fold_len {α : Type} (F : WS → α → WS) (c : α → Nat) (h : ∀ W x, (F W x).l.length ≤ W.l.length + c x) : ∀ (l : List α) (W : WS), (l.foldl F W).l.length ≤ W.l.length + sumSize c l
  | [], W => by simp [sumSize]
  | x :: l, W => by
    have h1 := h W x
    have h2 := fold_len F c h l (F W x)
    rw [List.foldl_cons, sumSize]; omega
theorem fold_ok {α : Type} (F : WS → α → WS) (g : α → Bool) (h : ∀ W x, (F W x).ok = (W.ok && g x)) : ∀ (l : List α) (W : WS), (l.foldl F W).ok = (W.ok && l.all g)
  | [], W => by simp
  | x :: l, W => by rw [List.foldl_cons, fold_ok F g h l, h, List.all_cons, Bool.and_assoc]
theorem fold_take' {α : Type} (F : WS → α → WS) {l : List α} {k : Nat} (h : k < l.length) (W : WS) : (l.take (k + 1)).foldl F W = F ((l.take k).foldl F W) l[k] := by
  rw [List.take_succ_eq_append_getElem h, List.foldl_append]; rfl
theorem wsum_le {α : Type} (c : α → Nat) : ∀ (l : List α) (k : Nat) (h : k < l.length), sumSize c (l.take k) + c l[k] ≤ sumSize c l
  | [], k, h => by simp at h
  | x :: l, 0, h => by simp [sumSize]
  | x :: l, k + 1, h => by
    have := wsum_le c l k (by simpa using h)
    rw [List.take_succ_cons, sumSize, sumSize, List.getElem_cons_succ]; omega
theorem sum_mul {α : Type} (c : α → Nat) (n : Nat) : ∀ l : List α, sumSize (fun x => n * c x) l = n * sumSize c l
  | [] => by simp [sumSize]
  | x :: l => by rw [sumSize, sumSize, sum_mul c n l, Nat.mul_add]
def wStepT (t : Typ) (k : Nat) (W : WS) : WS :=
  if (t.musts.toNat / 2 ^ (t.lists.toNat - k)) % 2 = 1 then wMark [33] (if k = 0 then W else wMark [93] W) else (if k = 0 then W else wMark [93] W)
def wTailT (t : Typ) : Nat → WS → WS
  | 0, W => W
  | k + 1, W => wStepT t k (wTailT t k W)
def wOpenT : Nat → WS → WS
  | 0, W => W
  | k + 1, W => wMark [91] (wOpenT k W)
def wType (t : Typ) (W : WS) : WS := if (W.ok && rightT t) = true then wTailT t (t.lists.toNat + 1) (wName t.name (wOpenT t.lists.toNat (wNeed (rightT t) W))) else wNeed (rightT t) W
theorem len_open : ∀ (k : Nat) (W : WS), (wOpenT k W).l.length = W.l.length + k
  | 0, W => rfl
  | k + 1, W => by rw [wOpenT, len_mark, len_open k W]; omega
theorem len_step (t : Typ) (k : Nat) (W : WS) : (wStepT t k W).l.length ≤ W.l.length + 2 := by
  unfold wStepT
  split
  · rw [len_mark]
    split
    · omega
    · rw [len_mark]; omega
  · split
    · omega
    · rw [len_mark]; omega
theorem len_tail (t : Typ) : ∀ (k : Nat) (W : WS), (wTailT t k W).l.length ≤ W.l.length + 2 * k
  | 0, W => by rw [wTailT]; omega
  | k + 1, W => by
    have h1 := len_step t k (wTailT t k W)
    have h2 := len_tail t k W
    rw [wTailT]; omega
theorem right_parts {t : Typ} (h : rightT t = true) : nameB t.name = true ∧ 0 ≤ t.lists ∧ t.lists ≤ 4 ∧ 0 ≤ t.musts ∧ t.musts < 2 ^ (t.lists.toNat + 1) := by
  unfold rightT at h
  simpa only [Bool.and_eq_true, decide_eq_true_eq] using h
theorem len_type (t : Typ) (W : WS) : (wType t W).l.length ≤ W.l.length + 15 := by
  unfold wType
  split
  next h =>
    have h2 := right_parts (Bool.and_eq_true _ _ ▸ h).2
    have h3 := len_tail t (t.lists.toNat + 1) (wName t.name (wOpenT t.lists.toNat (wNeed (rightT t) W)))
    rw [len_name, len_open, len_need] at h3
    omega
  · rw [len_need]; omega
theorem ok_open : ∀ (k : Nat) (W : WS), (wOpenT k W).ok = W.ok
  | 0, W => rfl
  | k + 1, W => by rw [wOpenT]; exact ok_open k W
theorem ok_step (t : Typ) (k : Nat) (W : WS) : (wStepT t k W).ok = W.ok := by
  unfold wStepT
  repeat' split
  all_goals rfl
theorem ok_tail (t : Typ) : ∀ (k : Nat) (W : WS), (wTailT t k W).ok = W.ok
  | 0, W => rfl
  | k + 1, W => by rw [wTailT, ok_step]; exact ok_tail t k W
theorem ok_type (t : Typ) (W : WS) : (wType t W).ok = (W.ok && rightT t) := by
  unfold wType
  split
  next h =>
    have h2 := right_parts (Bool.and_eq_true _ _ ▸ h).2
    rw [ok_tail]
    show ((wOpenT t.lists.toNat (wNeed (rightT t) W)).ok && nameB t.name) = _
    rw [ok_open, h2.1, Bool.and_true]
    rfl
  · rfl
theorem ok_dflt (p : Par) (W : WS) : (wDflt p.has p.d W).ok = (W.ok && dfltOk p) := by
  unfold wDflt dfltOk
  split
  · show ((wMark [61] W).ok && (plainV p.d && !(true && decide (varsV p.d [] ≠ [])))) = _
    unfold valFix
    rw [show (!(true && decide (varsV p.d [] ≠ []))) = decide (varsV p.d [] = []) by simp]
    rfl
  · rfl
theorem pow_ok {n : Nat} (h : n ≤ 5) : (2 : Int) ^ n ≤ 32 := by
  match n, h with
  | 0, _ => decide
  | 1, _ => decide
  | 2, _ => decide
  | 3, _ => decide
  | 4, _ => decide
  | 5, _ => decide
theorem shr_bit (t : Typ) (k : Nat) (hk : k ≤ t.lists.toNat) (h : 0 ≤ t.lists) (h4 : t.lists ≤ 4) (hm : 0 ≤ t.musts) : t.musts.fdiv (2 ^ min (t.lists - (k : Int)).toNat IntKind.i64.bits) = ((t.musts.toNat / 2 ^ (t.lists.toNat - k) : Nat) : Int) := by
  have e : min (t.lists - (k : Int)).toNat IntKind.i64.bits = t.lists.toNat - k := by
    show min (t.lists - (k : Int)).toNat 64 = _
    omega
  rw [e, Int.fdiv_eq_ediv_of_nonneg _ (Int.le_of_lt (Int.pow_pos (by decide)))]
  rw [Int.natCast_ediv, Int.toNat_of_nonneg hm]
  simp
theorem cType (W : WS) (t : Typ) (hs : t.name.length ≤ 1048640) (hW : W.l.length + 16 ≤ 1099511627776) : WC 248 (.ptr 0 0) [t.enc] W (wType t W) := by
  have h1 := wRight t (by omega)
  have h2 := cNeed W (rightT t)
  refine AFn.enter [] Tryz.func248 rfl rfl rfl rfl rfl (by decide) ?_
  unfold wType
  cases hr : (W.ok && rightT t) with
  | false =>
    rw [if_neg (by simp)]
    have e1 : (!(W.ok && rightT t)) = true := by rw [hr]; rfl
    repeat' first | refine .br ?_ | refine .seq ?_ | refine .rg ?_ | refine .rd ?_ | refine .block ?_ | refine .scope ?_ | refine .skip ?_ | refine .label ?_ | refine .exit ?_ | refine .ret ?_ | refine .ct ?_ | refine .cf ?_ | refine .cy ?_ | refine .cn ?_ | (refine .cond rfl ?_ ?_ <;> intro hc) | refine A.nil_seq ?_ | refine .nl ?_ | refine .dd ?_ | refine .ys ?_ | refine .no ?_ | (refine A.guard rfl ?_ ?_ <;> intro hc) | refine .lb ?_ | refine .ln ?_ | refine .ls ?_ | refine .pv ?_ | refine .ix ?_ | refine .pt ?_ | refine .pf ?_ | refine .bx ?_ | refine .al ?_ | refine .st ?_ | refine .ad ?_ | refine .sb ?_ | refine .mf ?_ | refine .cl ?_ | refine .cw ?_ | refine .ck ?_ | refine A.nilPtr rfl ?_ | refine A.callWC h2 rfl rfl rfl rfl (WeakL.refl _) ?_ | fail
    exact ⟨rfl, rfl⟩
  | true =>
    rw [if_pos rfl]
    have e1 : (!(W.ok && rightT t)) = false := by rw [hr]; rfl
    obtain ⟨r1, r2, r3, r4, r5⟩ := right_parts (Bool.and_eq_true _ _ ▸ hr).2
    have r6 : t.musts < 32 + 1 := by have := pow_ok (n := t.lists.toNat + 1) (by omega); omega
    generalize hW1 : wNeed (rightT t) W = W1 at *
    have hl1 : W1.l.length = W.l.length := by rw [← hW1]; rfl
    have e2 : (!W1.ok) = false := by rw [← hW1]; exact e1
    repeat' first | refine .br ?_ | refine .seq ?_ | refine .rg ?_ | refine .rd ?_ | refine .block ?_ | refine .scope ?_ | refine .skip ?_ | refine .label ?_ | refine .exit ?_ | refine .ret ?_ | refine .ct ?_ | refine .cf ?_ | refine .cy ?_ | refine .cn ?_ | (refine .cond rfl ?_ ?_ <;> intro hc) | refine A.nil_seq ?_ | refine .nl ?_ | refine .dd ?_ | refine .ys ?_ | refine .no ?_ | (refine A.guard rfl ?_ ?_ <;> intro hc) | refine .lb ?_ | refine .ln ?_ | refine .ls ?_ | refine .pv ?_ | refine .ix ?_ | refine .pt ?_ | refine .pf ?_ | refine .bx ?_ | refine .al ?_ | refine .st ?_ | refine .ad ?_ | refine .sb ?_ | refine .mf ?_ | refine .cl ?_ | refine .cw ?_ | refine .ck ?_ | refine A.nilPtr rfl ?_ | refine A.callWC h2 rfl rfl rfl rfl (WeakL.refl _) ?_ | fail
    refine HCode.forK t.lists.toNat (fun k => [(16, .int .i64 k), (15, .int .i64 t.lists), (3, .rptr t.enc), (0, .ptr 0 0)]) (fun k => wst (wOpenT k W1)) (fun _ => True) ⟨rfl, rfl, rfl, rfl, trivial⟩ rfl trivial fun k hk _ => ?_
    have hlo := len_open k W1
    by_cases hk1 : k < t.lists.toNat
    · have d1 : decide ((k : Int) < t.lists) = true := decide_eq_true (by omega)
      have c1 := cMark (wOpenT k W1) [91] (by omega)
      repeat' first | refine .seq ?_ | refine .rg ?_ | refine .rd ?_ | refine .block ?_ | refine .scope ?_ | refine .skip ?_ | refine .label ?_ | refine .exit ?_ | refine .ret ?_ | refine .ct ?_ | refine .cf ?_ | refine .cy ?_ | refine .cn ?_ | (refine .cond rfl ?_ ?_ <;> intro hc) | refine A.nil_seq ?_ | refine .nl ?_ | refine .dd ?_ | refine .ys ?_ | refine .no ?_ | (refine A.guard rfl ?_ ?_ <;> intro hc) | refine .lb ?_ | refine .ln ?_ | refine .ls ?_ | refine .pv ?_ | refine .ix ?_ | refine .pt ?_ | refine .pf ?_ | refine .bx ?_ | refine .al ?_ | refine .st ?_ | refine .ad ?_ | refine .sb ?_ | refine .mf ?_ | refine .cl ?_ | refine .cw ?_ | refine .ck ?_ | refine A.callWC c1 rfl rfl rfl rfl (WeakL.cons (Weak.no (WeakL.refl _)) (WeakL.refl _)) ?_ | fail
      exact ⟨hk1, ⟨rfl, rfl, rfl, rfl, trivial⟩, rfl, wst_below _, rfl, trivial⟩
    · have d1 : decide ((k : Int) < t.lists) = false := decide_eq_false (by omega)
      obtain rfl : k = t.lists.toNat := by omega
      have c1 := cName (wOpenT t.lists.toNat W1) t.name (by omega) (by omega)
      generalize hW2 : wName t.name (wOpenT t.lists.toNat W1) = W2 at *
      have hl2 : W2.l.length ≤ W.l.length + 5 := by rw [← hW2, len_name]; omega
      repeat' first | refine .seq ?_ | refine .rg ?_ | refine .rd ?_ | refine .block ?_ | refine .scope ?_ | refine .skip ?_ | refine .label ?_ | refine .exit ?_ | refine .ret ?_ | refine .ct ?_ | refine .cf ?_ | refine .cy ?_ | refine .cn ?_ | (refine .cond rfl ?_ ?_ <;> intro hc) | refine A.nil_seq ?_ | refine .nl ?_ | refine .dd ?_ | refine .ys ?_ | refine .no ?_ | (refine A.guard rfl ?_ ?_ <;> intro hc) | refine .lb ?_ | refine .ln ?_ | refine .ls ?_ | refine .pv ?_ | refine .ix ?_ | refine .pt ?_ | refine .pf ?_ | refine .bx ?_ | refine .al ?_ | refine .st ?_ | refine .ad ?_ | refine .sb ?_ | refine .mf ?_ | refine .cl ?_ | refine .cw ?_ | refine .ck ?_ | refine A.callWC c1 rfl rfl rfl rfl (WeakL.refl _) ?_ | fail
      refine HCode.forK (t.lists.toNat + 1) (fun k => [(4, .int .i64 (t.lists - (k : Int))), (3, .rptr t.enc), (0, .ptr 0 0)]) (fun k => wst (wTailT t k W2)) (fun _ => True) ⟨by rw [show t.lists - ((0 : Nat) : Int) = t.lists by omega]; rfl, rfl, rfl, trivial⟩ rfl trivial fun k hk _ => ?_
      have hlt := len_tail t k W2
      by_cases hk1 : k < t.lists.toNat + 1
      · have d1 : decide (t.lists - (k : Int) ≥ 0) = true := decide_eq_true (by omega)
        have d1' : decide (0 ≤ t.lists - (k : Int)) = true := decide_eq_true (by omega)
        have hsh := shr_bit t k (by omega) r2 r3 r4
        have hq : t.musts.toNat / 2 ^ (t.lists.toNat - k) ≤ t.musts.toNat := Nat.div_le_self _ _
        have n1 : t.lists - (k : Int) - 1 = t.lists - ((k + 1 : Nat) : Int) := by omega
        have hstep : wTailT t (k + 1) W2 = wStepT t k (wTailT t k W2) := rfl
        unfold wStepT at hstep
        by_cases h0 : k = 0
        · have d2 : decide (t.lists - (k : Int) < t.lists) = false := decide_eq_false (by omega)
          rw [if_pos h0] at hstep
          by_cases hb : (t.musts.toNat / 2 ^ (t.lists.toNat - k)) % 2 = 1
          · have d3 : ((((t.musts.toNat / 2 ^ (t.lists.toNat - k)) % 2 : Nat) : Int) == 1) = true := by rw [hb]; rfl
            rw [if_pos hb] at hstep
            have c2 := cMark (wTailT t k W2) [33] (by omega)
            repeat' first | refine .seq ?_ | refine .rg ?_ | refine .rd ?_ | refine .block ?_ | refine .scope ?_ | refine .skip ?_ | refine .label ?_ | refine .exit ?_ | refine .ret ?_ | refine .ct ?_ | refine .cf ?_ | refine .cy ?_ | refine .cn ?_ | (refine .cond rfl ?_ ?_ <;> intro hc) | refine A.nil_seq ?_ | refine .nl ?_ | refine .dd ?_ | refine .ys ?_ | refine .no ?_ | (refine A.guard rfl ?_ ?_ <;> intro hc) | refine .lb ?_ | refine .ln ?_ | refine .ls ?_ | refine .pv ?_ | refine .ix ?_ | refine .pt ?_ | refine .pf ?_ | refine .bx ?_ | refine .al ?_ | refine .st ?_ | refine .ad ?_ | refine .sb ?_ | refine .mf ?_ | refine .cl ?_ | refine .cw ?_ | refine .ck ?_ | refine A.shr rfl rfl (by omega) hsh ?_ | refine A.band (m := t.musts.toNat / 2 ^ (t.lists.toNat - k)) (n := 1) rfl rfl rfl rfl (by omega) (by decide) (and1 _) ?_ | refine A.callWC c2 rfl rfl rfl rfl (WeakL.cons (Weak.no (WeakL.refl _)) (WeakL.refl _)) ?_ | fail
            exact ⟨hk1, ⟨congrArg (AV.int .i64) n1, rfl, rfl, trivial⟩, rfl, wst_below _, (congrArg wst hstep).symm, trivial⟩
          · have d3 : ((((t.musts.toNat / 2 ^ (t.lists.toNat - k)) % 2 : Nat) : Int) == 1) = false := by rw [beq_eq_false_iff_ne]; omega
            rw [if_neg hb] at hstep
            repeat' first | refine .seq ?_ | refine .rg ?_ | refine .rd ?_ | refine .block ?_ | refine .scope ?_ | refine .skip ?_ | refine .label ?_ | refine .exit ?_ | refine .ret ?_ | refine .ct ?_ | refine .cf ?_ | refine .cy ?_ | refine .cn ?_ | (refine .cond rfl ?_ ?_ <;> intro hc) | refine A.nil_seq ?_ | refine .nl ?_ | refine .dd ?_ | refine .ys ?_ | refine .no ?_ | (refine A.guard rfl ?_ ?_ <;> intro hc) | refine .lb ?_ | refine .ln ?_ | refine .ls ?_ | refine .pv ?_ | refine .ix ?_ | refine .pt ?_ | refine .pf ?_ | refine .bx ?_ | refine .al ?_ | refine .st ?_ | refine .ad ?_ | refine .sb ?_ | refine .mf ?_ | refine .cl ?_ | refine .cw ?_ | refine .ck ?_ | refine A.shr rfl rfl (by omega) hsh ?_ | refine A.band (m := t.musts.toNat / 2 ^ (t.lists.toNat - k)) (n := 1) rfl rfl rfl rfl (by omega) (by decide) (and1 _) ?_ | fail
            exact ⟨hk1, ⟨congrArg (AV.int .i64) n1, rfl, rfl, trivial⟩, rfl, wst_below _, (congrArg wst hstep).symm, trivial⟩
        · have d2 : decide (t.lists - (k : Int) < t.lists) = true := decide_eq_true (by omega)
          rw [if_neg h0] at hstep
          have c3 := cMark (wTailT t k W2) [93] (by omega)
          by_cases hb : (t.musts.toNat / 2 ^ (t.lists.toNat - k)) % 2 = 1
          · have d3 : ((((t.musts.toNat / 2 ^ (t.lists.toNat - k)) % 2 : Nat) : Int) == 1) = true := by rw [hb]; rfl
            rw [if_pos hb] at hstep
            have c2 := cMark (wMark [93] (wTailT t k W2)) [33] (by rw [len_mark]; omega)
            repeat' first | refine .seq ?_ | refine .rg ?_ | refine .rd ?_ | refine .block ?_ | refine .scope ?_ | refine .skip ?_ | refine .label ?_ | refine .exit ?_ | refine .ret ?_ | refine .ct ?_ | refine .cf ?_ | refine .cy ?_ | refine .cn ?_ | (refine .cond rfl ?_ ?_ <;> intro hc) | refine A.nil_seq ?_ | refine .nl ?_ | refine .dd ?_ | refine .ys ?_ | refine .no ?_ | (refine A.guard rfl ?_ ?_ <;> intro hc) | refine .lb ?_ | refine .ln ?_ | refine .ls ?_ | refine .pv ?_ | refine .ix ?_ | refine .pt ?_ | refine .pf ?_ | refine .bx ?_ | refine .al ?_ | refine .st ?_ | refine .ad ?_ | refine .sb ?_ | refine .mf ?_ | refine .cl ?_ | refine .cw ?_ | refine .ck ?_ | refine A.shr rfl rfl (by omega) hsh ?_ | refine A.band (m := t.musts.toNat / 2 ^ (t.lists.toNat - k)) (n := 1) rfl rfl rfl rfl (by omega) (by decide) (and1 _) ?_ | refine A.callWC c3 rfl rfl rfl rfl (WeakL.cons (Weak.no (WeakL.refl _)) (WeakL.refl _)) ?_ | refine A.callWC c2 rfl rfl rfl rfl (WeakL.cons (Weak.no (WeakL.refl _)) (WeakL.refl _)) ?_ | fail
            exact ⟨hk1, ⟨congrArg (AV.int .i64) n1, rfl, rfl, trivial⟩, rfl, wst_below _, (congrArg wst hstep).symm, trivial⟩
          · have d3 : ((((t.musts.toNat / 2 ^ (t.lists.toNat - k)) % 2 : Nat) : Int) == 1) = false := by rw [beq_eq_false_iff_ne]; omega
            rw [if_neg hb] at hstep
            repeat' first | refine .seq ?_ | refine .rg ?_ | refine .rd ?_ | refine .block ?_ | refine .scope ?_ | refine .skip ?_ | refine .label ?_ | refine .exit ?_ | refine .ret ?_ | refine .ct ?_ | refine .cf ?_ | refine .cy ?_ | refine .cn ?_ | (refine .cond rfl ?_ ?_ <;> intro hc) | refine A.nil_seq ?_ | refine .nl ?_ | refine .dd ?_ | refine .ys ?_ | refine .no ?_ | (refine A.guard rfl ?_ ?_ <;> intro hc) | refine .lb ?_ | refine .ln ?_ | refine .ls ?_ | refine .pv ?_ | refine .ix ?_ | refine .pt ?_ | refine .pf ?_ | refine .bx ?_ | refine .al ?_ | refine .st ?_ | refine .ad ?_ | refine .sb ?_ | refine .mf ?_ | refine .cl ?_ | refine .cw ?_ | refine .ck ?_ | refine A.shr rfl rfl (by omega) hsh ?_ | refine A.band (m := t.musts.toNat / 2 ^ (t.lists.toNat - k)) (n := 1) rfl rfl rfl rfl (by omega) (by decide) (and1 _) ?_ | refine A.callWC c3 rfl rfl rfl rfl (WeakL.cons (Weak.no (WeakL.refl _)) (WeakL.refl _)) ?_ | fail
            exact ⟨hk1, ⟨congrArg (AV.int .i64) n1, rfl, rfl, trivial⟩, rfl, wst_below _, (congrArg wst hstep).symm, trivial⟩
      · have d1 : decide (t.lists - (k : Int) ≥ 0) = false := decide_eq_false (by omega)
        have d1' : decide (0 ≤ t.lists - (k : Int)) = false := decide_eq_false (by omega)
        obtain rfl : k = t.lists.toNat + 1 := by omega
        repeat' first | refine .seq ?_ | refine .rg ?_ | refine .rd ?_ | refine .block ?_ | refine .scope ?_ | refine .skip ?_ | refine .label ?_ | refine .exit ?_ | refine .ret ?_ | refine .ct ?_ | refine .cf ?_ | refine .cy ?_ | refine .cn ?_ | (refine .cond rfl ?_ ?_ <;> intro hc) | refine A.nil_seq ?_ | refine .nl ?_ | refine .dd ?_ | refine .ys ?_ | refine .no ?_ | (refine A.guard rfl ?_ ?_ <;> intro hc) | refine .lb ?_ | refine .ln ?_ | refine .ls ?_ | refine .pv ?_ | refine .ix ?_ | refine .pt ?_ | refine .pf ?_ | refine .bx ?_ | refine .al ?_ | refine .st ?_ | refine .ad ?_ | refine .sb ?_ | refine .mf ?_ | refine .cl ?_ | refine .cw ?_ | refine .ck ?_ | fail
        exact ⟨rfl, rfl⟩
end Go.Proofs.YtegakkonlhmeaaaGreatDoor
