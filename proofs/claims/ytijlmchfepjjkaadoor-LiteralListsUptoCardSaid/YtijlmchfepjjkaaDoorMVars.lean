/-
  A call that lets one of the caller's slices grow. The package value: vars, Vars. The statements' SameTexts.
-/
import Derived.Test.YtijlmchfepjjkaaDoorMSpots
namespace Go.Av
open Go
set_option linter.unusedSectionVars false
set_option linter.unusedVariables false
section
variable [Globals]
variable {P : Program} {all : Array Oper} {draw : Bool} {K : AX → Slots → St → Prop} {rest : List Oper} {acc : List Tag} {s : Slots} {σ : St} {d : Option Tmp} {ty : TypeId} {pos : String} {af : Array Edge}
theorem A.callG {f : FuncId} {args : Array Operand} {tys : Array TypeId} {xs ys cls cls' : List AV} {z n n' : Nat} {T' : List Tok} (j : Nat) (ha : evsK s args.toList some = some (.slice xs (.own j z) :: cls))
    (hp : AFn P f (.slice xs (.own 0 z) :: cls') ⟨[], [.len n]⟩ (fun e σ1 => e = .ret (.slice ys (.own 0 z)) ∧ σ1 = ⟨[], [.len n']⟩)) (hj : σ.T[j]? = some (.len n)) (hx : AV.closedL xs = true) (hy : AV.closedL ys = true) (hc : AV.closedL cls' = true) (hw : WeakL cls cls')
    (hT' : setTK j (.len n') σ.T some = some T') (k : AOps P all draw K rest (.all :: acc) (putS d (.slice ys (.own j z)) s) ⟨σ.B, T'⟩) : AOps P all draw K (⟨d, .call ⟨.value (.func f), args, tys⟩, ty, pos, af, none⟩ :: rest) acc s σ := by
  have hjl : j < σ.T.length := (List.getElem?_eq_some_iff.1 hj).1
  have hemb : emb σ.T.length [j] 0 = j := rfl
  refine A.callR (nB := σ.B.length) (nT := σ.T.length) (B0 := []) (T0 := [.len n]) (B1 := []) (T1 := [.len n']) (v0 := .slice ys (.own 0 z)) [] [j] ha hp rfl rfl ⟨List.nodup_nil, by simp⟩ ⟨by simp, by simpa using hjl⟩ rfl rfl (fun k i ob h => by simp at h) (fun k i t h ht => ?_) rfl rfl
    ?_ ?_ ?_ (B' := σ.B) (T' := T') ?_ ?_ k
  · cases k with
    | zero => simp at h ht; subst h; subst ht; exact hj
    | succ k => simp at h
  · simp only [AV.lowL, AV.low, AV.lowL_of_closed _ _ _ hx, AV.lowL_of_closed _ _ _ hc]; rfl
  · rw [AV.renL, AV.ren, AV.renL_closed _ _ _ hx, AV.renL_closed _ _ _ hc]
    exact WeakL.cons (Weak.refl _) hw
  · rw [AV.ren, AV.renL_closed _ _ _ hy]; rfl
  · rw [merge_nil]; simp
  · obtain ⟨_, hTe⟩ := setTK_spec _ _ _ _ _ hT'
    rw [← Option.some.inj hTe]
    simp [merge, upd, Tok.ren]
end
end Go.Av
namespace Go.Proofs.YtijlmchfepjjkaaDoor
open Go Go.Av
set_option maxRecDepth 100000
set_option maxHeartbeats 16000000
set_option linter.unusedVariables false
set_option linter.unusedSimpArgs false
attribute [local irreducible] HCode AOps PFn AFn Av.Step TStep

theorem varsV_eq (v : Val) (acc : List Str) : varsV v acc = if v.kind = 8 then addNew acc v.s else if v.kind = 6 then varsL v.l acc else if v.kind = 7 then varsM v.m acc else acc := by
  cases v; rw [varsV]; rfl
theorem addNew_len (acc : List Str) (x : Str) : (addNew acc x).length ≤ acc.length + 1 := by
  unfold addNew; split <;> simp
mutual
theorem varsV_len : ∀ (v : Val) (acc : List Str), (varsV v acc).length ≤ acc.length + v.size
  | .mk k n str l m, acc => by
    have h1 := varsL_len l acc
    have h2 := varsM_len m acc
    have h3 := addNew_len acc str
    rw [varsV, Val.size]
    split
    · omega
    · split
      · omega
      · split <;> omega
theorem varsL_len : ∀ (l : List Val) (acc : List Str), (varsL l acc).length ≤ acc.length + Val.sizeL l
  | [], acc => by rw [varsL]; omega
  | v :: l, acc => by
    have h1 := varsV_len v acc
    have h2 := varsL_len l (varsV v acc)
    rw [varsL, Val.sizeL]; omega
theorem varsM_len : ∀ (m : List Mem) (acc : List Str), (varsM m acc).length ≤ acc.length + Val.sizeM m
  | [], acc => by rw [varsM]; omega
  | .mk _ v :: m, acc => by
    have h1 := varsV_len v acc
    have h2 := varsM_len m (varsV v acc)
    rw [varsM, Val.sizeM]; omega
end
theorem varsL_app : ∀ (a b : List Val) (acc : List Str), varsL (a ++ b) acc = varsL b (varsL a acc)
  | [], b, acc => by rw [varsL]; rfl
  | x :: a, b, acc => by rw [List.cons_append, varsL, varsL, varsL_app a b]
theorem varsM_app : ∀ (a b : List Mem) (acc : List Str), varsM (a ++ b) acc = varsM b (varsM a acc)
  | [], b, acc => by rw [varsM]; rfl
  | .mk _ _ :: a, b, acc => by rw [List.cons_append, varsM, varsM, varsM_app a b]
theorem varsL_take {l : List Val} {k : Nat} {acc : List Str} (h : k < l.length) : varsL (l.take (k + 1)) acc = varsV l[k] (varsL (l.take k) acc) := by
  rw [List.take_succ_eq_append_getElem h, varsL_app, varsL, varsL]
theorem varsM_take {l : List Mem} {k : Nat} {acc : List Str} (h : k < l.length) : varsM (l.take (k + 1)) acc = varsV l[k].v (varsM (l.take k) acc) := by
  rw [List.take_succ_eq_append_getElem h, varsM_app]
  cases l[k]; rw [varsM, varsM]; rfl

theorem sizeL_succ {l : List Val} {k : Nat} (h : k < l.length) : Val.sizeL (l.take (k + 1)) = Val.sizeL (l.take k) + l[k].size := by
  rw [Val.sizeL_eq, Val.sizeL_eq]
  induction l generalizing k with
  | nil => simp at h
  | cons x l ih =>
    cases k with
    | zero => simp [sumSize]
    | succ k => simp only [List.take_succ_cons, sumSize, List.getElem_cons_succ]; rw [ih (by simpa using h)]; omega
theorem sizeM_succ {l : List Mem} {k : Nat} (h : k < l.length) : Val.sizeM (l.take (k + 1)) = Val.sizeM (l.take k) + l[k].name.length + 2 + l[k].v.size := by
  induction l generalizing k with
  | nil => simp at h
  | cons x l ih =>
    cases k with
    | zero => cases x; simp [Val.sizeM, Mem.name, Mem.v]
    | succ k => cases x; simp only [List.take_succ_cons, Val.sizeM, List.getElem_cons_succ]; rw [ih (by simpa using h)]; omega
/-- What vars does to a slice that grows. -/
abbrev VarsC (v : Val) (xs : List Str) : Prop := AFn Tryd.prog 90 [.slice (xs.map AV.str) (.own 0 1), v.enc] ⟨[], [.len xs.length]⟩ (fun e σ => e = .ret (.slice ((varsV v xs).map AV.str) (.own 0 1)) ∧ σ = ⟨[], [.len (varsV v xs).length]⟩)
theorem varsBody (v : Val) (hv : v.size ≤ 2097152) (ihL : ∀ x ∈ v.l, ∀ xs : List Str, xs.length + x.size ≤ 4194304 → VarsC x xs) (ihM : ∀ x ∈ v.m, ∀ xs : List Str, xs.length + x.v.size ≤ 4194304 → VarsC x.v xs) (xs : List Str) (hxs : xs.length + v.size ≤ 4194304) :
    HCode Tryd.prog Tryd.f90.ntmps [] (bodyOf Tryd.f90) (fin [4] (fun e σ => e = .ret (.slice ((varsV v xs).map AV.str) (.own 0 1)) ∧ σ = ⟨[], [.len (varsV v xs).length]⟩))
      [(0, .slice (xs.map AV.str) (.own 0 1)), (1, v.enc)] ⟨[], [.len xs.length]⟩ := by
  have hct := sContainsStr xs v.s (by omega)
  have hwk : WeakL [.slice (xs.map AV.str) (.own 0 1), .str v.s] [.slice (xs.map AV.str) .no, .str v.s] := WeakL.cons (Weak.no (WeakL.refl _)) (WeakL.refl _)
  have hll := v.l_len
  have hml := v.m_len
  have hsp := v.size_parts
  rw [varsV_eq]
  by_cases k8 : v.kind = 8
  · have q8 : (v.kind == 8) = true := by simp [k8]
    rw [if_pos k8]
    unfold addNew
    by_cases c : v.s ∈ xs
    · rw [decide_eq_true c] at hct
      rw [if_pos c]
      repeat' first
        | refine .br ?_ | refine A.call rfl hct hwk ?_
        | refine .seq ?_ | refine .rg ?_ | refine .rd ?_ | refine .block ?_ | refine .scope ?_ | refine .skip ?_ | refine .label ?_ | refine .exit ?_ | refine .ret ?_
        | refine .ct ?_ | refine .cf ?_ | refine .cy ?_ | refine .cn ?_ | (refine .cond rfl ?_ ?_ <;> intro hc)
        | refine A.nil_seq ?_ | refine .nl ?_ | refine .dd ?_ | refine .ys ?_ | refine .no ?_ | (refine A.guard rfl ?_ ?_ <;> intro hc)
        | refine .lb ?_ | refine .ln ?_ | refine .ls ?_ | refine .pv ?_ | refine .ix ?_ | refine .pt ?_ | refine .pf ?_ | refine .bx ?_ | refine .al ?_ | refine .st ?_ | refine .ad ?_ | refine .sb ?_ | refine .mf ?_ | refine .cl ?_ | refine .cw ?_ | refine .ck ?_ | fail
      exact ⟨rfl, rfl⟩
    · rw [decide_eq_false c] at hct
      rw [if_neg c]
      repeat' first
        | refine .br ?_ | refine A.call rfl hct hwk ?_
        | refine .seq ?_ | refine .rg ?_ | refine .rd ?_ | refine .block ?_ | refine .scope ?_ | refine .skip ?_ | refine .label ?_ | refine .exit ?_ | refine .ret ?_
        | refine .ct ?_ | refine .cf ?_ | refine .cy ?_ | refine .cn ?_ | (refine .cond rfl ?_ ?_ <;> intro hc)
        | refine A.nil_seq ?_ | refine .nl ?_ | refine .dd ?_ | refine .ys ?_ | refine .no ?_ | (refine A.guard rfl ?_ ?_ <;> intro hc)
        | refine .lb ?_ | refine .ln ?_ | refine .ls ?_ | refine .pv ?_ | refine .ix ?_ | refine .pt ?_ | refine .pf ?_ | refine .bx ?_ | refine .al ?_ | refine .st ?_ | refine .ad ?_ | refine .sb ?_ | refine .mf ?_ | refine .cl ?_ | refine .cw ?_ | refine .ck ?_
        | refine A.append (n := xs.length) rfl rfl rfl rfl rfl rfl rfl rfl (List.length_map ..) rfl (by dsimp only [List.length_cons, List.length_nil]; omega) (by dsimp only [List.length_cons, List.length_nil]; omega) rfl ?_ | fail
      exact ⟨by rw [List.map_append]; rfl, by rw [List.length_append]; rfl⟩
  · have q8 : (v.kind == 8) = false := by simp [k8]
    rw [if_neg k8]
    by_cases k6 : v.kind = 6
    · have q6 : (v.kind == 6) = true := by simp [k6]
      rw [if_pos k6]
      repeat' first
        | refine .br ?_
        | refine .seq ?_ | refine .rg ?_ | refine .rd ?_ | refine .block ?_ | refine .scope ?_ | refine .skip ?_ | refine .label ?_ | refine .exit ?_ | refine .ret ?_
        | refine .ct ?_ | refine .cf ?_ | refine .cy ?_ | refine .cn ?_ | (refine .cond rfl ?_ ?_ <;> intro hc)
        | refine A.nil_seq ?_ | refine .nl ?_ | refine .dd ?_ | refine .ys ?_ | refine .no ?_ | (refine A.guard rfl ?_ ?_ <;> intro hc)
        | refine .lb ?_ | refine .ln ?_ | refine .ls ?_ | refine .pv ?_ | refine .ix ?_ | refine .pt ?_ | refine .pf ?_ | refine .bx ?_ | refine .al ?_ | refine .st ?_ | refine .ad ?_ | refine .sb ?_ | refine .mf ?_ | refine .cl ?_ | refine .cw ?_ | refine .ck ?_ | fail
      refine HCode.forK v.l.length (fun k => [(28, .int .i64 k), (27, .int .i64 v.lv.length), (26, .slice v.lv .no), (0, .slice ((varsL (v.l.take k) xs).map AV.str) (.own 0 1))])
        (fun k => ⟨[], [.len (varsL (v.l.take k) xs).length]⟩) (fun _ => True) ⟨rfl, rfl, rfl, by rw [List.take_zero, varsL]; rfl, trivial⟩ (by rw [List.take_zero, varsL]) trivial fun k hk _ => ?_
      by_cases h1 : k < v.l.length
      · have d1 : decide ((k : Int) < (v.lv.length : Int)) = true := by rw [v.lv_len]; simp [h1]
        have x1 := Val.lv_get h1
        have hlen := varsL_len (v.l.take k) xs
        have hlt := sizeL_take v.l (k + 1)
        have hst := sizeL_succ h1
        have hcc := ihL v.l[k] (List.getElem_mem h1) (varsL (v.l.take k) xs) (by omega)
        rw [VarsC, ← varsL_take h1] at hcc
        repeat' first
          | refine .seq ?_ | refine .rg ?_ | refine .rd ?_ | refine .block ?_ | refine .scope ?_ | refine .skip ?_ | refine .label ?_ | refine .exit ?_ | refine .ret ?_
          | refine .ct ?_ | refine .cf ?_ | refine .cy ?_ | refine .cn ?_ | (refine .cond rfl ?_ ?_ <;> intro hc)
          | refine A.nil_seq ?_ | refine .nl ?_ | refine .dd ?_ | refine .ys ?_ | refine .no ?_ | (refine A.guard rfl ?_ ?_ <;> intro hc)
          | refine .lb ?_ | refine .ln ?_ | refine .ls ?_ | refine .pv ?_ | refine .ix ?_ | refine .pt ?_ | refine .pf ?_ | refine .bx ?_ | refine .al ?_ | refine .st ?_ | refine .ad ?_ | refine .sb ?_ | refine .mf ?_ | refine .cl ?_ | refine .cw ?_ | refine .ck ?_
          | refine A.callG 0 rfl hcc rfl (str_closedL _) (str_closedL _) (by simp [AV.closedL, Val.closed]) (WeakL.refl _) rfl ?_ | fail
        exact ⟨h1, ⟨rfl, rfl, rfl, rfl, trivial⟩, by simp [belowS, AV.low], rfl, rfl, trivial⟩
      · have d1 : decide ((k : Int) < (v.lv.length : Int)) = false := by rw [v.lv_len]; simp; omega
        obtain rfl : k = v.l.length := by omega
        rw [List.take_length]
        repeat' first
          | refine .seq ?_ | refine .rg ?_ | refine .rd ?_ | refine .block ?_ | refine .scope ?_ | refine .skip ?_ | refine .label ?_ | refine .exit ?_ | refine .ret ?_
          | refine .ct ?_ | refine .cf ?_ | refine .cy ?_ | refine .cn ?_ | (refine .cond rfl ?_ ?_ <;> intro hc)
          | refine A.nil_seq ?_ | refine .nl ?_ | refine .dd ?_ | refine .ys ?_ | refine .no ?_ | (refine A.guard rfl ?_ ?_ <;> intro hc)
          | refine .lb ?_ | refine .ln ?_ | refine .ls ?_ | refine .pv ?_ | refine .ix ?_ | refine .pt ?_ | refine .pf ?_ | refine .bx ?_ | refine .al ?_ | refine .st ?_ | refine .ad ?_ | refine .sb ?_ | refine .mf ?_ | refine .cl ?_ | refine .cw ?_ | refine .ck ?_ | fail
        exact ⟨rfl, rfl⟩
    · have q6 : (v.kind == 6) = false := by simp [k6]
      rw [if_neg k6]
      by_cases k7 : v.kind = 7
      · have q7 : (v.kind == 7) = true := by simp [k7]
        rw [if_pos k7]
        repeat' first
          | refine .br ?_
          | refine .seq ?_ | refine .rg ?_ | refine .rd ?_ | refine .block ?_ | refine .scope ?_ | refine .skip ?_ | refine .label ?_ | refine .exit ?_ | refine .ret ?_
          | refine .ct ?_ | refine .cf ?_ | refine .cy ?_ | refine .cn ?_ | (refine .cond rfl ?_ ?_ <;> intro hc)
          | refine A.nil_seq ?_ | refine .nl ?_ | refine .dd ?_ | refine .ys ?_ | refine .no ?_ | (refine A.guard rfl ?_ ?_ <;> intro hc)
          | refine .lb ?_ | refine .ln ?_ | refine .ls ?_ | refine .pv ?_ | refine .ix ?_ | refine .pt ?_ | refine .pf ?_ | refine .bx ?_ | refine .al ?_ | refine .st ?_ | refine .ad ?_ | refine .sb ?_ | refine .mf ?_ | refine .cl ?_ | refine .cw ?_ | refine .ck ?_ | fail
        refine HCode.forK v.m.length (fun k => [(41, .int .i64 k), (40, .int .i64 v.mv.length), (39, .slice v.mv .no), (0, .slice ((varsM (v.m.take k) xs).map AV.str) (.own 0 1))])
          (fun k => ⟨[], [.len (varsM (v.m.take k) xs).length]⟩) (fun _ => True) ⟨rfl, rfl, rfl, by rw [List.take_zero, varsM]; rfl, trivial⟩ (by rw [List.take_zero, varsM]) trivial fun k hk _ => ?_
        by_cases h1 : k < v.m.length
        · have d1 : decide ((k : Int) < (v.mv.length : Int)) = true := by rw [v.mv_len]; simp [h1]
          have x1 := Val.mv_get h1
          have hlen := varsM_len (v.m.take k) xs
          have hlt := sizeM_take v.m (k + 1)
          have hst := sizeM_succ h1
          have hcc := ihM v.m[k] (List.getElem_mem h1) (varsM (v.m.take k) xs) (by omega)
          rw [VarsC, ← varsM_take h1] at hcc
          repeat' first
            | refine .seq ?_ | refine .rg ?_ | refine .rd ?_ | refine .block ?_ | refine .scope ?_ | refine .skip ?_ | refine .label ?_ | refine .exit ?_ | refine .ret ?_
            | refine .ct ?_ | refine .cf ?_ | refine .cy ?_ | refine .cn ?_ | (refine .cond rfl ?_ ?_ <;> intro hc)
            | refine A.nil_seq ?_ | refine .nl ?_ | refine .dd ?_ | refine .ys ?_ | refine .no ?_ | (refine A.guard rfl ?_ ?_ <;> intro hc)
            | refine .lb ?_ | refine .ln ?_ | refine .ls ?_ | refine .pv ?_ | refine .ix ?_ | refine .pt ?_ | refine .pf ?_ | refine .bx ?_ | refine .al ?_ | refine .st ?_ | refine .ad ?_ | refine .sb ?_ | refine .mf ?_ | refine .cl ?_ | refine .cw ?_ | refine .ck ?_
            | refine A.callG 0 rfl hcc rfl (str_closedL _) (str_closedL _) (by simp [AV.closedL, Val.closed]) (WeakL.refl _) rfl ?_ | fail
          exact ⟨h1, ⟨rfl, rfl, rfl, rfl, trivial⟩, by simp [belowS, AV.low], rfl, rfl, trivial⟩
        · have d1 : decide ((k : Int) < (v.mv.length : Int)) = false := by rw [v.mv_len]; simp; omega
          obtain rfl : k = v.m.length := by omega
          rw [List.take_length]
          repeat' first
            | refine .seq ?_ | refine .rg ?_ | refine .rd ?_ | refine .block ?_ | refine .scope ?_ | refine .skip ?_ | refine .label ?_ | refine .exit ?_ | refine .ret ?_
            | refine .ct ?_ | refine .cf ?_ | refine .cy ?_ | refine .cn ?_ | (refine .cond rfl ?_ ?_ <;> intro hc)
            | refine A.nil_seq ?_ | refine .nl ?_ | refine .dd ?_ | refine .ys ?_ | refine .no ?_ | (refine A.guard rfl ?_ ?_ <;> intro hc)
            | refine .lb ?_ | refine .ln ?_ | refine .ls ?_ | refine .pv ?_ | refine .ix ?_ | refine .pt ?_ | refine .pf ?_ | refine .bx ?_ | refine .al ?_ | refine .st ?_ | refine .ad ?_ | refine .sb ?_ | refine .mf ?_ | refine .cl ?_ | refine .cw ?_ | refine .ck ?_ | fail
          exact ⟨rfl, rfl⟩
      · have q7 : (v.kind == 7) = false := by simp [k7]
        rw [if_neg k7]
        repeat' first
          | refine .br ?_
          | refine .seq ?_ | refine .rg ?_ | refine .rd ?_ | refine .block ?_ | refine .scope ?_ | refine .skip ?_ | refine .label ?_ | refine .exit ?_ | refine .ret ?_
          | refine .ct ?_ | refine .cf ?_ | refine .cy ?_ | refine .cn ?_ | (refine .cond rfl ?_ ?_ <;> intro hc)
          | refine A.nil_seq ?_ | refine .nl ?_ | refine .dd ?_ | refine .ys ?_ | refine .no ?_ | (refine A.guard rfl ?_ ?_ <;> intro hc)
          | refine .lb ?_ | refine .ln ?_ | refine .ls ?_ | refine .pv ?_ | refine .ix ?_ | refine .pt ?_ | refine .pf ?_ | refine .bx ?_ | refine .al ?_ | refine .st ?_ | refine .ad ?_ | refine .sb ?_ | refine .mf ?_ | refine .cl ?_ | refine .cw ?_ | refine .ck ?_ | fail
        exact ⟨rfl, rfl⟩
theorem vVarsC : ∀ N : Nat, N ≤ 2097152 → ∀ v : Val, v.size ≤ N → ∀ xs : List Str, xs.length + v.size ≤ 4194304 → VarsC v xs
  | 0, _, v, hv => absurd hv (by have := v.size_pos; omega)
  | N + 1, hN, v, hv => fun xs hxs => by
    have ih := vVarsC N (by omega)
    have hb := varsBody v (by omega) (fun x hx ys hy => ih x (by
      obtain ⟨k, hk, rfl⟩ := List.getElem_of_mem hx
      have := Val.size_l hk; omega) ys hy) (fun x hx ys hy => ih x.v (by
      obtain ⟨k, hk, rfl⟩ := List.getElem_of_mem hx
      have := Val.size_m hk; omega) ys hy) xs hxs
    exact AFn.enter [4] Tryd.func90 rfl rfl rfl rfl rfl (by decide) hb
theorem vVars (v : Val) (hv : v.size ≤ 2097152) : PFn Tryd.prog 46 [v.enc] (.slice ((varsV v []).map AV.str) .no) := by
  have hn : PFn Tryd.prog 90 [.slice [] .nil, v.enc] (.slice ((varsV v []).map AV.str) .no) := by
    have hb := varsBody v hv (fun x hx ys hy => vVarsC 2097152 (Nat.le_refl _) x (by
      obtain ⟨k, hk, rfl⟩ := List.getElem_of_mem hx
      have := Val.size_l hk; omega) ys hy) (fun x hx ys hy => vVarsC 2097152 (Nat.le_refl _) x.v (by
      obtain ⟨k, hk, rfl⟩ := List.getElem_of_mem hx
      have := Val.size_m hk; omega) ys hy) [] (by simp only [List.length_nil]; omega)
    refine AFn.plain (by simp [AV.closed, str_closedL]) (by simp [AV.closed, AV.closedL, Val.closed]) (AFn.enter [4] Tryd.func90 rfl rfl rfl rfl rfl (by decide) ?_)
    refine HCode.adopt 0 false 1 rfl rfl rfl rfl rfl rfl ?_
    refine HCode.weaken (s := [(0, .slice [] (.own 0 1)), (1, v.enc)]) (hb.mono fun e s σ h => ?_) ⟨rfl, rfl, trivial⟩
    cases e with
    | normal => exact ⟨_, h.1, Weak.no (WeakL.refl _)⟩
    | ret => exact ⟨_, h.1, Weak.no (WeakL.refl _)⟩
    | pan x => exact absurd h.1 (by simp)
    | exit id => exact h
    | goto l => exact h
  refine AFn.plain (by simp [AV.closed, str_closedL]) (by simp [AV.closed, AV.closedL, Val.closed]) (AFn.enter [2] Tryd.func46 rfl rfl rfl rfl rfl (by decide) ?_)
  repeat' first
    | refine .br ?_
    | refine .seq ?_ | refine .rg ?_ | refine .rd ?_ | refine .block ?_ | refine .scope ?_ | refine .skip ?_ | refine .label ?_ | refine .exit ?_ | refine .ret ?_
    | refine .ct ?_ | refine .cf ?_ | refine .cy ?_ | refine .cn ?_ | (refine .cond rfl ?_ ?_ <;> intro hc)
    | refine A.nil_seq ?_ | refine .nl ?_ | refine .dd ?_ | refine .ys ?_ | refine .no ?_ | (refine A.guard rfl ?_ ?_ <;> intro hc)
    | refine .lb ?_ | refine .ln ?_ | refine .ls ?_ | refine .pv ?_ | refine .ix ?_ | refine .pt ?_ | refine .pf ?_ | refine .bx ?_ | refine .al ?_ | refine .st ?_ | refine .ad ?_ | refine .sb ?_ | refine .mf ?_ | refine .cl ?_ | refine .cw ?_ | refine .ck ?_ | fail
  exact Fin.ret1 rfl (Weak.refl _)
theorem kSameTexts (l : List Str) (hl : l.length ≤ 9223372036854775806) : PFn Tryd.prog 48 [.slice (l.map AV.str) .no, .slice (l.map AV.str) .no] (.bool true) := by
  refine AFn.plain rfl (by simp [AV.closed, AV.closedL, str_closedL]) (AFn.enter [4] Tryd.func48 rfl rfl rfl rfl rfl (by decide) ?_)
  have e0 : ((l.length : Int) != (l.length : Int)) = false := by simp
  repeat' first
    | refine .seq ?_ | refine .rg ?_ | refine .rd ?_ | refine .block ?_ | refine .scope ?_ | refine .skip ?_ | refine .label ?_ | refine .exit ?_ | refine .ret ?_
    | refine .ct ?_ | refine .cf ?_ | refine .cy ?_ | refine .cn ?_ | (refine .cond rfl ?_ ?_ <;> intro hc)
    | refine A.nil_seq ?_ | refine .nl ?_ | refine .dd ?_ | refine .ys ?_ | refine .no ?_ | (refine A.guard rfl ?_ ?_ <;> intro hc)
    | refine .lb ?_ | refine .ln ?_ | refine .ls ?_ | refine .pv ?_ | refine .ix ?_ | refine .pt ?_ | refine .pf ?_ | refine .bx ?_ | refine .al ?_ | refine .st ?_ | refine .ad ?_ | refine .sb ?_ | refine .mf ?_ | refine .cl ?_ | refine .cw ?_ | refine .ck ?_ | fail
  refine HCode.forK l.length (fun k => [(5, .int .i64 k), (0, .slice (l.map AV.str) .no), (1, .slice (l.map AV.str) .no)]) (fun _ => ⟨[], []⟩) (fun _ => True) ⟨rfl, rfl, rfl, trivial⟩ rfl trivial fun k hk _ => ?_
  by_cases h1 : k < l.length
  · have d1 : decide ((k : Int) < (l.length : Int)) = true := by simp [h1]
    have x1 := map_get' (f := AV.str) h1
    have e1 : (l[k] != l[k]) = false := by simp
    repeat' first
      | refine .seq ?_ | refine .rg ?_ | refine .rd ?_ | refine .block ?_ | refine .scope ?_ | refine .skip ?_ | refine .label ?_ | refine .exit ?_ | refine .ret ?_
      | refine .ct ?_ | refine .cf ?_ | refine .cy ?_ | refine .cn ?_ | (refine .cond rfl ?_ ?_ <;> intro hc)
      | refine A.nil_seq ?_ | refine .nl ?_ | refine .dd ?_ | refine .ys ?_ | refine .no ?_ | (refine A.guard rfl ?_ ?_ <;> intro hc)
      | refine .lb ?_ | refine .ln ?_ | refine .ls ?_ | refine .pv ?_ | refine .ix ?_ | refine .pt ?_ | refine .pf ?_ | refine .bx ?_ | refine .al ?_ | refine .st ?_ | refine .ad ?_ | refine .sb ?_ | refine .mf ?_ | refine .cl ?_ | refine .cw ?_ | refine .ck ?_ | fail
    exact ⟨h1, ⟨rfl, rfl, rfl, trivial⟩, by simp [belowS, AV.low], rfl, rfl, trivial⟩
  · have d1 : decide ((k : Int) < (l.length : Int)) = false := by simp; omega
    repeat' first
      | refine .seq ?_ | refine .rg ?_ | refine .rd ?_ | refine .block ?_ | refine .scope ?_ | refine .skip ?_ | refine .label ?_ | refine .exit ?_ | refine .ret ?_
      | refine .ct ?_ | refine .cf ?_ | refine .cy ?_ | refine .cn ?_ | (refine .cond rfl ?_ ?_ <;> intro hc)
      | refine A.nil_seq ?_ | refine .nl ?_ | refine .dd ?_ | refine .ys ?_ | refine .no ?_ | (refine A.guard rfl ?_ ?_ <;> intro hc)
      | refine .lb ?_ | refine .ln ?_ | refine .ls ?_ | refine .pv ?_ | refine .ix ?_ | refine .pt ?_ | refine .pf ?_ | refine .bx ?_ | refine .al ?_ | refine .st ?_ | refine .ad ?_ | refine .sb ?_ | refine .mf ?_ | refine .cl ?_ | refine .cw ?_ | refine .ck ?_ | fail
    exact Fin.ret1 rfl (Weak.refl _)
end Go.Proofs.YtijlmchfepjjkaaDoor
