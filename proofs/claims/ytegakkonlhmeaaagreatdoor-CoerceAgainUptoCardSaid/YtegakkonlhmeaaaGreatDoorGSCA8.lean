/-
  Contracts and plain facts for a law, joined.
-/
import Derived.Test.YtegakkonlhmeaaaGreatDoorGSCA7
import Derived.Test.YtegakkonlhmeaaaGreatDoorGSCA2
import Derived.Test.YtegakkonlhmeaaaGreatDoorGSCA6
set_option maxRecDepth 100000
set_option maxHeartbeats 16000000
set_option linter.unusedVariables false
set_option linter.unusedSimpArgs false
set_option linter.unusedSectionVars false
namespace Go.Av
open Go
section
variable [Globals]
variable {P : Program} {all : Array Oper} {draw : Bool} {K : AX → Slots → St → Prop} {rest : List Oper} {acc : List Tag} {s : Slots} {σ : St} {d : Option Tmp} {ty : TypeId} {pos : String} {af : Array Edge}
theorem A.callG {f : FuncId} {args : Array Operand} {tys : Array TypeId} {xs ys cls cls' : List AV} {z n n' : Nat} {T' : List Tok} (j : Nat) (ha : evsK s args.toList some = some (.slice xs (.own j z) :: cls))
    (hp : AFn P f (.slice xs (.own 0 z) :: cls') ⟨[], [.len n]⟩ (fun e σ1 => e = .ret (.slice ys (.own 0 z)) ∧ σ1 = ⟨[], [.len n']⟩)) (hj : σ.T[j]? = some (.len n)) (hx : AV.closedL xs = true) (hy : AV.closedL ys = true) (hc : AV.closedL cls' = true) (hw : WeakL cls cls')
    (hT' : setTK j (.len n') σ.T some = some T') (k : AOps P all draw K rest (.all :: acc) (putS d (.slice ys (.own j z)) s) ⟨σ.B, T'⟩) : AOps P all draw K (⟨d, .call ⟨.value (.func f), args, tys⟩, ty, pos, af, none⟩ :: rest) acc s σ := by
  have hjl : j < σ.T.length := (List.getElem?_eq_some_iff.1 hj).1
  have hemb : emb σ.T.length [j] 0 = j := rfl
  refine A.callR (nB := σ.B.length) (nT := σ.T.length) (B0 := []) (T0 := [.len n]) (B1 := []) (T1 := [.len n']) (v0 := .slice ys (.own 0 z)) [] [j] ha hp rfl rfl ⟨List.nodup_nil, by simp⟩ ⟨by simp, by simpa using hjl⟩ rfl rfl (fun k i ob h => by simp at h) (fun k i t h ht => ?_) rfl rfl
    ?_ ?_ ?_ (B' := σ.B) (T' := T') ?_ ?_ k
  · cases k with
    | zero => simp at h ht; subst h; subst ht; exact hj
    | succ k => simp at h
  · simp only [AV.lowL, AV.low, AV.lowL_of_closed _ _ _ hx, AV.lowL_of_closed _ _ _ hc]; rfl
  · rw [AV.renL, AV.ren, AV.renL_closed _ _ _ hx, AV.renL_closed _ _ _ hc]
    exact WeakL.cons (Weak.refl _) hw
  · rw [AV.ren, AV.renL_closed _ _ _ hy]; rfl
  · rw [merge_nil]; simp
  · obtain ⟨_, hTe⟩ := setTK_spec _ _ _ _ _ hT'
    rw [← Option.some.inj hTe]
    simp [merge, upd, Tok.ren]
end
end Go.Av
namespace Go.Proofs.YtegakkonlhmeaaaGreatDoor
open Go Go.Av
attribute [local irreducible] HCode AOps PFn AFn Av.Step TStep
theorem varsV_eq (v : Val) (acc : List Str) : varsV v acc = if v.kind = 8 then addNew acc v.s else if v.kind = 6 then varsL v.l acc else if v.kind = 7 then varsM v.m acc else acc := by
  cases v; rw [varsV]; rfl
theorem addNew_len (acc : List Str) (x : Str) : (addNew acc x).length ≤ acc.length + 1 := by
  unfold addNew; split <;> simp
mutual
theorem varsV_len : ∀ (v : Val) (acc : List Str), (varsV v acc).length ≤ acc.length + v.size
  | .mk k n str l m, acc => by
    have h1 := varsL_len l acc
    have h2 := varsM_len m acc
    have h3 := addNew_len acc str
    rw [varsV, Val.size]
    split
    · omega
    · split
      · omega
      · split <;> omega
theorem varsL_len : ∀ (l : List Val) (acc : List Str), (varsL l acc).length ≤ acc.length + Val.sizeL l
  | [], acc => by rw [varsL]; omega
  | v :: l, acc => by
    have h1 := varsV_len v acc
    have h2 := varsL_len l (varsV v acc)
    rw [varsL, Val.sizeL]; omega
theorem varsM_len : ∀ (m : List Mem) (acc : List Str), (varsM m acc).length ≤ acc.length + Val.sizeM m
  | [], acc => by rw [varsM]; omega
  | .mk _ v :: m, acc => by
    have h1 := varsV_len v acc
    have h2 := varsM_len m (varsV v acc)
    rw [varsM, Val.sizeM]; omega
end
theorem varsL_app : ∀ (a b : List Val) (acc : List Str), varsL (a ++ b) acc = varsL b (varsL a acc)
  | [], b, acc => by rw [varsL]; rfl
  | x :: a, b, acc => by rw [List.cons_append, varsL, varsL, varsL_app a b]
theorem varsM_app : ∀ (a b : List Mem) (acc : List Str), varsM (a ++ b) acc = varsM b (varsM a acc)
  | [], b, acc => by rw [varsM]; rfl
  | .mk _ _ :: a, b, acc => by rw [List.cons_append, varsM, varsM, varsM_app a b]
theorem varsL_take {l : List Val} {k : Nat} {acc : List Str} (h : k < l.length) : varsL (l.take (k + 1)) acc = varsV l[k] (varsL (l.take k) acc) := by
  rw [List.take_succ_eq_append_getElem h, varsL_app, varsL, varsL]
theorem varsM_take {l : List Mem} {k : Nat} {acc : List Str} (h : k < l.length) : varsM (l.take (k + 1)) acc = varsV l[k].v (varsM (l.take k) acc) := by
  rw [List.take_succ_eq_append_getElem h, varsM_app]
  cases l[k]; rw [varsM, varsM]; rfl
theorem sizeL_succ {l : List Val} {k : Nat} (h : k < l.length) : Val.sizeL (l.take (k + 1)) = Val.sizeL (l.take k) + l[k].size := by
  rw [Val.sizeL_eq, Val.sizeL_eq]
  induction l generalizing k with
  | nil => simp at h
  | cons x l ih =>
    cases k with
    | zero => simp [sumSize]
    | succ k => simp only [List.take_succ_cons, sumSize, List.getElem_cons_succ]; rw [ih (by simpa using h)]; omega
theorem sizeM_succ {l : List Mem} {k : Nat} (h : k < l.length) : Val.sizeM (l.take (k + 1)) = Val.sizeM (l.take k) + l[k].name.length + 2 + l[k].v.size := by
  induction l generalizing k with
  | nil => simp at h
  | cons x l ih =>
    cases k with
    | zero => cases x; simp [Val.sizeM, Mem.name, Mem.v]
    | succ k => cases x; simp only [List.take_succ_cons, Val.sizeM, List.getElem_cons_succ]; rw [ih (by simpa using h)]; omega
abbrev VarsC (v : Val) (xs : List Str) : Prop := AFn Tryz.prog 72 [.slice (xs.map AV.str) (.own 0 1), v.enc] ⟨[], [.len xs.length]⟩ (fun e σ => e = .ret (.slice ((varsV v xs).map AV.str) (.own 0 1)) ∧ σ = ⟨[], [.len (varsV v xs).length]⟩)
theorem varsBody (v : Val) (hv : v.size ≤ 68719476736) (ihL : ∀ x ∈ v.l, ∀ xs : List Str, xs.length + x.size ≤ 137438953472 → VarsC x xs) (ihM : ∀ x ∈ v.m, ∀ xs : List Str, xs.length + x.v.size ≤ 137438953472 → VarsC x.v xs) (xs : List Str) (hxs : xs.length + v.size ≤ 137438953472) :
    HCode Tryz.prog Tryz.f72.ntmps [] (bodyOf Tryz.f72) (fin [4] (fun e σ => e = .ret (.slice ((varsV v xs).map AV.str) (.own 0 1)) ∧ σ = ⟨[], [.len (varsV v xs).length]⟩))
      [(0, .slice (xs.map AV.str) (.own 0 1)), (1, v.enc)] ⟨[], [.len xs.length]⟩ := by
  have hct := sContainsStr xs v.s (by omega)
  have hwk : WeakL [.slice (xs.map AV.str) (.own 0 1), .str v.s] [.slice (xs.map AV.str) .no, .str v.s] := WeakL.cons (Weak.no (WeakL.refl _)) (WeakL.refl _)
  have hll := v.l_len
  have hml := v.m_len
  have hsp := v.size_parts
  rw [varsV_eq]
  by_cases k8 : v.kind = 8
  · have q8 : (v.kind == 8) = true := by simp [k8]
    rw [if_pos k8]
    unfold addNew
    by_cases c : v.s ∈ xs
    · rw [decide_eq_true c] at hct
      rw [if_pos c]
      repeat' first | refine .br ?_ | refine A.call rfl hct hwk ?_ | refine .seq ?_ | refine .rg ?_ | refine .rd ?_ | refine .block ?_ | refine .scope ?_ | refine .skip ?_ | refine .label ?_ | refine .exit ?_ | refine .ret ?_ | refine .ct ?_ | refine .cf ?_ | refine .cy ?_ | refine .cn ?_ | (refine .cond rfl ?_ ?_ <;> intro hc) | refine A.nil_seq ?_ | refine .nl ?_ | refine .dd ?_ | refine .ys ?_ | refine .no ?_ | (refine A.guard rfl ?_ ?_ <;> intro hc) | refine .lb ?_ | refine .ln ?_ | refine .ls ?_ | refine .pv ?_ | refine .ix ?_ | refine .pt ?_ | refine .pf ?_ | refine .bx ?_ | refine .al ?_ | refine .st ?_ | refine .ad ?_ | refine .sb ?_ | refine .mf ?_ | refine .cl ?_ | refine .cw ?_ | refine .ck ?_ | fail
      exact ⟨rfl, rfl⟩
    · rw [decide_eq_false c] at hct
      rw [if_neg c]
      repeat' first | refine .br ?_ | refine A.call rfl hct hwk ?_ | refine .seq ?_ | refine .rg ?_ | refine .rd ?_ | refine .block ?_ | refine .scope ?_ | refine .skip ?_ | refine .label ?_ | refine .exit ?_ | refine .ret ?_ | refine .ct ?_ | refine .cf ?_ | refine .cy ?_ | refine .cn ?_ | (refine .cond rfl ?_ ?_ <;> intro hc) | refine A.nil_seq ?_ | refine .nl ?_ | refine .dd ?_ | refine .ys ?_ | refine .no ?_ | (refine A.guard rfl ?_ ?_ <;> intro hc) | refine .lb ?_ | refine .ln ?_ | refine .ls ?_ | refine .pv ?_ | refine .ix ?_ | refine .pt ?_ | refine .pf ?_ | refine .bx ?_ | refine .al ?_ | refine .st ?_ | refine .ad ?_ | refine .sb ?_ | refine .mf ?_ | refine .cl ?_ | refine .cw ?_ | refine .ck ?_ | refine A.append (n := xs.length) rfl rfl rfl rfl rfl rfl rfl rfl (List.length_map ..) rfl (by dsimp only [List.length_cons, List.length_nil]; omega) (by dsimp only [List.length_cons, List.length_nil]; omega) rfl ?_ | fail
      exact ⟨by rw [List.map_append]; rfl, by rw [List.length_append]; rfl⟩
  · have q8 : (v.kind == 8) = false := by simp [k8]
    rw [if_neg k8]
    by_cases k6 : v.kind = 6
    · have q6 : (v.kind == 6) = true := by simp [k6]
      rw [if_pos k6]
      repeat' first | refine .br ?_ | refine .seq ?_ | refine .rg ?_ | refine .rd ?_ | refine .block ?_ | refine .scope ?_ | refine .skip ?_ | refine .label ?_ | refine .exit ?_ | refine .ret ?_ | refine .ct ?_ | refine .cf ?_ | refine .cy ?_ | refine .cn ?_ | (refine .cond rfl ?_ ?_ <;> intro hc) | refine A.nil_seq ?_ | refine .nl ?_ | refine .dd ?_ | refine .ys ?_ | refine .no ?_ | (refine A.guard rfl ?_ ?_ <;> intro hc) | refine .lb ?_ | refine .ln ?_ | refine .ls ?_ | refine .pv ?_ | refine .ix ?_ | refine .pt ?_ | refine .pf ?_ | refine .bx ?_ | refine .al ?_ | refine .st ?_ | refine .ad ?_ | refine .sb ?_ | refine .mf ?_ | refine .cl ?_ | refine .cw ?_ | refine .ck ?_ | fail
      refine HCode.forK v.l.length (fun k => [(28, .int .i64 k), (27, .int .i64 v.lv.length), (26, .slice v.lv .no), (0, .slice ((varsL (v.l.take k) xs).map AV.str) (.own 0 1))])
        (fun k => ⟨[], [.len (varsL (v.l.take k) xs).length]⟩) (fun _ => True) ⟨rfl, rfl, rfl, by rw [List.take_zero, varsL]; rfl, trivial⟩ (by rw [List.take_zero, varsL]) trivial fun k hk _ => ?_
      by_cases h1 : k < v.l.length
      · have d1 : decide ((k : Int) < (v.lv.length : Int)) = true := by rw [v.lv_len]; simp [h1]
        have x1 := Val.lv_get h1
        have hlen := varsL_len (v.l.take k) xs
        have hlt := sizeL_take v.l (k + 1)
        have hst := sizeL_succ h1
        have hcc := ihL v.l[k] (List.getElem_mem h1) (varsL (v.l.take k) xs) (by omega)
        rw [VarsC, ← varsL_take h1] at hcc
        repeat' first | refine .seq ?_ | refine .rg ?_ | refine .rd ?_ | refine .block ?_ | refine .scope ?_ | refine .skip ?_ | refine .label ?_ | refine .exit ?_ | refine .ret ?_ | refine .ct ?_ | refine .cf ?_ | refine .cy ?_ | refine .cn ?_ | (refine .cond rfl ?_ ?_ <;> intro hc) | refine A.nil_seq ?_ | refine .nl ?_ | refine .dd ?_ | refine .ys ?_ | refine .no ?_ | (refine A.guard rfl ?_ ?_ <;> intro hc) | refine .lb ?_ | refine .ln ?_ | refine .ls ?_ | refine .pv ?_ | refine .ix ?_ | refine .pt ?_ | refine .pf ?_ | refine .bx ?_ | refine .al ?_ | refine .st ?_ | refine .ad ?_ | refine .sb ?_ | refine .mf ?_ | refine .cl ?_ | refine .cw ?_ | refine .ck ?_ | refine A.callG 0 rfl hcc rfl (str_closedL _) (str_closedL _) (by simp [AV.closedL, Val.closed]) (WeakL.refl _) rfl ?_ | fail
        exact ⟨h1, ⟨rfl, rfl, rfl, rfl, trivial⟩, by simp [belowS, AV.low], rfl, rfl, trivial⟩
      · have d1 : decide ((k : Int) < (v.lv.length : Int)) = false := by rw [v.lv_len]; simp; omega
        obtain rfl : k = v.l.length := by omega
        rw [List.take_length]
        repeat' first | refine .seq ?_ | refine .rg ?_ | refine .rd ?_ | refine .block ?_ | refine .scope ?_ | refine .skip ?_ | refine .label ?_ | refine .exit ?_ | refine .ret ?_ | refine .ct ?_ | refine .cf ?_ | refine .cy ?_ | refine .cn ?_ | (refine .cond rfl ?_ ?_ <;> intro hc) | refine A.nil_seq ?_ | refine .nl ?_ | refine .dd ?_ | refine .ys ?_ | refine .no ?_ | (refine A.guard rfl ?_ ?_ <;> intro hc) | refine .lb ?_ | refine .ln ?_ | refine .ls ?_ | refine .pv ?_ | refine .ix ?_ | refine .pt ?_ | refine .pf ?_ | refine .bx ?_ | refine .al ?_ | refine .st ?_ | refine .ad ?_ | refine .sb ?_ | refine .mf ?_ | refine .cl ?_ | refine .cw ?_ | refine .ck ?_ | fail
        exact ⟨rfl, rfl⟩
    · have q6 : (v.kind == 6) = false := by simp [k6]
      rw [if_neg k6]
      by_cases k7 : v.kind = 7
      · have q7 : (v.kind == 7) = true := by simp [k7]
        rw [if_pos k7]
        repeat' first | refine .br ?_ | refine .seq ?_ | refine .rg ?_ | refine .rd ?_ | refine .block ?_ | refine .scope ?_ | refine .skip ?_ | refine .label ?_ | refine .exit ?_ | refine .ret ?_ | refine .ct ?_ | refine .cf ?_ | refine .cy ?_ | refine .cn ?_ | (refine .cond rfl ?_ ?_ <;> intro hc) | refine A.nil_seq ?_ | refine .nl ?_ | refine .dd ?_ | refine .ys ?_ | refine .no ?_ | (refine A.guard rfl ?_ ?_ <;> intro hc) | refine .lb ?_ | refine .ln ?_ | refine .ls ?_ | refine .pv ?_ | refine .ix ?_ | refine .pt ?_ | refine .pf ?_ | refine .bx ?_ | refine .al ?_ | refine .st ?_ | refine .ad ?_ | refine .sb ?_ | refine .mf ?_ | refine .cl ?_ | refine .cw ?_ | refine .ck ?_ | fail
        refine HCode.forK v.m.length (fun k => [(41, .int .i64 k), (40, .int .i64 v.mv.length), (39, .slice v.mv .no), (0, .slice ((varsM (v.m.take k) xs).map AV.str) (.own 0 1))])
          (fun k => ⟨[], [.len (varsM (v.m.take k) xs).length]⟩) (fun _ => True) ⟨rfl, rfl, rfl, by rw [List.take_zero, varsM]; rfl, trivial⟩ (by rw [List.take_zero, varsM]) trivial fun k hk _ => ?_
        by_cases h1 : k < v.m.length
        · have d1 : decide ((k : Int) < (v.mv.length : Int)) = true := by rw [v.mv_len]; simp [h1]
          have x1 := Val.mv_get h1
          have hlen := varsM_len (v.m.take k) xs
          have hlt := sizeM_take v.m (k + 1)
          have hst := sizeM_succ h1
          have hcc := ihM v.m[k] (List.getElem_mem h1) (varsM (v.m.take k) xs) (by omega)
          rw [VarsC, ← varsM_take h1] at hcc
          repeat' first | refine .seq ?_ | refine .rg ?_ | refine .rd ?_ | refine .block ?_ | refine .scope ?_ | refine .skip ?_ | refine .label ?_ | refine .exit ?_ | refine .ret ?_ | refine .ct ?_ | refine .cf ?_ | refine .cy ?_ | refine .cn ?_ | (refine .cond rfl ?_ ?_ <;> intro hc) | refine A.nil_seq ?_ | refine .nl ?_ | refine .dd ?_ | refine .ys ?_ | refine .no ?_ | (refine A.guard rfl ?_ ?_ <;> intro hc) | refine .lb ?_ | refine .ln ?_ | refine .ls ?_ | refine .pv ?_ | refine .ix ?_ | refine .pt ?_ | refine .pf ?_ | refine .bx ?_ | refine .al ?_ | refine .st ?_ | refine .ad ?_ | refine .sb ?_ | refine .mf ?_ | refine .cl ?_ | refine .cw ?_ | refine .ck ?_ | refine A.callG 0 rfl hcc rfl (str_closedL _) (str_closedL _) (by simp [AV.closedL, Val.closed]) (WeakL.refl _) rfl ?_ | fail
          exact ⟨h1, ⟨rfl, rfl, rfl, rfl, trivial⟩, by simp [belowS, AV.low], rfl, rfl, trivial⟩
        · have d1 : decide ((k : Int) < (v.mv.length : Int)) = false := by rw [v.mv_len]; simp; omega
          obtain rfl : k = v.m.length := by omega
          rw [List.take_length]
          repeat' first | refine .seq ?_ | refine .rg ?_ | refine .rd ?_ | refine .block ?_ | refine .scope ?_ | refine .skip ?_ | refine .label ?_ | refine .exit ?_ | refine .ret ?_ | refine .ct ?_ | refine .cf ?_ | refine .cy ?_ | refine .cn ?_ | (refine .cond rfl ?_ ?_ <;> intro hc) | refine A.nil_seq ?_ | refine .nl ?_ | refine .dd ?_ | refine .ys ?_ | refine .no ?_ | (refine A.guard rfl ?_ ?_ <;> intro hc) | refine .lb ?_ | refine .ln ?_ | refine .ls ?_ | refine .pv ?_ | refine .ix ?_ | refine .pt ?_ | refine .pf ?_ | refine .bx ?_ | refine .al ?_ | refine .st ?_ | refine .ad ?_ | refine .sb ?_ | refine .mf ?_ | refine .cl ?_ | refine .cw ?_ | refine .ck ?_ | fail
          exact ⟨rfl, rfl⟩
      · have q7 : (v.kind == 7) = false := by simp [k7]
        rw [if_neg k7]
        repeat' first | refine .br ?_ | refine .seq ?_ | refine .rg ?_ | refine .rd ?_ | refine .block ?_ | refine .scope ?_ | refine .skip ?_ | refine .label ?_ | refine .exit ?_ | refine .ret ?_ | refine .ct ?_ | refine .cf ?_ | refine .cy ?_ | refine .cn ?_ | (refine .cond rfl ?_ ?_ <;> intro hc) | refine A.nil_seq ?_ | refine .nl ?_ | refine .dd ?_ | refine .ys ?_ | refine .no ?_ | (refine A.guard rfl ?_ ?_ <;> intro hc) | refine .lb ?_ | refine .ln ?_ | refine .ls ?_ | refine .pv ?_ | refine .ix ?_ | refine .pt ?_ | refine .pf ?_ | refine .bx ?_ | refine .al ?_ | refine .st ?_ | refine .ad ?_ | refine .sb ?_ | refine .mf ?_ | refine .cl ?_ | refine .cw ?_ | refine .ck ?_ | fail
        exact ⟨rfl, rfl⟩
theorem vVarsC : ∀ N : Nat, N ≤ 68719476736 → ∀ v : Val, v.size ≤ N → ∀ xs : List Str, xs.length + v.size ≤ 137438953472 → VarsC v xs
  | 0, _, v, hv => absurd hv (by have := v.size_pos; omega)
  | N + 1, hN, v, hv => fun xs hxs => by
    have ih := vVarsC N (by omega)
    have hb := varsBody v (by omega) (fun x hx ys hy => ih x (by
      obtain ⟨k, hk, rfl⟩ := List.getElem_of_mem hx
      have := Val.size_l hk; omega) ys hy) (fun x hx ys hy => ih x.v (by
      obtain ⟨k, hk, rfl⟩ := List.getElem_of_mem hx
      have := Val.size_m hk; omega) ys hy) xs hxs
    exact AFn.enter [4] Tryz.func72 rfl rfl rfl rfl rfl (by decide) hb
theorem vVars (v : Val) (hv : v.size ≤ 68719476736) : PFn Tryz.prog 37 [v.enc] (.slice ((varsV v []).map AV.str) .no) := by
  have hn : PFn Tryz.prog 72 [.slice [] .nil, v.enc] (.slice ((varsV v []).map AV.str) .no) := by
    have hb := varsBody v hv (fun x hx ys hy => vVarsC 68719476736 (Nat.le_refl _) x (by
      obtain ⟨k, hk, rfl⟩ := List.getElem_of_mem hx
      have := Val.size_l hk; omega) ys hy) (fun x hx ys hy => vVarsC 68719476736 (Nat.le_refl _) x.v (by
      obtain ⟨k, hk, rfl⟩ := List.getElem_of_mem hx
      have := Val.size_m hk; omega) ys hy) [] (by simp only [List.length_nil]; omega)
    refine AFn.plain (by simp [AV.closed, str_closedL]) (by simp [AV.closed, AV.closedL, Val.closed]) (AFn.enter [4] Tryz.func72 rfl rfl rfl rfl rfl (by decide) ?_)
    refine HCode.adopt 0 false 1 rfl rfl rfl rfl rfl rfl ?_
    refine HCode.weaken (s := [(0, .slice [] (.own 0 1)), (1, v.enc)]) (hb.mono fun e s σ h => ?_) ⟨rfl, rfl, trivial⟩
    cases e with
    | normal => exact ⟨_, h.1, Weak.no (WeakL.refl _)⟩
    | ret => exact ⟨_, h.1, Weak.no (WeakL.refl _)⟩
    | pan x => exact absurd h.1 (by simp)
    | exit id => exact h
    | goto l => exact h
  refine AFn.plain (by simp [AV.closed, str_closedL]) (by simp [AV.closed, AV.closedL, Val.closed]) (AFn.enter [2] Tryz.func37 rfl rfl rfl rfl rfl (by decide) ?_)
  repeat' first | refine .br ?_ | refine .seq ?_ | refine .rg ?_ | refine .rd ?_ | refine .block ?_ | refine .scope ?_ | refine .skip ?_ | refine .label ?_ | refine .exit ?_ | refine .ret ?_ | refine .ct ?_ | refine .cf ?_ | refine .cy ?_ | refine .cn ?_ | (refine .cond rfl ?_ ?_ <;> intro hc) | refine A.nil_seq ?_ | refine .nl ?_ | refine .dd ?_ | refine .ys ?_ | refine .no ?_ | (refine A.guard rfl ?_ ?_ <;> intro hc) | refine .lb ?_ | refine .ln ?_ | refine .ls ?_ | refine .pv ?_ | refine .ix ?_ | refine .pt ?_ | refine .pf ?_ | refine .bx ?_ | refine .al ?_ | refine .st ?_ | refine .ad ?_ | refine .sb ?_ | refine .mf ?_ | refine .cl ?_ | refine .cw ?_ | refine .ck ?_ | fail
  exact Fin.ret1 rfl (Weak.refl _)
end Go.Proofs.YtegakkonlhmeaaaGreatDoor
namespace Go.Proofs.YtegakkonlhmeaaaGreatDoor
open Go Go.Av
mutual
def depV : Val → Nat
  | .mk k _ _ l m => if k = 6 then depL l + 1 else if k = 7 then depM m + 1 else 0
def depL : List Val → Nat
  | [] => 0
  | v :: l => max (depV v) (depL l)
def depM : List Mem → Nat
  | [] => 0
  | .mk _ v :: m => max (depV v) (depM m)
end
theorem depV_eq (v : Val) : depV v = if v.kind = 6 then depL v.l + 1 else if v.kind = 7 then depM v.m + 1 else 0 := by cases v; rw [depV]; rfl
mutual
theorem depV_le : ∀ v : Val, depV v < v.size
  | .mk k n s l m => by
    have h1 := depL_le l
    have h2 := depM_le m
    rw [depV, Val.size]
    split
    · omega
    · split <;> omega
theorem depL_le : ∀ l : List Val, depL l ≤ Val.sizeL l
  | [] => by rw [depL]; omega
  | v :: l => by
    have h1 := depV_le v
    have h2 := depL_le l
    rw [depL, Val.sizeL]; omega
theorem depM_le : ∀ m : List Mem, depM m ≤ Val.sizeM m
  | [] => by rw [depM]; omega
  | .mk n v :: m => by
    have h1 := depV_le v
    have h2 := depM_le m
    rw [depM, Val.sizeM]; omega
end
theorem depL_app : ∀ a b : List Val, depL (a ++ b) = max (depL a) (depL b)
  | [], b => by rw [List.nil_append, depL]; omega
  | v :: a, b => by rw [List.cons_append, depL, depL, depL_app a b]; omega
theorem depM_app : ∀ a b : List Mem, depM (a ++ b) = max (depM a) (depM b)
  | [], b => by rw [List.nil_append, depM]; omega
  | .mk n v :: a, b => by rw [List.cons_append, depM, depM, depM_app a b]; omega
theorem depL_take {l : List Val} {k : Nat} (h : k < l.length) : depL (l.take (k + 1)) = max (depL (l.take k)) (depV l[k]) := by
  rw [List.take_succ_eq_append_getElem h, depL_app, depL, depL]; omega
theorem depM_take {l : List Mem} {k : Nat} (h : k < l.length) : depM (l.take (k + 1)) = max (depM (l.take k)) (depV l[k].v) := by
  rw [List.take_succ_eq_append_getElem h, depM_app]
  congr 1
  cases hx : l[k]; rw [depM, depM]
  exact Nat.max_zero _
def plainV (v : Val) : Bool := allV nameB v && decide (depV v ≤ 16)
def valFix (v : Val) : Bool := plainV v && decide (varsV v [] = [])
def dfltOk (p : Par) : Bool := if p.has = true then valFix p.d else sameV p.d val0
def parOk (p : Par) : Bool := nameB p.name && (rightT p.t && dfltOk p)
def argsOk (m : List Mem) : Bool := m.all fun x => nameB x.name && valFix x.v
def dirOk (d : Dirc) : Bool := nameB d.name && argsOk d.args
def fldOk (f : Fld) : Bool := nameB f.name && (f.params.all parOk && (rightT f.t && f.dirs.all dirOk))
def sTrue : Str := [116, 114, 117, 101]
def sFalse : Str := [102, 97, 108, 115, 101]
def sNull : Str := [110, 117, 108, 108]
def partOk (s : Str) : Bool := (s != sTrue && (s != sFalse && s != sNull)) && nameB s
def dfnOk (d : Dfn) : Bool :=
  if d.kind = 1 ∨ d.kind = 2 then (decide (d.fields ≠ []) && decide (d.parts = [] ∧ d.params = [])) && (nameB d.name && (d.faces.all nameB && d.fields.all fldOk))
  else if d.kind = 3 then (decide (d.parts ≠ []) && decide (d.faces = [] ∧ d.fields = [] ∧ d.params = [])) && (nameB d.name && d.parts.all nameB)
  else if d.kind = 4 then (decide (d.parts ≠ []) && decide (d.faces = [] ∧ d.fields = [] ∧ d.params = [])) && (nameB d.name && d.parts.all partOk)
  else if d.kind = 5 then (decide (d.params ≠ []) && decide (d.faces = [] ∧ d.fields = [] ∧ d.parts = [])) && (nameB d.name && d.params.all parOk)
  else false
def sdlOk (s : Sch) : Bool := nameB s.query && ((s.mutation == [] || nameB s.mutation) && s.defs.all dfnOk)
def own2 (n : Str) : Bool := n.take 2 == [95, 95]
def onceB (l : List Str) : Bool := decide l.Nodup
def foreignB (l : List Str) : Bool := !l.any own2
def goodNames (l : List Str) : Bool := onceB l && foreignB l
def everyB (s : Sch) (f : Dfn → Bool) : Bool := !s.defs.any fun d => !f d
def dNames (s : Sch) : List Str := s.defs.map Dfn.name
def namedB (s : Sch) : Bool := sdlOk s && (onceB (dNames s) && (foreignB (dNames s) && !(dNames s).any fun n => kindB s n [0]))
def rootsB (s : Sch) : Bool := kindB s s.query [1] && (s.mutation == [] || (s.mutation != s.query && kindB s s.mutation [1]))
def sole1 (d : Dfn) : Bool := goodNames (d.fields.map Fld.name) && (goodNames (d.params.map Par.name) && (onceB d.parts && (onceB d.faces && !d.fields.any fun f => !goodNames (f.params.map Par.name))))
def soleB (s : Sch) : Bool := everyB s sole1
def entriesB (s : Sch) (l : List Par) : Bool := !l.any fun p => !entryB s p.t.name
def typed1 (s : Sch) (d : Dfn) : Bool := entriesB s d.params && !d.fields.any fun f => ((!leafB s f.t.name && !compB s f.t.name) || !entriesB s f.params)
def typedB (s : Sch) : Bool := everyB s (typed1 s)
def face2 (s : Sch) (d : Dfn) (n : Str) : Bool := !(findR s n).2 || ((findR s n).1.kind != 2 || (n == d.name || (findR s n).1.faces.any fun m => !decide (m ∈ d.faces)))
def faces1 (s : Sch) (d : Dfn) : Bool := !d.faces.any (face2 s d)
def facesB (s : Sch) : Bool := everyB s (faces1 s)
def possF (l : List Str) (d : Dfn) (name : Str) : List Str := if d.kind = 1 ∧ name ∈ d.faces then addNew l d.name else l
def possU (s : Sch) (l : List Str) (p : Str) : List Str := if kindB s p [1] = true then addNew l p else l
def possB (s : Sch) (name : Str) : List Str :=
  match findO s name with
  | none => []
  | some d => if d.kind = 1 then [name] else if d.kind = 2 then s.defs.foldl (fun l x => possF l x name) [] else if d.kind = 3 then d.parts.foldl (possU s) [] else []
def andNotI (m n : Int) : Int := IntKind.i64.wrap (((BitVec.ofInt IntKind.i64.bits m) &&& ~~~(BitVec.ofInt IntKind.i64.bits n)).toNat : Int)
def subT (a b : Typ) : Bool := rightT a && (rightT b && (a.name == b.name && (a.lists == b.lists && andNotI b.musts a.musts == 0)))
def subB (s : Sch) (a b : Typ) : Bool :=
  (rightT a && subT ⟨b.name, a.lists, a.musts⟩ b) && (a.name == b.name || ((findR s a.name).2 &&
    (((findR s a.name).1.kind == 1 && decide (a.name ∈ possB s b.name)) || ((findR s a.name).1.kind == 2 && (kindB s b.name [2] && decide (b.name ∈ (findR s a.name).1.faces))))))
def fldO (l : List Fld) (name : Str) : Option Fld := l.find? (fun f => f.name == name)
def takesB (f g : Fld) : Bool :=
  (g.params.all fun p => match parO f.params p.name with | none => false | some q => decide (q.t = p.t)) && (f.params.all fun q => !((parO g.params q.name).isNone && reqB q))
def hasB (s : Sch) (d : Dfn) (face : Str) : Bool := (findR s face).1.fields.all fun g => match fldO d.fields g.name with | none => false | some f => subB s f.t g.t && takesB f g
def kept1 (s : Sch) (d : Dfn) : Bool := !d.faces.any fun n => !hasB s d n
def keptB (s : Sch) : Bool := everyB s (kept1 s)
def parts1 (s : Sch) (d : Dfn) : Bool := d.kind != 3 || !d.parts.any fun n => !kindB s n [1]
def partsB (s : Sch) : Bool := everyB s (parts1 s)
def needP (s : Sch) (p : Par) : Bool := decide (p.t.lists = 0) && (isT p.t && kindB s p.t.name [5])
def needAdd (s : Sch) (l : List Str) (p : Par) : List Str := if needP s p = true then addNew l p.t.name else l
def needsP (s : Sch) (name : Str) : List Str := (findR s name).1.params.foldl (needAdd s) []
def closeF (next : Str → List Str) : Nat → Nat → List Str → List Str
  | 0, _, l => l
  | n + 1, i, l => match l[i]? with
    | none => l
    | some x => closeF next n (i + 1) ((next x).foldl addNew l)
def allTs (s : Sch) : List Str := s.defs.flatMap fun d => d.params.map fun p => p.t.name
def ringsB (s : Sch) (name : Str) : Bool := decide (name ∈ closeF (needsP s) (allTs s).length 0 (needsP s name))
def open1 (s : Sch) (d : Dfn) : Bool := d.kind != 5 || !ringsB s d.name
def openB (s : Sch) : Bool := everyB s (open1 s)
def rightB (s : Sch) (l : List Par) : Bool := !l.any fun p => p.has && !litR s p.t p.d
def dflts1 (s : Sch) (d : Dfn) : Bool := rightB s d.params && (!(d.params.any fun p => p.has && !leafB s p.t.name) && !d.fields.any fun f => !rightB s f.params)
def dfltsB (s : Sch) : Bool := everyB s (dflts1 s)
def ruleB (s : Sch) (n : Int) : Bool :=
  if n = 1 then namedB s else if n = 2 then rootsB s else if n = 3 then soleB s else if n = 4 then typedB s else if n = 5 then facesB s else if n = 6 then keptB s else if n = 7 then partsB s else if n = 8 then openB s else if n = 9 then dfltsB s else false
def checkF (s : Sch) : Nat → Int → Int
  | 0, _ => 0
  | k + 1, n => if ruleB s n = true then checkF s k (n + 1) else n
def checkI (s : Sch) : Int := checkF s 9 1
theorem every_iff {s : Sch} {f : Dfn → Bool} : everyB s f = true ↔ ∀ d ∈ s.defs, f d = true := by
  unfold everyB
  simp only [Bool.not_eq_true', List.any_eq_false, Bool.not_eq_true, Bool.not_eq_false', Bool.not_eq_false]
inductive Reach (next : Str → List Str) (l0 : List Str) : Str → Prop where
  | base {x : Str} : x ∈ l0 → Reach next l0 x
  | step {x y : Str} : Reach next l0 x → y ∈ next x → Reach next l0 y
def cntU (U l : List Str) : Nat := U.countP fun u => !decide (u ∈ l)
theorem mem_addNew {l : List Str} {x y : Str} : y ∈ addNew l x ↔ y ∈ l ∨ y = x := by
  unfold addNew
  split
  · constructor
    · exact .inl
    · rintro (h | rfl) <;> assumption
  · simp
theorem addNew_pre (l : List Str) (x : Str) : ∃ r, addNew l x = l ++ r := by
  unfold addNew
  split
  · exact ⟨[], by simp⟩
  · exact ⟨[x], rfl⟩
theorem addAll_pre (xs l : List Str) : ∃ r, xs.foldl addNew l = l ++ r := by
  induction xs generalizing l with
  | nil => exact ⟨[], by simp⟩
  | cons x xs ih =>
    obtain ⟨r1, h1⟩ := addNew_pre l x
    obtain ⟨r2, h2⟩ := ih (addNew l x)
    exact ⟨r1 ++ r2, by rw [List.foldl_cons, h2, h1, List.append_assoc]⟩
theorem cnt_new {U l : List Str} {x : Str} (hx : x ∈ U) (hn : x ∉ l) : cntU U (l ++ [x]) + 1 ≤ cntU U l := by
  unfold cntU
  induction U with
  | nil => simp at hx
  | cons u U ih =>
    have mono : ∀ V : List Str, V.countP (fun u => !decide (u ∈ l ++ [x])) ≤ V.countP (fun u => !decide (u ∈ l)) := fun V => by
      apply List.countP_mono_left
      intro v _ h
      simp at h ⊢
      exact h.1
    rw [List.countP_cons, List.countP_cons]
    by_cases e : u = x
    · subst e
      have := mono U
      simp [hn]; simpa using this
    · have hU : x ∈ U := by
        rcases List.mem_cons.1 hx with h | h
        · exact absurd h.symm e
        · exact h
      have := ih hU
      have e2 : (!decide (u ∈ l ++ [x])) = (!decide (u ∈ l)) := by simp [e]
      rw [e2]; omega
theorem cnt_addNew {U l : List Str} {x : Str} (hx : x ∈ U) : cntU U (addNew l x) + (addNew l x).length ≤ cntU U l + l.length := by
  unfold addNew
  split
  · exact Nat.le_refl _
  · rename_i h
    have := cnt_new hx h
    rw [List.length_append, List.length_singleton]; omega
theorem cnt_addAll {U xs l : List Str} (h : ∀ x ∈ xs, x ∈ U) : cntU U (xs.foldl addNew l) + (xs.foldl addNew l).length ≤ cntU U l + l.length := by
  induction xs generalizing l with
  | nil => exact Nat.le_refl _
  | cons x xs ih =>
    rw [List.foldl_cons]
    exact Nat.le_trans (ih fun y hy => h y (List.mem_cons_of_mem _ hy)) (cnt_addNew (h x (List.mem_cons_self ..)))
theorem cnt_le (U l : List Str) : cntU U l ≤ U.length := List.countP_le_length ..
theorem closeF_sub (next : Str → List Str) : ∀ (n i : Nat) (l : List Str), ∃ r, closeF next n i l = l ++ r
  | 0, _, l => ⟨[], by rw [closeF]; simp⟩
  | n + 1, i, l => by
    rw [closeF]
    split
    · exact ⟨[], by simp⟩
    · rename_i x _
      obtain ⟨r1, h1⟩ := addAll_pre (next x) l
      obtain ⟨r2, h2⟩ := closeF_sub next n (i + 1) ((next x).foldl addNew l)
      exact ⟨r1 ++ r2, by rw [h2, h1, List.append_assoc]⟩
theorem Reach.mono {n1 n2 : Str → List Str} {l1 l2 : List Str} (hl : ∀ x ∈ l1, x ∈ l2) (hn : ∀ x, ∀ y ∈ n1 x, y ∈ n2 x) {x : Str} (h : Reach n1 l1 x) : Reach n2 l2 x := by
  induction h with
  | base h => exact .base (hl _ h)
  | step _ hy ih => exact .step ih (hn _ _ hy)
theorem needFold {s : Sch} {ps : List Par} {l : List Str} {y : Str} : y ∈ ps.foldl (needAdd s) l ↔ y ∈ l ∨ ∃ p ∈ ps, needP s p = true ∧ p.t.name = y := by
  induction ps generalizing l with
  | nil => simp
  | cons p ps ih =>
    rw [List.foldl_cons, ih]
    unfold needAdd
    split
    · rename_i h
      rw [mem_addNew]
      constructor
      · rintro ((h1 | h1) | ⟨q, hq, h2⟩)
        · exact .inl h1
        · exact .inr ⟨p, List.mem_cons_self .., h, h1.symm⟩
        · exact .inr ⟨q, List.mem_cons_of_mem _ hq, h2⟩
      · rintro (h1 | ⟨q, hq, h2, h3⟩)
        · exact .inl (.inl h1)
        · rcases List.mem_cons.1 hq with rfl | hq
          · exact .inl (.inr h3.symm)
          · exact .inr ⟨q, hq, h2, h3⟩
    · rename_i h
      constructor
      · rintro (h1 | ⟨q, hq, h2⟩)
        · exact .inl h1
        · exact .inr ⟨q, List.mem_cons_of_mem _ hq, h2⟩
      · rintro (h1 | ⟨q, hq, h2, h3⟩)
        · exact .inl h1
        · rcases List.mem_cons.1 hq with rfl | hq
          · exact absurd h2 h
          · exact .inr ⟨q, hq, h2, h3⟩
theorem mem_needsP {s : Sch} {name y : Str} : y ∈ needsP s name ↔ ∃ p ∈ (findR s name).1.params, needP s p = true ∧ p.t.name = y := by
  unfold needsP; rw [needFold]; simp
theorem findR_params {s : Sch} {name : Str} {p : Par} (h : p ∈ (findR s name).1.params) : (findR s name).1 ∈ s.defs := by
  rcases findR_in s name with h1 | h1 | h1
  · exact h1
  · rw [h1] at h; simp at h
  · rw [h1] at h; simp [zeroD] at h
theorem params_all {s : Sch} {name : Str} {p : Par} (h : p ∈ (findR s name).1.params) : p.t.name ∈ allTs s :=
  List.mem_flatMap.2 ⟨_, findR_params h, List.mem_map.2 ⟨p, h, rfl⟩⟩
theorem needsP_all {s : Sch} (x : Str) : ∀ y ∈ needsP s x, y ∈ allTs s := fun y hy => by
  obtain ⟨p, hp, _, rfl⟩ := mem_needsP.1 hy
  exact params_all hp
theorem needFold_cnt {s : Sch} {U : List Str} {ps : List Par} {l : List Str} (h : ∀ p ∈ ps, p.t.name ∈ U) : cntU U (ps.foldl (needAdd s) l) + (ps.foldl (needAdd s) l).length ≤ cntU U l + l.length := by
  induction ps generalizing l with
  | nil => exact Nat.le_refl _
  | cons p ps ih =>
    rw [List.foldl_cons]
    refine Nat.le_trans (ih fun q hq => h q (List.mem_cons_of_mem _ hq)) ?_
    unfold needAdd
    split
    · exact cnt_addNew (h p (List.mem_cons_self ..))
    · exact Nat.le_refl _
theorem needsP_cnt (s : Sch) (name : Str) : cntU (allTs s) (needsP s name) + (needsP s name).length ≤ (allTs s).length := by
  refine Nat.le_trans (needFold_cnt fun p hp => params_all hp) ?_
  have := cnt_le (allTs s) []
  simpa using this
theorem named_iff {s : Sch} : namedB s = true ↔ sdlOk s = true ∧ (dNames s).Nodup ∧ (∀ n ∈ dNames s, own2 n = false) ∧ ∀ n ∈ dNames s, kindB s n [0] = false := by
  unfold namedB onceB foreignB
  simp only [Bool.and_eq_true, decide_eq_true_eq, Bool.not_eq_true', List.any_eq_false, Bool.not_eq_true]
theorem sdl_dfn {s : Sch} (h : sdlOk s = true) {d : Dfn} (hd : d ∈ s.defs) : dfnOk d = true := by
  unfold sdlOk at h
  simp only [Bool.and_eq_true, List.all_eq_true] at h
  exact h.2.2 d hd
theorem dfnOk_params {d : Dfn} (h : dfnOk d = true) : (d.params = [] ∨ d.kind = 5) ∧ d.params.all parOk = true := by
  unfold dfnOk at h
  split at h
  · simp only [Bool.and_eq_true, decide_eq_true_eq] at h
    rw [h.1.2.2]; simp
  · split at h
    · simp only [Bool.and_eq_true, decide_eq_true_eq] at h
      rw [h.1.2.2.2]; simp
    · split at h
      · simp only [Bool.and_eq_true, decide_eq_true_eq] at h
        rw [h.1.2.2.2]; simp
      · split at h
        · rename_i k5
          simp only [Bool.and_eq_true] at h
          exact ⟨.inr k5, h.2.2⟩
        · cases h
theorem single_fields {s : Sch} (h : soleB s = true) {d : Dfn} (hd : d ∈ s.defs) : goodNames (d.fields.map Fld.name) = true ∧ goodNames (d.params.map Par.name) = true ∧ onceB d.parts = true ∧ onceB d.faces = true ∧ ∀ f ∈ d.fields, goodNames (f.params.map Par.name) = true := by
  have h0 : sole1 d = true := every_iff.1 h d hd
  unfold sole1 at h0
  simp only [Bool.and_eq_true, Bool.not_eq_true', List.any_eq_false, Bool.not_eq_true, Bool.not_eq_false', Bool.not_eq_false] at h0
  obtain ⟨h1, h2, h3, h4, h5⟩ := h0
  exact ⟨h1, h2, h3, h4, h5⟩
theorem good_own {l : List Str} (h : goodNames l = true) : l.Nodup ∧ ∀ x ∈ l, own2 x = false := by
  unfold goodNames onceB foreignB at h
  simp only [Bool.and_eq_true, decide_eq_true_eq, Bool.not_eq_true', List.any_eq_false, Bool.not_eq_true] at h
  exact h
theorem check_zero {s : Sch} : checkI s = 0 ↔ namedB s = true ∧ rootsB s = true ∧ soleB s = true ∧ typedB s = true ∧ facesB s = true ∧ keptB s = true ∧ partsB s = true ∧ openB s = true ∧ dfltsB s = true := by
  have f1 : ruleB s 1 = namedB s := rfl
  have f2 : ruleB s 2 = rootsB s := rfl
  have f3 : ruleB s 3 = soleB s := rfl
  have f4 : ruleB s 4 = typedB s := rfl
  have f5 : ruleB s 5 = facesB s := rfl
  have f6 : ruleB s 6 = keptB s := rfl
  have f7 : ruleB s 7 = partsB s := rfl
  have f8 : ruleB s 8 = openB s := rfl
  have f9 : ruleB s 9 = dfltsB s := rfl
  unfold checkI
  simp only [checkF, Int.reduceAdd, f1, f2, f3, f4, f5, f6, f7, f8, f9]
  cases namedB s <;> simp
  cases rootsB s <;> simp
  cases soleB s <;> simp
  cases typedB s <;> simp
  cases facesB s <;> simp
  cases keptB s <;> simp
  cases partsB s <;> simp
  cases openB s <;> simp
section
variable {s s' : Sch} (hf : ∀ n, findO s' n = findO s n)
include hf
end
theorem find_named {s : Sch} {n : Str} {d : Dfn} (h : findO s n = some d) (hk : d.kind ≠ 0) : d ∈ s.defs ∧ d.name = n := by
  unfold findO at h
  split at h
  · cases h; exact absurd rfl hk
  · exact ⟨List.mem_of_find?_eq_some h, by simpa using List.find?_some h⟩
end Go.Proofs.YtegakkonlhmeaaaGreatDoor
namespace Go.Proofs.YtegakkonlhmeaaaGreatDoor
open Go Go.Av
mutual
def novarV : Val → Bool
  | .mk k _ _ l m => if k = 8 then false else if k = 6 then novarL l else if k = 7 then novarM m else true
def novarL : List Val → Bool
  | [] => true
  | v :: l => novarV v && novarL l
def novarM : List Mem → Bool
  | [] => true
  | .mk _ v :: m => novarV v && novarM m
end
theorem addNew_nil {l : List Str} {x : Str} : addNew l x ≠ [] := by
  unfold addNew
  split
  · rename_i h; exact List.ne_nil_of_mem h
  · simp
mutual
theorem novar_vars : ∀ (v : Val) (acc : List Str), varsV v acc = [] ↔ acc = [] ∧ novarV v = true
  | .mk k n str l m, acc => by
    rw [varsV, novarV]
    by_cases h8 : k = 8
    · rw [if_pos h8, if_pos h8]
      exact ⟨fun h => absurd h addNew_nil, fun h => by cases h.2⟩
    · rw [if_neg h8, if_neg h8]
      by_cases h6 : k = 6
      · rw [if_pos h6, if_pos h6]; exact novar_varsL l acc
      · rw [if_neg h6, if_neg h6]
        by_cases h7 : k = 7
        · rw [if_pos h7, if_pos h7]; exact novar_varsM m acc
        · rw [if_neg h7, if_neg h7]; simp
theorem novar_varsL : ∀ (l : List Val) (acc : List Str), varsL l acc = [] ↔ acc = [] ∧ novarL l = true
  | [], acc => by rw [varsL, novarL]; simp
  | v :: l, acc => by rw [varsL, novarL, novar_varsL l, novar_vars v, Bool.and_eq_true, and_assoc]
theorem novar_varsM : ∀ (m : List Mem) (acc : List Str), varsM m acc = [] ↔ acc = [] ∧ novarM m = true
  | [], acc => by rw [varsM, novarM]; simp
  | .mk nm v :: m, acc => by rw [varsM, novarM, novar_varsM m, novar_vars v, Bool.and_eq_true, and_assoc]
end
def mfOf (s : Sch) (wr : Bool) (env : List Mem) (dfl : Par → VE) (x : Mem) : MF := (x.name, x.v, fun t => if rightT t = true ∧ allV good x.v = true then mkV s wr env dfl x.v t else (val0, 1))
theorem mkM_map (s : Sch) (wr : Bool) (env : List Mem) (dfl : Par → VE) : ∀ m : List Mem, mkM s wr env dfl m = m.map (mfOf s wr env dfl)
  | [] => by rw [mkM]; rfl
  | .mk nm v :: m => by rw [mkM, mkM_map s wr env dfl m]; rfl
theorem firstF_map (s : Sch) (wr : Bool) (env : List Mem) (dfl : Par → VE) (name : Str) : ∀ m : List Mem, firstF (m.map (mfOf s wr env dfl)) name = (m.find? fun x => x.name == name).map (mfOf s wr env dfl)
  | [] => rfl
  | x :: m => by
    have ih := firstF_map s wr env dfl name m
    unfold firstF at ih ⊢
    rw [List.map_cons, List.find?_cons, List.find?_cons]
    have : ((mfOf s wr env dfl x).1 == name) = (x.name == name) := rfl
    rw [this]
    cases x.name == name
    · exact ih
    · rfl
theorem memsMk_zero {s : Sch} {wr within : Bool} {env : List Mem} {dfl : Par → VE} {fs : List MF} : ∀ {ps : List Par}, (memsMk s wr within env dfl fs ps).2 = 0 ↔ ∀ p ∈ ps, (memMk s wr within env dfl fs p).2.2 = 0
  | [] => by simp [memsMk]
  | p :: ps => by
    have ih := memsMk_zero (s := s) (wr := wr) (within := within) (env := env) (dfl := dfl) (fs := fs) (ps := ps)
    unfold memsMk
    dsimp only
    rw [List.forall_mem_cons, ← ih]
    by_cases h1 : (memMk s wr within env dfl fs p).2.2 = 0
    · rw [if_neg (by simpa using h1)]
      by_cases h2 : (memsMk s wr within env dfl fs ps).2 = 0
      · rw [if_neg (by simpa using h2)]; simp [h1, h2]
      · rw [if_pos h2]; simp [h1, h2]
    · rw [if_pos h1]; simp [h1]
theorem parO_nodup {ps : List Par} {p : Par} (hn : (ps.map Par.name).Nodup) (hp : p ∈ ps) : parO ps p.name = some p := by
  unfold parO
  induction ps with
  | nil => simp at hp
  | cons y m ih =>
    rw [List.map_cons, List.nodup_cons] at hn
    rw [List.find?_cons]
    rcases List.mem_cons.1 hp with rfl | hp
    · simp
    · have : (y.name == p.name) = false := by
        rw [beq_eq_false_iff_ne]
        intro e
        exact hn.1 (List.mem_map.2 ⟨p, hp, e.symm⟩)
      rw [this]
      exact ih hn.2 hp
theorem sound_params {s : Sch} (h : checkI s = 0) {d : Dfn} (hd : d ∈ s.defs) : (d.params.map Par.name).Nodup ∧ ∀ p ∈ d.params, nameB p.name = true ∧ rightT p.t = true ∧ entryB s p.t.name = true ∧
    (p.has = true → leafB s p.t.name = true ∧ litR s p.t p.d = true ∧ novarV p.d = true) := by
  obtain ⟨h1, _, h3, h4, _, _, _, _, h9⟩ := check_zero.1 h
  refine ⟨(good_own (single_fields h3 hd).2.1).1, fun p hp => ?_⟩
  have t := every_iff.1 h4 d hd
  have u := every_iff.1 h9 d hd
  unfold typed1 entriesB at t
  unfold dflts1 rightB at u
  simp only [Bool.and_eq_true, Bool.not_eq_true', List.any_eq_false, Bool.or_eq_true, Bool.not_eq_true, not_or, Bool.not_eq_false', not_and] at t u
  have hpk := List.all_eq_true.1 (dfnOk_params (sdl_dfn (named_iff.1 h1).1 hd)).2 p hp
  unfold parOk at hpk
  simp only [Bool.and_eq_true] at hpk
  obtain ⟨a1, a2, a3⟩ := hpk
  refine ⟨a1, a2, by have := t.1 p hp; simpa using this, fun hh => ⟨by have := u.2.1 p hp; simpa [hh] using this, by have := u.1 p hp; simpa [hh] using this, ?_⟩⟩
  unfold dfltOk valFix at a3
  rw [if_pos hh, Bool.and_eq_true, decide_eq_true_eq] at a3
  exact ((novar_vars p.d []).1 a3.2).2
theorem wrapR_zero {n : Nat} {r : VE} : (wrapR n r).2 = 0 ↔ r.2 = 0 := by
  unfold wrapR
  by_cases c : r.2 = 0
  · rw [if_pos c]; simp [c]
  · rw [if_neg c]
section
variable (s : Sch) (dfl : Par → VE) (h : checkI s = 0)
include h
end
end Go.Proofs.YtegakkonlhmeaaaGreatDoor
