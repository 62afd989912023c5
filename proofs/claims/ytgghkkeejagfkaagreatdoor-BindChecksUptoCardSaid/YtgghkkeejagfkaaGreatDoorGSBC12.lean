/-
  Contracts and plain facts for a law, joined.
-/
import Derived.Test.YtgghkkeejagfkaaGreatDoorGSBC1
import Derived.Test.YtgghkkeejagfkaaGreatDoorGSBC11
import Derived.Test.YtgghkkeejagfkaaGreatDoorGSBC3
import Derived.Test.YtgghkkeejagfkaaGreatDoorGSBC4
import Derived.Test.YtgghkkeejagfkaaGreatDoorGSBC7
import Derived.Test.YtgghkkeejagfkaaGreatDoorAvMap
import Derived.Test.YtgghkkeejagfkaaGreatDoorGSBC9
set_option maxRecDepth 100000
set_option maxHeartbeats 16000000
set_option linter.unusedVariables false
set_option linter.unusedSimpArgs false
set_option linter.unusedSectionVars false
namespace Go.Av
open Go
section
variable [Globals]
variable {P : Program} {all : Array Oper} {draw : Bool} {K : AX → Slots → St → Prop} {rest : List Oper} {acc : List Tag} {s : Slots} {σ : St} {d : Option Tmp} {ty : TypeId} {pos : String} {af : Array Edge}
theorem A.callG2 {f : FuncId} {args : Array Operand} {tys : Array TypeId} {x x' : AV} {xs ys : List AV} {z n n' : Nat} {T' : List Tok} (j : Nat) (ha : evsK s args.toList some = some [x, .slice xs (.own j z)])
    (hp : AFn P f [x', .slice xs (.own 0 z)] ⟨[], [.len n]⟩ (fun e σ1 => e = .ret (.slice ys (.own 0 z)) ∧ σ1 = ⟨[], [.len n']⟩)) (hj : σ.T[j]? = some (.len n)) (hx : AV.closedL xs = true) (hy : AV.closedL ys = true) (hc : x'.closed = true) (hw : Weak x x')
    (hT' : setTK j (.len n') σ.T some = some T') (k : AOps P all draw K rest (.all :: acc) (putS d (.slice ys (.own j z)) s) ⟨σ.B, T'⟩) : AOps P all draw K (⟨d, .call ⟨.value (.func f), args, tys⟩, ty, pos, af, none⟩ :: rest) acc s σ := by
  have hjl : j < σ.T.length := (List.getElem?_eq_some_iff.1 hj).1
  have hemb : emb σ.T.length [j] 0 = j := rfl
  have hcl : AV.closedL [x'] = true := by simp [AV.closedL, hc]
  refine A.callR (nB := σ.B.length) (nT := σ.T.length) (B0 := []) (T0 := [.len n]) (B1 := []) (T1 := [.len n']) (v0 := .slice ys (.own 0 z)) [] [j] ha hp rfl rfl ⟨List.nodup_nil, by simp⟩ ⟨by simp, by simpa using hjl⟩ rfl rfl (fun k i ob h => by simp at h) (fun k i t h ht => ?_) rfl rfl
    ?_ ?_ ?_ (B' := σ.B) (T' := T') ?_ ?_ k
  · cases k with
    | zero => simp at h ht; subst h; subst ht; exact hj
    | succ k => simp at h
  · have h1 := AV.lowL_of_closed 0 1 _ hcl
    simp only [AV.lowL, Bool.and_true] at h1
    simp only [AV.lowL, AV.low, AV.lowL_of_closed _ _ _ hx, List.length_nil, List.length_singleton, h1]; rfl
  · have h1 := AV.renL_closed (emb σ.B.length []) (emb σ.T.length [j]) _ hcl
    simp only [AV.renL] at h1
    have h2 : AV.ren (emb σ.B.length []) (emb σ.T.length [j]) x' = x' := by simpa using h1
    simp only [AV.renL, AV.ren, AV.renL_closed _ _ _ hx, h2]
    exact WeakL.cons hw (WeakL.refl _)
  · rw [AV.ren, AV.renL_closed _ _ _ hy]; rfl
  · rw [merge_nil]; simp
  · obtain ⟨_, hTe⟩ := setTK_spec _ _ _ _ _ hT'
    rw [← Option.some.inj hTe]
    simp [merge, upd, Tok.ren]
end
end Go.Av
namespace Go.Proofs.YtgghkkeejagfkaaGreatDoor
open Go Go.Av
attribute [local irreducible] HCode AOps PFn AFn Av.Step TStep
abbrev VarsC1 (v : Val) (xs : List Str) : Prop := AFn Tryz.prog 340 [v.enc, .slice (xs.map AV.str) (.own 0 1)] ⟨[], [.len xs.length]⟩ (fun e σ => e = .ret (.slice ((varsV v xs).map AV.str) (.own 0 1)) ∧ σ = ⟨[], [.len (varsV v xs).length]⟩)
theorem varsBody1 (v : Val) (hv : v.size ≤ 1048576) (ihL : ∀ x ∈ v.l, ∀ xs : List Str, xs.length + x.size ≤ 137438953472 → VarsC1 x xs) (ihM : ∀ x ∈ v.m, ∀ xs : List Str, xs.length + x.v.size ≤ 137438953472 → VarsC1 x.v xs) (xs : List Str) (hxs : xs.length + v.size ≤ 137438953472) :
    HCode Tryz.prog Tryz.f340.ntmps [] (bodyOf Tryz.f340) (fin [4] (fun e σ => e = .ret (.slice ((varsV v xs).map AV.str) (.own 0 1)) ∧ σ = ⟨[], [.len (varsV v xs).length]⟩))
      [(0, v.enc), (1, .slice (xs.map AV.str) (.own 0 1))] ⟨[], [.len xs.length]⟩ := by
  have hct := rHas xs v.s (by omega)
  have hwk : WeakL [.slice (xs.map AV.str) (.own 0 1), .str v.s] [.slice (xs.map AV.str) .no, .str v.s] := WeakL.cons (Weak.no (WeakL.refl _)) (WeakL.refl _)
  have hll := v.l_len
  have hml := v.m_len
  have hsp := v.size_parts
  rw [varsV_eq]
  by_cases k8 : v.kind = 8
  · have q8 : (v.kind == 8) = true := by simp [k8]
    have q6 : (v.kind == 6) = false := by simp [k8]
    have q7 : (v.kind == 7) = false := by simp [k8]
    rw [if_pos k8]
    unfold addNew
    by_cases c : v.s ∈ xs
    · rw [decide_eq_true c] at hct
      rw [if_pos c]
      repeat' first | refine .br ?_ | refine A.call rfl hct hwk ?_ | refine .s1 ?_ | (refine .cond rfl ?_ ?_ <;> intro hc) | (refine A.guard rfl ?_ ?_ <;> intro hc) | fail
      refine HCode.forK v.l.length (fun k => [(5, .int .i64 k), (1, .slice (xs.map AV.str) (.own 0 1)), (2, .rptr v.enc)]) (fun _ => ⟨[], [.len xs.length]⟩) (fun _ => True) ⟨rfl, rfl, rfl, trivial⟩ rfl trivial fun k hk _ => ?_
      by_cases h1 : k < v.l.length
      · have d1 : decide ((k : Int) < (v.lv.length : Int)) = true := by rw [v.lv_len]; simp [h1]
        refine .go ?_
        refine HCode.forK v.m.length (fun k => [(6, .int .i64 k), (1, .slice (xs.map AV.str) (.own 0 1)), (2, .rptr v.enc)]) (fun _ => ⟨[], [.len xs.length]⟩) (fun _ => True) ⟨rfl, rfl, rfl, trivial⟩ rfl trivial fun j hj _ => ?_
        by_cases h2 : j < v.m.length
        · have d2 : decide ((j : Int) < (v.mv.length : Int)) = true := by rw [v.mv_len]; simp [h2]
          refine .go ?_
          exact ⟨rfl, rfl⟩
        · have d2 : decide ((j : Int) < (v.mv.length : Int)) = false := by rw [v.mv_len]; simp; omega
          refine .go ?_
          exact ⟨rfl, rfl⟩
      · have d1 : decide ((k : Int) < (v.lv.length : Int)) = false := by rw [v.lv_len]; simp; omega
        refine .go ?_
        refine HCode.forK v.m.length (fun k => [(6, .int .i64 k), (1, .slice (xs.map AV.str) (.own 0 1)), (2, .rptr v.enc)]) (fun _ => ⟨[], [.len xs.length]⟩) (fun _ => True) ⟨rfl, rfl, rfl, trivial⟩ rfl trivial fun j hj _ => ?_
        by_cases h2 : j < v.m.length
        · have d2 : decide ((j : Int) < (v.mv.length : Int)) = true := by rw [v.mv_len]; simp [h2]
          refine .go ?_
          exact ⟨rfl, rfl⟩
        · have d2 : decide ((j : Int) < (v.mv.length : Int)) = false := by rw [v.mv_len]; simp; omega
          refine .go ?_
          exact ⟨rfl, rfl⟩
    · rw [decide_eq_false c] at hct
      rw [if_neg c]
      repeat' first | refine .br ?_ | refine A.call rfl hct hwk ?_ | refine .s1 ?_ | (refine .cond rfl ?_ ?_ <;> intro hc) | (refine A.guard rfl ?_ ?_ <;> intro hc) | refine A.append (n := xs.length) rfl rfl rfl rfl rfl rfl rfl rfl (List.length_map ..) rfl (by dsimp only [List.length_cons, List.length_nil]; omega) (by dsimp only [List.length_cons, List.length_nil]; omega) rfl ?_ | fail
      have e1 : xs.map AV.str ++ [.str v.s] = (xs ++ [v.s]).map AV.str := by rw [List.map_append]; rfl
      have e2 : xs.length + [AV.str v.s].length = (xs ++ [v.s]).length := by simp
      rw [e1, e2]
      refine HCode.forK v.l.length (fun k => [(5, .int .i64 k), (1, .slice ((xs ++ [v.s]).map AV.str) (.own 0 1)), (2, .rptr v.enc)]) (fun _ => ⟨[], [.len (xs ++ [v.s]).length]⟩) (fun _ => True) ⟨rfl, rfl, rfl, trivial⟩ rfl trivial fun k hk _ => ?_
      by_cases h1 : k < v.l.length
      · have d1 : decide ((k : Int) < (v.lv.length : Int)) = true := by rw [v.lv_len]; simp [h1]
        refine .go ?_
        refine HCode.forK v.m.length (fun k => [(6, .int .i64 k), (1, .slice ((xs ++ [v.s]).map AV.str) (.own 0 1)), (2, .rptr v.enc)]) (fun _ => ⟨[], [.len (xs ++ [v.s]).length]⟩) (fun _ => True) ⟨rfl, rfl, rfl, trivial⟩ rfl trivial fun j hj _ => ?_
        by_cases h2 : j < v.m.length
        · have d2 : decide ((j : Int) < (v.mv.length : Int)) = true := by rw [v.mv_len]; simp [h2]
          refine .go ?_
          exact ⟨rfl, rfl⟩
        · have d2 : decide ((j : Int) < (v.mv.length : Int)) = false := by rw [v.mv_len]; simp; omega
          refine .go ?_
          exact ⟨rfl, rfl⟩
      · have d1 : decide ((k : Int) < (v.lv.length : Int)) = false := by rw [v.lv_len]; simp; omega
        refine .go ?_
        refine HCode.forK v.m.length (fun k => [(6, .int .i64 k), (1, .slice ((xs ++ [v.s]).map AV.str) (.own 0 1)), (2, .rptr v.enc)]) (fun _ => ⟨[], [.len (xs ++ [v.s]).length]⟩) (fun _ => True) ⟨rfl, rfl, rfl, trivial⟩ rfl trivial fun j hj _ => ?_
        by_cases h2 : j < v.m.length
        · have d2 : decide ((j : Int) < (v.mv.length : Int)) = true := by rw [v.mv_len]; simp [h2]
          refine .go ?_
          exact ⟨rfl, rfl⟩
        · have d2 : decide ((j : Int) < (v.mv.length : Int)) = false := by rw [v.mv_len]; simp; omega
          refine .go ?_
          exact ⟨rfl, rfl⟩
  have q8 : (v.kind == 8) = false := by simp [k8]
  rw [if_neg k8]
  by_cases k6 : v.kind = 6
  · have q6 : (v.kind == 6) = true := by simp [k6]
    have q7 : (v.kind == 7) = false := by simp [k6]
    rw [if_pos k6]
    refine .gob ?_
    refine HCode.forK v.l.length (fun k => [(5, .int .i64 k), (1, .slice ((varsL (v.l.take k) xs).map AV.str) (.own 0 1)), (2, .rptr v.enc)]) (fun k => ⟨[], [.len (varsL (v.l.take k) xs).length]⟩) (fun _ => True) ⟨rfl, by rw [List.take_zero, varsL]; rfl, rfl, trivial⟩ (by rw [List.take_zero, varsL]) trivial fun k hk _ => ?_
    by_cases h1 : k < v.l.length
    · have d1 : decide ((k : Int) < (v.lv.length : Int)) = true := by rw [v.lv_len]; simp [h1]
      have x1 := Val.lv_get h1
      have hlen := varsL_len (v.l.take k) xs
      have hlt := sizeL_take v.l (k + 1)
      have hst := sizeL_succ h1
      have hcc := ihL v.l[k] (List.getElem_mem h1) (varsL (v.l.take k) xs) (by omega)
      rw [VarsC1, ← varsL_take h1] at hcc
      repeat' first | refine .s1 ?_ | (refine .cond rfl ?_ ?_ <;> intro hc) | (refine A.guard rfl ?_ ?_ <;> intro hc) | refine A.callG2 0 rfl hcc rfl (str_closedL _) (str_closedL _) (Val.closed _) (Weak.refl _) rfl ?_ | fail
      exact ⟨h1, ⟨rfl, rfl, rfl, trivial⟩, by simp [belowS, AV.low], rfl, rfl, trivial⟩
    · have d1 : decide ((k : Int) < (v.lv.length : Int)) = false := by rw [v.lv_len]; simp; omega
      obtain rfl : k = v.l.length := by omega
      rw [List.take_length]
      refine .go ?_
      refine HCode.forK v.m.length (fun k => [(6, .int .i64 k), (1, .slice ((varsL v.l xs).map AV.str) (.own 0 1)), (2, .rptr v.enc)]) (fun _ => ⟨[], [.len (varsL v.l xs).length]⟩) (fun _ => True) ⟨rfl, rfl, rfl, trivial⟩ rfl trivial fun j hj _ => ?_
      by_cases h2 : j < v.m.length
      · have d2 : decide ((j : Int) < (v.mv.length : Int)) = true := by rw [v.mv_len]; simp [h2]
        refine .go ?_
        exact ⟨rfl, rfl⟩
      · have d2 : decide ((j : Int) < (v.mv.length : Int)) = false := by rw [v.mv_len]; simp; omega
        refine .go ?_
        exact ⟨rfl, rfl⟩
  have q6 : (v.kind == 6) = false := by simp [k6]
  rw [if_neg k6]
  by_cases k7 : v.kind = 7
  · have q7 : (v.kind == 7) = true := by simp [k7]
    rw [if_pos k7]
    refine .gob ?_
    refine HCode.forK v.l.length (fun k => [(5, .int .i64 k), (1, .slice (xs.map AV.str) (.own 0 1)), (2, .rptr v.enc)]) (fun _ => ⟨[], [.len xs.length]⟩) (fun _ => True) ⟨rfl, rfl, rfl, trivial⟩ rfl trivial fun k hk _ => ?_
    by_cases h1 : k < v.l.length
    · have d1 : decide ((k : Int) < (v.lv.length : Int)) = true := by rw [v.lv_len]; simp [h1]
      refine .go ?_
      refine HCode.forK v.m.length (fun k => [(6, .int .i64 k), (1, .slice ((varsM (v.m.take k) xs).map AV.str) (.own 0 1)), (2, .rptr v.enc)]) (fun k => ⟨[], [.len (varsM (v.m.take k) xs).length]⟩) (fun _ => True) ⟨rfl, by rw [List.take_zero, varsM]; rfl, rfl, trivial⟩ (by rw [List.take_zero, varsM]) trivial fun j hj _ => ?_
      by_cases h2 : j < v.m.length
      · have d2 : decide ((j : Int) < (v.mv.length : Int)) = true := by rw [v.mv_len]; simp [h2]
        have x2 := Val.mv_get h2
        have hlen := varsM_len (v.m.take j) xs
        have hlt := sizeM_take v.m (j + 1)
        have hst := sizeM_succ h2
        have hcc := ihM v.m[j] (List.getElem_mem h2) (varsM (v.m.take j) xs) (by omega)
        rw [VarsC1, ← varsM_take h2] at hcc
        repeat' first | refine .s1 ?_ | (refine .cond rfl ?_ ?_ <;> intro hc) | (refine A.guard rfl ?_ ?_ <;> intro hc) | refine A.callG2 0 rfl hcc rfl (str_closedL _) (str_closedL _) (Val.closed _) (Weak.refl _) rfl ?_ | fail
        exact ⟨h2, ⟨rfl, rfl, rfl, trivial⟩, by simp [belowS, AV.low], rfl, rfl, trivial⟩
      · have d2 : decide ((j : Int) < (v.mv.length : Int)) = false := by rw [v.mv_len]; simp; omega
        obtain rfl : j = v.m.length := by omega
        rw [List.take_length]
        refine .go ?_
        exact ⟨rfl, rfl⟩
    · have d1 : decide ((k : Int) < (v.lv.length : Int)) = false := by rw [v.lv_len]; simp; omega
      refine .go ?_
      refine HCode.forK v.m.length (fun k => [(6, .int .i64 k), (1, .slice ((varsM (v.m.take k) xs).map AV.str) (.own 0 1)), (2, .rptr v.enc)]) (fun k => ⟨[], [.len (varsM (v.m.take k) xs).length]⟩) (fun _ => True) ⟨rfl, by rw [List.take_zero, varsM]; rfl, rfl, trivial⟩ (by rw [List.take_zero, varsM]) trivial fun j hj _ => ?_
      by_cases h2 : j < v.m.length
      · have d2 : decide ((j : Int) < (v.mv.length : Int)) = true := by rw [v.mv_len]; simp [h2]
        have x2 := Val.mv_get h2
        have hlen := varsM_len (v.m.take j) xs
        have hlt := sizeM_take v.m (j + 1)
        have hst := sizeM_succ h2
        have hcc := ihM v.m[j] (List.getElem_mem h2) (varsM (v.m.take j) xs) (by omega)
        rw [VarsC1, ← varsM_take h2] at hcc
        repeat' first | refine .s1 ?_ | (refine .cond rfl ?_ ?_ <;> intro hc) | (refine A.guard rfl ?_ ?_ <;> intro hc) | refine A.callG2 0 rfl hcc rfl (str_closedL _) (str_closedL _) (Val.closed _) (Weak.refl _) rfl ?_ | fail
        exact ⟨h2, ⟨rfl, rfl, rfl, trivial⟩, by simp [belowS, AV.low], rfl, rfl, trivial⟩
      · have d2 : decide ((j : Int) < (v.mv.length : Int)) = false := by rw [v.mv_len]; simp; omega
        obtain rfl : j = v.m.length := by omega
        rw [List.take_length]
        refine .go ?_
        exact ⟨rfl, rfl⟩
  have q7 : (v.kind == 7) = false := by simp [k7]
  rw [if_neg k7]
  refine .gob ?_
  refine HCode.forK v.l.length (fun k => [(5, .int .i64 k), (1, .slice (xs.map AV.str) (.own 0 1)), (2, .rptr v.enc)]) (fun _ => ⟨[], [.len xs.length]⟩) (fun _ => True) ⟨rfl, rfl, rfl, trivial⟩ rfl trivial fun k hk _ => ?_
  by_cases h1 : k < v.l.length
  · have d1 : decide ((k : Int) < (v.lv.length : Int)) = true := by rw [v.lv_len]; simp [h1]
    refine .go ?_
    refine HCode.forK v.m.length (fun k => [(6, .int .i64 k), (1, .slice (xs.map AV.str) (.own 0 1)), (2, .rptr v.enc)]) (fun _ => ⟨[], [.len xs.length]⟩) (fun _ => True) ⟨rfl, rfl, rfl, trivial⟩ rfl trivial fun j hj _ => ?_
    by_cases h2 : j < v.m.length
    · have d2 : decide ((j : Int) < (v.mv.length : Int)) = true := by rw [v.mv_len]; simp [h2]
      refine .go ?_
      exact ⟨rfl, rfl⟩
    · have d2 : decide ((j : Int) < (v.mv.length : Int)) = false := by rw [v.mv_len]; simp; omega
      refine .go ?_
      exact ⟨rfl, rfl⟩
  · have d1 : decide ((k : Int) < (v.lv.length : Int)) = false := by rw [v.lv_len]; simp; omega
    refine .go ?_
    refine HCode.forK v.m.length (fun k => [(6, .int .i64 k), (1, .slice (xs.map AV.str) (.own 0 1)), (2, .rptr v.enc)]) (fun _ => ⟨[], [.len xs.length]⟩) (fun _ => True) ⟨rfl, rfl, rfl, trivial⟩ rfl trivial fun j hj _ => ?_
    by_cases h2 : j < v.m.length
    · have d2 : decide ((j : Int) < (v.mv.length : Int)) = true := by rw [v.mv_len]; simp [h2]
      refine .go ?_
      exact ⟨rfl, rfl⟩
    · have d2 : decide ((j : Int) < (v.mv.length : Int)) = false := by rw [v.mv_len]; simp; omega
      refine .go ?_
      exact ⟨rfl, rfl⟩
theorem vVarsC1 : ∀ N : Nat, N ≤ 1048576 → ∀ v : Val, v.size ≤ N → ∀ xs : List Str, xs.length + v.size ≤ 137438953472 → VarsC1 v xs
  | 0, _, v, hv => absurd hv (by have := v.size_pos; omega)
  | N + 1, hN, v, hv => fun xs hxs => by
    have ih := vVarsC1 N (by omega)
    have hb := varsBody1 v (by omega) (fun x hx ys hy => ih x (by
      obtain ⟨k, hk, rfl⟩ := List.getElem_of_mem hx
      have := Val.size_l hk; omega) ys hy) (fun x hx ys hy => ih x.v (by
      obtain ⟨k, hk, rfl⟩ := List.getElem_of_mem hx
      have := Val.size_m hk; omega) ys hy) xs hxs
    exact AFn.enter [4] Tryz.func340 rfl rfl rfl rfl rfl (by decide) hb
theorem rVars (v : Val) (hv : v.size ≤ 1048576) : PFn Tryz.prog 321 [v.enc] (.slice ((varsV v []).map AV.str) .no) := by
  have hn : PFn Tryz.prog 340 [v.enc, .slice [] .nil] (.slice ((varsV v []).map AV.str) .no) := by
    have hb := varsBody1 v hv (fun x hx ys hy => vVarsC1 1048576 (Nat.le_refl _) x (by
      obtain ⟨k, hk, rfl⟩ := List.getElem_of_mem hx
      have := Val.size_l hk; omega) ys hy) (fun x hx ys hy => vVarsC1 1048576 (Nat.le_refl _) x.v (by
      obtain ⟨k, hk, rfl⟩ := List.getElem_of_mem hx
      have := Val.size_m hk; omega) ys hy) [] (by simp only [List.length_nil]; omega)
    refine AFn.plain (by simp [AV.closed, str_closedL]) (by simp [AV.closed, AV.closedL, Val.closed]) (AFn.enter [4] Tryz.func340 rfl rfl rfl rfl rfl (by decide) ?_)
    refine HCode.adopt 1 false 1 rfl rfl rfl rfl rfl rfl ?_
    refine HCode.weaken (s := [(0, v.enc), (1, .slice [] (.own 0 1))]) (hb.mono fun e s σ h => ?_) ⟨rfl, rfl, trivial⟩
    cases e with
    | normal => exact ⟨_, h.1, Weak.no (WeakL.refl _)⟩
    | ret => exact ⟨_, h.1, Weak.no (WeakL.refl _)⟩
    | pan x => exact absurd h.1 (by simp)
    | exit id => exact h
    | goto l => exact h
  refine AFn.plain (by simp [AV.closed, str_closedL]) (by simp [AV.closed, AV.closedL, Val.closed]) (AFn.enter [2] Tryz.func321 rfl rfl rfl rfl rfl (by decide) ?_)
  refine .gob ?_
  exact Fin.ret1 rfl (Weak.refl _)
theorem rDepth : ∀ N : Nat, N ≤ 1048576 → ∀ v : Val, v.size ≤ N → PFn Tryz.prog 320 [v.enc] (.int .i64 (depV v))
  | 0, _, v, hv => absurd hv (by have := v.size_pos; omega)
  | N + 1, hN, v, hv => by
    have ih := rDepth N (by omega)
    have hll := v.l_len
    have hml := v.m_len
    have hsp := v.size_parts
    have hd1 := depL_le v.l
    have hd2 := depM_le v.m
    refine AFn.plain rfl (by simp [AV.closedL, Val.closed]) (AFn.enter [2] Tryz.func320 rfl rfl rfl rfl rfl (by decide) ?_)
    rw [depV_eq]
    by_cases k6 : v.kind = 6
    · have q6 : (v.kind == 6) = true := by simp [k6]
      rw [if_pos k6]
      refine .gob ?_
      refine HCode.forK v.l.length (fun k => [(4, .int .i64 k), (3, .int .i64 (depL (v.l.take k) : Nat)), (1, .rptr v.enc)]) (fun k => ⟨[], []⟩) (fun _ => True) ⟨rfl, rfl, rfl, trivial⟩ rfl trivial fun k hk _ => ?_
      by_cases h1 : k < v.l.length
      · have d1 : decide ((k : Int) < (v.lv.length : Int)) = true := by rw [v.lv_len]; simp [h1]
        have x1 := Val.lv_get h1
        have hc := ih v.l[k] (by have := Val.size_l h1; omega)
        have hm := max_int (depL (v.l.take k)) (depV v.l[k])
        rw [← depL_take h1] at hm
        repeat' first | refine .s1 ?_ | (refine .cond rfl ?_ ?_ <;> intro hc) | (refine A.guard rfl ?_ ?_ <;> intro hc) | refine A.max2 rfl rfl hm ?_ | fail
        exact ⟨h1, ⟨rfl, rfl, rfl, trivial⟩, by simp [belowS, AV.low], rfl, rfl, trivial⟩
      · have d1 : decide ((k : Int) < (v.lv.length : Int)) = false := by rw [v.lv_len]; simp; omega
        obtain rfl : k = v.l.length := by omega
        rw [List.take_length]
        refine .go ?_
        exact Fin.ret1 rfl (Weak.eq (congrArg (AV.int .i64) (by omega)))
    · have q6 : (v.kind == 6) = false := by simp [k6]
      rw [if_neg k6]
      by_cases k7 : v.kind = 7
      · have q7 : (v.kind == 7) = true := by simp [k7]
        rw [if_pos k7]
        refine .gob ?_
        refine HCode.forK v.m.length (fun k => [(5, .int .i64 k), (3, .int .i64 (depM (v.m.take k) : Nat)), (1, .rptr v.enc)]) (fun k => ⟨[], []⟩) (fun _ => True) ⟨rfl, rfl, rfl, trivial⟩ rfl trivial fun k hk _ => ?_
        by_cases h1 : k < v.m.length
        · have d1 : decide ((k : Int) < (v.mv.length : Int)) = true := by rw [v.mv_len]; simp [h1]
          have x1 := Val.mv_get h1
          have hc := ih v.m[k].v (by have := Val.size_m h1; omega)
          have hm := max_int (depM (v.m.take k)) (depV v.m[k].v)
          rw [← depM_take h1] at hm
          repeat' first | refine .s1 ?_ | (refine .cond rfl ?_ ?_ <;> intro hc) | (refine A.guard rfl ?_ ?_ <;> intro hc) | refine A.max2 rfl rfl hm ?_ | fail
          exact ⟨h1, ⟨rfl, rfl, rfl, trivial⟩, by simp [belowS, AV.low], rfl, rfl, trivial⟩
        · have d1 : decide ((k : Int) < (v.mv.length : Int)) = false := by rw [v.mv_len]; simp; omega
          obtain rfl : k = v.m.length := by omega
          rw [List.take_length]
          refine .go ?_
          exact Fin.ret1 rfl (Weak.eq (congrArg (AV.int .i64) (by omega)))
      · have q7 : (v.kind == 7) = false := by simp [k7]
        rw [if_neg k7]
        refine .gob ?_
        exact Fin.ret1 rfl (Weak.refl _)
mutual
def nmdV : Val → Bool
  | .mk _ _ _ l m => nmdL l && nmdM m
def nmdL : List Val → Bool
  | [] => true
  | v :: l => nmdV v && nmdL l
def nmdM : List Mem → Bool
  | [] => true
  | .mk n v :: m => (nameB n && nmdV v) && nmdM m
end
theorem nmdL_eq : ∀ l : List Val, nmdL l = l.all nmdV
  | [] => by rw [nmdL]; rfl
  | v :: l => by rw [nmdL, List.all_cons, nmdL_eq l]
theorem nmdM_eq : ∀ m : List Mem, nmdM m = m.all fun x => nameB x.name && nmdV x.v
  | [] => by rw [nmdM]; rfl
  | .mk n v :: m => by rw [nmdM, List.all_cons, nmdM_eq m]; rfl
theorem nmdV_eq (v : Val) : nmdV v = (v.l.all nmdV && v.m.all fun x => nameB x.name && nmdV x.v) := by
  cases v; rw [nmdV, nmdL_eq, nmdM_eq]; rfl
theorem nmC_small1 : ∀ (s : Str) (z : Bool), nmC z s = true → ∀ c ∈ s, c.toNat < 128
  | [], _, _, c, hc => by cases hc
  | a :: r, z, h, c, hc => by
    rw [nmC, Bool.and_eq_true] at h
    rcases List.mem_cons.1 hc with rfl | hc
    · have := h.1
      unfold letC digC at this
      simp only [Bool.or_eq_true, Bool.and_eq_true, decide_eq_true_eq] at this
      omega
    · exact nmC_small1 r false h.2 c hc
theorem good_nameB1 {s : Str} (h : nameB s = true) : good s = true := by
  unfold nameB at h
  rw [Bool.and_eq_true] at h
  unfold good
  rw [Lib.validD_ascii s.length s (fun b hb => nmC_small1 s true h.1 b (List.mem_of_mem_take hb)), List.drop_length]; rfl
mutual
theorem plain_V : ∀ v : Val, (allV good v && nmdV v) = allV nameB v
  | .mk k n str l m => by
    have hL := plain_L l
    have hM := plain_M m
    rw [allV, allV, nmdV]
    by_cases k6 : k = 6
    · rw [if_pos k6, if_pos k6, ← hL]
      cases m with
      | nil => rw [nmdM]; cases allL good l <;> cases nmdL l <;> simp
      | cons a m => simp
    · rw [if_neg k6, if_neg k6]
      by_cases k7 : k = 7
      · rw [if_pos k7, if_pos k7, ← hM]
        cases l with
        | nil => rw [nmdL]; cases allM good m <;> cases nmdM m <;> simp
        | cons a l => simp
      · rw [if_neg k7, if_neg k7]
        have : singleB (.mk k n str l m) = true → l = [] ∧ m = [] := fun h => by
          unfold singleB at h
          simp only [Bool.and_eq_true, decide_eq_true_eq] at h
          exact ⟨List.eq_nil_of_length_eq_zero h.1.1, List.eq_nil_of_length_eq_zero h.1.2⟩
        cases hs : singleB (.mk k n str l m) with
        | false => rfl
        | true => obtain ⟨rfl, rfl⟩ := this hs; rw [nmdL, nmdM]; rfl
theorem plain_L : ∀ l : List Val, (allL good l && nmdL l) = allL nameB l
  | [] => by rw [allL, allL, nmdL]; rfl
  | v :: l => by
    rw [allL, allL, nmdL, ← plain_V v, ← plain_L l]
    cases allV good v <;> cases allL good l <;> cases nmdV v <;> cases nmdL l <;> rfl
theorem plain_M : ∀ m : List Mem, (allM good m && nmdM m) = allM nameB m
  | [] => by rw [allM, allM, nmdM]; rfl
  | .mk n v :: m => by
    rw [allM, allM, nmdM, ← plain_V v, ← plain_M m]
    have := @good_nameB1 n
    cases hn : nameB n with
    | false => cases good n <;> cases allV good v <;> cases allM good m <;> cases nmdV v <;> cases nmdM m <;> rfl
    | true =>
      rw [this hn]
      cases allV good v <;> cases allM good m <;> cases nmdV v <;> cases nmdM m <;> rfl
end
theorem rNamed : ∀ N : Nat, N ≤ 1048576 → ∀ v : Val, v.size ≤ N → PFn Tryz.prog 339 [v.enc] (.bool (nmdV v))
  | 0, _, v, hv => absurd hv (by have := v.size_pos; omega)
  | N + 1, hN, v, hv => by
    have ih := rNamed N (by omega)
    have hll := v.l_len
    have hml := v.m_len
    refine AFn.plain rfl (by simp [AV.closedL, Val.closed]) (AFn.enter [2] Tryz.func339 rfl rfl rfl rfl rfl (by decide) ?_)
    rw [nmdV_eq]
    refine .gob ?_
    refine HCode.forK v.l.length (fun k => [(3, .int .i64 k), (1, .rptr v.enc)]) (fun _ => ⟨[], []⟩) (fun k => (v.l.take k).all nmdV = true) ⟨rfl, rfl, trivial⟩ rfl (by simp) fun k hk hp => ?_
    by_cases h1 : k < v.l.length
    · have d1 : decide ((k : Int) < (v.lv.length : Int)) = true := by rw [v.lv_len]; simp [h1]
      have x1 := Val.lv_get h1
      have hc := ih v.l[k] (by have := Val.size_l h1; omega)
      have hnx := all_next (p := nmdV) h1 hp
      have hsp := all_stop (p := nmdV) h1
      cases c : nmdV v.l[k] <;> rw [c] at hc hnx hsp
      · have ha : v.l.all nmdV = false := hsp rfl
        rw [ha, Bool.false_and]
        refine .go ?_
        exact Fin.ret1 rfl (Weak.refl _)
      · have hj' := hnx rfl
        refine .go ?_
        exact ⟨h1, ⟨rfl, rfl, trivial⟩, by simp [belowS, AV.low], rfl, rfl, hj'⟩
    · have d1 : decide ((k : Int) < (v.lv.length : Int)) = false := by rw [v.lv_len]; simp; omega
      obtain rfl : k = v.l.length := by omega
      rw [List.take_length] at hp
      rw [hp, Bool.true_and]
      refine .go ?_
      refine HCode.forK v.m.length (fun k => [(4, .int .i64 k), (1, .rptr v.enc)]) (fun _ => ⟨[], []⟩) (fun k => (v.m.take k).all (fun x => nameB x.name && nmdV x.v) = true) ⟨rfl, rfl, trivial⟩ rfl (by simp) fun j hj hq => ?_
      by_cases h2 : j < v.m.length
      · have d2 : decide ((j : Int) < (v.mv.length : Int)) = true := by rw [v.mv_len]; simp [h2]
        have x2 := Val.mv_get h2
        have hz := sumSize_mem (size := Mem.size) (List.getElem_mem h2)
        have hz2 : v.m[j].size = v.m[j].name.length + 2 + v.m[j].v.size := rfl
        have hz3 := v.size_eq
        have hc := ih v.m[j].v (by have := Val.size_m h2; omega)
        have hn := rName v.m[j].name (by omega)
        have hnx := all_next (p := fun x => nameB x.name && nmdV x.v) h2 hq
        have hsp := all_stop (p := fun x => nameB x.name && nmdV x.v) h2
        try dsimp only at hnx hsp
        cases c0 : nameB v.m[j].name <;> rw [c0] at hn hnx hsp
        · have ha : v.m.all (fun x => nameB x.name && nmdV x.v) = false := hsp rfl
          rw [ha]
          refine .go ?_
          exact Fin.ret1 rfl (Weak.refl _)
        cases c1 : nmdV v.m[j].v <;> rw [c1] at hc hnx hsp
        · have ha : v.m.all (fun x => nameB x.name && nmdV x.v) = false := hsp rfl
          rw [ha]
          refine .go ?_
          exact Fin.ret1 rfl (Weak.refl _)
        · have hj' := hnx rfl
          refine .go ?_
          exact ⟨h2, ⟨rfl, rfl, trivial⟩, by simp [belowS, AV.low], rfl, rfl, hj'⟩
      · have d2 : decide ((j : Int) < (v.mv.length : Int)) = false := by rw [v.mv_len]; simp; omega
        obtain rfl : j = v.m.length := by omega
        rw [List.take_length] at hq
        rw [hq]
        refine .go ?_
        exact Fin.ret1 rfl (Weak.refl _)
theorem rPlain (v : Val) (hv : v.size ≤ 1048576) : PFn Tryz.prog 319 [v.enc] (.bool (plainV v)) := by
  have h1 := rGoodValue v.size hv v (Nat.le_refl _)
  have h2 := rDepth v.size hv v (Nat.le_refl _)
  have h3 := rNamed v.size hv v (Nat.le_refl _)
  have hd : decide (depV v ≤ 16) = decide ((depV v : Int) ≤ 16) := by simp only [decide_eq_decide]; omega
  refine AFn.plain rfl (by simp [AV.closedL, Val.closed]) (AFn.enter [2] Tryz.func319 rfl rfl rfl rfl rfl (by decide) ?_)
  unfold plainV
  rw [← plain_V v, hd]
  cases c1 : allV good v <;> rw [c1] at h1
  · refine .gob ?_
    exact Fin.ret1 rfl (Weak.refl _)
  cases c2 : decide ((depV v : Int) ≤ 16)
  · refine .gob ?_
    refine Fin.ret1 rfl (Weak.eq (congrArg AV.bool ?_))
    cases nmdV v <;> rfl
  cases c3 : nmdV v <;> rw [c3] at h3
  all_goals
    refine .gob ?_
    exact Fin.ret1 rfl (Weak.refl _)
theorem members1 (N : Nat) (ih : ∀ a b : Val, a.size ≤ N → PFn Tryz.prog 84 [a.enc, b.enc] (.bool (sameV a b))) (a b : List Mem) (ha : a.length ≤ 9223372036854775807) (hs : ∀ x ∈ a, x.v.size ≤ N) :
    PFn Tryz.prog 38 [.slice (a.map Mem.enc) .no, .slice (b.map Mem.enc) .no] (.bool (sameM a b)) := by
  refine AFn.plain rfl (by simp [AV.closedL, AV.closed, Mem.closedL]) (AFn.enter [4] Tryz.func38 rfl rfl rfl rfl rfl (by decide) ?_)
  by_cases hl : a.length = b.length
  · have d0 : ((a.length : Int) != (b.length : Int)) = false := by simp [hl]
    refine .go ?_
    change HCode _ _ _ _ _ _ _
    refine HCode.loop (fun n s σ => ∃ k : Nat, n = a.length - k ∧ k ≤ a.length ∧ sameM a b = sameM (a.drop k) (b.drop k) ∧ σ = ⟨[], []⟩ ∧
      s = [(5, .int .i64 k), (0, .slice (a.map Mem.enc) .no), (1, .slice (b.map Mem.enc) .no)])
      (s0 := [(5, .int .i64 (0 : Nat)), (0, .slice (a.map Mem.enc) .no), (1, .slice (b.map Mem.enc) .no)])
      ⟨rfl, rfl, rfl, trivial⟩ ⟨0, rfl, Nat.zero_le _, rfl, rfl, rfl⟩ ?_
    rintro n s σ ⟨k, rfl, hk, hp, rfl, rfl⟩
    by_cases h1 : k < a.length
    · have d1 : decide ((k : Int) < (a.length : Int)) = true := by simp [h1]
      have x1 := map_get' (f := Mem.enc) h1
      have h2 : k < b.length := by omega
      have x2 := map_get' (f := Mem.enc) h2
      have hcc := ih a[k].v b[k].v (hs _ (List.getElem_mem h1))
      repeat' first | refine .s1 ?_ | (refine .cond rfl ?_ ?_ <;> intro hc) | (refine A.guard rfl ?_ ?_ <;> intro hc) | refine A.call rfl hcc (WeakL.refl _) ?_ | fail
      all_goals first
        | (refine Fin.ret1 rfl (Weak.eq ?_); rw [hp, sameM_drop h1 h2]; simp_all; done)
        | (refine ⟨a.length - (k + 1), by omega, [(5, .int .i64 ((k + 1 : Nat) : Int)), (0, .slice (a.map Mem.enc) .no), (1, .slice (b.map Mem.enc) .no)],
          ⟨rfl, rfl, rfl, trivial⟩, by simp [belowS, AV.low, Mem.lowL], rfl, k + 1, rfl, by omega, by rw [hp, sameM_drop h1 h2]; simp_all, rfl, rfl⟩; done)
    · have d1 : decide ((k : Int) < (a.length : Int)) = false := by simp; omega
      refine .go ?_
      refine Fin.ret1 rfl (Weak.eq ?_)
      rw [hp, List.drop_eq_nil_of_le (by omega), List.drop_eq_nil_of_le (by omega), sameM]
  · have d0 : ((a.length : Int) != (b.length : Int)) = true := by simp; omega
    refine .go ?_
    exact Fin.ret1 rfl (Weak.eq (by rw [sameM_len hl]))
theorem val_lens {g : Gh} {w : World} {v : Val} {u : Value} (h : Rep g w v.enc u) : v.l.length ≤ 9223372036854775807 ∧ v.m.length ≤ 9223372036854775807 := by
  obtain ⟨vs, _, h1, _⟩ := h
  obtain ⟨x, _, h2⟩ := h1.get (i := 3) (c := .slice v.lv .no) rfl
  obtain ⟨y, _, h3⟩ := h1.get (i := 4) (c := .slice v.mv .no) rfl
  have h4 := rep_len h2
  have h5 := rep_len h3
  rw [v.lv_len] at h4
  rw [v.mv_len] at h5
  exact ⟨h4, h5⟩
theorem same1_aux : ∀ (N : Nat) (a b : Val), a.size ≤ N → PFn Tryz.prog 84 [a.enc, b.enc] (.bool (sameV a b))
  | 0, a, b, h => absurd h (by have := a.size_pos; omega)
  | N + 1, a, b, h => PFn.bounded ⟨_, Tryz.func84, rfl, rfl⟩ (by simp [AV.closedL, Val.closed]) (fun g w vs ⟨u, r, _, hu, _⟩ => val_lens hu) fun ⟨la, ma⟩ => by
    have ih := fun a b h => same1_aux N a b h
    have hmem := members1 N ih a.m b.m (by omega) (fun x hx => by
      have h1 := sumSize_mem (size := Mem.size) hx
      have h2 : x.size = x.name.length + 2 + x.v.size := rfl
      have := a.size_eq
      omega)
    rw [← Val.mv_eq, ← Val.mv_eq] at hmem
    refine AFn.plain rfl (by simp [AV.closedL, Val.closed]) (AFn.enter [4] Tryz.func84 rfl rfl rfl rfl rfl (by decide) ?_)
    have hq := sameV_eq a b
    repeat' first | refine A.len rfl rfl rfl (by rw [Val.lv_len]) ?_ | refine .s1 ?_ | (refine .cond rfl ?_ ?_ <;> intro hc) | (refine A.guard rfl ?_ ?_ <;> intro hc) | fail
    all_goals try (refine Fin.ret1 rfl (Weak.eq ?_); rw [hq]; first | (simp_all; done) | (rw [sameL_len (p := a.l) (q := b.l) (by simp at hc; omega)]; simp; done))
    have hll : a.l.length = b.l.length := by simp at hc; omega
    change HCode _ _ _ _ _ _ _
    refine HCode.loop (fun n s σ => ∃ k : Nat, n = a.l.length - k ∧ k ≤ a.l.length ∧ sameL a.l b.l = sameL (a.l.drop k) (b.l.drop k) ∧
      σ = ⟨[.cells [.int .i64 a.kind, .int .i64 a.n, .str a.s, .slice a.lv .no, .slice a.mv .no], .cells [.int .i64 b.kind, .int .i64 b.n, .str b.s, .slice b.lv .no, .slice b.mv .no]], []⟩ ∧
      s = [(5, .int .i64 k), (2, .ptr 0 0), (3, .ptr 1 0)])
      (s0 := [(5, .int .i64 (0 : Nat)), (2, .ptr 0 0), (3, .ptr 1 0)])
      ⟨rfl, rfl, rfl, trivial⟩ ⟨0, rfl, Nat.zero_le _, rfl, rfl, rfl⟩ ?_
    rintro n s σ ⟨k, rfl, hk, hp, rfl, rfl⟩
    by_cases h1 : k < a.l.length
    · have d1 : decide ((k : Int) < (a.l.length : Int)) = true := by simp [h1]
      have x1 := Val.lv_get h1
      have h2 : k < b.l.length := by omega
      have x2 := Val.lv_get h2
      have hcc := ih a.l[k] b.l[k] (by have := Val.size_l h1; omega)
      repeat' first | refine A.len rfl rfl rfl (by rw [Val.lv_len]) ?_ | refine .s1 ?_ | (refine .cond rfl ?_ ?_ <;> intro hc) | (refine A.guard rfl ?_ ?_ <;> intro hc) | refine A.call rfl hcc (WeakL.refl _) ?_ | fail
      · refine Fin.ret1 rfl (Weak.eq ?_)
        rw [hq, hp, sameL_drop h1 h2]; simp_all
      · refine ⟨a.l.length - (k + 1), by omega, [(5, .int .i64 ((k + 1 : Nat) : Int)), (2, .ptr 0 0), (3, .ptr 1 0)],
          ⟨rfl, rfl, rfl, trivial⟩, by simp [belowS, AV.low], by simp [belowB, belowT, Ob.low, AV.lowL, AV.low, Val.lv_low, Val.mv_low], k + 1, rfl, by omega, by rw [hp, sameL_drop h1 h2]; simp_all, rfl, rfl⟩
    · have d1 : decide ((k : Int) < (a.l.length : Int)) = false := by simp; omega
      repeat' first | refine A.len rfl rfl rfl (by rw [Val.lv_len]) ?_ | refine .s1 ?_ | (refine .cond rfl ?_ ?_ <;> intro hc) | (refine A.guard rfl ?_ ?_ <;> intro hc) | refine A.call rfl hmem (WeakL.refl _) ?_ | fail
      refine Fin.ret1 rfl (Weak.eq ?_)
      rw [hq, hp, List.drop_eq_nil_of_le (by omega), List.drop_eq_nil_of_le (by omega)]
      rw [show sameL [] [] = true by rw [sameL]]
      simp_all
theorem sameAny (a b : Val) : PFn Tryz.prog 84 [a.enc, b.enc] (.bool (sameV a b)) := same1_aux a.size a b (Nat.le_refl _)
theorem membersAny (a b : List Mem) : PFn Tryz.prog 38 [.slice (a.map Mem.enc) .no, .slice (b.map Mem.enc) .no] (.bool (sameM a b)) :=
  PFn.bounded ⟨_, Tryz.func38, rfl, rfl⟩ (by simp [AV.closedL, AV.closed, Mem.closedL]) (fun g w vs ⟨u, r, _, hu, _⟩ => by have := rep_len hu; rwa [List.length_map] at this) fun ha =>
    members1 (sumSize Mem.size a) (fun x y _ => sameAny x y) a b ha (fun x hx => by have := sumSize_mem (size := Mem.size) hx; have h2 : x.size = x.name.length + 2 + x.v.size := rfl; omega)
theorem rValue6 (v : Val) (hv : v.size ≤ 1048576) : PFn Tryz.prog 296 [v.enc, .int .i64 0, .bool true] (.bool (valFix v)) := by
  have h1 := rPlain v hv
  have h2 := rDepth v.size hv v (Nat.le_refl _)
  have h3 := rVars v hv
  have hdl := depV_le v
  refine AFn.plain rfl (by simp [AV.closedL, AV.closed, Val.closed]) (AFn.enter [6] Tryz.func296 rfl rfl rfl rfl rfl (by decide) ?_)
  unfold valFix
  cases c1 : plainV v <;> rw [c1] at h1
  · refine .gob ?_
    exact Fin.ret1 rfl (Weak.refl _)
  have hd : decide ((0 : Int) + (depV v : Int) ≤ 16) = true := by
    unfold plainV at c1
    simp only [Bool.and_eq_true, decide_eq_true_eq] at c1
    exact decide_eq_true (by omega)
  have he : (((varsV v []).length : Int) == 0) = decide (varsV v [] = []) := by
    rw [Bool.eq_iff_iff, beq_iff_eq, decide_eq_true_eq, ← List.length_eq_zero_iff]; omega
  cases c3 : decide (varsV v [] = []) <;> rw [c3] at he
  all_goals
    refine .gob ?_
    exact Fin.ret1 rfl (Weak.eq (congrArg AV.bool he))
theorem rDefault6 (p : Par) (hp : p.d.size ≤ 1048576) : PFn Tryz.prog 267 [.bool p.has, p.d.enc] (.bool (dfltOk p)) := by
  have h1 := rValue6 p.d hp
  have h2 := sameAny p.d val0
  refine AFn.plain rfl (by simp [AV.closedL, AV.closed, Val.closed]) (AFn.enter [4] Tryz.func267 rfl rfl rfl rfl rfl (by decide) ?_)
  unfold dfltOk
  cases c1 : p.has
  · repeat' first | refine .br ?_ | refine .s1 ?_ | (refine .cond rfl ?_ ?_ <;> intro hc) | (refine A.guard rfl ?_ ?_ <;> intro hc) | refine A.call rfl h2 (WeakL.cons (Weak.refl _) (WeakL.cons weak_flatV (WeakL.refl _))) ?_ | fail
    exact Fin.ret1 rfl (Weak.refl _)
  · refine .gob ?_
    exact Fin.ret1 rfl (Weak.refl _)
theorem rNames6 (l : List Str) (hl : strsSize l ≤ 1048576) : PFn Tryz.prog 230 [.slice (l.map AV.str) .no] (.bool (l.all (nameB))) := by
  have hlen := sumSize_length (size := fun x : Str => x.length + 1) (fun _ => by omega) l
  unfold strsSize at hl
  refine AFn.plain rfl (by simp [AV.closed, AV.closedL, str_closedL]) (AFn.enter [2] Tryz.func230 rfl rfl rfl rfl rfl (by decide) ?_)
  refine .go ?_
  refine HCode.forK l.length (fun k => [(3, .int .i64 k), (0, .slice (l.map AV.str) .no)]) (fun _ => ⟨[], []⟩) (fun k => (l.take k).all (nameB) = true) ⟨rfl, rfl, trivial⟩ rfl (by simp) fun k hk hj => ?_
  by_cases h1 : k < l.length
  · have d1 : decide ((k : Int) < (l.length : Int)) = true := by simp [h1]
    have x1 := map_get' (f := AV.str) h1
    have hnx := all_next (p := nameB) h1 hj
    have hsp := all_stop (p := nameB) h1
    have h0 := rName l[k] (by have := sumSize_mem (size := fun x : Str => x.length + 1) (List.getElem_mem h1); omega)
    try dsimp only at hnx hsp
    cases c0 : nameB l[k] <;> rw [c0] at h0 hnx hsp
    · have ha : l.all (nameB) = false := hsp (by simp)
      rw [ha]
      refine .go ?_
      exact Fin.ret1 rfl (Weak.refl _)
    have hj' := hnx (by simp)
    refine .go ?_
    exact ⟨h1, ⟨rfl, rfl, trivial⟩, by simp [belowS, AV.low, AV.low_of_closed, Sch.closed, Dfn.closed, Fld.closed], rfl, rfl, hj'⟩
  · have d1 : decide ((k : Int) < (l.length : Int)) = false := by simp; omega
    obtain rfl : k = l.length := by omega
    rw [List.take_length] at hj
    rw [hj]
    refine .go ?_
    exact Fin.ret1 rfl (Weak.refl _)
theorem rMembers6 (l : List Mem) (hl : sumSize Mem.size l ≤ 1048576) (ho : ∀ m ∈ l, m.ok) : PFn Tryz.prog 295 [.slice (l.map Mem.enc) .no, .int .i64 0, .bool true] (.bool (l.all (fun x => nameB x.name && valFix x.v))) := by
  have hlen := sumSize_length Mem.size_pos l
  refine AFn.plain rfl (by simp [AV.closed, AV.closedL, Mem.closedL]) (AFn.enter [6] Tryz.func295 rfl rfl rfl rfl rfl (by decide) ?_)
  refine .go ?_
  refine HCode.forK l.length (fun k => [(7, .int .i64 k), (0, .slice (l.map Mem.enc) .no), (1, .int .i64 0), (2, .bool true)]) (fun _ => ⟨[], []⟩) (fun k => (l.take k).all (fun x => nameB x.name && valFix x.v) = true) ⟨rfl, rfl, rfl, rfl, trivial⟩ rfl (by simp) fun k hk hj => ?_
  by_cases h1 : k < l.length
  · have d1 : decide ((k : Int) < (l.length : Int)) = true := by simp [h1]
    have x1 := map_get' (f := Mem.enc) h1
    have hnx := all_next (p := fun x => nameB x.name && valFix x.v) h1 hj
    have hsp := all_stop (p := fun x => nameB x.name && valFix x.v) h1
    have hz := sumSize_mem (size := Mem.size) (List.getElem_mem h1)
    have hz2 : l[k].size = l[k].name.length + 2 + l[k].v.size := rfl
    have h0 := rName l[k].name (by omega)
    have h2 := rValue6 l[k].v (by omega)
    try dsimp only at hnx hsp
    cases c0 : nameB l[k].name <;> rw [c0] at h0 hnx hsp
    · have ha : l.all (fun x => nameB x.name && valFix x.v) = false := hsp (by simp)
      rw [ha]
      refine .go ?_
      exact Fin.ret1 rfl (Weak.refl _)
    cases c1 : valFix l[k].v <;> rw [c1] at h2 hnx hsp
    · have ha : l.all (fun x => nameB x.name && valFix x.v) = false := hsp (by simp)
      rw [ha]
      refine .go ?_
      exact Fin.ret1 rfl (Weak.refl _)
    have hj' := hnx (by simp)
    refine .go ?_
    exact ⟨h1, ⟨rfl, rfl, rfl, rfl, trivial⟩, by simp [belowS, AV.low, AV.low_of_closed, Sch.closed, Dfn.closed, Fld.closed], rfl, rfl, hj'⟩
  · have d1 : decide ((k : Int) < (l.length : Int)) = false := by simp; omega
    obtain rfl : k = l.length := by omega
    rw [List.take_length] at hj
    rw [hj]
    refine .go ?_
    exact Fin.ret1 rfl (Weak.refl _)
theorem rDirs6 (l : List Dirc) (hl : sumSize Dirc.size l ≤ 1048576) (ho : ∀ d ∈ l, d.ok) : PFn Tryz.prog 266 [.slice (l.map Dirc.enc) .no, .int .i64 0, .bool true] (.bool (l.all (fun d => nameB d.name && argsOk d.args))) := by
  have hlen := sumSize_length Dirc.size_pos l
  refine AFn.plain rfl (by simp [AV.closed, AV.closedL, Dirc.closedL]) (AFn.enter [6] Tryz.func266 rfl rfl rfl rfl rfl (by decide) ?_)
  refine .go ?_
  refine HCode.forK l.length (fun k => [(7, .int .i64 k), (0, .slice (l.map Dirc.enc) .no), (1, .int .i64 0), (2, .bool true)]) (fun _ => ⟨[], []⟩) (fun k => (l.take k).all (fun d => nameB d.name && argsOk d.args) = true) ⟨rfl, rfl, rfl, rfl, trivial⟩ rfl (by simp) fun k hk hj => ?_
  by_cases h1 : k < l.length
  · have d1 : decide ((k : Int) < (l.length : Int)) = true := by simp [h1]
    have x1 := map_get' (f := Dirc.enc) h1
    have hnx := all_next (p := fun d => nameB d.name && argsOk d.args) h1 hj
    have hsp := all_stop (p := fun d => nameB d.name && argsOk d.args) h1
    have hz := sumSize_mem (size := Dirc.size) (List.getElem_mem h1)
    have hz2 : l[k].size = l[k].name.length + sumSize Mem.size l[k].args + 3 := rfl
    have h0 := rName l[k].name (by omega)
    have h2 := rMembers6 l[k].args (by omega) (ho _ (List.getElem_mem h1))
    change PFn _ _ _ (.bool (argsOk l[k].args)) at h2
    try dsimp only at hnx hsp
    cases c0 : nameB l[k].name <;> rw [c0] at h0 hnx hsp
    · have ha : l.all (fun d => nameB d.name && argsOk d.args) = false := hsp (by simp)
      rw [ha]
      refine .go ?_
      exact Fin.ret1 rfl (Weak.refl _)
    cases c1 : argsOk l[k].args <;> rw [c1] at h2 hnx hsp
    · have ha : l.all (fun d => nameB d.name && argsOk d.args) = false := hsp (by simp)
      rw [ha]
      refine .go ?_
      exact Fin.ret1 rfl (Weak.refl _)
    have hj' := hnx (by simp)
    refine .go ?_
    exact ⟨h1, ⟨rfl, rfl, rfl, rfl, trivial⟩, by simp [belowS, AV.low, AV.low_of_closed, Sch.closed, Dfn.closed, Fld.closed], rfl, rfl, hj'⟩
  · have d1 : decide ((k : Int) < (l.length : Int)) = false := by simp; omega
    obtain rfl : k = l.length := by omega
    rw [List.take_length] at hj
    rw [hj]
    refine .go ?_
    exact Fin.ret1 rfl (Weak.refl _)
theorem rParams6 (l : List Par) (hl : sumSize Par.size l ≤ 1048576) : PFn Tryz.prog 232 [.slice (l.map Par.enc) .no] (.bool (l.all (fun p => nameB p.name && (rightT p.t && dfltOk p)))) := by
  have hlen := sumSize_length Par.size_pos l
  refine AFn.plain rfl (by simp [AV.closed, AV.closedL, Par.closedL]) (AFn.enter [2] Tryz.func232 rfl rfl rfl rfl rfl (by decide) ?_)
  refine .go ?_
  refine HCode.forK l.length (fun k => [(3, .int .i64 k), (0, .slice (l.map Par.enc) .no)]) (fun _ => ⟨[], []⟩) (fun k => (l.take k).all (fun p => nameB p.name && (rightT p.t && dfltOk p)) = true) ⟨rfl, rfl, trivial⟩ rfl (by simp) fun k hk hj => ?_
  by_cases h1 : k < l.length
  · have d1 : decide ((k : Int) < (l.length : Int)) = true := by simp [h1]
    have x1 := map_get' (f := Par.enc) h1
    have hnx := all_next (p := fun p => nameB p.name && (rightT p.t && dfltOk p)) h1 hj
    have hsp := all_stop (p := fun p => nameB p.name && (rightT p.t && dfltOk p)) h1
    have hz := sumSize_mem (size := Par.size) (List.getElem_mem h1)
    have hz2 := l[k].lens
    have h0 := rName l[k].name (by omega)
    have h2 := rRightType l[k].t (by omega)
    have h3 := rDefault6 l[k] (by omega)
    try dsimp only at hnx hsp
    cases c0 : nameB l[k].name <;> rw [c0] at h0 hnx hsp
    · have ha : l.all (fun p => nameB p.name && (rightT p.t && dfltOk p)) = false := hsp (by simp)
      rw [ha]
      refine .go ?_
      exact Fin.ret1 rfl (Weak.refl _)
    cases c1 : rightT l[k].t <;> rw [c1] at h2 hnx hsp
    · have ha : l.all (fun p => nameB p.name && (rightT p.t && dfltOk p)) = false := hsp (by simp)
      rw [ha]
      refine .go ?_
      exact Fin.ret1 rfl (Weak.refl _)
    cases c2 : dfltOk l[k] <;> rw [c2] at h3 hnx hsp
    · have ha : l.all (fun p => nameB p.name && (rightT p.t && dfltOk p)) = false := hsp (by simp)
      rw [ha]
      refine .go ?_
      exact Fin.ret1 rfl (Weak.refl _)
    have hj' := hnx (by simp)
    refine .go ?_
    exact ⟨h1, ⟨rfl, rfl, trivial⟩, by simp [belowS, AV.low, AV.low_of_closed, Sch.closed, Dfn.closed, Fld.closed], rfl, rfl, hj'⟩
  · have d1 : decide ((k : Int) < (l.length : Int)) = false := by simp; omega
    obtain rfl : k = l.length := by omega
    rw [List.take_length] at hj
    rw [hj]
    refine .go ?_
    exact Fin.ret1 rfl (Weak.refl _)
theorem rFields6 (l : List Fld) (hl : sumSize Fld.size l ≤ 1048576) (ho : ∀ f ∈ l, f.ok) : PFn Tryz.prog 231 [.slice (l.map Fld.enc) .no] (.bool (l.all (fun f => nameB f.name && (f.params.all parOk && (rightT f.t && f.dirs.all dirOk))))) := by
  have hlen := sumSize_length (size := Fld.size) (fun f => by unfold Fld.size; omega) l
  refine AFn.plain rfl (by simp [AV.closed, AV.closedL, Fld.closedL]) (AFn.enter [2] Tryz.func231 rfl rfl rfl rfl rfl (by decide) ?_)
  refine .go ?_
  refine HCode.forK l.length (fun k => [(3, .int .i64 k), (0, .slice (l.map Fld.enc) .no)]) (fun _ => ⟨[], []⟩) (fun k => (l.take k).all (fun f => nameB f.name && (f.params.all parOk && (rightT f.t && f.dirs.all dirOk))) = true) ⟨rfl, rfl, trivial⟩ rfl (by simp) fun k hk hj => ?_
  by_cases h1 : k < l.length
  · have d1 : decide ((k : Int) < (l.length : Int)) = true := by simp [h1]
    have x1 := map_get' (f := Fld.enc) h1
    have hnx := all_next (p := fun f => nameB f.name && (f.params.all parOk && (rightT f.t && f.dirs.all dirOk))) h1 hj
    have hsp := all_stop (p := fun f => nameB f.name && (f.params.all parOk && (rightT f.t && f.dirs.all dirOk))) h1
    have hz := sumSize_mem (size := Fld.size) (List.getElem_mem h1)
    have hz2 := l[k].sums
    have h0 := rName l[k].name (by omega)
    have h2 := rParams6 l[k].params (by omega)
    change PFn _ _ _ (.bool (l[k].params.all parOk)) at h2
    have h3 := rRightType l[k].t (by omega)
    have h4 := rDirs6 l[k].dirs (by omega) (ho _ (List.getElem_mem h1)).2
    change PFn _ _ _ (.bool (l[k].dirs.all dirOk)) at h4
    try dsimp only at hnx hsp
    cases c0 : nameB l[k].name <;> rw [c0] at h0 hnx hsp
    · have ha : l.all (fun f => nameB f.name && (f.params.all parOk && (rightT f.t && f.dirs.all dirOk))) = false := hsp (by simp)
      rw [ha]
      refine .go ?_
      exact Fin.ret1 rfl (Weak.refl _)
    cases c1 : l[k].params.all parOk <;> rw [c1] at h2 hnx hsp
    · have ha : l.all (fun f => nameB f.name && (f.params.all parOk && (rightT f.t && f.dirs.all dirOk))) = false := hsp (by simp)
      rw [ha]
      refine .go ?_
      exact Fin.ret1 rfl (Weak.refl _)
    cases c2 : rightT l[k].t <;> rw [c2] at h3 hnx hsp
    · have ha : l.all (fun f => nameB f.name && (f.params.all parOk && (rightT f.t && f.dirs.all dirOk))) = false := hsp (by simp)
      rw [ha]
      refine .go ?_
      exact Fin.ret1 rfl (Weak.refl _)
    cases c3 : l[k].dirs.all dirOk <;> rw [c3] at h4 hnx hsp
    · have ha : l.all (fun f => nameB f.name && (f.params.all parOk && (rightT f.t && f.dirs.all dirOk))) = false := hsp (by simp)
      rw [ha]
      refine .go ?_
      exact Fin.ret1 rfl (Weak.refl _)
    have hj' := hnx (by simp)
    refine .go ?_
    exact ⟨h1, ⟨rfl, rfl, trivial⟩, by simp [belowS, AV.low, AV.low_of_closed, Sch.closed, Dfn.closed, Fld.closed], rfl, rfl, hj'⟩
  · have d1 : decide ((k : Int) < (l.length : Int)) = false := by simp; omega
    obtain rfl : k = l.length := by omega
    rw [List.take_length] at hj
    rw [hj]
    refine .go ?_
    exact Fin.ret1 rfl (Weak.refl _)
end Go.Proofs.YtgghkkeejagfkaaGreatDoor
