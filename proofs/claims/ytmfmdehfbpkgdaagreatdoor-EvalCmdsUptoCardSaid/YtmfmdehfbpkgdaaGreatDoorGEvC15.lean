/-
  Contracts and plain facts for a law, joined.
-/
import Derived.Test.YtmfmdehfbpkgdaaGreatDoorGEvC2
import Derived.Test.YtmfmdehfbpkgdaaGreatDoorGEvC14
import Derived.Test.YtmfmdehfbpkgdaaGreatDoorGEvC3
import Derived.Test.YtmfmdehfbpkgdaaGreatDoorGEvC6
import Derived.Test.YtmfmdehfbpkgdaaGreatDoorGEvC13
import Derived.Test.YtmfmdehfbpkgdaaGreatDoorGEvC4
set_option maxRecDepth 100000
set_option maxHeartbeats 16000000
set_option linter.unusedVariables false
set_option linter.unusedSimpArgs false
set_option linter.unusedSectionVars false
namespace Go.Av
open Go
section
variable [Globals]
variable {P : Program} {all : Array Oper} {draw : Bool} {K : AX → Slots → St → Prop} {rest : List Oper} {acc : List Tag} {s : Slots} {σ : St} {d : Option Tmp} {ty : TypeId} {pos : String} {af : Array Edge}
theorem A.callG2 {f : FuncId} {args : Array Operand} {tys : Array TypeId} {x x' : AV} {xs ys : List AV} {z n n' : Nat} {T' : List Tok} (j : Nat) (ha : evsK s args.toList some = some [x, .slice xs (.own j z)])
    (hp : AFn P f [x', .slice xs (.own 0 z)] ⟨[], [.len n]⟩ (fun e σ1 => e = .ret (.slice ys (.own 0 z)) ∧ σ1 = ⟨[], [.len n']⟩)) (hj : σ.T[j]? = some (.len n)) (hx : AV.closedL xs = true) (hy : AV.closedL ys = true) (hc : x'.closed = true) (hw : Weak x x')
    (hT' : setTK j (.len n') σ.T some = some T') (k : AOps P all draw K rest (.all :: acc) (putS d (.slice ys (.own j z)) s) ⟨σ.B, T'⟩) : AOps P all draw K (⟨d, .call ⟨.value (.func f), args, tys⟩, ty, pos, af, none⟩ :: rest) acc s σ := by
  have hjl : j < σ.T.length := (List.getElem?_eq_some_iff.1 hj).1
  have hemb : emb σ.T.length [j] 0 = j := rfl
  have hcl : AV.closedL [x'] = true := by simp [AV.closedL, hc]
  refine A.callR (nB := σ.B.length) (nT := σ.T.length) (B0 := []) (T0 := [.len n]) (B1 := []) (T1 := [.len n']) (v0 := .slice ys (.own 0 z)) [] [j] ha hp rfl rfl ⟨List.nodup_nil, by simp⟩ ⟨by simp, by simpa using hjl⟩ rfl rfl (fun k i ob h => by simp at h) (fun k i t h ht => ?_) rfl rfl
    ?_ ?_ ?_ (B' := σ.B) (T' := T') ?_ ?_ k
  · cases k with
    | zero => simp at h ht; subst h; subst ht; exact hj
    | succ k => simp at h
  · have h1 := AV.lowL_of_closed 0 1 _ hcl
    simp only [AV.lowL, Bool.and_true] at h1
    simp only [AV.lowL, AV.low, AV.lowL_of_closed _ _ _ hx, List.length_nil, List.length_singleton, h1]; rfl
  · have h1 := AV.renL_closed (emb σ.B.length []) (emb σ.T.length [j]) _ hcl
    simp only [AV.renL] at h1
    have h2 : AV.ren (emb σ.B.length []) (emb σ.T.length [j]) x' = x' := by simpa using h1
    simp only [AV.renL, AV.ren, AV.renL_closed _ _ _ hx, h2]
    exact WeakL.cons hw (WeakL.refl _)
  · rw [AV.ren, AV.renL_closed _ _ _ hy]; rfl
  · rw [merge_nil]; simp
  · obtain ⟨_, hTe⟩ := setTK_spec _ _ _ _ _ hT'
    rw [← Option.some.inj hTe]
    simp [merge, upd, Tok.ren]
end
end Go.Av
namespace Go.Proofs.YtmfmdehfbpkgdaaGreatDoor
open Go Go.Av
attribute [local irreducible] HCode AOps PFn AFn Av.Step TStep
abbrev VarsC1 (v : Val) (xs : List Str) : Prop := AFn Tryz.prog 237 [v.enc, .slice (xs.map AV.str) (.own 0 1)] ⟨[], [.len xs.length]⟩ (fun e σ => e = .ret (.slice ((varsV v xs).map AV.str) (.own 0 1)) ∧ σ = ⟨[], [.len (varsV v xs).length]⟩)
theorem varsBody1 (v : Val) (hv : v.size ≤ 1048576) (ihL : ∀ x ∈ v.l, ∀ xs : List Str, xs.length + x.size ≤ 137438953472 → VarsC1 x xs) (ihM : ∀ x ∈ v.m, ∀ xs : List Str, xs.length + x.v.size ≤ 137438953472 → VarsC1 x.v xs) (xs : List Str) (hxs : xs.length + v.size ≤ 137438953472) :
    HCode Tryz.prog Tryz.f237.ntmps [] (bodyOf Tryz.f237) (fin [4] (fun e σ => e = .ret (.slice ((varsV v xs).map AV.str) (.own 0 1)) ∧ σ = ⟨[], [.len (varsV v xs).length]⟩))
      [(0, v.enc), (1, .slice (xs.map AV.str) (.own 0 1))] ⟨[], [.len xs.length]⟩ := by
  have hct := rHas xs v.s (by omega)
  have hwk : WeakL [.slice (xs.map AV.str) (.own 0 1), .str v.s] [.slice (xs.map AV.str) .no, .str v.s] := WeakL.cons (Weak.no (WeakL.refl _)) (WeakL.refl _)
  have hll := v.l_len
  have hml := v.m_len
  have hsp := v.size_parts
  rw [varsV_eq]
  by_cases k8 : v.kind = 8
  · have q8 : (v.kind == 8) = true := by simp [k8]
    have q6 : (v.kind == 6) = false := by simp [k8]
    have q7 : (v.kind == 7) = false := by simp [k8]
    rw [if_pos k8]
    unfold addNew
    by_cases c : v.s ∈ xs
    · rw [decide_eq_true c] at hct
      rw [if_pos c]
      repeat' first | refine .br ?_ | refine A.call rfl hct hwk ?_ | refine .s1 ?_ | (refine .q ?_ ?_ <;> intro hc) | fail
      refine HCode.forK v.l.length (fun k => [(5, .int .i64 k), (1, .slice (xs.map AV.str) (.own 0 1)), (2, .rptr v.enc)]) (fun _ => ⟨[], [.len xs.length]⟩) (fun _ => True) ⟨rfl, rfl, rfl, trivial⟩ rfl trivial fun k hk _ => ?_
      by_cases h1 : k < v.l.length
      · have d1 : decide ((k : Int) < (v.lv.length : Int)) = true := by rw [v.lv_len]; simp [h1]
        refine .go ?_
        refine HCode.forK v.m.length (fun k => [(6, .int .i64 k), (1, .slice (xs.map AV.str) (.own 0 1)), (2, .rptr v.enc)]) (fun _ => ⟨[], [.len xs.length]⟩) (fun _ => True) ⟨rfl, rfl, rfl, trivial⟩ rfl trivial fun j hj _ => ?_
        by_cases h2 : j < v.m.length
        · have d2 : decide ((j : Int) < (v.mv.length : Int)) = true := by rw [v.mv_len]; simp [h2]
          refine .go ?_
          exact ⟨rfl, rfl⟩
        · have d2 : decide ((j : Int) < (v.mv.length : Int)) = false := by rw [v.mv_len]; simp; omega
          refine .go ?_
          exact ⟨rfl, rfl⟩
      · have d1 : decide ((k : Int) < (v.lv.length : Int)) = false := by rw [v.lv_len]; simp; omega
        refine .go ?_
        refine HCode.forK v.m.length (fun k => [(6, .int .i64 k), (1, .slice (xs.map AV.str) (.own 0 1)), (2, .rptr v.enc)]) (fun _ => ⟨[], [.len xs.length]⟩) (fun _ => True) ⟨rfl, rfl, rfl, trivial⟩ rfl trivial fun j hj _ => ?_
        by_cases h2 : j < v.m.length
        · have d2 : decide ((j : Int) < (v.mv.length : Int)) = true := by rw [v.mv_len]; simp [h2]
          refine .go ?_
          exact ⟨rfl, rfl⟩
        · have d2 : decide ((j : Int) < (v.mv.length : Int)) = false := by rw [v.mv_len]; simp; omega
          refine .go ?_
          exact ⟨rfl, rfl⟩
    · rw [decide_eq_false c] at hct
      rw [if_neg c]
      repeat' first | refine .br ?_ | refine A.call rfl hct hwk ?_ | refine .s1 ?_ | (refine .q ?_ ?_ <;> intro hc) | refine A.append (n := xs.length) rfl rfl rfl rfl rfl rfl rfl rfl (List.length_map ..) rfl (by dsimp only [List.length_cons, List.length_nil]; omega) (by dsimp only [List.length_cons, List.length_nil]; omega) rfl ?_ | fail
      have e1 : xs.map AV.str ++ [.str v.s] = (xs ++ [v.s]).map AV.str := by rw [List.map_append]; rfl
      have e2 : xs.length + [AV.str v.s].length = (xs ++ [v.s]).length := by simp
      rw [e1, e2]
      refine HCode.forK v.l.length (fun k => [(5, .int .i64 k), (1, .slice ((xs ++ [v.s]).map AV.str) (.own 0 1)), (2, .rptr v.enc)]) (fun _ => ⟨[], [.len (xs ++ [v.s]).length]⟩) (fun _ => True) ⟨rfl, rfl, rfl, trivial⟩ rfl trivial fun k hk _ => ?_
      by_cases h1 : k < v.l.length
      · have d1 : decide ((k : Int) < (v.lv.length : Int)) = true := by rw [v.lv_len]; simp [h1]
        refine .go ?_
        refine HCode.forK v.m.length (fun k => [(6, .int .i64 k), (1, .slice ((xs ++ [v.s]).map AV.str) (.own 0 1)), (2, .rptr v.enc)]) (fun _ => ⟨[], [.len (xs ++ [v.s]).length]⟩) (fun _ => True) ⟨rfl, rfl, rfl, trivial⟩ rfl trivial fun j hj _ => ?_
        by_cases h2 : j < v.m.length
        · have d2 : decide ((j : Int) < (v.mv.length : Int)) = true := by rw [v.mv_len]; simp [h2]
          refine .go ?_
          exact ⟨rfl, rfl⟩
        · have d2 : decide ((j : Int) < (v.mv.length : Int)) = false := by rw [v.mv_len]; simp; omega
          refine .go ?_
          exact ⟨rfl, rfl⟩
      · have d1 : decide ((k : Int) < (v.lv.length : Int)) = false := by rw [v.lv_len]; simp; omega
        refine .go ?_
        refine HCode.forK v.m.length (fun k => [(6, .int .i64 k), (1, .slice ((xs ++ [v.s]).map AV.str) (.own 0 1)), (2, .rptr v.enc)]) (fun _ => ⟨[], [.len (xs ++ [v.s]).length]⟩) (fun _ => True) ⟨rfl, rfl, rfl, trivial⟩ rfl trivial fun j hj _ => ?_
        by_cases h2 : j < v.m.length
        · have d2 : decide ((j : Int) < (v.mv.length : Int)) = true := by rw [v.mv_len]; simp [h2]
          refine .go ?_
          exact ⟨rfl, rfl⟩
        · have d2 : decide ((j : Int) < (v.mv.length : Int)) = false := by rw [v.mv_len]; simp; omega
          refine .go ?_
          exact ⟨rfl, rfl⟩
  have q8 : (v.kind == 8) = false := by simp [k8]
  rw [if_neg k8]
  by_cases k6 : v.kind = 6
  · have q6 : (v.kind == 6) = true := by simp [k6]
    have q7 : (v.kind == 7) = false := by simp [k6]
    rw [if_pos k6]
    refine .gob ?_
    refine HCode.forK v.l.length (fun k => [(5, .int .i64 k), (1, .slice ((varsL (v.l.take k) xs).map AV.str) (.own 0 1)), (2, .rptr v.enc)]) (fun k => ⟨[], [.len (varsL (v.l.take k) xs).length]⟩) (fun _ => True) ⟨rfl, by rw [List.take_zero, varsL]; rfl, rfl, trivial⟩ (by rw [List.take_zero, varsL]) trivial fun k hk _ => ?_
    by_cases h1 : k < v.l.length
    · have d1 : decide ((k : Int) < (v.lv.length : Int)) = true := by rw [v.lv_len]; simp [h1]
      have x1 := Val.lv_get h1
      have hlen := varsL_len (v.l.take k) xs
      have hlt := sizeL_take v.l (k + 1)
      have hst := sizeL_succ h1
      have hcc := ihL v.l[k] (List.getElem_mem h1) (varsL (v.l.take k) xs) (by omega)
      rw [VarsC1, ← varsL_take h1] at hcc
      repeat' first | refine .s1 ?_ | (refine .q ?_ ?_ <;> intro hc) | refine A.callG2 0 rfl hcc rfl (str_closedL _) (str_closedL _) (Val.closed _) (Weak.refl _) rfl ?_ | fail
      exact ⟨h1, ⟨rfl, rfl, rfl, trivial⟩, by simp [belowS, AV.low], rfl, rfl, trivial⟩
    · have d1 : decide ((k : Int) < (v.lv.length : Int)) = false := by rw [v.lv_len]; simp; omega
      obtain rfl : k = v.l.length := by omega
      rw [List.take_length]
      refine .go ?_
      refine HCode.forK v.m.length (fun k => [(6, .int .i64 k), (1, .slice ((varsL v.l xs).map AV.str) (.own 0 1)), (2, .rptr v.enc)]) (fun _ => ⟨[], [.len (varsL v.l xs).length]⟩) (fun _ => True) ⟨rfl, rfl, rfl, trivial⟩ rfl trivial fun j hj _ => ?_
      by_cases h2 : j < v.m.length
      · have d2 : decide ((j : Int) < (v.mv.length : Int)) = true := by rw [v.mv_len]; simp [h2]
        refine .go ?_
        exact ⟨rfl, rfl⟩
      · have d2 : decide ((j : Int) < (v.mv.length : Int)) = false := by rw [v.mv_len]; simp; omega
        refine .go ?_
        exact ⟨rfl, rfl⟩
  have q6 : (v.kind == 6) = false := by simp [k6]
  rw [if_neg k6]
  by_cases k7 : v.kind = 7
  · have q7 : (v.kind == 7) = true := by simp [k7]
    rw [if_pos k7]
    refine .gob ?_
    refine HCode.forK v.l.length (fun k => [(5, .int .i64 k), (1, .slice (xs.map AV.str) (.own 0 1)), (2, .rptr v.enc)]) (fun _ => ⟨[], [.len xs.length]⟩) (fun _ => True) ⟨rfl, rfl, rfl, trivial⟩ rfl trivial fun k hk _ => ?_
    by_cases h1 : k < v.l.length
    · have d1 : decide ((k : Int) < (v.lv.length : Int)) = true := by rw [v.lv_len]; simp [h1]
      refine .go ?_
      refine HCode.forK v.m.length (fun k => [(6, .int .i64 k), (1, .slice ((varsM (v.m.take k) xs).map AV.str) (.own 0 1)), (2, .rptr v.enc)]) (fun k => ⟨[], [.len (varsM (v.m.take k) xs).length]⟩) (fun _ => True) ⟨rfl, by rw [List.take_zero, varsM]; rfl, rfl, trivial⟩ (by rw [List.take_zero, varsM]) trivial fun j hj _ => ?_
      by_cases h2 : j < v.m.length
      · have d2 : decide ((j : Int) < (v.mv.length : Int)) = true := by rw [v.mv_len]; simp [h2]
        have x2 := Val.mv_get h2
        have hlen := varsM_len (v.m.take j) xs
        have hlt := sizeM_take v.m (j + 1)
        have hst := sizeM_succ h2
        have hcc := ihM v.m[j] (List.getElem_mem h2) (varsM (v.m.take j) xs) (by omega)
        rw [VarsC1, ← varsM_take h2] at hcc
        repeat' first | refine .s1 ?_ | (refine .q ?_ ?_ <;> intro hc) | refine A.callG2 0 rfl hcc rfl (str_closedL _) (str_closedL _) (Val.closed _) (Weak.refl _) rfl ?_ | fail
        exact ⟨h2, ⟨rfl, rfl, rfl, trivial⟩, by simp [belowS, AV.low], rfl, rfl, trivial⟩
      · have d2 : decide ((j : Int) < (v.mv.length : Int)) = false := by rw [v.mv_len]; simp; omega
        obtain rfl : j = v.m.length := by omega
        rw [List.take_length]
        refine .go ?_
        exact ⟨rfl, rfl⟩
    · have d1 : decide ((k : Int) < (v.lv.length : Int)) = false := by rw [v.lv_len]; simp; omega
      refine .go ?_
      refine HCode.forK v.m.length (fun k => [(6, .int .i64 k), (1, .slice ((varsM (v.m.take k) xs).map AV.str) (.own 0 1)), (2, .rptr v.enc)]) (fun k => ⟨[], [.len (varsM (v.m.take k) xs).length]⟩) (fun _ => True) ⟨rfl, by rw [List.take_zero, varsM]; rfl, rfl, trivial⟩ (by rw [List.take_zero, varsM]) trivial fun j hj _ => ?_
      by_cases h2 : j < v.m.length
      · have d2 : decide ((j : Int) < (v.mv.length : Int)) = true := by rw [v.mv_len]; simp [h2]
        have x2 := Val.mv_get h2
        have hlen := varsM_len (v.m.take j) xs
        have hlt := sizeM_take v.m (j + 1)
        have hst := sizeM_succ h2
        have hcc := ihM v.m[j] (List.getElem_mem h2) (varsM (v.m.take j) xs) (by omega)
        rw [VarsC1, ← varsM_take h2] at hcc
        repeat' first | refine .s1 ?_ | (refine .q ?_ ?_ <;> intro hc) | refine A.callG2 0 rfl hcc rfl (str_closedL _) (str_closedL _) (Val.closed _) (Weak.refl _) rfl ?_ | fail
        exact ⟨h2, ⟨rfl, rfl, rfl, trivial⟩, by simp [belowS, AV.low], rfl, rfl, trivial⟩
      · have d2 : decide ((j : Int) < (v.mv.length : Int)) = false := by rw [v.mv_len]; simp; omega
        obtain rfl : j = v.m.length := by omega
        rw [List.take_length]
        refine .go ?_
        exact ⟨rfl, rfl⟩
  have q7 : (v.kind == 7) = false := by simp [k7]
  rw [if_neg k7]
  refine .gob ?_
  refine HCode.forK v.l.length (fun k => [(5, .int .i64 k), (1, .slice (xs.map AV.str) (.own 0 1)), (2, .rptr v.enc)]) (fun _ => ⟨[], [.len xs.length]⟩) (fun _ => True) ⟨rfl, rfl, rfl, trivial⟩ rfl trivial fun k hk _ => ?_
  by_cases h1 : k < v.l.length
  · have d1 : decide ((k : Int) < (v.lv.length : Int)) = true := by rw [v.lv_len]; simp [h1]
    refine .go ?_
    refine HCode.forK v.m.length (fun k => [(6, .int .i64 k), (1, .slice (xs.map AV.str) (.own 0 1)), (2, .rptr v.enc)]) (fun _ => ⟨[], [.len xs.length]⟩) (fun _ => True) ⟨rfl, rfl, rfl, trivial⟩ rfl trivial fun j hj _ => ?_
    by_cases h2 : j < v.m.length
    · have d2 : decide ((j : Int) < (v.mv.length : Int)) = true := by rw [v.mv_len]; simp [h2]
      refine .go ?_
      exact ⟨rfl, rfl⟩
    · have d2 : decide ((j : Int) < (v.mv.length : Int)) = false := by rw [v.mv_len]; simp; omega
      refine .go ?_
      exact ⟨rfl, rfl⟩
  · have d1 : decide ((k : Int) < (v.lv.length : Int)) = false := by rw [v.lv_len]; simp; omega
    refine .go ?_
    refine HCode.forK v.m.length (fun k => [(6, .int .i64 k), (1, .slice (xs.map AV.str) (.own 0 1)), (2, .rptr v.enc)]) (fun _ => ⟨[], [.len xs.length]⟩) (fun _ => True) ⟨rfl, rfl, rfl, trivial⟩ rfl trivial fun j hj _ => ?_
    by_cases h2 : j < v.m.length
    · have d2 : decide ((j : Int) < (v.mv.length : Int)) = true := by rw [v.mv_len]; simp [h2]
      refine .go ?_
      exact ⟨rfl, rfl⟩
    · have d2 : decide ((j : Int) < (v.mv.length : Int)) = false := by rw [v.mv_len]; simp; omega
      refine .go ?_
      exact ⟨rfl, rfl⟩
theorem vVarsC1 : ∀ N : Nat, N ≤ 1048576 → ∀ v : Val, v.size ≤ N → ∀ xs : List Str, xs.length + v.size ≤ 137438953472 → VarsC1 v xs
  | 0, _, v, hv => absurd hv (by have := v.size_pos; omega)
  | N + 1, hN, v, hv => fun xs hxs => by
    have ih := vVarsC1 N (by omega)
    have hb := varsBody1 v (by omega) (fun x hx ys hy => ih x (by
      obtain ⟨k, hk, rfl⟩ := List.getElem_of_mem hx
      have := Val.size_l hk; omega) ys hy) (fun x hx ys hy => ih x.v (by
      obtain ⟨k, hk, rfl⟩ := List.getElem_of_mem hx
      have := Val.size_m hk; omega) ys hy) xs hxs
    exact AFn.en [4] Tryz.func237 hb
theorem rVars (v : Val) (hv : v.size ≤ 1048576) : PFn Tryz.prog 225 [v.enc] (.slice ((varsV v []).map AV.str) .no) := by
  have hn : PFn Tryz.prog 237 [v.enc, .slice [] .nil] (.slice ((varsV v []).map AV.str) .no) := by
    have hb := varsBody1 v hv (fun x hx ys hy => vVarsC1 1048576 (Nat.le_refl _) x (by
      obtain ⟨k, hk, rfl⟩ := List.getElem_of_mem hx
      have := Val.size_l hk; omega) ys hy) (fun x hx ys hy => vVarsC1 1048576 (Nat.le_refl _) x.v (by
      obtain ⟨k, hk, rfl⟩ := List.getElem_of_mem hx
      have := Val.size_m hk; omega) ys hy) [] (by simp only [List.length_nil]; omega)
    refine AFn.plain (by simp [AV.closed, str_closedL]) (by simp [AV.closed, AV.closedL, Val.closed]) (AFn.en [4] Tryz.func237 ?_)
    refine HCode.adopt 1 false 1 rfl rfl rfl rfl rfl rfl ?_
    refine HCode.weaken (s := [(0, v.enc), (1, .slice [] (.own 0 1))]) (hb.mono fun e s σ h => ?_) ⟨rfl, rfl, trivial⟩
    cases e with
    | normal => exact ⟨_, h.1, Weak.no (WeakL.refl _)⟩
    | ret => exact ⟨_, h.1, Weak.no (WeakL.refl _)⟩
    | pan x => exact absurd h.1 (by simp)
    | exit id => exact h
    | goto l => exact h
  refine AFn.plain (by simp [AV.closed, str_closedL]) (by simp [AV.closed, AV.closedL, Val.closed]) (AFn.en [2] Tryz.func225 ?_)
  refine .gob ?_
  exact Fin.r0
theorem rDepth : ∀ N : Nat, N ≤ 1048576 → ∀ v : Val, v.size ≤ N → PFn Tryz.prog 224 [v.enc] (.int .i64 (depV v))
  | 0, _, v, hv => absurd hv (by have := v.size_pos; omega)
  | N + 1, hN, v, hv => by
    have ih := rDepth N (by omega)
    have hll := v.l_len
    have hml := v.m_len
    have hsp := v.size_parts
    have hd1 := depL_le v.l
    have hd2 := depM_le v.m
    refine AFn.plain rfl (by simp [AV.closedL, Val.closed]) (AFn.en [2] Tryz.func224 ?_)
    rw [depV_eq]
    by_cases k6 : v.kind = 6
    · have q6 : (v.kind == 6) = true := by simp [k6]
      rw [if_pos k6]
      refine .gob ?_
      refine HCode.forK v.l.length (fun k => [(4, .int .i64 k), (3, .int .i64 (depL (v.l.take k) : Nat)), (1, .rptr v.enc)]) (fun k => ⟨[], []⟩) (fun _ => True) ⟨rfl, rfl, rfl, trivial⟩ rfl trivial fun k hk _ => ?_
      by_cases h1 : k < v.l.length
      · have d1 : decide ((k : Int) < (v.lv.length : Int)) = true := by rw [v.lv_len]; simp [h1]
        have x1 := Val.lv_get h1
        have hc := ih v.l[k] (by have := Val.size_l h1; omega)
        have hm := max_int (depL (v.l.take k)) (depV v.l[k])
        rw [← depL_take h1] at hm
        repeat' first | refine .s1 ?_ | (refine .q ?_ ?_ <;> intro hc) | refine A.max2 rfl rfl hm ?_ | fail
        exact ⟨h1, ⟨rfl, rfl, rfl, trivial⟩, by simp [belowS, AV.low], rfl, rfl, trivial⟩
      · have d1 : decide ((k : Int) < (v.lv.length : Int)) = false := by rw [v.lv_len]; simp; omega
        obtain rfl : k = v.l.length := by omega
        rw [List.take_length]
        refine .go ?_
        exact Fin.ret1 rfl (Weak.eq (congrArg (AV.int .i64) (by omega)))
    · have q6 : (v.kind == 6) = false := by simp [k6]
      rw [if_neg k6]
      by_cases k7 : v.kind = 7
      · have q7 : (v.kind == 7) = true := by simp [k7]
        rw [if_pos k7]
        refine .gob ?_
        refine HCode.forK v.m.length (fun k => [(5, .int .i64 k), (3, .int .i64 (depM (v.m.take k) : Nat)), (1, .rptr v.enc)]) (fun k => ⟨[], []⟩) (fun _ => True) ⟨rfl, rfl, rfl, trivial⟩ rfl trivial fun k hk _ => ?_
        by_cases h1 : k < v.m.length
        · have d1 : decide ((k : Int) < (v.mv.length : Int)) = true := by rw [v.mv_len]; simp [h1]
          have x1 := Val.mv_get h1
          have hc := ih v.m[k].v (by have := Val.size_m h1; omega)
          have hm := max_int (depM (v.m.take k)) (depV v.m[k].v)
          rw [← depM_take h1] at hm
          repeat' first | refine .s1 ?_ | (refine .q ?_ ?_ <;> intro hc) | refine A.max2 rfl rfl hm ?_ | fail
          exact ⟨h1, ⟨rfl, rfl, rfl, trivial⟩, by simp [belowS, AV.low], rfl, rfl, trivial⟩
        · have d1 : decide ((k : Int) < (v.mv.length : Int)) = false := by rw [v.mv_len]; simp; omega
          obtain rfl : k = v.m.length := by omega
          rw [List.take_length]
          refine .go ?_
          exact Fin.ret1 rfl (Weak.eq (congrArg (AV.int .i64) (by omega)))
      · have q7 : (v.kind == 7) = false := by simp [k7]
        rw [if_neg k7]
        refine .gob ?_
        exact Fin.r0
mutual
def nmdV : Val → Bool
  | .mk _ _ _ l m => nmdL l && nmdM m
def nmdL : List Val → Bool
  | [] => true
  | v :: l => nmdV v && nmdL l
def nmdM : List Mem → Bool
  | [] => true
  | .mk n v :: m => (nameB n && nmdV v) && nmdM m
end
theorem nmdL_eq : ∀ l : List Val, nmdL l = l.all nmdV
  | [] => by rw [nmdL]; rfl
  | v :: l => by rw [nmdL, List.all_cons, nmdL_eq l]
theorem nmdM_eq : ∀ m : List Mem, nmdM m = m.all fun x => nameB x.name && nmdV x.v
  | [] => by rw [nmdM]; rfl
  | .mk n v :: m => by rw [nmdM, List.all_cons, nmdM_eq m]; rfl
theorem nmdV_eq (v : Val) : nmdV v = (v.l.all nmdV && v.m.all fun x => nameB x.name && nmdV x.v) := by
  cases v; rw [nmdV, nmdL_eq, nmdM_eq]; rfl
theorem nmC_small1 : ∀ (s : Str) (z : Bool), nmC z s = true → ∀ c ∈ s, c.toNat < 128
  | [], _, _, c, hc => by cases hc
  | a :: r, z, h, c, hc => by
    rw [nmC, Bool.and_eq_true] at h
    rcases List.mem_cons.1 hc with rfl | hc
    · have := h.1
      unfold letC digC at this
      simp only [Bool.or_eq_true, Bool.and_eq_true, decide_eq_true_eq] at this
      omega
    · exact nmC_small1 r false h.2 c hc
theorem good_nameB1 {s : Str} (h : nameB s = true) : good s = true := by
  unfold nameB at h
  rw [Bool.and_eq_true] at h
  unfold good
  rw [Lib.validD_ascii s.length s (fun b hb => nmC_small1 s true h.1 b (List.mem_of_mem_take hb)), List.drop_length]; rfl
mutual
theorem plain_V : ∀ v : Val, (allV good v && nmdV v) = allV nameB v
  | .mk k n str l m => by
    have hL := plain_L l
    have hM := plain_M m
    rw [allV, allV, nmdV]
    by_cases k6 : k = 6
    · rw [if_pos k6, if_pos k6, ← hL]
      cases m with
      | nil => rw [nmdM]; cases allL good l <;> cases nmdL l <;> simp
      | cons a m => simp
    · rw [if_neg k6, if_neg k6]
      by_cases k7 : k = 7
      · rw [if_pos k7, if_pos k7, ← hM]
        cases l with
        | nil => rw [nmdL]; cases allM good m <;> cases nmdM m <;> simp
        | cons a l => simp
      · rw [if_neg k7, if_neg k7]
        have : singleB (.mk k n str l m) = true → l = [] ∧ m = [] := fun h => by
          unfold singleB at h
          simp only [Bool.and_eq_true, decide_eq_true_eq] at h
          exact ⟨List.eq_nil_of_length_eq_zero h.1.1, List.eq_nil_of_length_eq_zero h.1.2⟩
        cases hs : singleB (.mk k n str l m) with
        | false => rfl
        | true => obtain ⟨rfl, rfl⟩ := this hs; rw [nmdL, nmdM]; rfl
theorem plain_L : ∀ l : List Val, (allL good l && nmdL l) = allL nameB l
  | [] => by rw [allL, allL, nmdL]; rfl
  | v :: l => by
    rw [allL, allL, nmdL, ← plain_V v, ← plain_L l]
    cases allV good v <;> cases allL good l <;> cases nmdV v <;> cases nmdL l <;> rfl
theorem plain_M : ∀ m : List Mem, (allM good m && nmdM m) = allM nameB m
  | [] => by rw [allM, allM, nmdM]; rfl
  | .mk n v :: m => by
    rw [allM, allM, nmdM, ← plain_V v, ← plain_M m]
    have := @good_nameB1 n
    cases hn : nameB n with
    | false => cases good n <;> cases allV good v <;> cases allM good m <;> cases nmdV v <;> cases nmdM m <;> rfl
    | true =>
      rw [this hn]
      cases allV good v <;> cases allM good m <;> cases nmdV v <;> cases nmdM m <;> rfl
end
theorem rNamed : ∀ N : Nat, N ≤ 1048576 → ∀ v : Val, v.size ≤ N → PFn Tryz.prog 236 [v.enc] (.bool (nmdV v))
  | 0, _, v, hv => absurd hv (by have := v.size_pos; omega)
  | N + 1, hN, v, hv => by
    have ih := rNamed N (by omega)
    have hll := v.l_len
    have hml := v.m_len
    refine AFn.plain rfl (by simp [AV.closedL, Val.closed]) (AFn.en [2] Tryz.func236 ?_)
    rw [nmdV_eq]
    refine .gob ?_
    refine HCode.forK v.l.length (fun k => [(3, .int .i64 k), (1, .rptr v.enc)]) (fun _ => ⟨[], []⟩) (fun k => (v.l.take k).all nmdV = true) ⟨rfl, rfl, trivial⟩ rfl (by simp) fun k hk hp => ?_
    by_cases h1 : k < v.l.length
    · have d1 : decide ((k : Int) < (v.lv.length : Int)) = true := by rw [v.lv_len]; simp [h1]
      have x1 := Val.lv_get h1
      have hc := ih v.l[k] (by have := Val.size_l h1; omega)
      have hnx := all_next (p := nmdV) h1 hp
      have hsp := all_stop (p := nmdV) h1
      cases c : nmdV v.l[k] <;> rw [c] at hc hnx hsp
      · have ha : v.l.all nmdV = false := hsp rfl
        rw [ha, Bool.false_and]
        refine .go ?_
        exact Fin.r0
      · have hj' := hnx rfl
        refine .go ?_
        exact ⟨h1, ⟨rfl, rfl, trivial⟩, by simp [belowS, AV.low], rfl, rfl, hj'⟩
    · have d1 : decide ((k : Int) < (v.lv.length : Int)) = false := by rw [v.lv_len]; simp; omega
      obtain rfl : k = v.l.length := by omega
      rw [List.take_length] at hp
      rw [hp, Bool.true_and]
      refine .go ?_
      refine HCode.forK v.m.length (fun k => [(4, .int .i64 k), (1, .rptr v.enc)]) (fun _ => ⟨[], []⟩) (fun k => (v.m.take k).all (fun x => nameB x.name && nmdV x.v) = true) ⟨rfl, rfl, trivial⟩ rfl (by simp) fun j hj hq => ?_
      by_cases h2 : j < v.m.length
      · have d2 : decide ((j : Int) < (v.mv.length : Int)) = true := by rw [v.mv_len]; simp [h2]
        have x2 := Val.mv_get h2
        have hz := sumSize_mem (size := Mem.size) (List.getElem_mem h2)
        have hz2 : v.m[j].size = v.m[j].name.length + 2 + v.m[j].v.size := rfl
        have hz3 := v.size_eq
        have hc := ih v.m[j].v (by have := Val.size_m h2; omega)
        have hn := rName v.m[j].name (by omega)
        have hnx := all_next (p := fun x => nameB x.name && nmdV x.v) h2 hq
        have hsp := all_stop (p := fun x => nameB x.name && nmdV x.v) h2
        try dsimp only at hnx hsp
        cases c0 : nameB v.m[j].name <;> rw [c0] at hn hnx hsp
        · have ha : v.m.all (fun x => nameB x.name && nmdV x.v) = false := hsp rfl
          rw [ha]
          refine .go ?_
          exact Fin.r0
        cases c1 : nmdV v.m[j].v <;> rw [c1] at hc hnx hsp
        · have ha : v.m.all (fun x => nameB x.name && nmdV x.v) = false := hsp rfl
          rw [ha]
          refine .go ?_
          exact Fin.r0
        · have hj' := hnx rfl
          refine .go ?_
          exact ⟨h2, ⟨rfl, rfl, trivial⟩, by simp [belowS, AV.low], rfl, rfl, hj'⟩
      · have d2 : decide ((j : Int) < (v.mv.length : Int)) = false := by rw [v.mv_len]; simp; omega
        obtain rfl : j = v.m.length := by omega
        rw [List.take_length] at hq
        rw [hq]
        refine .go ?_
        exact Fin.r0
theorem rPlain (v : Val) (hv : v.size ≤ 1048576) : PFn Tryz.prog 223 [v.enc] (.bool (plainV v)) := by
  have h1 := rGoodValue v.size hv v (Nat.le_refl _)
  have h2 := rDepth v.size hv v (Nat.le_refl _)
  have h3 := rNamed v.size hv v (Nat.le_refl _)
  have hd : decide (depV v ≤ 16) = decide ((depV v : Int) ≤ 16) := by simp only [decide_eq_decide]; omega
  refine AFn.plain rfl (by simp [AV.closedL, Val.closed]) (AFn.en [2] Tryz.func223 ?_)
  unfold plainV
  rw [← plain_V v, hd]
  cases c1 : allV good v <;> rw [c1] at h1
  · refine .gob ?_
    exact Fin.r0
  cases c2 : decide ((depV v : Int) ≤ 16)
  · refine .gob ?_
    refine Fin.rb ?_
    cases nmdV v <;> rfl
  cases c3 : nmdV v <;> rw [c3] at h3
  all_goals
    refine .gob ?_
    exact Fin.r0
theorem rValue6 (v : Val) (hv : v.size ≤ 1048576) : PFn Tryz.prog 211 [v.enc, .int .i64 0, .bool true] (.bool (valFix v)) := by
  have h1 := rPlain v hv
  have h2 := rDepth v.size hv v (Nat.le_refl _)
  have h3 := rVars v hv
  have hdl := depV_le v
  refine AFn.plain rfl (by simp [AV.closedL, AV.closed, Val.closed]) (AFn.en [6] Tryz.func211 ?_)
  unfold valFix
  cases c1 : plainV v <;> rw [c1] at h1
  · refine .gob ?_
    exact Fin.r0
  have hd : decide ((0 : Int) + (depV v : Int) ≤ 16) = true := by
    unfold plainV at c1
    simp only [Bool.and_eq_true, decide_eq_true_eq] at c1
    exact decide_eq_true (by omega)
  have he : (((varsV v []).length : Int) == 0) = decide (varsV v [] = []) := by
    rw [Bool.eq_iff_iff, beq_iff_eq, decide_eq_true_eq, ← List.length_eq_zero_iff]; omega
  cases c3 : decide (varsV v [] = []) <;> rw [c3] at he
  all_goals
    refine .gob ?_
    exact Fin.ret1 rfl (Weak.eq (congrArg AV.bool he))
theorem rDefault6 (p : Par) (hp : p.d.size ≤ 1048576) : PFn Tryz.prog 187 [.bool p.has, p.d.enc] (.bool (dfltOk p)) := by
  have h1 := rValue6 p.d hp
  have h2 := sameAny p.d val0
  refine AFn.plain rfl (by simp [AV.closedL, AV.closed, Val.closed]) (AFn.en [4] Tryz.func187 ?_)
  unfold dfltOk
  cases c1 : p.has
  · repeat' first | refine .br ?_ | refine .s1 ?_ | (refine .q ?_ ?_ <;> intro hc) | refine A.call rfl h2 (WeakL.cons (Weak.refl _) (WeakL.cons weak_flatV (WeakL.refl _))) ?_ | fail
    exact Fin.r0
  · refine .gob ?_
    exact Fin.r0
theorem rNames6 (l : List Str) (hl : strsSize l ≤ 1048576) : PFn Tryz.prog 159 [.slice (l.map AV.str) .no] (.bool (l.all (nameB))) := by
  have hlen := sumSize_length (size := fun x : Str => x.length + 1) (fun _ => by omega) l
  unfold strsSize at hl
  refine AFn.plain rfl (by simp [AV.closed, AV.closedL, str_closedL]) (AFn.en [2] Tryz.func159 ?_)
  refine .go ?_
  refine HCode.forK l.length (fun k => [(3, .int .i64 k), (0, .slice (l.map AV.str) .no)]) (fun _ => ⟨[], []⟩) (fun k => (l.take k).all (nameB) = true) ⟨rfl, rfl, trivial⟩ rfl (by simp) fun k hk hj => ?_
  by_cases h1 : k < l.length
  · have d1 : decide ((k : Int) < (l.length : Int)) = true := by simp [h1]
    have x1 := map_get' (f := AV.str) h1
    have hnx := all_next (p := nameB) h1 hj
    have hsp := all_stop (p := nameB) h1
    have h0 := rName l[k] (by have := sumSize_mem (size := fun x : Str => x.length + 1) (List.getElem_mem h1); omega)
    try dsimp only at hnx hsp
    cases c0 : nameB l[k] <;> rw [c0] at h0 hnx hsp
    · have ha : l.all (nameB) = false := hsp (by simp)
      rw [ha]
      refine .go ?_
      exact Fin.r0
    have hj' := hnx (by simp)
    refine .go ?_
    exact ⟨h1, ⟨rfl, rfl, trivial⟩, by simp [belowS, AV.low, AV.low_of_closed, Sch.closed, Dfn.closed, Fld.closed], rfl, rfl, hj'⟩
  · have d1 : decide ((k : Int) < (l.length : Int)) = false := by simp; omega
    obtain rfl : k = l.length := by omega
    rw [List.take_length] at hj
    rw [hj]
    refine .go ?_
    exact Fin.r0
theorem rMembers6 (l : List Mem) (hl : sumSize Mem.size l ≤ 1048576) (ho : ∀ m ∈ l, m.ok) : PFn Tryz.prog 210 [.slice (l.map Mem.enc) .no, .int .i64 0, .bool true] (.bool (l.all (fun x => nameB x.name && valFix x.v))) := by
  have hlen := sumSize_length Mem.size_pos l
  refine AFn.plain rfl (by simp [AV.closed, AV.closedL, Mem.closedL]) (AFn.en [6] Tryz.func210 ?_)
  refine .go ?_
  refine HCode.forK l.length (fun k => [(7, .int .i64 k), (0, .slice (l.map Mem.enc) .no), (1, .int .i64 0), (2, .bool true)]) (fun _ => ⟨[], []⟩) (fun k => (l.take k).all (fun x => nameB x.name && valFix x.v) = true) ⟨rfl, rfl, rfl, rfl, trivial⟩ rfl (by simp) fun k hk hj => ?_
  by_cases h1 : k < l.length
  · have d1 : decide ((k : Int) < (l.length : Int)) = true := by simp [h1]
    have x1 := map_get' (f := Mem.enc) h1
    have hnx := all_next (p := fun x => nameB x.name && valFix x.v) h1 hj
    have hsp := all_stop (p := fun x => nameB x.name && valFix x.v) h1
    have hz := sumSize_mem (size := Mem.size) (List.getElem_mem h1)
    have hz2 : l[k].size = l[k].name.length + 2 + l[k].v.size := rfl
    have h0 := rName l[k].name (by omega)
    have h2 := rValue6 l[k].v (by omega)
    try dsimp only at hnx hsp
    cases c0 : nameB l[k].name <;> rw [c0] at h0 hnx hsp
    · have ha : l.all (fun x => nameB x.name && valFix x.v) = false := hsp (by simp)
      rw [ha]
      refine .go ?_
      exact Fin.r0
    cases c1 : valFix l[k].v <;> rw [c1] at h2 hnx hsp
    · have ha : l.all (fun x => nameB x.name && valFix x.v) = false := hsp (by simp)
      rw [ha]
      refine .go ?_
      exact Fin.r0
    have hj' := hnx (by simp)
    refine .go ?_
    exact ⟨h1, ⟨rfl, rfl, rfl, rfl, trivial⟩, by simp [belowS, AV.low, AV.low_of_closed, Sch.closed, Dfn.closed, Fld.closed], rfl, rfl, hj'⟩
  · have d1 : decide ((k : Int) < (l.length : Int)) = false := by simp; omega
    obtain rfl : k = l.length := by omega
    rw [List.take_length] at hj
    rw [hj]
    refine .go ?_
    exact Fin.r0
theorem rDirs6 (l : List Dirc) (hl : sumSize Dirc.size l ≤ 1048576) (ho : ∀ d ∈ l, d.ok) : PFn Tryz.prog 186 [.slice (l.map Dirc.enc) .no, .int .i64 0, .bool true] (.bool (l.all (fun d => nameB d.name && argsOk d.args))) := by
  have hlen := sumSize_length Dirc.size_pos l
  refine AFn.plain rfl (by simp [AV.closed, AV.closedL, Dirc.closedL]) (AFn.en [6] Tryz.func186 ?_)
  refine .go ?_
  refine HCode.forK l.length (fun k => [(7, .int .i64 k), (0, .slice (l.map Dirc.enc) .no), (1, .int .i64 0), (2, .bool true)]) (fun _ => ⟨[], []⟩) (fun k => (l.take k).all (fun d => nameB d.name && argsOk d.args) = true) ⟨rfl, rfl, rfl, rfl, trivial⟩ rfl (by simp) fun k hk hj => ?_
  by_cases h1 : k < l.length
  · have d1 : decide ((k : Int) < (l.length : Int)) = true := by simp [h1]
    have x1 := map_get' (f := Dirc.enc) h1
    have hnx := all_next (p := fun d => nameB d.name && argsOk d.args) h1 hj
    have hsp := all_stop (p := fun d => nameB d.name && argsOk d.args) h1
    have hz := sumSize_mem (size := Dirc.size) (List.getElem_mem h1)
    have hz2 : l[k].size = l[k].name.length + sumSize Mem.size l[k].args + 3 := rfl
    have h0 := rName l[k].name (by omega)
    have h2 := rMembers6 l[k].args (by omega) (ho _ (List.getElem_mem h1))
    change PFn _ _ _ (.bool (argsOk l[k].args)) at h2
    try dsimp only at hnx hsp
    cases c0 : nameB l[k].name <;> rw [c0] at h0 hnx hsp
    · have ha : l.all (fun d => nameB d.name && argsOk d.args) = false := hsp (by simp)
      rw [ha]
      refine .go ?_
      exact Fin.r0
    cases c1 : argsOk l[k].args <;> rw [c1] at h2 hnx hsp
    · have ha : l.all (fun d => nameB d.name && argsOk d.args) = false := hsp (by simp)
      rw [ha]
      refine .go ?_
      exact Fin.r0
    have hj' := hnx (by simp)
    refine .go ?_
    exact ⟨h1, ⟨rfl, rfl, rfl, rfl, trivial⟩, by simp [belowS, AV.low, AV.low_of_closed, Sch.closed, Dfn.closed, Fld.closed], rfl, rfl, hj'⟩
  · have d1 : decide ((k : Int) < (l.length : Int)) = false := by simp; omega
    obtain rfl : k = l.length := by omega
    rw [List.take_length] at hj
    rw [hj]
    refine .go ?_
    exact Fin.r0
theorem rParams6 (l : List Par) (hl : sumSize Par.size l ≤ 1048576) : PFn Tryz.prog 161 [.slice (l.map Par.enc) .no] (.bool (l.all (fun p => nameB p.name && (rightT p.t && dfltOk p)))) := by
  have hlen := sumSize_length Par.size_pos l
  refine AFn.plain rfl (by simp [AV.closed, AV.closedL, Par.closedL]) (AFn.en [2] Tryz.func161 ?_)
  refine .go ?_
  refine HCode.forK l.length (fun k => [(3, .int .i64 k), (0, .slice (l.map Par.enc) .no)]) (fun _ => ⟨[], []⟩) (fun k => (l.take k).all (fun p => nameB p.name && (rightT p.t && dfltOk p)) = true) ⟨rfl, rfl, trivial⟩ rfl (by simp) fun k hk hj => ?_
  by_cases h1 : k < l.length
  · have d1 : decide ((k : Int) < (l.length : Int)) = true := by simp [h1]
    have x1 := map_get' (f := Par.enc) h1
    have hnx := all_next (p := fun p => nameB p.name && (rightT p.t && dfltOk p)) h1 hj
    have hsp := all_stop (p := fun p => nameB p.name && (rightT p.t && dfltOk p)) h1
    have hz := sumSize_mem (size := Par.size) (List.getElem_mem h1)
    have hz2 := l[k].lens
    have h0 := rName l[k].name (by omega)
    have h2 := rRightType l[k].t (by omega)
    have h3 := rDefault6 l[k] (by omega)
    try dsimp only at hnx hsp
    cases c0 : nameB l[k].name <;> rw [c0] at h0 hnx hsp
    · have ha : l.all (fun p => nameB p.name && (rightT p.t && dfltOk p)) = false := hsp (by simp)
      rw [ha]
      refine .go ?_
      exact Fin.r0
    cases c1 : rightT l[k].t <;> rw [c1] at h2 hnx hsp
    · have ha : l.all (fun p => nameB p.name && (rightT p.t && dfltOk p)) = false := hsp (by simp)
      rw [ha]
      refine .go ?_
      exact Fin.r0
    cases c2 : dfltOk l[k] <;> rw [c2] at h3 hnx hsp
    · have ha : l.all (fun p => nameB p.name && (rightT p.t && dfltOk p)) = false := hsp (by simp)
      rw [ha]
      refine .go ?_
      exact Fin.r0
    have hj' := hnx (by simp)
    refine .go ?_
    exact ⟨h1, ⟨rfl, rfl, trivial⟩, by simp [belowS, AV.low, AV.low_of_closed, Sch.closed, Dfn.closed, Fld.closed], rfl, rfl, hj'⟩
  · have d1 : decide ((k : Int) < (l.length : Int)) = false := by simp; omega
    obtain rfl : k = l.length := by omega
    rw [List.take_length] at hj
    rw [hj]
    refine .go ?_
    exact Fin.r0
theorem rFields6 (l : List Fld) (hl : sumSize Fld.size l ≤ 1048576) (ho : ∀ f ∈ l, f.ok) : PFn Tryz.prog 160 [.slice (l.map Fld.enc) .no] (.bool (l.all (fun f => nameB f.name && (f.params.all parOk && (rightT f.t && f.dirs.all dirOk))))) := by
  have hlen := sumSize_length (size := Fld.size) (fun f => by unfold Fld.size; omega) l
  refine AFn.plain rfl (by simp [AV.closed, AV.closedL, Fld.closedL]) (AFn.en [2] Tryz.func160 ?_)
  refine .go ?_
  refine HCode.forK l.length (fun k => [(3, .int .i64 k), (0, .slice (l.map Fld.enc) .no)]) (fun _ => ⟨[], []⟩) (fun k => (l.take k).all (fun f => nameB f.name && (f.params.all parOk && (rightT f.t && f.dirs.all dirOk))) = true) ⟨rfl, rfl, trivial⟩ rfl (by simp) fun k hk hj => ?_
  by_cases h1 : k < l.length
  · have d1 : decide ((k : Int) < (l.length : Int)) = true := by simp [h1]
    have x1 := map_get' (f := Fld.enc) h1
    have hnx := all_next (p := fun f => nameB f.name && (f.params.all parOk && (rightT f.t && f.dirs.all dirOk))) h1 hj
    have hsp := all_stop (p := fun f => nameB f.name && (f.params.all parOk && (rightT f.t && f.dirs.all dirOk))) h1
    have hz := sumSize_mem (size := Fld.size) (List.getElem_mem h1)
    have hz2 := l[k].sums
    have h0 := rName l[k].name (by omega)
    have h2 := rParams6 l[k].params (by omega)
    change PFn _ _ _ (.bool (l[k].params.all parOk)) at h2
    have h3 := rRightType l[k].t (by omega)
    have h4 := rDirs6 l[k].dirs (by omega) (ho _ (List.getElem_mem h1)).2
    change PFn _ _ _ (.bool (l[k].dirs.all dirOk)) at h4
    try dsimp only at hnx hsp
    cases c0 : nameB l[k].name <;> rw [c0] at h0 hnx hsp
    · have ha : l.all (fun f => nameB f.name && (f.params.all parOk && (rightT f.t && f.dirs.all dirOk))) = false := hsp (by simp)
      rw [ha]
      refine .go ?_
      exact Fin.r0
    cases c1 : l[k].params.all parOk <;> rw [c1] at h2 hnx hsp
    · have ha : l.all (fun f => nameB f.name && (f.params.all parOk && (rightT f.t && f.dirs.all dirOk))) = false := hsp (by simp)
      rw [ha]
      refine .go ?_
      exact Fin.r0
    cases c2 : rightT l[k].t <;> rw [c2] at h3 hnx hsp
    · have ha : l.all (fun f => nameB f.name && (f.params.all parOk && (rightT f.t && f.dirs.all dirOk))) = false := hsp (by simp)
      rw [ha]
      refine .go ?_
      exact Fin.r0
    cases c3 : l[k].dirs.all dirOk <;> rw [c3] at h4 hnx hsp
    · have ha : l.all (fun f => nameB f.name && (f.params.all parOk && (rightT f.t && f.dirs.all dirOk))) = false := hsp (by simp)
      rw [ha]
      refine .go ?_
      exact Fin.r0
    have hj' := hnx (by simp)
    refine .go ?_
    exact ⟨h1, ⟨rfl, rfl, trivial⟩, by simp [belowS, AV.low, AV.low_of_closed, Sch.closed, Dfn.closed, Fld.closed], rfl, rfl, hj'⟩
  · have d1 : decide ((k : Int) < (l.length : Int)) = false := by simp; omega
    obtain rfl : k = l.length := by omega
    rw [List.take_length] at hj
    rw [hj]
    refine .go ?_
    exact Fin.r0
def rdefB (d : Dfn) : Bool := (nameB d.name && (d.faces.all nameB && (d.fields.all fldOk && (d.parts.all nameB && d.params.all parOk)))) &&
  (if d.kind = 1 ∨ d.kind = 2 then decide (d.fields ≠ []) && decide (d.parts = [] ∧ d.params = [])
   else if d.kind = 3 then decide (d.parts ≠ []) && decide (d.faces = [] ∧ d.fields = [] ∧ d.params = [])
   else if d.kind = 4 then (decide (d.parts ≠ []) && decide (d.faces = [] ∧ d.fields = [] ∧ d.params = [])) && (!decide (sTrue ∈ d.parts) && (!decide (sFalse ∈ d.parts) && !decide (sNull ∈ d.parts)))
   else if d.kind = 5 then decide (d.params ≠ []) && decide (d.faces = [] ∧ d.fields = [] ∧ d.parts = [])
   else false)
theorem all_part (l : List Str) : l.all partOk = (l.all nameB && (!decide (sTrue ∈ l) && (!decide (sFalse ∈ l) && !decide (sNull ∈ l)))) := by
  induction l with
  | nil => simp
  | cons x l ih =>
    rw [List.all_cons, List.all_cons, ih]
    unfold partOk
    have e : ∀ y : Str, decide (y ∈ x :: l) = (x == y || decide (y ∈ l)) := fun y => by
      rw [Bool.eq_iff_iff, decide_eq_true_eq, List.mem_cons, Bool.or_eq_true, beq_iff_eq, decide_eq_true_eq]
      exact or_congr eq_comm Iff.rfl
    rw [e, e, e]
    unfold bne
    cases (x == sTrue) <;> cases (x == sFalse) <;> cases (x == sNull) <;> cases nameB x <;> cases l.all nameB <;> cases decide (sTrue ∈ l) <;> cases decide (sFalse ∈ l) <;> cases decide (sNull ∈ l) <;> rfl
theorem rdef_eq (d : Dfn) : rdefB d = dfnOk d := by
  unfold rdefB dfnOk
  by_cases k1 : d.kind = 1 ∨ d.kind = 2
  · rw [if_pos k1, if_pos k1]
    by_cases c : d.parts = [] ∧ d.params = []
    · rw [c.1, c.2]; cases nameB d.name <;> cases d.faces.all nameB <;> cases d.fields.all fldOk <;> cases decide (d.fields ≠ []) <;> rfl
    · rw [decide_eq_false c]; simp
  rw [if_neg k1, if_neg k1]
  by_cases k3 : d.kind = 3
  · rw [if_pos k3, if_pos k3]
    by_cases c : d.faces = [] ∧ d.fields = [] ∧ d.params = []
    · rw [c.1, c.2.1, c.2.2]; cases nameB d.name <;> cases d.parts.all nameB <;> cases decide (d.parts ≠ []) <;> rfl
    · rw [decide_eq_false c]; simp
  rw [if_neg k3, if_neg k3]
  by_cases k4 : d.kind = 4
  · rw [if_pos k4, if_pos k4, all_part]
    by_cases c : d.faces = [] ∧ d.fields = [] ∧ d.params = []
    · rw [c.1, c.2.1, c.2.2]
      generalize (!decide (sTrue ∈ d.parts) && (!decide (sFalse ∈ d.parts) && !decide (sNull ∈ d.parts))) = z
      cases nameB d.name <;> cases d.parts.all nameB <;> cases decide (d.parts ≠ []) <;> cases z <;> rfl
    · rw [decide_eq_false c]; simp
  rw [if_neg k4, if_neg k4]
  by_cases k5 : d.kind = 5
  · rw [if_pos k5, if_pos k5]
    by_cases c : d.faces = [] ∧ d.fields = [] ∧ d.parts = []
    · rw [c.1, c.2.1, c.2.2]; cases nameB d.name <;> cases d.params.all parOk <;> cases decide (d.params ≠ []) <;> rfl
    · rw [decide_eq_false c]; simp
  rw [if_neg k5, if_neg k5, Bool.and_false]
theorem len0 {α : Type} (l : List α) : ((l.length : Int) == 0) = decide (l = []) := by
  rw [Bool.eq_iff_iff, beq_iff_eq, decide_eq_true_eq, ← List.length_eq_zero_iff]; omega
theorem len1 {α : Type} (l : List α) : decide ((0 : Int) < (l.length : Int)) = decide (l ≠ []) := by
  rw [decide_eq_decide, ne_eq, ← List.length_eq_zero_iff]; omega
theorem rDef6 (d : Dfn) (hd : d.size ≤ 1048576) (ho : d.ok) : PFn Tryz.prog 125 [d.enc] (.bool (dfnOk d)) := by
  have hs := d.sums
  have hl := d.lens
  have h1 := rName d.name (by omega)
  have h2 := rNames6 d.faces (by omega)
  have h3 := rFields6 d.fields (by omega) ho.1
  change PFn _ _ _ (.bool (d.fields.all fldOk)) at h3
  have h4 := rNames6 d.parts (by omega)
  have h5 := rParams6 d.params (by omega)
  change PFn _ _ _ (.bool (d.params.all parOk)) at h5
  have t1 := rHas d.parts sTrue (by omega)
  have t2 := rHas d.parts sFalse (by omega)
  have t3 := rHas d.parts sNull (by omega)
  refine AFn.plain rfl (by simp [AV.closed, AV.closedL, Dfn.closed]) (AFn.en [2] Tryz.func125 ?_)
  rw [← rdef_eq]
  unfold rdefB
  cases c1 : nameB d.name <;> rw [c1] at h1
  · refine .gob ?_
    exact Fin.r0
  cases c2 : d.faces.all nameB <;> rw [c2] at h2
  · refine .gob ?_
    exact Fin.r0
  cases c3 : d.fields.all fldOk <;> rw [c3] at h3
  · refine .gob ?_
    exact Fin.r0
  cases c4 : d.parts.all nameB <;> rw [c4] at h4
  · refine .gob ?_
    exact Fin.r0
  cases c5 : d.params.all parOk <;> rw [c5] at h5
  · repeat' first | refine .br ?_ | refine .s1 ?_ | (refine .q ?_ ?_ <;> intro hc) | fail
    exact Fin.r0
  rw [show ((true && (true && (true && (true && true)))) : Bool) = true from rfl, Bool.true_and]
  have l1 := len0 d.faces
  have l2 := len0 d.fields
  have l3 := len0 d.parts
  have l4 := len0 d.params
  have m2 := len1 d.fields
  have m3 := len1 d.parts
  have m4 := len1 d.params
  by_cases k1 : d.kind = 1
  · have q1 : (d.kind == 1) = true := by simp [k1]
    rw [if_pos (.inl k1)]
    repeat' first | refine .br ?_ | refine .s1 ?_ | (refine .q ?_ ?_ <;> intro hc) | fail
    all_goals
      refine Fin.rb ?_
      simp_all
  have q1 : (d.kind == 1) = false := by simp [k1]
  by_cases k2 : d.kind = 2
  · have q2 : (d.kind == 2) = true := by simp [k2]
    rw [if_pos (.inr k2)]
    repeat' first | refine .br ?_ | refine .s1 ?_ | (refine .q ?_ ?_ <;> intro hc) | fail
    all_goals
      refine Fin.rb ?_
      simp_all
  have q2 : (d.kind == 2) = false := by simp [k2]
  rw [if_neg (by omega)]
  by_cases k3 : d.kind = 3
  · have q3 : (d.kind == 3) = true := by simp [k3]
    rw [if_pos k3]
    repeat' first | refine .br ?_ | refine .s1 ?_ | (refine .q ?_ ?_ <;> intro hc) | fail
    all_goals
      refine Fin.rb ?_
      simp_all
  have q3 : (d.kind == 3) = false := by simp [k3]
  rw [if_neg k3]
  by_cases k4 : d.kind = 4
  · have q4 : (d.kind == 4) = true := by simp [k4]
    rw [if_pos k4]
    repeat' first | refine .br ?_ | refine .s1 ?_ | (refine .q ?_ ?_ <;> intro hc) | fail
    all_goals
      refine Fin.rb ?_
      simp_all
  have q4 : (d.kind == 4) = false := by simp [k4]
  rw [if_neg k4]
  by_cases k5 : d.kind = 5
  · have q5 : (d.kind == 5) = true := by simp [k5]
    rw [if_pos k5]
    repeat' first | refine .br ?_ | refine .s1 ?_ | (refine .q ?_ ?_ <;> intro hc) | fail
    all_goals
      refine Fin.rb ?_
      simp_all
  have q5 : (d.kind == 5) = false := by simp [k5]
  rw [if_neg k5]
  refine .gob ?_
  exact Fin.r0
theorem rRightSchema (s : Sch) (hs : s.size ≤ 1048576) (ho : s.ok) : PFn Tryz.prog 85 [s.enc] (.bool (sdlOk s)) := by
  have hl := s.len
  have hss : s.size = sumSize Dfn.size s.defs + s.query.length + s.mutation.length + 4 := rfl
  have h1 := rName s.query (by omega)
  have h2 := rName s.mutation (by omega)
  refine AFn.plain rfl (by simp [AV.closed, AV.closedL, Sch.closed]) (AFn.en [2] Tryz.func85 ?_)
  unfold sdlOk
  refine .gob ?_
  refine HCode.forK s.defs.length (fun k => [(3, .int .i64 k), (1, .rptr s.enc)]) (fun _ => ⟨[], []⟩) (fun k => (s.defs.take k).all dfnOk = true) ⟨rfl, rfl, trivial⟩ rfl (by simp) fun k hk hj => ?_
  by_cases e1 : k < s.defs.length
  · have d1 : decide ((k : Int) < (s.defs.length : Int)) = true := by simp [e1]
    have x1 := map_get' (f := Dfn.enc) e1
    have hnx := all_next (p := dfnOk) e1 hj
    have hsp := all_stop (p := dfnOk) e1
    have hd := rDef6 s.defs[k] (by have := Sch.dfn (List.getElem_mem e1); omega) (ho _ (List.getElem_mem e1))
    cases c0 : dfnOk s.defs[k] <;> rw [c0] at hd hnx hsp
    · have ha : s.defs.all dfnOk = false := hsp rfl
      rw [ha, Bool.and_false, Bool.and_false]
      refine .gob ?_
      exact Fin.r0
    have hj' := hnx rfl
    refine .gob ?_
    exact ⟨e1, ⟨rfl, rfl, trivial⟩, by simp [belowS, AV.low, AV.low_of_closed, Sch.closed], rfl, rfl, hj'⟩
  · have d1 : decide ((k : Int) < (s.defs.length : Int)) = false := by simp; omega
    obtain rfl : k = s.defs.length := by omega
    rw [List.take_length] at hj
    rw [hj, Bool.and_true]
    cases c1 : nameB s.query <;> rw [c1] at h1
    · refine .gob ?_
      exact Fin.r0
    cases c2 : (s.mutation == [])
    all_goals
      refine .gob ?_
      exact Fin.r0
theorem kindB3 (s : Sch) (n : Str) (a b : Int) : kindB s n [a, b, b] = kindB s n [a, b] := by unfold kindB; congr 1; rw [decide_eq_decide]; simp
theorem kindB1 (s : Sch) (n : Str) (a : Int) : kindB s n [a, a, a] = kindB s n [a] := by unfold kindB; congr 1; rw [decide_eq_decide]; simp
theorem rIs9 (s : Sch) (name : Str) (a b c : Int) (hs : s.size ≤ 1048576) : PFn Tryz.prog 51 [s.enc, .str name, .int .i64 a, .int .i64 b, .int .i64 c] (.bool (kindB s name [a, b, c])) := by
  have hf := rFind9 s name hs
  refine AFn.plain rfl (by simp [AV.closed, AV.closedL, Sch.closed]) (AFn.en [10] Tryz.func51 ?_)
  unfold kindB
  generalize findR s name = r at *
  obtain ⟨d, ok⟩ := r
  dsimp only at *
  repeat' first | refine .br ?_ | refine .s1 ?_ | (refine .q ?_ ?_ <;> intro hc) | fail
  all_goals
    refine Fin.rb ?_
    first | (simp_all; done) | (simp_all; rw [Bool.eq_iff_iff]; simp)
theorem rLeaf9 (s : Sch) (name : Str) (hs : s.size ≤ 1048576) : PFn Tryz.prog 23 [s.enc, .str name] (.bool (leafB s name)) := by
  have h := rIs9 s name 0 4 4 hs
  rw [kindB3] at h
  refine AFn.plain rfl (by simp [AV.closed, AV.closedL, Sch.closed]) (AFn.en [4] Tryz.func23 ?_)
  refine .gob ?_
  exact Fin.r0
theorem rComposite9 (s : Sch) (name : Str) (hs : s.size ≤ 1048576) : PFn Tryz.prog 52 [s.enc, .str name] (.bool (compB s name)) := by
  have h := rIs9 s name 1 2 3 hs
  skip
  refine AFn.plain rfl (by simp [AV.closed, AV.closedL, Sch.closed]) (AFn.en [4] Tryz.func52 ?_)
  refine .gob ?_
  exact Fin.r0
theorem rEntry9 (s : Sch) (name : Str) (hs : s.size ≤ 1048576) : PFn Tryz.prog 128 [s.enc, .str name] (.bool (entryB s name)) := by
  have h := rIs9 s name 0 4 5 hs
  skip
  refine AFn.plain rfl (by simp [AV.closed, AV.closedL, Sch.closed]) (AFn.en [4] Tryz.func128 ?_)
  refine .gob ?_
  exact Fin.r0
theorem rObject9 (s : Sch) (name : Str) (hs : s.size ≤ 1048576) : PFn Tryz.prog 42 [s.enc, .str name] (.bool (kindB s name [1])) := by
  have h := rIs9 s name 1 1 1 hs
  rw [kindB1] at h
  refine AFn.plain rfl (by simp [AV.closed, AV.closedL, Sch.closed]) (AFn.en [4] Tryz.func42 ?_)
  refine .gob ?_
  exact Fin.r0
theorem rInner9 (s : Str) (hs : s.length ≤ 9223372036854775807) : PFn Tryz.prog 127 [.str s] (.bool (own2 s)) := by
  refine AFn.plain rfl rfl (AFn.en [2] Tryz.func127 ?_)
  unfold own2
  by_cases h : 2 ≤ s.length
  · have d1 : decide ((2 : Int) ≤ (s.length : Int)) = true := decide_eq_true (by omega)
    repeat' first | refine .s1 ?_ | (refine .q ?_ ?_ <;> intro hc) | refine A.slice_s 0 2 rfl rfl rfl rfl rfl rfl rfl (Nat.zero_le _) h (List.drop_zero ..) ?_ | fail
    exact Fin.r0
  · have d1 : decide ((2 : Int) ≤ (s.length : Int)) = false := decide_eq_false (by omega)
    refine .go ?_
    refine Fin.rb ?_
    rw [eq_comm, beq_eq_false_iff_ne]
    intro e
    have := congrArg List.length e
    rw [List.length_take] at this
    simp only [List.length_cons, List.length_nil] at this
    omega
theorem rTwice9 (l : List Str) (hl : l.length ≤ 68719476736) : PFn Tryz.prog 89 [.slice (l.map AV.str) .no] (.bool (!onceB l)) := by
  refine AFn.plain rfl (by simp [AV.closed, AV.closedL, str_closedL]) (AFn.en [2] Tryz.func89 ?_)
  unfold onceB
  refine .go ?_
  refine HCode.forK l.length (fun k => [(3, .int .i64 k), (0, .slice (l.map AV.str) .no)]) (fun _ => ⟨[], []⟩) (fun k => (l.take k).Nodup) ⟨rfl, rfl, trivial⟩ rfl (by simp) fun k hk hp => ?_
  by_cases h1 : k < l.length
  · have d1 : decide ((k : Int) < (l.length : Int)) = true := by simp [h1]
    have x1 := map_get' (f := AV.str) h1
    have ht := once_take h1
    refine .go ?_
    refine HCode.forK k (fun j => [(4, .int .i64 j), (3, .int .i64 k), (0, .slice (l.map AV.str) .no)]) (fun _ => ⟨[], []⟩) (fun j => l[k] ∉ l.take j) ⟨rfl, rfl, rfl, trivial⟩ rfl (by simp) fun j hj hq => ?_
    by_cases h2 : j < k
    · have d2 : decide ((j : Int) < (k : Int)) = true := by simp [h2]
      have h3 : j < l.length := by omega
      have x2 := map_get' (f := AV.str) h3
      by_cases c : l[k] = l[j]
      · have q : (l[k] == l[j]) = true := by simp [c]
        have hno : ¬ l.Nodup := fun hn => by
          have h4 := (hn.sublist (List.take_sublist (k + 1) l))
          rw [ht] at h4
          exact h4.2 (c ▸ List.mem_take_iff_getElem.2 ⟨j, by omega, rfl⟩)
        rw [decide_eq_false hno]
        refine .go ?_
        exact Fin.r0
      · have q : (l[k] == l[j]) = false := by simp [c]
        refine .go ?_
        exact ⟨h2, ⟨rfl, rfl, rfl, trivial⟩, by simp [belowS, AV.low], rfl, rfl, by rw [List.take_succ_eq_append_getElem h3, List.mem_append, List.mem_singleton]; exact fun h => h.elim hq c⟩
    · have d2 : decide ((j : Int) < (k : Int)) = false := by simp; omega
      obtain rfl : j = k := by omega
      refine .go ?_
      exact ⟨h1, ⟨rfl, rfl, trivial⟩, by simp [belowS, AV.low], rfl, rfl, ht.2 ⟨hp, hq⟩⟩
  · have d1 : decide ((k : Int) < (l.length : Int)) = false := by simp; omega
    obtain rfl : k = l.length := by omega
    rw [List.take_length] at hp
    rw [decide_eq_true hp]
    refine .go ?_
    exact Fin.r0
theorem rOwn9 (l : List Str) (hl : strsSize l ≤ 68719476736) : PFn Tryz.prog 86 [.slice (l.map AV.str) .no] (.bool (goodNames l)) := by
  have hlen : l.length ≤ 68719476736 := by have := sumSize_length (size := fun s : Str => s.length + 1) (fun _ => by omega) l; unfold strsSize at hl; omega
  have ht := rTwice9 l hlen
  refine AFn.plain rfl (by simp [AV.closed, AV.closedL, str_closedL]) (AFn.en [2] Tryz.func86 ?_)
  unfold goodNames foreignB
  refine .go ?_
  refine HCode.forK l.length (fun k => [(3, .int .i64 k), (0, .slice (l.map AV.str) .no)]) (fun _ => ⟨[], []⟩) (fun k => (l.take k).any own2 = false) ⟨rfl, rfl, trivial⟩ rfl (by simp) fun k hk hp => ?_
  by_cases h1 : k < l.length
  · have d1 : decide ((k : Int) < (l.length : Int)) = true := by simp [h1]
    have x1 := map_get' (f := AV.str) h1
    have hi := rInner9 l[k] (by have := sumSize_mem (size := fun s : Str => s.length + 1) (List.getElem_mem h1); unfold strsSize at hl; omega)
    have hst : (l.take (k + 1)).any own2 = ((l.take k).any own2 || own2 l[k]) := by rw [List.take_succ_eq_append_getElem h1, List.any_append]; simp
    cases c : own2 l[k] <;> rw [c] at hi
    · refine .go ?_
      exact ⟨h1, ⟨rfl, rfl, trivial⟩, by simp [belowS, AV.low], rfl, rfl, by rw [hst, hp, c]; rfl⟩
    · have ha : l.any own2 = true := List.any_eq_true.2 ⟨_, List.getElem_mem h1, c⟩
      rw [ha, Bool.not_true, Bool.and_false]
      refine .go ?_
      exact Fin.r0
  · have d1 : decide ((k : Int) < (l.length : Int)) = false := by simp; omega
    obtain rfl : k = l.length := by omega
    rw [List.take_length] at hp
    rw [hp, Bool.not_false, Bool.and_true]
    refine .go ?_
    refine Fin.rb ?_
    exact Bool.not_not _
theorem rDefNames9 (s : Sch) (hs : s.size ≤ 1048576) : PFn Tryz.prog 83 [s.enc] (.slice ((s.defs.map Dfn.name).map AV.str) .no) := by
  have hl := s.len
  refine AFn.plain (by simp [AV.closed, str_closedL, -List.map_map]) (by simp [AV.closed, AV.closedL, Sch.closed]) (AFn.en [2] Tryz.func83 ?_)
  repeat' first | refine .br ?_ | refine .s1 ?_ | (refine .q ?_ ?_ <;> intro hc) | fail
  refine HCode.adopt 3 false 1 rfl rfl rfl rfl rfl rfl ?_
  refine HCode.forK s.defs.length (fun k => [(4, .int .i64 k), (1, .rptr s.enc),(3, .slice (((s.defs.take k).map Dfn.name).map AV.str) (.own 0 1))]) (fun k => ⟨[], [.len k]⟩) (fun _ => True) ⟨rfl, rfl, rfl, trivial⟩ rfl trivial fun k hk _ => ?_
  have htl : (((s.defs.take k).map Dfn.name).map AV.str).length = k := by simp; omega
  by_cases h1 : k < s.defs.length
  · have d1 : decide ((k : Int) < (s.defs.length : Int)) = true := by simp [h1]
    have x1 := map_get' (f := Dfn.enc) h1
    repeat' first | refine .s1 ?_ | (refine .q ?_ ?_ <;> intro hc) | refine A.append (n := k) rfl rfl rfl rfl rfl rfl rfl rfl htl rfl (by dsimp only [List.length_cons, List.length_nil]; omega) (by dsimp only [List.length_cons, List.length_nil]; omega) rfl ?_ | fail
    exact ⟨h1, ⟨rfl, rfl, by rw [List.take_succ_eq_append_getElem h1, List.map_append, List.map_append]; rfl, trivial⟩, by simp [-List.map_take, -List.map_map, belowS, AV.low, AV.low_of_closed, Sch.closed], by simp [belowB, belowT, Ob.low, Tok.low], rfl, trivial⟩
  · have d1 : decide ((k : Int) < (s.defs.length : Int)) = false := by simp; omega
    obtain rfl : k = s.defs.length := by omega
    rw [List.take_length]
    refine .go ?_
    exact Fin.ret1 rfl (Weak.no (WeakL.refl _))
theorem rParNames9 (l : List Par) (hl : l.length ≤ 68719476736) : PFn Tryz.prog 88 [.slice (l.map Par.enc) .no] (.slice ((l.map Par.name).map AV.str) .no) := by
  skip
  refine AFn.plain (by simp [AV.closed, str_closedL, -List.map_map]) (by simp [AV.closed, AV.closedL, Par.closedL]) (AFn.en [2] Tryz.func88 ?_)
  repeat' first | refine .s1 ?_ | (refine .q ?_ ?_ <;> intro hc) | fail
  refine HCode.adopt 3 false 1 rfl rfl rfl rfl rfl rfl ?_
  refine HCode.forK l.length (fun k => [(4, .int .i64 k), (0, .slice (l.map Par.enc) .no),(3, .slice (((l.take k).map Par.name).map AV.str) (.own 0 1))]) (fun k => ⟨[], [.len k]⟩) (fun _ => True) ⟨rfl, rfl, rfl, trivial⟩ rfl trivial fun k hk _ => ?_
  have htl : (((l.take k).map Par.name).map AV.str).length = k := by simp; omega
  by_cases h1 : k < l.length
  · have d1 : decide ((k : Int) < (l.length : Int)) = true := by simp [h1]
    have x1 := map_get' (f := Par.enc) h1
    repeat' first | refine .s1 ?_ | (refine .q ?_ ?_ <;> intro hc) | refine A.append (n := k) rfl rfl rfl rfl rfl rfl rfl rfl htl rfl (by dsimp only [List.length_cons, List.length_nil]; omega) (by dsimp only [List.length_cons, List.length_nil]; omega) rfl ?_ | fail
    exact ⟨h1, ⟨rfl, rfl, by rw [List.take_succ_eq_append_getElem h1, List.map_append, List.map_append]; rfl, trivial⟩, by simp [-List.map_take, -List.map_map, belowS, AV.low, AV.low_of_closed, Sch.closed], by simp [belowB, belowT, Ob.low, Tok.low], rfl, trivial⟩
  · have d1 : decide ((k : Int) < (l.length : Int)) = false := by simp; omega
    obtain rfl : k = l.length := by omega
    rw [List.take_length]
    refine .go ?_
    exact Fin.ret1 rfl (Weak.no (WeakL.refl _))
theorem rFldNames9 (l : List Fld) (hl : l.length ≤ 68719476736) : PFn Tryz.prog 87 [.slice (l.map Fld.enc) .no] (.slice ((l.map Fld.name).map AV.str) .no) := by
  skip
  refine AFn.plain (by simp [AV.closed, str_closedL, -List.map_map]) (by simp [AV.closed, AV.closedL, Fld.closedL]) (AFn.en [2] Tryz.func87 ?_)
  repeat' first | refine .s1 ?_ | (refine .q ?_ ?_ <;> intro hc) | fail
  refine HCode.adopt 3 false 1 rfl rfl rfl rfl rfl rfl ?_
  refine HCode.forK l.length (fun k => [(4, .int .i64 k), (0, .slice (l.map Fld.enc) .no),(3, .slice (((l.take k).map Fld.name).map AV.str) (.own 0 1))]) (fun k => ⟨[], [.len k]⟩) (fun _ => True) ⟨rfl, rfl, rfl, trivial⟩ rfl trivial fun k hk _ => ?_
  have htl : (((l.take k).map Fld.name).map AV.str).length = k := by simp; omega
  by_cases h1 : k < l.length
  · have d1 : decide ((k : Int) < (l.length : Int)) = true := by simp [h1]
    have x1 := map_get' (f := Fld.enc) h1
    repeat' first | refine .s1 ?_ | (refine .q ?_ ?_ <;> intro hc) | refine A.append (n := k) rfl rfl rfl rfl rfl rfl rfl rfl htl rfl (by dsimp only [List.length_cons, List.length_nil]; omega) (by dsimp only [List.length_cons, List.length_nil]; omega) rfl ?_ | fail
    exact ⟨h1, ⟨rfl, rfl, by rw [List.take_succ_eq_append_getElem h1, List.map_append, List.map_append]; rfl, trivial⟩, by simp [-List.map_take, -List.map_map, belowS, AV.low, AV.low_of_closed, Sch.closed], by simp [belowB, belowT, Ob.low, Tok.low], rfl, trivial⟩
  · have d1 : decide ((k : Int) < (l.length : Int)) = false := by simp; omega
    obtain rfl : k = l.length := by omega
    rw [List.take_length]
    refine .go ?_
    exact Fin.ret1 rfl (Weak.no (WeakL.refl _))
end Go.Proofs.YtmfmdehfbpkgdaaGreatDoor
