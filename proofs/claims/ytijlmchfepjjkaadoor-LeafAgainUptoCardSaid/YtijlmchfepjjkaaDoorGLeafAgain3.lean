/-
  The package value: bare, single, all, Good.
  The package value: all, Good.
  The package value: Get, Int, Text.
  What the packages wrap, defs, literal compute, in plain words; plain laws of it.
-/
import Derived.Test.YtijlmchfepjjkaaDoorGLeafAgain2
import Derived.Test.YtijlmchfepjjkaaDoorGLeafAgain1
namespace Go.Proofs.YtijlmchfepjjkaaDoor
open Go Go.Av
set_option maxRecDepth 100000
set_option maxHeartbeats 8000000
set_option linter.unusedVariables false
set_option linter.unusedSimpArgs false
attribute [local irreducible] HCode AOps PFn AFn Av.Step TStep

theorem vbare (k n : Int) (s : Str) (xs ys : List AV) (t1 t2 : Tk) (hx : (AV.slice xs t1).closed = true) (hy : (AV.slice ys t2).closed = true) :
    PFn Tryd.prog 106 [.agg [.int .i64 k, .int .i64 n, .str s, .slice xs t1, .slice ys t2]] (.bool (n == 0 && s == [] && decide (xs.length = 0) && decide (ys.length = 0))) := by
  refine AFn.plain rfl (by simp only [AV.closedL, AV.closed] at hx hy ⊢; rw [hx, hy]; rfl) (AFn.enter [2] Tryd.func106 rfl rfl rfl rfl rfl (by decide) ?_)
  repeat' first
    | refine A.box_r rfl rfl ?_
    | refine .seq ?_ | refine .rg ?_ | refine .rd ?_ | refine .block ?_ | refine .scope ?_ | refine .skip ?_ | refine .label ?_ | refine .exit ?_ | refine .ret ?_
    | refine .ct ?_ | refine .cf ?_ | refine .cy ?_ | refine .cn ?_ | (refine .cond rfl ?_ ?_ <;> intro hc)
    | refine A.nil_seq ?_ | refine .nl ?_ | refine .dd ?_ | refine .ys ?_ | refine .no ?_ | (refine A.guard rfl ?_ ?_ <;> intro hc)
    | refine .lb ?_ | refine .ln ?_ | refine .ls ?_ | refine .pv ?_ | refine .ix ?_ | refine .pt ?_ | refine .pf ?_ | refine .bx ?_ | refine .al ?_ | refine .st ?_ | refine .ad ?_ | refine .sb ?_ | refine .mf ?_ | refine .cl ?_ | refine .cw ?_ | refine .ck ?_ | fail
  all_goals
    refine Fin.ret1 rfl (Weak.eq (congrArg AV.bool ?_))
    rw [Bool.eq_iff_iff]
    simp_all
def singleB (v : Val) : Bool := decide (v.l.length = 0) && decide (v.m.length = 0) &&
  (if v.kind = 0 then v.n == 0 && v.s == [] else if v.kind = 1 then (v.n == 0 || v.n == 1) && v.s == [] else if v.kind = 2 then v.s == [] else if v.kind = 3 then v.n == 0 && numB v.s
    else if v.kind = 4 then v.n == 0 && good v.s else if v.kind = 5 then v.n == 0 && nameB v.s && !resB v.s else if v.kind = 8 then v.n == 0 && nameB v.s else false)
theorem vsingle (v : Val) (hv : v.size ≤ 2097152) : PFn Tryd.prog 105 [v.enc] (.bool (singleB v)) := by
  refine AFn.plain rfl (by simp [AV.closedL, Val.closed]) (AFn.enter [2] Tryd.func105 rfl rfl rfl rfl rfl (by decide) ?_)
  have hsz := v.size_eq
  have hb := vbare v.kind 0 [] v.lv v.mv .no .no (by simp only [AV.closed, v.lv_closed]; rfl) (by simp only [AV.closed, v.mv_closed]; rfl)
  have h3 := vnum v.s (by omega)
  have h4 := lgood v.s (by omega)
  have h5 := lName v.s (by omega)
  have h6 := vreserved v.s
  rw [v.lv_len, v.mv_len] at hb
  have h0 : ((0 : Int) == 0 && ([] : Str) == [] && decide (v.l.length = 0) && decide (v.m.length = 0)) = (decide (v.l.length = 0) && decide (v.m.length = 0)) := by simp
  rw [h0] at hb
  unfold singleB
  by_cases c0 : (decide (v.l.length = 0) && decide (v.m.length = 0)) = true
  · have e0 : (!(decide (v.l.length = 0) && decide (v.m.length = 0))) = false := by rw [c0]; rfl
    rw [c0]
    repeat' first
      | refine A.box_r rfl rfl ?_
      | refine .seq ?_ | refine .rg ?_ | refine .rd ?_ | refine .block ?_ | refine .scope ?_ | refine .skip ?_ | refine .label ?_ | refine .exit ?_ | refine .ret ?_
      | refine .ct ?_ | refine .cf ?_ | refine .cy ?_ | refine .cn ?_ | (refine .cond rfl ?_ ?_ <;> intro hc)
      | refine A.nil_seq ?_ | refine .nl ?_ | refine .dd ?_ | refine .ys ?_ | refine .no ?_ | (refine A.guard rfl ?_ ?_ <;> intro hc)
      | refine .lb ?_ | refine .ln ?_ | refine .ls ?_ | refine .pv ?_ | refine .ix ?_ | refine .pt ?_ | refine .pf ?_ | refine .bx ?_ | refine .al ?_ | refine .st ?_ | refine .ad ?_ | refine .sb ?_ | refine .mf ?_ | refine .cl ?_ | refine .cw ?_ | refine .ck ?_
      | refine A.call rfl hb (WeakL.refl _) ?_ | refine A.call rfl h3 (WeakL.refl _) ?_ | refine A.call rfl h4 (WeakL.refl _) ?_ | refine A.call rfl h5 (WeakL.refl _) ?_ | refine A.call rfl h6 (WeakL.refl _) ?_ | fail
    all_goals
      refine Fin.ret1 rfl (Weak.eq (congrArg AV.bool ?_))
      simp_all
  · have c0' : (decide (v.l.length = 0) && decide (v.m.length = 0)) = false := by simpa using c0
    have e0 : (!(decide (v.l.length = 0) && decide (v.m.length = 0))) = true := by rw [c0']; rfl
    rw [c0']
    repeat' first
      | refine A.box_r rfl rfl ?_
      | refine .seq ?_ | refine .rg ?_ | refine .rd ?_ | refine .block ?_ | refine .scope ?_ | refine .skip ?_ | refine .label ?_ | refine .exit ?_ | refine .ret ?_
      | refine .ct ?_ | refine .cf ?_ | refine .cy ?_ | refine .cn ?_ | (refine .cond rfl ?_ ?_ <;> intro hc)
      | refine A.nil_seq ?_ | refine .nl ?_ | refine .dd ?_ | refine .ys ?_ | refine .no ?_ | (refine A.guard rfl ?_ ?_ <;> intro hc)
      | refine .lb ?_ | refine .ln ?_ | refine .ls ?_ | refine .pv ?_ | refine .ix ?_ | refine .pt ?_ | refine .pf ?_ | refine .bx ?_ | refine .al ?_ | refine .st ?_ | refine .ad ?_ | refine .sb ?_ | refine .mf ?_ | refine .cl ?_ | refine .cw ?_ | refine .ck ?_
      | refine A.call rfl hb (WeakL.refl _) ?_ | fail
    refine Fin.ret1 rfl (Weak.eq (congrArg AV.bool ?_))
    rfl
end Go.Proofs.YtijlmchfepjjkaaDoor
namespace Go.Proofs.YtijlmchfepjjkaaDoor
open Go Go.Av
set_option maxRecDepth 100000
set_option maxHeartbeats 8000000
set_option linter.unusedVariables false
set_option linter.unusedSimpArgs false
attribute [local irreducible] HCode AOps PFn AFn Av.Step TStep

section
variable (g : Str → Bool)
mutual
def allV : Val → Bool
  | .mk k n s l m => if k = 6 then allL l && (n == 0 && s == [] && decide (m.length = 0)) else if k = 7 then allM m && (n == 0 && s == [] && decide (l.length = 0)) else singleB (.mk k n s l m)
def allL : List Val → Bool
  | [] => true
  | v :: l => allV v && allL l
def allM : List Mem → Bool
  | [] => true
  | .mk n v :: l => (g n && allV v) && allM l
end
theorem allV_eq (v : Val) : allV g v = if v.kind = 6 then allL g v.l && (v.n == 0 && v.s == [] && decide (v.m.length = 0)) else if v.kind = 7 then allM g v.m && (v.n == 0 && v.s == [] && decide (v.l.length = 0)) else singleB v := by
  cases v; rw [allV]; rfl
theorem allL_drop {l : List Val} {k : Nat} (h : k < l.length) : allL g (l.drop k) = (allV g l[k] && allL g (l.drop (k + 1))) := by
  rw [List.drop_eq_getElem_cons h, allL]
theorem allM_drop {l : List Mem} {k : Nat} (h : k < l.length) : allM g (l.drop k) = ((g l[k].name && allV g l[k].v) && allM g (l.drop (k + 1))) := by
  rw [List.drop_eq_getElem_cons h]
  cases l[k]; rw [allM]; rfl
end
theorem Val.s_len (v : Val) : v.s.length ≤ v.size := by rw [v.size_eq]; omega
theorem Mem.name_len {v : Val} {k : Nat} (h : k < v.m.length) : v.m[k].name.length ≤ v.size := by
  have := sumSize_mem (size := Mem.size) (List.getElem_mem h)
  have h2 : v.m[k].size = v.m[k].name.length + 2 + v.m[k].v.size := rfl
  rw [v.size_eq]; omega

theorem vall (F : FuncId) (g : Str → Bool) (hF : ∀ s : Str, s.length ≤ 2097152 → PFn Tryd.prog F [.str s] (.bool (g s))) : ∀ N : Nat, N ≤ 2097152 → ∀ v : Val, v.size ≤ N → PFn Tryd.prog 69 [v.enc, .fn (.func F) [] []] (.bool (allV g v))
  | 0, _, v, hv => absurd hv (by have := v.size_pos; omega)
  | N + 1, hN, v, hv => by
    have ih := vall F g hF N (by omega)
    refine AFn.plain rfl (by simp [AV.closedL, AV.closed, Val.closed]) (AFn.enter [4] Tryd.func69 rfl rfl rfl rfl rfl (by decide) ?_)
    have hll := v.l_len
    have hml := v.m_len
    rw [allV_eq]
    by_cases c6 : v.kind = 6
    · have e6 : (v.kind == 6) = true := by rw [c6]; rfl
      rw [if_pos c6]
      have hb := vbare v.kind v.n v.s [] v.mv .nil .no rfl (by simp only [AV.closed, v.mv_closed]; rfl)
      rw [v.mv_len] at hb
      repeat' first
        | refine A.box_r rfl rfl ?_
        | refine .seq ?_ | refine .rg ?_ | refine .rd ?_ | refine .block ?_ | refine .scope ?_ | refine .skip ?_ | refine .label ?_ | refine .exit ?_ | refine .ret ?_
        | refine .ct ?_ | refine .cf ?_ | refine .cy ?_ | refine .cn ?_ | (refine .cond rfl ?_ ?_ <;> intro hc)
        | refine A.nil_seq ?_ | refine .nl ?_ | refine .dd ?_ | refine .ys ?_ | refine .no ?_ | (refine A.guard rfl ?_ ?_ <;> intro hc)
        | refine .lb ?_ | refine .ln ?_ | refine .ls ?_ | refine .pv ?_ | refine .ix ?_ | refine .pt ?_ | refine .pf ?_ | refine .bx ?_ | refine .al ?_ | refine .st ?_ | refine .ad ?_ | refine .sb ?_ | refine .mf ?_ | refine .cl ?_ | refine .cw ?_ | refine .ck ?_ | fail
      change HCode _ _ _ _ _ _ _
      refine HCode.loop (fun n s σ => ∃ k : Nat, n = v.l.length - k ∧ k ≤ v.l.length ∧ allL g v.l = allL g (v.l.drop k) ∧ σ = ⟨[Ob.cells [.int .i64 v.kind, .int .i64 v.n, .str v.s, .slice [] .nil, .slice v.mv .no]], []⟩ ∧
        s = [(22, .int .i64 k), (21, .int .i64 v.lv.length), (20, .slice v.lv .no), (6, .bool true), (5, .ptr 0 0), (1, .fn (.func F) [] [])])
        (s0 := [(22, .int .i64 (0 : Nat)), (21, .int .i64 v.lv.length), (20, .slice v.lv .no), (6, .bool true), (5, .ptr 0 0), (1, .fn (.func F) [] [])])
        ⟨rfl, rfl, rfl, rfl, rfl, rfl, trivial⟩ ⟨0, rfl, Nat.zero_le _, rfl, rfl, rfl⟩ ?_
      rintro n s σ ⟨k, rfl, hk, hp, rfl, rfl⟩
      by_cases h1 : k < v.l.length
      · have d1 : decide ((k : Int) < (v.lv.length : Int)) = true := by rw [v.lv_len]; simp [h1]
        have x1 := Val.lv_get h1
        have hc := ih v.l[k] (by have := Val.size_l h1; omega)
        by_cases c : allV g v.l[k] = true
        · have e1 : (!allV g v.l[k]) = false := by rw [c]; rfl
          repeat' first
            | refine .seq ?_ | refine .rg ?_ | refine .rd ?_ | refine .block ?_ | refine .scope ?_ | refine .skip ?_ | refine .label ?_ | refine .exit ?_ | refine .ret ?_
            | refine .ct ?_ | refine .cf ?_ | refine .cy ?_ | refine .cn ?_ | (refine .cond rfl ?_ ?_ <;> intro hc)
            | refine A.nil_seq ?_ | refine .nl ?_ | refine .dd ?_ | refine .ys ?_ | refine .no ?_ | (refine A.guard rfl ?_ ?_ <;> intro hc)
            | refine .lb ?_ | refine .ln ?_ | refine .ls ?_ | refine .pv ?_ | refine .ix ?_ | refine .pt ?_ | refine .pf ?_ | refine .bx ?_ | refine .al ?_ | refine .st ?_ | refine .ad ?_ | refine .sb ?_ | refine .mf ?_ | refine .cl ?_ | refine .cw ?_ | refine .ck ?_
            | refine A.call rfl hc (WeakL.refl _) ?_ | fail
          refine ⟨v.l.length - (k + 1), by omega, [(22, .int .i64 ((k + 1 : Nat) : Int)), (21, .int .i64 v.lv.length), (20, .slice v.lv .no), (6, .bool true), (5, .ptr 0 0), (1, .fn (.func F) [] [])],
            ⟨rfl, rfl, rfl, congrArg AV.bool c, rfl, rfl, trivial⟩, by simp [belowS, AV.low, AV.lowL, Val.lv_low], by simp [belowB, belowT, Ob.low, AV.low, AV.lowL, Val.mv_low], k + 1, rfl, by omega, by rw [hp, allL_drop g h1, c]; rfl, rfl, rfl⟩
        · have c' : allV g v.l[k] = false := by simpa using c
          have e1 : (!allV g v.l[k]) = true := by rw [c']; rfl
          repeat' first
            | refine .seq ?_ | refine .rg ?_ | refine .rd ?_ | refine .block ?_ | refine .scope ?_ | refine .skip ?_ | refine .label ?_ | refine .exit ?_ | refine .ret ?_
            | refine .ct ?_ | refine .cf ?_ | refine .cy ?_ | refine .cn ?_ | (refine .cond rfl ?_ ?_ <;> intro hc)
            | refine A.nil_seq ?_ | refine .nl ?_ | refine .dd ?_ | refine .ys ?_ | refine .no ?_ | (refine A.guard rfl ?_ ?_ <;> intro hc)
            | refine .lb ?_ | refine .ln ?_ | refine .ls ?_ | refine .pv ?_ | refine .ix ?_ | refine .pt ?_ | refine .pf ?_ | refine .bx ?_ | refine .al ?_ | refine .st ?_ | refine .ad ?_ | refine .sb ?_ | refine .mf ?_ | refine .cl ?_ | refine .cw ?_ | refine .ck ?_
            | refine A.call rfl hc (WeakL.refl _) ?_ | fail
          refine Fin.ret1 rfl (Weak.eq (congrArg AV.bool ?_))
          rw [hp, allL_drop g h1, c']; rfl
      · have d1 : decide ((k : Int) < (v.lv.length : Int)) = false := by rw [v.lv_len]; simp; omega
        repeat' first
          | refine .seq ?_ | refine .rg ?_ | refine .rd ?_ | refine .block ?_ | refine .scope ?_ | refine .skip ?_ | refine .label ?_ | refine .exit ?_ | refine .ret ?_
          | refine .ct ?_ | refine .cf ?_ | refine .cy ?_ | refine .cn ?_ | (refine .cond rfl ?_ ?_ <;> intro hc)
          | refine A.nil_seq ?_ | refine .nl ?_ | refine .dd ?_ | refine .ys ?_ | refine .no ?_ | (refine A.guard rfl ?_ ?_ <;> intro hc)
          | refine .lb ?_ | refine .ln ?_ | refine .ls ?_ | refine .pv ?_ | refine .ix ?_ | refine .pt ?_ | refine .pf ?_ | refine .bx ?_ | refine .al ?_ | refine .st ?_ | refine .ad ?_ | refine .sb ?_ | refine .mf ?_ | refine .cl ?_ | refine .cw ?_ | refine .ck ?_
          | refine A.call rfl hb (WeakL.refl _) ?_ | fail
        refine Fin.ret1 rfl (Weak.eq (congrArg AV.bool ?_))
        rw [hp, List.drop_eq_nil_of_le (by omega), allL]
        simp
    · have e6 : (v.kind == 6) = false := by simpa using c6
      rw [if_neg c6]
      by_cases c7 : v.kind = 7
      · have e7 : (v.kind == 7) = true := by rw [c7]; rfl
        rw [if_pos c7]
        have hb := vbare v.kind v.n v.s v.lv [] .no .nil (by simp only [AV.closed, v.lv_closed]; rfl) rfl
        rw [v.lv_len] at hb
        repeat' first
          | refine A.box_r rfl rfl ?_
          | refine .seq ?_ | refine .rg ?_ | refine .rd ?_ | refine .block ?_ | refine .scope ?_ | refine .skip ?_ | refine .label ?_ | refine .exit ?_ | refine .ret ?_
          | refine .ct ?_ | refine .cf ?_ | refine .cy ?_ | refine .cn ?_ | (refine .cond rfl ?_ ?_ <;> intro hc)
          | refine A.nil_seq ?_ | refine .nl ?_ | refine .dd ?_ | refine .ys ?_ | refine .no ?_ | (refine A.guard rfl ?_ ?_ <;> intro hc)
          | refine .lb ?_ | refine .ln ?_ | refine .ls ?_ | refine .pv ?_ | refine .ix ?_ | refine .pt ?_ | refine .pf ?_ | refine .bx ?_ | refine .al ?_ | refine .st ?_ | refine .ad ?_ | refine .sb ?_ | refine .mf ?_ | refine .cl ?_ | refine .cw ?_ | refine .ck ?_ | fail
        change HCode _ _ _ _ _ _ _
        refine HCode.loop (fun n s σ => ∃ k : Nat, n = v.m.length - k ∧ k ≤ v.m.length ∧ allM g v.m = allM g (v.m.drop k) ∧ σ = ⟨[Ob.cells [.int .i64 v.kind, .int .i64 v.n, .str v.s, .slice v.lv .no, .slice [] .nil]], []⟩ ∧
          s = [(38, .int .i64 k), (37, .int .i64 v.mv.length), (36, .slice v.mv .no), (6, .bool true), (5, .ptr 0 0), (1, .fn (.func F) [] [])])
          (s0 := [(38, .int .i64 (0 : Nat)), (37, .int .i64 v.mv.length), (36, .slice v.mv .no), (6, .bool true), (5, .ptr 0 0), (1, .fn (.func F) [] [])])
          ⟨rfl, rfl, rfl, rfl, rfl, rfl, trivial⟩ ⟨0, rfl, Nat.zero_le _, rfl, rfl, rfl⟩ ?_
        rintro n s σ ⟨k, rfl, hk, hp, rfl, rfl⟩
        by_cases h1 : k < v.m.length
        · have d1 : decide ((k : Int) < (v.mv.length : Int)) = true := by rw [v.mv_len]; simp [h1]
          have x1 := Val.mv_get h1
          have hc := ih v.m[k].v (by have := Val.size_m h1; omega)
          have hf := hF v.m[k].name (by have := Mem.name_len h1; omega)
          by_cases c0 : g v.m[k].name = true
          · by_cases c : allV g v.m[k].v = true
            · have e1 : (!allV g v.m[k].v) = false := by rw [c]; rfl
              repeat' first
                | refine .seq ?_ | refine .rg ?_ | refine .rd ?_ | refine .block ?_ | refine .scope ?_ | refine .skip ?_ | refine .label ?_ | refine .exit ?_ | refine .ret ?_
                | refine .ct ?_ | refine .cf ?_ | refine .cy ?_ | refine .cn ?_ | (refine .cond rfl ?_ ?_ <;> intro hc)
                | refine A.nil_seq ?_ | refine .nl ?_ | refine .dd ?_ | refine .ys ?_ | refine .no ?_ | (refine A.guard rfl ?_ ?_ <;> intro hc)
                | refine .lb ?_ | refine .ln ?_ | refine .ls ?_ | refine .pv ?_ | refine .ix ?_ | refine .pt ?_ | refine .pf ?_ | refine .bx ?_ | refine .al ?_ | refine .st ?_ | refine .ad ?_ | refine .sb ?_ | refine .mf ?_ | refine .cl ?_ | refine .cw ?_ | refine .ck ?_
                | refine A.call rfl hc (WeakL.refl _) ?_ | refine A.callv rfl rfl hf (WeakL.refl _) ?_ | fail
              refine ⟨v.m.length - (k + 1), by omega, [(38, .int .i64 ((k + 1 : Nat) : Int)), (37, .int .i64 v.mv.length), (36, .slice v.mv .no), (6, .bool true), (5, .ptr 0 0), (1, .fn (.func F) [] [])],
                ⟨rfl, rfl, rfl, congrArg AV.bool c, rfl, rfl, trivial⟩, by simp [belowS, AV.low, AV.lowL, Val.mv_low], by simp [belowB, belowT, Ob.low, AV.low, AV.lowL, Val.lv_low], k + 1, rfl, by omega, by rw [hp, allM_drop g h1, c0, c]; rfl, rfl, rfl⟩
            · have c' : allV g v.m[k].v = false := by simpa using c
              have e1 : (!allV g v.m[k].v) = true := by rw [c']; rfl
              repeat' first
                | refine .seq ?_ | refine .rg ?_ | refine .rd ?_ | refine .block ?_ | refine .scope ?_ | refine .skip ?_ | refine .label ?_ | refine .exit ?_ | refine .ret ?_
                | refine .ct ?_ | refine .cf ?_ | refine .cy ?_ | refine .cn ?_ | (refine .cond rfl ?_ ?_ <;> intro hc)
                | refine A.nil_seq ?_ | refine .nl ?_ | refine .dd ?_ | refine .ys ?_ | refine .no ?_ | (refine A.guard rfl ?_ ?_ <;> intro hc)
                | refine .lb ?_ | refine .ln ?_ | refine .ls ?_ | refine .pv ?_ | refine .ix ?_ | refine .pt ?_ | refine .pf ?_ | refine .bx ?_ | refine .al ?_ | refine .st ?_ | refine .ad ?_ | refine .sb ?_ | refine .mf ?_ | refine .cl ?_ | refine .cw ?_ | refine .ck ?_
                | refine A.call rfl hc (WeakL.refl _) ?_ | refine A.callv rfl rfl hf (WeakL.refl _) ?_ | fail
              refine Fin.ret1 rfl (Weak.eq (congrArg AV.bool ?_))
              rw [hp, allM_drop g h1, c', c0]; rfl
          · have c0' : g v.m[k].name = false := by simpa using c0
            repeat' first
              | refine .seq ?_ | refine .rg ?_ | refine .rd ?_ | refine .block ?_ | refine .scope ?_ | refine .skip ?_ | refine .label ?_ | refine .exit ?_ | refine .ret ?_
              | refine .ct ?_ | refine .cf ?_ | refine .cy ?_ | refine .cn ?_ | (refine .cond rfl ?_ ?_ <;> intro hc)
              | refine A.nil_seq ?_ | refine .nl ?_ | refine .dd ?_ | refine .ys ?_ | refine .no ?_ | (refine A.guard rfl ?_ ?_ <;> intro hc)
              | refine .lb ?_ | refine .ln ?_ | refine .ls ?_ | refine .pv ?_ | refine .ix ?_ | refine .pt ?_ | refine .pf ?_ | refine .bx ?_ | refine .al ?_ | refine .st ?_ | refine .ad ?_ | refine .sb ?_ | refine .mf ?_ | refine .cl ?_ | refine .cw ?_ | refine .ck ?_
              | refine A.call rfl hc (WeakL.refl _) ?_ | refine A.callv rfl rfl hf (WeakL.refl _) ?_ | fail
            refine Fin.ret1 rfl (Weak.eq (congrArg AV.bool ?_))
            rw [hp, allM_drop g h1, c0']; rfl
        · have d1 : decide ((k : Int) < (v.mv.length : Int)) = false := by rw [v.mv_len]; simp; omega
          repeat' first
            | refine .seq ?_ | refine .rg ?_ | refine .rd ?_ | refine .block ?_ | refine .scope ?_ | refine .skip ?_ | refine .label ?_ | refine .exit ?_ | refine .ret ?_
            | refine .ct ?_ | refine .cf ?_ | refine .cy ?_ | refine .cn ?_ | (refine .cond rfl ?_ ?_ <;> intro hc)
            | refine A.nil_seq ?_ | refine .nl ?_ | refine .dd ?_ | refine .ys ?_ | refine .no ?_ | (refine A.guard rfl ?_ ?_ <;> intro hc)
            | refine .lb ?_ | refine .ln ?_ | refine .ls ?_ | refine .pv ?_ | refine .ix ?_ | refine .pt ?_ | refine .pf ?_ | refine .bx ?_ | refine .al ?_ | refine .st ?_ | refine .ad ?_ | refine .sb ?_ | refine .mf ?_ | refine .cl ?_ | refine .cw ?_ | refine .ck ?_
            | refine A.call rfl hb (WeakL.refl _) ?_ | fail
          refine Fin.ret1 rfl (Weak.eq (congrArg AV.bool ?_))
          rw [hp, List.drop_eq_nil_of_le (by omega), allM]
          simp
      · have e7 : (v.kind == 7) = false := by simpa using c7
        rw [if_neg c7]
        have hs := vsingle v (by omega)
        repeat' first
          | refine A.box_r rfl rfl ?_
          | refine .seq ?_ | refine .rg ?_ | refine .rd ?_ | refine .block ?_ | refine .scope ?_ | refine .skip ?_ | refine .label ?_ | refine .exit ?_ | refine .ret ?_
          | refine .ct ?_ | refine .cf ?_ | refine .cy ?_ | refine .cn ?_ | (refine .cond rfl ?_ ?_ <;> intro hc)
          | refine A.nil_seq ?_ | refine .nl ?_ | refine .dd ?_ | refine .ys ?_ | refine .no ?_ | (refine A.guard rfl ?_ ?_ <;> intro hc)
          | refine .lb ?_ | refine .ln ?_ | refine .ls ?_ | refine .pv ?_ | refine .ix ?_ | refine .pt ?_ | refine .pf ?_ | refine .bx ?_ | refine .al ?_ | refine .st ?_ | refine .ad ?_ | refine .sb ?_ | refine .mf ?_ | refine .cl ?_ | refine .cw ?_ | refine .ck ?_
          | refine A.call rfl hs (WeakL.refl _) ?_ | fail
        exact Fin.ret1 rfl (Weak.refl _)
theorem vGood (v : Val) (hv : v.size ≤ 2097152) : PFn Tryd.prog 19 [v.enc] (.bool (allV good v)) := by
  have h := vall 36 good (fun s hs => lgood s (by omega)) v.size hv v (Nat.le_refl _)
  refine AFn.plain rfl (by simp [AV.closedL, Val.closed]) (AFn.enter [2] Tryd.func19 rfl rfl rfl rfl rfl (by decide) ?_)
  repeat' first
    | refine A.box_r rfl rfl ?_
    | refine .seq ?_ | refine .rg ?_ | refine .rd ?_ | refine .block ?_ | refine .scope ?_ | refine .skip ?_ | refine .label ?_ | refine .exit ?_ | refine .ret ?_
    | refine .ct ?_ | refine .cf ?_ | refine .cy ?_ | refine .cn ?_ | (refine .cond rfl ?_ ?_ <;> intro hc)
    | refine A.nil_seq ?_ | refine .nl ?_ | refine .dd ?_ | refine .ys ?_ | refine .no ?_ | (refine A.guard rfl ?_ ?_ <;> intro hc)
    | refine .lb ?_ | refine .ln ?_ | refine .ls ?_ | refine .pv ?_ | refine .ix ?_ | refine .pt ?_ | refine .pf ?_ | refine .bx ?_ | refine .al ?_ | refine .st ?_ | refine .ad ?_ | refine .sb ?_ | refine .mf ?_ | refine .cl ?_ | refine .cw ?_ | refine .ck ?_
    | refine A.call rfl h (WeakL.refl _) ?_ | fail
  exact Fin.ret1 rfl (Weak.refl _)

end Go.Proofs.YtijlmchfepjjkaaDoor
namespace Go.Proofs.YtijlmchfepjjkaaDoor
open Go Go.Av
set_option maxRecDepth 100000
set_option maxHeartbeats 8000000
set_option linter.unusedVariables false
set_option linter.unusedSimpArgs false
attribute [local irreducible] HCode AOps PFn AFn Av.Step TStep

def val0 : Val := .mk 0 0 [] [] []
def intV (n : Int) : Val := .mk 2 n [] [] []
def textV (s : Str) : Val := .mk 4 0 s [] []
def getG (name : Str) : List Mem → Val × Bool
  | [] => (val0, false)
  | m :: l => if m.name == name then (m.v, true) else getG name l
theorem getG_drop {name : Str} {l : List Mem} {k : Nat} (h : k < l.length) : getG name (l.drop k) = if l[k].name == name then (l[k].v, true) else getG name (l.drop (k + 1)) := by
  rw [List.drop_eq_getElem_cons h, getG]
theorem lv_mk (k n : Int) (s : Str) (m : List Mem) : (Val.mk k n s [] m).lv = [] := by rw [Val.lv, Val.goL]
theorem mv_mk (k n : Int) (s : Str) (l : List Val) : (Val.mk k n s l []).mv = [] := by rw [Val.mv, Val.goM]
theorem weak_flatV {k n : Int} {s : Str} {t1 t2 : Tk} : Weak (.agg [.int .i64 k, .int .i64 n, .str s, .slice [] t1, .slice [] t2]) (Val.mk k n s [] []).enc := by
  unfold Val.enc
  rw [lv_mk, mv_mk]
  exact Weak.agg (WeakL.cons (Weak.refl _) (WeakL.cons (Weak.refl _) (WeakL.cons (Weak.refl _) (WeakL.cons (Weak.no (WeakL.refl _)) (WeakL.cons (Weak.no (WeakL.refl _)) (WeakL.refl _))))))
def zeroV : List AV := [.int .i64 0, .int .i64 0, .str [], .slice [] .nil, .slice [] .nil]

theorem get (name : Str) (l : List Mem) (hl : l.length ≤ 9223372036854775807) : PFn Tryd.prog 52 [.str name, .slice (l.map Mem.enc) .no] (.tup [(getG name l).1.enc, .bool (getG name l).2]) := by
  refine AFn.plain (by simp [AV.closed, AV.closedL, Val.closed]) (by simp [AV.closed, AV.closedL, Mem.closedL]) (AFn.enterR [.cell 4 28, .tmp 5] Tryd.func52 rfl rfl rfl rfl rfl ?_)
  repeat' first
    | refine .seq ?_ | refine .rg ?_ | refine .rd ?_ | refine .block ?_ | refine .scope ?_ | refine .skip ?_ | refine .label ?_ | refine .exit ?_ | refine .ret ?_
    | refine .ct ?_ | refine .cf ?_ | refine .cy ?_ | refine .cn ?_ | (refine .cond rfl ?_ ?_ <;> intro hc)
    | refine A.nil_seq ?_ | refine .nl ?_ | refine .dd ?_ | refine .ys ?_ | refine .no ?_ | (refine A.guard rfl ?_ ?_ <;> intro hc)
    | refine .lb ?_ | refine .ln ?_ | refine .ls ?_ | refine .pv ?_ | refine .ix ?_ | refine .pt ?_ | refine .pf ?_ | refine .bx ?_ | refine .al ?_ | refine .st ?_ | refine .ad ?_ | refine .sb ?_ | refine .mf ?_ | refine .cl ?_ | refine .cw ?_ | refine .ck ?_ | fail
  change HCode _ _ _ _ _ _ _
  refine HCode.loop (fun n s σ => ∃ k : Nat, n = l.length - k ∧ k ≤ l.length ∧ getG name l = getG name (l.drop k) ∧ σ = ⟨[.cells zeroV], []⟩ ∧
    s = [(10, .int .i64 k), (9, .int .i64 l.length), (8, .slice (l.map Mem.enc) .no), (0, .str name), (4, .ptr 0 0)])
    (s0 := [(10, .int .i64 (0 : Nat)), (9, .int .i64 l.length), (8, .slice (l.map Mem.enc) .no), (0, .str name), (4, .ptr 0 0)])
    ⟨rfl, rfl, rfl, rfl, rfl, trivial⟩ ⟨0, rfl, Nat.zero_le _, rfl, rfl, rfl⟩ ?_
  rintro n s σ ⟨k, rfl, hk, hp, rfl, rfl⟩
  by_cases h1 : k < l.length
  · have d1 : decide ((k : Int) < (l.length : Int)) = true := by simp [h1]
    have x1 := map_get' (f := Mem.enc) h1
    repeat' first
      | refine .seq ?_ | refine .rg ?_ | refine .rd ?_ | refine .block ?_ | refine .scope ?_ | refine .skip ?_ | refine .label ?_ | refine .exit ?_ | refine .ret ?_
      | refine .ct ?_ | refine .cf ?_ | refine .cy ?_ | refine .cn ?_ | (refine .cond rfl ?_ ?_ <;> intro hc)
      | refine A.nil_seq ?_ | refine .nl ?_ | refine .dd ?_ | refine .ys ?_ | refine .no ?_ | (refine A.guard rfl ?_ ?_ <;> intro hc)
      | refine .lb ?_ | refine .ln ?_ | refine .ls ?_ | refine .pv ?_ | refine .ix ?_ | refine .pt ?_ | refine .pf ?_ | refine .bx ?_ | refine .al ?_ | refine .st ?_ | refine .ad ?_ | refine .sb ?_ | refine .mf ?_ | refine .cl ?_ | refine .cw ?_ | refine .ck ?_ | fail
    · refine FinR.ret1 rfl (Weak.eq ?_)
      rw [hp, getG_drop h1, if_pos hc]; rfl
    · refine ⟨l.length - (k + 1), by omega, [(10, .int .i64 ((k + 1 : Nat) : Int)), (9, .int .i64 l.length), (8, .slice (l.map Mem.enc) .no), (0, .str name), (4, .ptr 0 0)],
        ⟨rfl, rfl, rfl, rfl, rfl, trivial⟩, by simp [belowS, AV.low, Mem.lowL], rfl, k + 1, rfl, by omega, by rw [hp, getG_drop h1, if_neg (by simp [hc])], rfl, rfl⟩
  · have d1 : decide ((k : Int) < (l.length : Int)) = false := by simp; omega
    repeat' first
      | refine .seq ?_ | refine .rg ?_ | refine .rd ?_ | refine .block ?_ | refine .scope ?_ | refine .skip ?_ | refine .label ?_ | refine .exit ?_ | refine .ret ?_
      | refine .ct ?_ | refine .cf ?_ | refine .cy ?_ | refine .cn ?_ | (refine .cond rfl ?_ ?_ <;> intro hc)
      | refine A.nil_seq ?_ | refine .nl ?_ | refine .dd ?_ | refine .ys ?_ | refine .no ?_ | (refine A.guard rfl ?_ ?_ <;> intro hc)
      | refine .lb ?_ | refine .ln ?_ | refine .ls ?_ | refine .pv ?_ | refine .ix ?_ | refine .pt ?_ | refine .pf ?_ | refine .bx ?_ | refine .al ?_ | refine .st ?_ | refine .ad ?_ | refine .sb ?_ | refine .mf ?_ | refine .cl ?_ | refine .cw ?_ | refine .ck ?_ | fail
    refine FinR.ret1 rfl ?_
    rw [hp, List.drop_eq_nil_of_le (by omega), getG]
    exact Weak.tup (WeakL.cons weak_flatV (WeakL.refl _))
theorem int_ (n : Int) : PFn Tryd.prog 34 [.int .i64 n] (intV n).enc := by
  refine AFn.plain (Val.closed _) rfl (AFn.enterR [.cell 2 28] Tryd.func34 rfl rfl rfl rfl rfl ?_)
  repeat' first
    | refine .seq ?_ | refine .rg ?_ | refine .rd ?_ | refine .block ?_ | refine .scope ?_ | refine .skip ?_ | refine .label ?_ | refine .exit ?_ | refine .ret ?_
    | refine .ct ?_ | refine .cf ?_ | refine .cy ?_ | refine .cn ?_ | (refine .cond rfl ?_ ?_ <;> intro hc)
    | refine A.nil_seq ?_ | refine .nl ?_ | refine .dd ?_ | refine .ys ?_ | refine .no ?_ | (refine A.guard rfl ?_ ?_ <;> intro hc)
    | refine .lb ?_ | refine .ln ?_ | refine .ls ?_ | refine .pv ?_ | refine .ix ?_ | refine .pt ?_ | refine .pf ?_ | refine .bx ?_ | refine .al ?_ | refine .st ?_ | refine .ad ?_ | refine .sb ?_ | refine .mf ?_ | refine .cl ?_ | refine .cw ?_ | refine .ck ?_ | fail
  exact FinR.ret1 rfl weak_flatV
theorem text (n : Str) : PFn Tryd.prog 35 [.str n] (textV n).enc := by
  refine AFn.plain (Val.closed _) rfl (AFn.enterR [.cell 2 28] Tryd.func35 rfl rfl rfl rfl rfl ?_)
  repeat' first
    | refine .seq ?_ | refine .rg ?_ | refine .rd ?_ | refine .block ?_ | refine .scope ?_ | refine .skip ?_ | refine .label ?_ | refine .exit ?_ | refine .ret ?_
    | refine .ct ?_ | refine .cf ?_ | refine .cy ?_ | refine .cn ?_ | (refine .cond rfl ?_ ?_ <;> intro hc)
    | refine A.nil_seq ?_ | refine .nl ?_ | refine .dd ?_ | refine .ys ?_ | refine .no ?_ | (refine A.guard rfl ?_ ?_ <;> intro hc)
    | refine .lb ?_ | refine .ln ?_ | refine .ls ?_ | refine .pv ?_ | refine .ix ?_ | refine .pt ?_ | refine .pf ?_ | refine .bx ?_ | refine .al ?_ | refine .st ?_ | refine .ad ?_ | refine .sb ?_ | refine .mf ?_ | refine .cl ?_ | refine .cw ?_ | refine .ck ?_ | fail
  exact FinR.ret1 rfl weak_flatV
end Go.Proofs.YtijlmchfepjjkaaDoor
namespace Go.Proofs.YtijlmchfepjjkaaDoor
open Go Go.Av
set_option maxRecDepth 100000
set_option linter.unusedVariables false
set_option linter.unusedSimpArgs false

/-- May a type be? -/
def rightT (t : Typ) : Bool := nameB t.name && (decide (0 ≤ t.lists) && (decide (t.lists ≤ 4) && (decide (0 ≤ t.musts) && decide (t.musts < 2 ^ (t.lists.toNat + 1)))))
/-- Must it be there? -/
def isT (t : Typ) : Bool := rightT t && decide (t.musts % 2 = 1)
def itemT (t : Typ) : Typ := ⟨t.name, t.lists - 1, t.musts / 2⟩
def zeroT : Typ := ⟨[], 0, 0⟩
def itemR (t : Typ) : Typ × Bool := if rightT t = true ∧ t.lists ≠ 0 then (itemT t, true) else (zeroT, false)
def listT (t : Typ) : Typ := ⟨t.name, t.lists + 1, t.musts * 2⟩
def mustT (t : Typ) : Typ := if rightT t = true then ⟨t.name, t.lists, if t.musts % 2 = 1 then t.musts else t.musts + 1⟩ else t
def bareT (t : Typ) : Typ := if rightT t = true then ⟨t.name, t.lists, if t.musts % 2 = 1 then t.musts - 1 else t.musts⟩ else t
theorem rightT_iff {t : Typ} : rightT t = true ↔ nameB t.name = true ∧ 0 ≤ t.lists ∧ t.lists ≤ 4 ∧ 0 ≤ t.musts ∧ t.musts < 2 ^ (t.lists.toNat + 1) := by
  simp [rightT, Bool.and_eq_true, and_assoc]
theorem rightT_item {t : Typ} (h : rightT t = true) (hl : t.lists ≠ 0) : rightT (itemT t) = true := by
  rw [rightT_iff] at *
  obtain ⟨h1, h2, h3, h4, h5⟩ := h
  have e : t.lists.toNat = (t.lists - 1).toNat + 1 := by omega
  refine ⟨h1, ?_, ?_, ?_, ?_⟩
  · show 0 ≤ t.lists - 1; omega
  · show t.lists - 1 ≤ 4; omega
  · show 0 ≤ t.musts / 2; omega
  · show t.musts / 2 < 2 ^ ((t.lists - 1).toNat + 1)
    rw [e, Int.pow_succ] at h5
    omega

/-- The four names that are always there. -/
def sInt : Str := [73, 110, 116]
def sString : Str := [83, 116, 114, 105, 110, 103]
def sBoolean : Str := [66, 111, 111, 108, 101, 97, 110]
def sID : Str := [73, 68]
def scalarB (n : Str) : Bool := n == sInt || n == sString || n == sBoolean || n == sID
def zeroD : Dfn := ⟨0, [], [], [], [], []⟩
def findO (s : Sch) (name : Str) : Option Dfn := if scalarB name = true then some ⟨0, name, [], [], [], []⟩ else s.defs.find? (fun d => d.name == name)
def findR (s : Sch) (name : Str) : Dfn × Bool := match findO s name with
  | some d => (d, true)
  | none => (zeroD, false)
/-- Is there a definition, of one of these kinds? -/
def kindB (s : Sch) (name : Str) (ks : List Int) : Bool := (findR s name).2 && decide ((findR s name).1.kind ∈ ks)
def leafB (s : Sch) (name : Str) : Bool := kindB s name [0, 4]
def compB (s : Sch) (name : Str) : Bool := kindB s name [1, 2, 3]
def entryB (s : Sch) (name : Str) : Bool := kindB s name [0, 4, 5]
abbrev zeroVal : Val := val0
def zeroP : Par := ⟨[], zeroT, false, zeroVal⟩
def parO (l : List Par) (name : Str) : Option Par := l.find? (fun p => p.name == name)
def parR (l : List Par) (name : Str) : Par × Bool := match parO l name with
  | some p => (p, true)
  | none => (zeroP, false)
def reqB (p : Par) : Bool := isT p.t && !p.has
/-- Are all there that must be? -/
def needsB (m : List Mem) : List Par → Bool
  | [] => true
  | p :: l => ((m.any fun x => x.name == p.name) || !reqB p) && needsB m l
def scalFit (name : Str) (k n : Int) : Bool :=
  if name = sInt then k == 2 && (decide (-2147483648 ≤ n) && decide (n ≤ 2147483647)) else if name = sString then k == 4 else if name = sBoolean then k == 1 else if name = sID then k == 4 || k == 2 else false
def bareB (s : Sch) (name : Str) (k n : Int) (str : Str) (inp : List Par → Bool) : Bool :=
  match findO s name with
  | none => false
  | some d => if d.kind = 4 then k == 5 && decide (str ∈ d.parts) else if d.kind = 5 then k == 7 && inp d.params else if d.kind = 0 then scalFit name k n else false
mutual
/-- May a good value stand where a type is asked for? w: it is an item of a list that is written. -/
def fitsV (s : Sch) : Val → Typ → Bool → Bool
  | .mk k n str l m, t, w =>
    if k = 8 then rightT t else if k = 0 then rightT t && !isT t else rightT t &&
      (if t.lists = 0 then bareB s t.name k n str (fun ps => fitsM s ps m [] && needsB m ps) else if k = 6 then fitsL s l (itemT t) else !w && bareB s t.name k n str (fun ps => fitsM s ps m [] && needsB m ps))
def fitsL (s : Sch) : List Val → Typ → Bool
  | [], _ => true
  | v :: l, t => fitsV s v t true && fitsL s l t
def fitsM (s : Sch) (ps : List Par) : List Mem → List Str → Bool
  | [], _ => true
  | .mk nm v :: m, seen => (match parO ps nm with | none => false | some p => fitsV s v p.t false) && (!decide (nm ∈ seen) && fitsM s ps m (seen ++ [nm]))
end
def inputB (s : Sch) (ps : List Par) (v : Val) : Bool := v.kind == 7 && (fitsM s ps v.m [] && needsB v.m ps)
def bareV (s : Sch) (name : Str) (v : Val) : Bool := bareB s name v.kind v.n v.s (fun ps => fitsM s ps v.m [] && needsB v.m ps)
theorem fitsV_eq (s : Sch) (v : Val) (t : Typ) (w : Bool) : fitsV s v t w = if v.kind = 8 then rightT t else if v.kind = 0 then rightT t && !isT t else rightT t &&
      (if t.lists = 0 then bareV s t.name v else if v.kind = 6 then fitsL s v.l (itemT t) else !w && bareV s t.name v) := by
  cases v; rw [fitsV]; rfl
theorem fitsL_drop {s : Sch} {t : Typ} {l : List Val} {k : Nat} (h : k < l.length) : fitsL s (l.drop k) t = (fitsV s l[k] t true && fitsL s (l.drop (k + 1)) t) := by
  rw [List.drop_eq_getElem_cons h, fitsL]
theorem fitsM_drop {s : Sch} {ps : List Par} {l : List Mem} {k : Nat} (h : k < l.length) : fitsM s ps (l.drop k) ((l.take k).map Mem.name) =
    ((match parO ps l[k].name with | none => false | some p => fitsV s l[k].v p.t false) && (!decide (l[k].name ∈ (l.take k).map Mem.name) && fitsM s ps (l.drop (k + 1)) ((l.take (k + 1)).map Mem.name))) := by
  rw [List.drop_eq_getElem_cons h, List.take_succ_eq_append_getElem h, List.map_append]
  cases hx : l[k]; rw [fitsM]; rfl
/-- What is no list may stand for a list by itself, but not within one. -/
theorem fitsV_down {s : Sch} {v : Val} {t : Typ} {w : Bool} (h8 : v.kind ≠ 8) (h0 : v.kind ≠ 0) (h6 : v.kind ≠ 6) (hr : rightT t = true) (hl : t.lists ≠ 0) : fitsV s v t w = (!w && fitsV s v (itemT t) false) := by
  rw [fitsV_eq, fitsV_eq s v (itemT t), if_neg h8, if_neg h0, if_neg hl, if_neg h6, if_neg h8, if_neg h0, if_neg h6, hr, rightT_item hr hl]
  simp only [Bool.true_and, Bool.not_false, ite_self]
  rfl
theorem fitsV_list {s : Sch} {v : Val} {t : Typ} {w : Bool} (h6 : v.kind = 6) (hr : rightT t = true) (hl : t.lists ≠ 0) : fitsV s v t w = fitsL s v.l (itemT t) := by
  rw [fitsV_eq, if_neg (by omega), if_neg (by omega), if_neg hl, if_pos h6, hr]; rfl
theorem fitsV_bare {s : Sch} {v : Val} {t : Typ} {w : Bool} (h8 : v.kind ≠ 8) (h0 : v.kind ≠ 0) (hr : rightT t = true) (hl : t.lists = 0) : fitsV s v t w = bareV s t.name v := by
  rw [fitsV_eq, if_neg h8, if_neg h0, if_pos hl, hr]; rfl
theorem fitsV_wrong {s : Sch} {v : Val} {t : Typ} {w : Bool} (hr : rightT t = false) : fitsV s v t w = false := by
  rw [fitsV_eq, hr]; simp
/-- literal.Right -/
def litR (s : Sch) (t : Typ) (v : Val) : Bool := allV good v && fitsV s v t false

/-! Where variables stand. -/
mutual
/-- .. as the program reckons it. -/
def spotsP (s : Sch) : Val → Typ → Bool → List Spt
  | .mk k n str l m, t, has =>
    if k = 8 then [⟨str, t, has⟩] else if k = 6 then (if rightT t = true ∧ t.lists ≠ 0 then spotsPL s l (itemT t) else []) else if k = 7 then spotsPM s m (findR s t.name).1.params else []
def spotsPL (s : Sch) : List Val → Typ → List Spt
  | [], _ => []
  | v :: l, t => spotsP s v t false ++ spotsPL s l t
def spotsPM (s : Sch) : List Mem → List Par → List Spt
  | [], _ => []
  | .mk nm v :: m, ps => (match parO ps nm with | none => [] | some p => spotsP s v p.t p.has) ++ spotsPM s m ps
end
mutual
/-- .. as the page reckons it. -/
def spotsR (s : Sch) : Val → Typ → Bool → List Spt
  | .mk k n str l m, t, has =>
    if k = 8 then [⟨str, t, has⟩] else if k = 6 then (if rightT t = true ∧ t.lists ≠ 0 then spotsRL s l (itemT t) else []) else if k = 7 then spotsRM s m (findR s t.name).1.params else []
def spotsRL (s : Sch) : List Val → Typ → List Spt
  | [], _ => []
  | v :: l, t => spotsR s v t false ++ spotsRL s l t
def spotsRM (s : Sch) : List Mem → List Par → List Spt
  | [], _ => []
  | .mk nm v :: m, ps => spotsR s v (parR ps nm).1.t (parR ps nm).1.has ++ spotsRM s m ps
end
theorem bareB_six {s : Sch} {name : Str} {k n : Int} {str : Str} {inp : List Par → Bool} (h : bareB s name k n str inp = true) : k ≠ 6 := by
  rintro rfl
  unfold bareB at h
  split at h
  · cases h
  · split at h
    · simp at h
    · split at h
      · simp at h
      · split at h
        · unfold scalFit at h
          repeat' split at h
          all_goals simp at h
        · cases h
theorem bareB_seven {s : Sch} {name : Str} {n : Int} {str : Str} {inp : List Par → Bool} (h : bareB s name 7 n str inp = true) : inp (findR s name).1.params = true := by
  unfold bareB at h
  unfold findR
  split at h
  · cases h
  · rename_i d hd
    rw [hd]
    split at h
    · simp at h
    · split at h
      · simpa using h
      · split at h
        · unfold scalFit at h
          repeat' split at h
          all_goals simp at h
        · cases h
theorem fitsV_six {s : Sch} {n : Int} {str : Str} {l : List Val} {m : List Mem} {t : Typ} {w : Bool} (h : fitsV s (.mk 6 n str l m) t w = true) : rightT t = true ∧ t.lists ≠ 0 ∧ fitsL s l (itemT t) = true := by
  rw [fitsV, if_neg (by decide), if_neg (by decide)] at h
  simp only [Bool.and_eq_true] at h
  obtain ⟨h1, h2⟩ := h
  by_cases c : t.lists = 0
  · rw [if_pos c] at h2
    exact absurd rfl (bareB_six h2)
  · rw [if_neg c, if_pos trivial] at h2
    exact ⟨h1, c, h2⟩
theorem fitsV_seven {s : Sch} {n : Int} {str : Str} {l : List Val} {m : List Mem} {t : Typ} {w : Bool} (h : fitsV s (.mk 7 n str l m) t w = true) : fitsM s (findR s t.name).1.params m [] = true := by
  rw [fitsV, if_neg (by decide), if_neg (by decide)] at h
  simp only [Bool.and_eq_true] at h
  obtain ⟨h1, h2⟩ := h
  have h3 : bareB s t.name 7 n str (fun ps => fitsM s ps m [] && needsB m ps) = true := by
    by_cases c : t.lists = 0
    · rw [if_pos c] at h2; exact h2
    · rw [if_neg c, if_neg (by decide)] at h2
      simp only [Bool.and_eq_true] at h2
      exact h2.2
  have := bareB_seven h3
  simp only [Bool.and_eq_true] at this
  exact this.1
mutual
theorem spots_eq (s : Sch) : ∀ (v : Val) (t : Typ) (w has : Bool), fitsV s v t w = true → spotsR s v t has = spotsP s v t has
  | .mk k n str l m, t, w, has, h => by
    rw [spotsR, spotsP]
    by_cases h8 : k = 8
    · rw [if_pos h8, if_pos h8]
    · rw [if_neg h8, if_neg h8]
      by_cases h6 : k = 6
      · subst h6
        obtain ⟨h1, h2, h3⟩ := fitsV_six h
        rw [if_pos rfl, if_pos rfl, if_pos ⟨h1, h2⟩, if_pos ⟨h1, h2⟩, spots_eqL s l (itemT t) h3]
      · rw [if_neg h6, if_neg h6]
        by_cases h7 : k = 7
        · subst h7
          rw [if_pos rfl, if_pos rfl, spots_eqM s m _ [] (fitsV_seven h)]
        · rw [if_neg h7, if_neg h7]
theorem spots_eqL (s : Sch) : ∀ (l : List Val) (t : Typ), fitsL s l t = true → spotsRL s l t = spotsPL s l t
  | [], _, _ => by rw [spotsRL, spotsPL]
  | v :: l, t, h => by
    rw [fitsL, Bool.and_eq_true] at h
    rw [spotsRL, spotsPL, spots_eq s v t true false h.1, spots_eqL s l t h.2]
theorem spots_eqM (s : Sch) : ∀ (m : List Mem) (ps : List Par) (seen : List Str), fitsM s ps m seen = true → spotsRM s m ps = spotsPM s m ps
  | [], _, _, _ => by rw [spotsRM, spotsPM]
  | .mk nm v :: m, ps, seen, h => by
    rw [fitsM, Bool.and_eq_true, Bool.and_eq_true] at h
    obtain ⟨h1, h2, h3⟩ := h
    rw [spotsRM, spotsPM, spots_eqM s m ps _ h3]
    unfold parR
    cases hp : parO ps nm with
    | none => rw [hp] at h1; cases h1
    | some p =>
      rw [hp] at h1
      simp only
      rw [spots_eq s v p.t false p.has h1]
end

/-! The variables of a value, each once. -/
def addNew (l : List Str) (x : Str) : List Str := if x ∈ l then l else l ++ [x]
mutual
def varsV : Val → List Str → List Str
  | .mk k n str l m, acc => if k = 8 then addNew acc str else if k = 6 then varsL l acc else if k = 7 then varsM m acc else acc
def varsL : List Val → List Str → List Str
  | [], acc => acc
  | v :: l, acc => varsL l (varsV v acc)
def varsM : List Mem → List Str → List Str
  | [], acc => acc
  | .mk _ v :: m, acc => varsM m (varsV v acc)
end
mutual
theorem vars_spots (s : Sch) : ∀ (v : Val) (t : Typ) (w has : Bool) (acc : List Str), fitsV s v t w = true → varsV v acc = ((spotsP s v t has).map Spt.var).foldl addNew acc
  | .mk k n str l m, t, w, has, acc, h => by
    rw [varsV, spotsP]
    by_cases h8 : k = 8
    · rw [if_pos h8, if_pos h8]; rfl
    · rw [if_neg h8, if_neg h8]
      by_cases h6 : k = 6
      · subst h6
        obtain ⟨h1, h2, h3⟩ := fitsV_six h
        rw [if_pos rfl, if_pos rfl, if_pos ⟨h1, h2⟩, vars_spotsL s l (itemT t) acc h3]
      · rw [if_neg h6, if_neg h6]
        by_cases h7 : k = 7
        · subst h7
          rw [if_pos rfl, if_pos rfl, vars_spotsM s m _ [] acc (fitsV_seven h)]
        · rw [if_neg h7, if_neg h7]; rfl
theorem vars_spotsL (s : Sch) : ∀ (l : List Val) (t : Typ) (acc : List Str), fitsL s l t = true → varsL l acc = ((spotsPL s l t).map Spt.var).foldl addNew acc
  | [], _, _, _ => by rw [varsL, spotsPL]; rfl
  | v :: l, t, acc, h => by
    rw [fitsL, Bool.and_eq_true] at h
    rw [varsL, spotsPL, List.map_append, List.foldl_append, ← vars_spots s v t true false acc h.1, vars_spotsL s l t _ h.2]
theorem vars_spotsM (s : Sch) : ∀ (m : List Mem) (ps : List Par) (seen acc : List Str), fitsM s ps m seen = true → varsM m acc = ((spotsPM s m ps).map Spt.var).foldl addNew acc
  | [], _, _, _, _ => by rw [varsM, spotsPM]; rfl
  | .mk nm v :: m, ps, seen, acc, h => by
    rw [fitsM, Bool.and_eq_true, Bool.and_eq_true] at h
    obtain ⟨h1, h2, h3⟩ := h
    rw [varsM, spotsPM, List.map_append, List.foldl_append, vars_spotsM s m ps _ _ h3]
    cases hp : parO ps nm with
    | none => rw [hp] at h1; cases h1
    | some p =>
      rw [hp] at h1
      simp only
      rw [← vars_spots s v p.t false p.has acc h1]
end

/-! Plain laws. -/
theorem fitsV_two {s : Sch} {v : Val} {t u : Typ} {w : Bool} (h0 : v.kind ≠ 0) (ht : rightT t = true) (hu : rightT u = true) (hl : t.lists = u.lists) (hn : t.name = u.name) (hi : itemT t = itemT u) : fitsV s v t w = fitsV s v u w := by
  rw [fitsV_eq, fitsV_eq, ht, hu, hl, hn, hi, if_neg h0, if_neg h0]
theorem rightT_bits {t u : Typ} (ht : rightT t = true) (hn : u.name = t.name) (hl : u.lists = t.lists) (hm : u.musts / 2 = t.musts / 2) : rightT u = true := by
  rw [rightT_iff] at *
  obtain ⟨h1, h2, h3, h4, h5⟩ := ht
  rw [hn, hl]
  rw [Int.pow_succ] at h5 ⊢
  have h6 : t.musts / 2 < 2 ^ t.lists.toNat := by omega
  exact ⟨h1, h2, h3, by omega, by omega⟩
theorem bareT_name (t : Typ) : (bareT t).name = t.name ∧ (bareT t).lists = t.lists ∧ (bareT t).musts / 2 = t.musts / 2 := by
  unfold bareT
  split
  · refine ⟨rfl, rfl, ?_⟩
    show (if t.musts % 2 = 1 then t.musts - 1 else t.musts) / 2 = _
    split <;> omega
  · exact ⟨rfl, rfl, rfl⟩
theorem mustT_name (t : Typ) : (mustT t).name = t.name ∧ (mustT t).lists = t.lists ∧ (mustT t).musts / 2 = t.musts / 2 := by
  unfold mustT
  split
  · refine ⟨rfl, rfl, ?_⟩
    show (if t.musts % 2 = 1 then t.musts else t.musts + 1) / 2 = _
    split <;> omega
  · exact ⟨rfl, rfl, rfl⟩
theorem right_bareT {t : Typ} (h : rightT t = true) : rightT (bareT t) = true := rightT_bits h (bareT_name t).1 (bareT_name t).2.1 (bareT_name t).2.2
theorem right_mustT {t : Typ} (h : rightT t = true) : rightT (mustT t) = true := rightT_bits h (mustT_name t).1 (mustT_name t).2.1 (mustT_name t).2.2
theorem is_bareT {t : Typ} (h : rightT t = true) : isT (bareT t) = false := by
  unfold isT
  have e : (bareT t).musts % 2 = 0 := by
    unfold bareT
    rw [if_pos h]
    show (if t.musts % 2 = 1 then t.musts - 1 else t.musts) % 2 = 0
    split <;> omega
  rw [e]; simp
theorem is_mustT {t : Typ} (h : rightT t = true) : isT (mustT t) = true := by
  unfold isT
  have e : (mustT t).musts % 2 = 1 := by
    unfold mustT
    rw [if_pos h]
    show (if t.musts % 2 = 1 then t.musts else t.musts + 1) % 2 = 1
    split <;> omega
  rw [e, right_mustT h]; rfl
theorem item_same {t u : Typ} (hn : u.name = t.name) (hl : u.lists = t.lists) (hm : u.musts / 2 = t.musts / 2) : itemT u = itemT t := by
  unfold itemT; rw [hn, hl, hm]
theorem fits_bare_must {s : Sch} {v : Val} {t : Typ} {w : Bool} (h : rightT t = true) (h0 : v.kind ≠ 0) : fitsV s v (bareT t) w = fitsV s v (mustT t) w := by
  obtain ⟨a1, a2, a3⟩ := bareT_name t
  obtain ⟨b1, b2, b3⟩ := mustT_name t
  exact fitsV_two h0 (right_bareT h) (right_mustT h) (a2.trans b2.symm) (a1.trans b1.symm) ((item_same a1 a2 a3).trans (item_same b1 b2 b3).symm)
theorem fits_null {s : Sch} {v : Val} {t : Typ} {w : Bool} (h0 : v.kind = 0) : fitsV s v t w = (rightT t && !isT t) := by
  rw [fitsV_eq, if_neg (by omega), if_pos h0]
theorem lit_bare (s : Sch) (t : Typ) (v : Val) (h : rightT t = true) : (litR s (mustT t) v = true → litR s (bareT t) v = true) ∧ (v.kind ≠ 0 → litR s (bareT t) v = litR s (mustT t) v) ∧ litR s t zeroVal = !isT t := by
  refine ⟨fun hb => ?_, fun h0 => ?_, ?_⟩
  · unfold litR at *
    rw [Bool.and_eq_true] at *
    refine ⟨hb.1, ?_⟩
    by_cases h0 : v.kind = 0
    · rw [fits_null h0, right_bareT h, is_bareT h]; rfl
    · rw [fits_bare_must h h0]; exact hb.2
  · unfold litR
    rw [fits_bare_must h h0]
  · unfold litR
    rw [fits_null rfl, h]
    rw [show allV good zeroVal = true from rfl]; rfl
theorem right_listT {t : Typ} (h : rightT t = true) (hl : t.lists ≠ 4) : rightT (listT t) = true := by
  rw [rightT_iff] at *
  obtain ⟨h1, h2, h3, h4, h5⟩ := h
  refine ⟨h1, ?_, ?_, ?_, ?_⟩
  · show 0 ≤ t.lists + 1; omega
  · show t.lists + 1 ≤ 4; omega
  · show 0 ≤ t.musts * 2; omega
  · show t.musts * 2 < 2 ^ ((t.lists + 1).toNat + 1)
    rw [show (t.lists + 1).toNat = t.lists.toNat + 1 by omega, Int.pow_succ 2 (t.lists.toNat + 1)]
    omega
theorem item_listT (t : Typ) : itemT (listT t) = t := by
  unfold itemT listT
  have e1 : t.lists + 1 - 1 = t.lists := by omega
  have e2 : t.musts * 2 / 2 = t.musts := by omega
  simp only [e1, e2]
theorem lit_alone (s : Sch) (t : Typ) (v : Val) (h : rightT t = true) (hl : t.lists ≠ 4) (h6 : v.kind ≠ 6) (h8 : v.kind ≠ 8) (h0 : v.kind ≠ 0) :
    litR s (listT t) v = litR s t v ∧ litR s (mustT (listT t)) v = litR s t v := by
  have hr := right_listT h hl
  have hm := right_mustT hr
  have hl0 : (listT t).lists ≠ 0 := by
    have := (rightT_iff.1 h).2.1
    show t.lists + 1 ≠ 0; omega
  obtain ⟨b1, b2, b3⟩ := mustT_name (listT t)
  unfold litR
  refine ⟨?_, ?_⟩
  · rw [fitsV_down h8 h0 h6 hr hl0, item_listT]; rfl
  · rw [fitsV_down h8 h0 h6 hm (by rw [b2]; exact hl0), item_same b1 b2 b3, item_listT]; rfl
/-- An item of a list that is written may stand there as itself. -/
theorem fits_within (s : Sch) (v : Val) (t : Typ) : fitsV s v t true = (fitsV s v t false && (decide (t.lists = 0) || (v.kind == 6 || v.kind == 8 || v.kind == 0))) := by
  rw [fitsV_eq, fitsV_eq]
  by_cases h8 : v.kind = 8
  · simp [h8]
  · by_cases h0 : v.kind = 0
    · simp [h0]
    · by_cases hl : t.lists = 0
      · simp [h8, h0, hl]
      · by_cases h6 : v.kind = 6
        · simp [h6, hl]
        · simp [h8, h0, h6, hl]
theorem lit_lists (s : Sch) (t : Typ) (l : List Val) (n : Int) (str : Str) (h : rightT t = true) (hl : t.lists ≠ 4) :
    litR s (listT t) (.mk 6 0 [] l []) = l.all (fun x => litR s t x && (decide (t.lists = 0) || (x.kind == 6 || x.kind == 8 || x.kind == 0))) ∧ (t.lists = 0 → litR s t (.mk 6 0 [] l []) = false) := by
  have hl0 : (listT t).lists ≠ 0 := by
    have := (rightT_iff.1 h).2.1
    show t.lists + 1 ≠ 0; omega
  refine ⟨?_, fun h0 => ?_⟩
  · unfold litR
    rw [fitsV_list rfl (right_listT h hl) hl0, item_listT, allV]
    show ((if (6 : Int) = 6 then allL good l && true else _) && fitsL s l t) = _
    rw [if_pos rfl, Bool.and_true]
    induction l with
    | nil => rw [allL, fitsL]; rfl
    | cons x l ih =>
      rw [allL, fitsL, List.all_cons, ← ih, fits_within]
      cases allV good x <;> cases fitsV s x t false <;> cases allL good l <;> simp
  · unfold litR
    rw [fitsV_bare (v := .mk 6 0 [] l []) (show (6 : Int) ≠ 8 by decide) (show (6 : Int) ≠ 0 by decide) h h0]
    have : bareV s t.name (.mk 6 0 [] l []) ≠ true := fun e => absurd rfl (bareB_six e)
    simp at this
    rw [this, Bool.and_false]
end Go.Proofs.YtijlmchfepjjkaaDoor
