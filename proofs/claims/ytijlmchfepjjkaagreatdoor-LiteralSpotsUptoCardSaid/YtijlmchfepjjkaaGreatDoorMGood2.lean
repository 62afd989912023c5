/-
  The package value: all, Good.
-/
import Derived.Test.YtijlmchfepjjkaaGreatDoorMGood
namespace Go.Proofs.YtijlmchfepjjkaaGreatDoor
open Go Go.Av
set_option maxRecDepth 100000
set_option maxHeartbeats 8000000
set_option linter.unusedVariables false
set_option linter.unusedSimpArgs false
attribute [local irreducible] HCode AOps PFn AFn Av.Step TStep

section
variable (g : Str → Bool)
mutual
def allV : Val → Bool
  | .mk k n s l m => if k = 6 then allL l && (n == 0 && s == [] && decide (m.length = 0)) else if k = 7 then allM m && (n == 0 && s == [] && decide (l.length = 0)) else singleB (.mk k n s l m)
def allL : List Val → Bool
  | [] => true
  | v :: l => allV v && allL l
def allM : List Mem → Bool
  | [] => true
  | .mk n v :: l => (g n && allV v) && allM l
end
theorem allV_eq (v : Val) : allV g v = if v.kind = 6 then allL g v.l && (v.n == 0 && v.s == [] && decide (v.m.length = 0)) else if v.kind = 7 then allM g v.m && (v.n == 0 && v.s == [] && decide (v.l.length = 0)) else singleB v := by
  cases v; rw [allV]; rfl
theorem allL_drop {l : List Val} {k : Nat} (h : k < l.length) : allL g (l.drop k) = (allV g l[k] && allL g (l.drop (k + 1))) := by
  rw [List.drop_eq_getElem_cons h, allL]
theorem allM_drop {l : List Mem} {k : Nat} (h : k < l.length) : allM g (l.drop k) = ((g l[k].name && allV g l[k].v) && allM g (l.drop (k + 1))) := by
  rw [List.drop_eq_getElem_cons h]
  cases l[k]; rw [allM]; rfl
end
theorem Val.s_len (v : Val) : v.s.length ≤ v.size := by rw [v.size_eq]; omega
theorem Mem.name_len {v : Val} {k : Nat} (h : k < v.m.length) : v.m[k].name.length ≤ v.size := by
  have := sumSize_mem (size := Mem.size) (List.getElem_mem h)
  have h2 : v.m[k].size = v.m[k].name.length + 2 + v.m[k].v.size := rfl
  rw [v.size_eq]; omega

theorem vall (F : FuncId) (g : Str → Bool) (hF : ∀ s : Str, s.length ≤ 2097152 → PFn Tryz.prog F [.str s] (.bool (g s))) : ∀ N : Nat, N ≤ 2097152 → ∀ v : Val, v.size ≤ N → PFn Tryz.prog 69 [v.enc, .fn (.func F) [] []] (.bool (allV g v))
  | 0, _, v, hv => absurd hv (by have := v.size_pos; omega)
  | N + 1, hN, v, hv => by
    have ih := vall F g hF N (by omega)
    refine AFn.plain rfl (by simp [AV.closedL, AV.closed, Val.closed]) (AFn.enter [4] Tryz.func69 rfl rfl rfl rfl rfl (by decide) ?_)
    have hll := v.l_len
    have hml := v.m_len
    rw [allV_eq]
    by_cases c6 : v.kind = 6
    · have e6 : (v.kind == 6) = true := by rw [c6]; rfl
      rw [if_pos c6]
      have hb := vbare v.kind v.n v.s [] v.mv .nil .no rfl (by simp only [AV.closed, v.mv_closed]; rfl)
      rw [v.mv_len] at hb
      repeat' first
        | refine A.box_r rfl rfl ?_
        | refine .seq ?_ | refine .rg ?_ | refine .rd ?_ | refine .block ?_ | refine .scope ?_ | refine .skip ?_ | refine .label ?_ | refine .exit ?_ | refine .ret ?_
        | refine .ct ?_ | refine .cf ?_ | refine .cy ?_ | refine .cn ?_ | (refine .cond rfl ?_ ?_ <;> intro hc)
        | refine A.nil_seq ?_ | refine .nl ?_ | refine .dd ?_ | refine .ys ?_ | refine .no ?_ | (refine A.guard rfl ?_ ?_ <;> intro hc)
        | refine .lb ?_ | refine .ln ?_ | refine .ls ?_ | refine .pv ?_ | refine .ix ?_ | refine .pt ?_ | refine .pf ?_ | refine .bx ?_ | refine .al ?_ | refine .st ?_ | refine .ad ?_ | refine .sb ?_ | refine .mf ?_ | refine .cl ?_ | refine .cw ?_ | refine .ck ?_ | fail
      change HCode _ _ _ _ _ _ _
      refine HCode.loop (fun n s σ => ∃ k : Nat, n = v.l.length - k ∧ k ≤ v.l.length ∧ allL g v.l = allL g (v.l.drop k) ∧ σ = ⟨[Ob.cells [.int .i64 v.kind, .int .i64 v.n, .str v.s, .slice [] .nil, .slice v.mv .no]], []⟩ ∧
        s = [(22, .int .i64 k), (21, .int .i64 v.lv.length), (20, .slice v.lv .no), (6, .bool true), (5, .ptr 0 0), (1, .fn (.func F) [] [])])
        (s0 := [(22, .int .i64 (0 : Nat)), (21, .int .i64 v.lv.length), (20, .slice v.lv .no), (6, .bool true), (5, .ptr 0 0), (1, .fn (.func F) [] [])])
        ⟨rfl, rfl, rfl, rfl, rfl, rfl, trivial⟩ ⟨0, rfl, Nat.zero_le _, rfl, rfl, rfl⟩ ?_
      rintro n s σ ⟨k, rfl, hk, hp, rfl, rfl⟩
      by_cases h1 : k < v.l.length
      · have d1 : decide ((k : Int) < (v.lv.length : Int)) = true := by rw [v.lv_len]; simp [h1]
        have x1 := Val.lv_get h1
        have hc := ih v.l[k] (by have := Val.size_l h1; omega)
        by_cases c : allV g v.l[k] = true
        · have e1 : (!allV g v.l[k]) = false := by rw [c]; rfl
          repeat' first
            | refine .seq ?_ | refine .rg ?_ | refine .rd ?_ | refine .block ?_ | refine .scope ?_ | refine .skip ?_ | refine .label ?_ | refine .exit ?_ | refine .ret ?_
            | refine .ct ?_ | refine .cf ?_ | refine .cy ?_ | refine .cn ?_ | (refine .cond rfl ?_ ?_ <;> intro hc)
            | refine A.nil_seq ?_ | refine .nl ?_ | refine .dd ?_ | refine .ys ?_ | refine .no ?_ | (refine A.guard rfl ?_ ?_ <;> intro hc)
            | refine .lb ?_ | refine .ln ?_ | refine .ls ?_ | refine .pv ?_ | refine .ix ?_ | refine .pt ?_ | refine .pf ?_ | refine .bx ?_ | refine .al ?_ | refine .st ?_ | refine .ad ?_ | refine .sb ?_ | refine .mf ?_ | refine .cl ?_ | refine .cw ?_ | refine .ck ?_
            | refine A.call rfl hc (WeakL.refl _) ?_ | fail
          refine ⟨v.l.length - (k + 1), by omega, [(22, .int .i64 ((k + 1 : Nat) : Int)), (21, .int .i64 v.lv.length), (20, .slice v.lv .no), (6, .bool true), (5, .ptr 0 0), (1, .fn (.func F) [] [])],
            ⟨rfl, rfl, rfl, congrArg AV.bool c, rfl, rfl, trivial⟩, by simp [belowS, AV.low, AV.lowL, Val.lv_low], by simp [belowB, belowT, Ob.low, AV.low, AV.lowL, Val.mv_low], k + 1, rfl, by omega, by rw [hp, allL_drop g h1, c]; rfl, rfl, rfl⟩
        · have c' : allV g v.l[k] = false := by simpa using c
          have e1 : (!allV g v.l[k]) = true := by rw [c']; rfl
          repeat' first
            | refine .seq ?_ | refine .rg ?_ | refine .rd ?_ | refine .block ?_ | refine .scope ?_ | refine .skip ?_ | refine .label ?_ | refine .exit ?_ | refine .ret ?_
            | refine .ct ?_ | refine .cf ?_ | refine .cy ?_ | refine .cn ?_ | (refine .cond rfl ?_ ?_ <;> intro hc)
            | refine A.nil_seq ?_ | refine .nl ?_ | refine .dd ?_ | refine .ys ?_ | refine .no ?_ | (refine A.guard rfl ?_ ?_ <;> intro hc)
            | refine .lb ?_ | refine .ln ?_ | refine .ls ?_ | refine .pv ?_ | refine .ix ?_ | refine .pt ?_ | refine .pf ?_ | refine .bx ?_ | refine .al ?_ | refine .st ?_ | refine .ad ?_ | refine .sb ?_ | refine .mf ?_ | refine .cl ?_ | refine .cw ?_ | refine .ck ?_
            | refine A.call rfl hc (WeakL.refl _) ?_ | fail
          refine Fin.ret1 rfl (Weak.eq (congrArg AV.bool ?_))
          rw [hp, allL_drop g h1, c']; rfl
      · have d1 : decide ((k : Int) < (v.lv.length : Int)) = false := by rw [v.lv_len]; simp; omega
        repeat' first
          | refine .seq ?_ | refine .rg ?_ | refine .rd ?_ | refine .block ?_ | refine .scope ?_ | refine .skip ?_ | refine .label ?_ | refine .exit ?_ | refine .ret ?_
          | refine .ct ?_ | refine .cf ?_ | refine .cy ?_ | refine .cn ?_ | (refine .cond rfl ?_ ?_ <;> intro hc)
          | refine A.nil_seq ?_ | refine .nl ?_ | refine .dd ?_ | refine .ys ?_ | refine .no ?_ | (refine A.guard rfl ?_ ?_ <;> intro hc)
          | refine .lb ?_ | refine .ln ?_ | refine .ls ?_ | refine .pv ?_ | refine .ix ?_ | refine .pt ?_ | refine .pf ?_ | refine .bx ?_ | refine .al ?_ | refine .st ?_ | refine .ad ?_ | refine .sb ?_ | refine .mf ?_ | refine .cl ?_ | refine .cw ?_ | refine .ck ?_
          | refine A.call rfl hb (WeakL.refl _) ?_ | fail
        refine Fin.ret1 rfl (Weak.eq (congrArg AV.bool ?_))
        rw [hp, List.drop_eq_nil_of_le (by omega), allL]
        simp
    · have e6 : (v.kind == 6) = false := by simpa using c6
      rw [if_neg c6]
      by_cases c7 : v.kind = 7
      · have e7 : (v.kind == 7) = true := by rw [c7]; rfl
        rw [if_pos c7]
        have hb := vbare v.kind v.n v.s v.lv [] .no .nil (by simp only [AV.closed, v.lv_closed]; rfl) rfl
        rw [v.lv_len] at hb
        repeat' first
          | refine A.box_r rfl rfl ?_
          | refine .seq ?_ | refine .rg ?_ | refine .rd ?_ | refine .block ?_ | refine .scope ?_ | refine .skip ?_ | refine .label ?_ | refine .exit ?_ | refine .ret ?_
          | refine .ct ?_ | refine .cf ?_ | refine .cy ?_ | refine .cn ?_ | (refine .cond rfl ?_ ?_ <;> intro hc)
          | refine A.nil_seq ?_ | refine .nl ?_ | refine .dd ?_ | refine .ys ?_ | refine .no ?_ | (refine A.guard rfl ?_ ?_ <;> intro hc)
          | refine .lb ?_ | refine .ln ?_ | refine .ls ?_ | refine .pv ?_ | refine .ix ?_ | refine .pt ?_ | refine .pf ?_ | refine .bx ?_ | refine .al ?_ | refine .st ?_ | refine .ad ?_ | refine .sb ?_ | refine .mf ?_ | refine .cl ?_ | refine .cw ?_ | refine .ck ?_ | fail
        change HCode _ _ _ _ _ _ _
        refine HCode.loop (fun n s σ => ∃ k : Nat, n = v.m.length - k ∧ k ≤ v.m.length ∧ allM g v.m = allM g (v.m.drop k) ∧ σ = ⟨[Ob.cells [.int .i64 v.kind, .int .i64 v.n, .str v.s, .slice v.lv .no, .slice [] .nil]], []⟩ ∧
          s = [(38, .int .i64 k), (37, .int .i64 v.mv.length), (36, .slice v.mv .no), (6, .bool true), (5, .ptr 0 0), (1, .fn (.func F) [] [])])
          (s0 := [(38, .int .i64 (0 : Nat)), (37, .int .i64 v.mv.length), (36, .slice v.mv .no), (6, .bool true), (5, .ptr 0 0), (1, .fn (.func F) [] [])])
          ⟨rfl, rfl, rfl, rfl, rfl, rfl, trivial⟩ ⟨0, rfl, Nat.zero_le _, rfl, rfl, rfl⟩ ?_
        rintro n s σ ⟨k, rfl, hk, hp, rfl, rfl⟩
        by_cases h1 : k < v.m.length
        · have d1 : decide ((k : Int) < (v.mv.length : Int)) = true := by rw [v.mv_len]; simp [h1]
          have x1 := Val.mv_get h1
          have hc := ih v.m[k].v (by have := Val.size_m h1; omega)
          have hf := hF v.m[k].name (by have := Mem.name_len h1; omega)
          by_cases c0 : g v.m[k].name = true
          · by_cases c : allV g v.m[k].v = true
            · have e1 : (!allV g v.m[k].v) = false := by rw [c]; rfl
              repeat' first
                | refine .seq ?_ | refine .rg ?_ | refine .rd ?_ | refine .block ?_ | refine .scope ?_ | refine .skip ?_ | refine .label ?_ | refine .exit ?_ | refine .ret ?_
                | refine .ct ?_ | refine .cf ?_ | refine .cy ?_ | refine .cn ?_ | (refine .cond rfl ?_ ?_ <;> intro hc)
                | refine A.nil_seq ?_ | refine .nl ?_ | refine .dd ?_ | refine .ys ?_ | refine .no ?_ | (refine A.guard rfl ?_ ?_ <;> intro hc)
                | refine .lb ?_ | refine .ln ?_ | refine .ls ?_ | refine .pv ?_ | refine .ix ?_ | refine .pt ?_ | refine .pf ?_ | refine .bx ?_ | refine .al ?_ | refine .st ?_ | refine .ad ?_ | refine .sb ?_ | refine .mf ?_ | refine .cl ?_ | refine .cw ?_ | refine .ck ?_
                | refine A.call rfl hc (WeakL.refl _) ?_ | refine A.callv rfl rfl hf (WeakL.refl _) ?_ | fail
              refine ⟨v.m.length - (k + 1), by omega, [(38, .int .i64 ((k + 1 : Nat) : Int)), (37, .int .i64 v.mv.length), (36, .slice v.mv .no), (6, .bool true), (5, .ptr 0 0), (1, .fn (.func F) [] [])],
                ⟨rfl, rfl, rfl, congrArg AV.bool c, rfl, rfl, trivial⟩, by simp [belowS, AV.low, AV.lowL, Val.mv_low], by simp [belowB, belowT, Ob.low, AV.low, AV.lowL, Val.lv_low], k + 1, rfl, by omega, by rw [hp, allM_drop g h1, c0, c]; rfl, rfl, rfl⟩
            · have c' : allV g v.m[k].v = false := by simpa using c
              have e1 : (!allV g v.m[k].v) = true := by rw [c']; rfl
              repeat' first
                | refine .seq ?_ | refine .rg ?_ | refine .rd ?_ | refine .block ?_ | refine .scope ?_ | refine .skip ?_ | refine .label ?_ | refine .exit ?_ | refine .ret ?_
                | refine .ct ?_ | refine .cf ?_ | refine .cy ?_ | refine .cn ?_ | (refine .cond rfl ?_ ?_ <;> intro hc)
                | refine A.nil_seq ?_ | refine .nl ?_ | refine .dd ?_ | refine .ys ?_ | refine .no ?_ | (refine A.guard rfl ?_ ?_ <;> intro hc)
                | refine .lb ?_ | refine .ln ?_ | refine .ls ?_ | refine .pv ?_ | refine .ix ?_ | refine .pt ?_ | refine .pf ?_ | refine .bx ?_ | refine .al ?_ | refine .st ?_ | refine .ad ?_ | refine .sb ?_ | refine .mf ?_ | refine .cl ?_ | refine .cw ?_ | refine .ck ?_
                | refine A.call rfl hc (WeakL.refl _) ?_ | refine A.callv rfl rfl hf (WeakL.refl _) ?_ | fail
              refine Fin.ret1 rfl (Weak.eq (congrArg AV.bool ?_))
              rw [hp, allM_drop g h1, c', c0]; rfl
          · have c0' : g v.m[k].name = false := by simpa using c0
            repeat' first
              | refine .seq ?_ | refine .rg ?_ | refine .rd ?_ | refine .block ?_ | refine .scope ?_ | refine .skip ?_ | refine .label ?_ | refine .exit ?_ | refine .ret ?_
              | refine .ct ?_ | refine .cf ?_ | refine .cy ?_ | refine .cn ?_ | (refine .cond rfl ?_ ?_ <;> intro hc)
              | refine A.nil_seq ?_ | refine .nl ?_ | refine .dd ?_ | refine .ys ?_ | refine .no ?_ | (refine A.guard rfl ?_ ?_ <;> intro hc)
              | refine .lb ?_ | refine .ln ?_ | refine .ls ?_ | refine .pv ?_ | refine .ix ?_ | refine .pt ?_ | refine .pf ?_ | refine .bx ?_ | refine .al ?_ | refine .st ?_ | refine .ad ?_ | refine .sb ?_ | refine .mf ?_ | refine .cl ?_ | refine .cw ?_ | refine .ck ?_
              | refine A.call rfl hc (WeakL.refl _) ?_ | refine A.callv rfl rfl hf (WeakL.refl _) ?_ | fail
            refine Fin.ret1 rfl (Weak.eq (congrArg AV.bool ?_))
            rw [hp, allM_drop g h1, c0']; rfl
        · have d1 : decide ((k : Int) < (v.mv.length : Int)) = false := by rw [v.mv_len]; simp; omega
          repeat' first
            | refine .seq ?_ | refine .rg ?_ | refine .rd ?_ | refine .block ?_ | refine .scope ?_ | refine .skip ?_ | refine .label ?_ | refine .exit ?_ | refine .ret ?_
            | refine .ct ?_ | refine .cf ?_ | refine .cy ?_ | refine .cn ?_ | (refine .cond rfl ?_ ?_ <;> intro hc)
            | refine A.nil_seq ?_ | refine .nl ?_ | refine .dd ?_ | refine .ys ?_ | refine .no ?_ | (refine A.guard rfl ?_ ?_ <;> intro hc)
            | refine .lb ?_ | refine .ln ?_ | refine .ls ?_ | refine .pv ?_ | refine .ix ?_ | refine .pt ?_ | refine .pf ?_ | refine .bx ?_ | refine .al ?_ | refine .st ?_ | refine .ad ?_ | refine .sb ?_ | refine .mf ?_ | refine .cl ?_ | refine .cw ?_ | refine .ck ?_
            | refine A.call rfl hb (WeakL.refl _) ?_ | fail
          refine Fin.ret1 rfl (Weak.eq (congrArg AV.bool ?_))
          rw [hp, List.drop_eq_nil_of_le (by omega), allM]
          simp
      · have e7 : (v.kind == 7) = false := by simpa using c7
        rw [if_neg c7]
        have hs := vsingle v (by omega)
        repeat' first
          | refine A.box_r rfl rfl ?_
          | refine .seq ?_ | refine .rg ?_ | refine .rd ?_ | refine .block ?_ | refine .scope ?_ | refine .skip ?_ | refine .label ?_ | refine .exit ?_ | refine .ret ?_
          | refine .ct ?_ | refine .cf ?_ | refine .cy ?_ | refine .cn ?_ | (refine .cond rfl ?_ ?_ <;> intro hc)
          | refine A.nil_seq ?_ | refine .nl ?_ | refine .dd ?_ | refine .ys ?_ | refine .no ?_ | (refine A.guard rfl ?_ ?_ <;> intro hc)
          | refine .lb ?_ | refine .ln ?_ | refine .ls ?_ | refine .pv ?_ | refine .ix ?_ | refine .pt ?_ | refine .pf ?_ | refine .bx ?_ | refine .al ?_ | refine .st ?_ | refine .ad ?_ | refine .sb ?_ | refine .mf ?_ | refine .cl ?_ | refine .cw ?_ | refine .ck ?_
          | refine A.call rfl hs (WeakL.refl _) ?_ | fail
        exact Fin.ret1 rfl (Weak.refl _)
theorem vGood (v : Val) (hv : v.size ≤ 2097152) : PFn Tryz.prog 51 [v.enc] (.bool (allV good v)) := by
  have h := vall 70 good (fun s hs => lgood s (by omega)) v.size hv v (Nat.le_refl _)
  refine AFn.plain rfl (by simp [AV.closedL, Val.closed]) (AFn.enter [2] Tryz.func51 rfl rfl rfl rfl rfl (by decide) ?_)
  repeat' first
    | refine A.box_r rfl rfl ?_
    | refine .seq ?_ | refine .rg ?_ | refine .rd ?_ | refine .block ?_ | refine .scope ?_ | refine .skip ?_ | refine .label ?_ | refine .exit ?_ | refine .ret ?_
    | refine .ct ?_ | refine .cf ?_ | refine .cy ?_ | refine .cn ?_ | (refine .cond rfl ?_ ?_ <;> intro hc)
    | refine A.nil_seq ?_ | refine .nl ?_ | refine .dd ?_ | refine .ys ?_ | refine .no ?_ | (refine A.guard rfl ?_ ?_ <;> intro hc)
    | refine .lb ?_ | refine .ln ?_ | refine .ls ?_ | refine .pv ?_ | refine .ix ?_ | refine .pt ?_ | refine .pf ?_ | refine .bx ?_ | refine .al ?_ | refine .st ?_ | refine .ad ?_ | refine .sb ?_ | refine .mf ?_ | refine .cl ?_ | refine .cw ?_ | refine .ck ?_
    | refine A.call rfl h (WeakL.refl _) ?_ | fail
  exact Fin.ret1 rfl (Weak.refl _)

end Go.Proofs.YtijlmchfepjjkaaGreatDoor
