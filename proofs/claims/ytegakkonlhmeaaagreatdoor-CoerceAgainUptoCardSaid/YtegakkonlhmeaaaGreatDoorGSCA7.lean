/-
  Contracts and plain facts for a law, joined.
-/
import Derived.Test.YtegakkonlhmeaaaGreatDoorGSCA4
import Derived.Test.YtegakkonlhmeaaaGreatDoorGSCA1
import Derived.Test.YtegakkonlhmeaaaGreatDoorGSCA2
import Derived.Test.YtegakkonlhmeaaaGreatDoorGSCA3
import Derived.Test.YtegakkonlhmeaaaGreatDoorAvFun
import Derived.Test.YtegakkonlhmeaaaGreatDoorGSCA6
import Derived.Test.YtegakkonlhmeaaaGreatDoorGSCA5
set_option maxRecDepth 100000
set_option maxHeartbeats 16000000
set_option linter.unusedVariables false
set_option linter.unusedSimpArgs false
set_option linter.unusedSectionVars false
namespace Go.Proofs.YtegakkonlhmeaaaGreatDoor
open Go Go.Av
attribute [local irreducible] HCode AOps PFn AFn Av.Step TStep
mutual
def szV : Val → Nat
  | .mk _ _ s l m => 1 + s.length + szL l + szM m
def szL : List Val → Nat
  | [] => 0
  | v :: l => szV v + szL l
def szM : List Mem → Nat
  | [] => 0
  | .mk n v :: m => n.length + szV v + szM m
end
mutual
theorem szV_le : ∀ v : Val, szV v ≤ v.size
  | .mk _ _ s l m => by
    have h1 := szL_le l
    have h2 := szM_le m
    rw [szV, Val.size]; omega
theorem szL_le : ∀ l : List Val, szL l ≤ Val.sizeL l
  | [] => by rw [szL]; omega
  | v :: l => by
    have h1 := szV_le v
    have h2 := szL_le l
    rw [szL, Val.sizeL]; omega
theorem szM_le : ∀ m : List Mem, szM m ≤ Val.sizeM m
  | [] => by rw [szM]; omega
  | .mk n v :: m => by
    have h1 := szV_le v
    have h2 := szM_le m
    rw [szM, Val.sizeM]; omega
end
theorem szV_eq (v : Val) : szV v = 1 + v.s.length + szL v.l + szM v.m := by cases v; rw [szV]; rfl
theorem szL_take {l : List Val} {k : Nat} (h : k < l.length) : szL (l.take (k + 1)) = szL (l.take k) + szV l[k] := by
  induction l generalizing k with
  | nil => simp at h
  | cons x l ih =>
    cases k with
    | zero => simp [szL]
    | succ k => simp only [List.take_succ_cons, szL, List.getElem_cons_succ]; rw [ih (by simpa using h)]; omega
theorem szM_take {l : List Mem} {k : Nat} (h : k < l.length) : szM (l.take (k + 1)) = szM (l.take k) + l[k].name.length + szV l[k].v := by
  induction l generalizing k with
  | nil => simp at h
  | cons x l ih =>
    cases k with
    | zero => cases x; simp [szM, Mem.name, Mem.v]
    | succ k => cases x; simp only [List.take_succ_cons, szM, List.getElem_cons_succ]; rw [ih (by simpa using h)]; omega
theorem szL_mono (l : List Val) (k : Nat) : szL (l.take k) ≤ szL l := by
  induction l generalizing k with
  | nil => simp
  | cons x l ih =>
    cases k with
    | zero => simp [szL]
    | succ k => simp only [List.take_succ_cons, szL]; have := ih k; omega
theorem szM_mono (l : List Mem) (k : Nat) : szM (l.take k) ≤ szM l := by
  induction l generalizing k with
  | nil => simp
  | cons x l ih =>
    cases k with
    | zero => simp [szM]
    | succ k => cases x; simp only [List.take_succ_cons, szM]; have := ih k; omega
theorem kSize : ∀ N : Nat, N ≤ 137438953472 → ∀ v : Val, v.size ≤ N → PFn Tryz.prog 67 [v.enc] (.int .i64 (szV v))
  | 0, _, v, hv => absurd hv (by have := v.size_pos; omega)
  | N + 1, hN, v, hv => by
    have ih := kSize N (by omega)
    have hle := szV_le v
    have heq := szV_eq v
    have hll := v.l_len
    have hml := v.m_len
    refine AFn.plain rfl (by simp [AV.closedL, Val.closed]) (AFn.enter [2] Tryz.func67 rfl rfl rfl rfl rfl (by decide) ?_)
    repeat' first | refine .br ?_ | refine .seq ?_ | refine .rg ?_ | refine .rd ?_ | refine .block ?_ | refine .scope ?_ | refine .skip ?_ | refine .label ?_ | refine .exit ?_ | refine .ret ?_ | refine .ct ?_ | refine .cf ?_ | refine .cy ?_ | refine .cn ?_ | (refine .cond rfl ?_ ?_ <;> intro hc) | refine A.nil_seq ?_ | refine .nl ?_ | refine .dd ?_ | refine .ys ?_ | refine .no ?_ | (refine A.guard rfl ?_ ?_ <;> intro hc) | refine .lb ?_ | refine .ln ?_ | refine .ls ?_ | refine .pv ?_ | refine .ix ?_ | refine .pt ?_ | refine .pf ?_ | refine .bx ?_ | refine .al ?_ | refine .st ?_ | refine .ad ?_ | refine .sb ?_ | refine .cl ?_ | refine .ck ?_ | fail
    refine HCode.forK v.l.length (fun k => [(4, .int .i64 k), (3, .int .i64 ((1 : Int) + v.s.length + szL (v.l.take k))), (1, .rptr v.enc)]) (fun _ => ⟨[], []⟩) (fun _ => True) ⟨rfl, congrArg (AV.int .i64) (by simp [szL]), rfl, trivial⟩ rfl trivial fun k hk _ => ?_
    by_cases h1 : k < v.l.length
    · have d1 : decide ((k : Int) < (v.lv.length : Int)) = true := by rw [v.lv_len]; simp [h1]
      have x1 := Val.lv_get h1
      have hc := ih v.l[k] (by have := Val.size_l h1; omega)
      have ht := szL_take h1
      have hm := szL_mono v.l (k + 1)
      repeat' first | refine .seq ?_ | refine .rg ?_ | refine .rd ?_ | refine .block ?_ | refine .scope ?_ | refine .skip ?_ | refine .label ?_ | refine .exit ?_ | refine .ret ?_ | refine .ct ?_ | refine .cf ?_ | refine .cy ?_ | refine .cn ?_ | (refine .cond rfl ?_ ?_ <;> intro hc) | refine A.nil_seq ?_ | refine .nl ?_ | refine .dd ?_ | refine .ys ?_ | refine .no ?_ | (refine A.guard rfl ?_ ?_ <;> intro hc) | refine .lb ?_ | refine .ln ?_ | refine .ls ?_ | refine .pv ?_ | refine .ix ?_ | refine .pt ?_ | refine .pf ?_ | refine .bx ?_ | refine .al ?_ | refine .st ?_ | refine .ad ?_ | refine .sb ?_ | refine .cl ?_ | refine .ck ?_ | fail
      exact ⟨h1, ⟨rfl, congrArg (AV.int .i64) (by rw [ht]; omega), rfl, trivial⟩, by simp [belowS, AV.low], rfl, rfl, trivial⟩
    · have d1 : decide ((k : Int) < (v.lv.length : Int)) = false := by rw [v.lv_len]; simp; omega
      obtain rfl : k = v.l.length := by omega
      repeat' first | refine .seq ?_ | refine .rg ?_ | refine .rd ?_ | refine .block ?_ | refine .scope ?_ | refine .skip ?_ | refine .label ?_ | refine .exit ?_ | refine .ret ?_ | refine .ct ?_ | refine .cf ?_ | refine .cy ?_ | refine .cn ?_ | (refine .cond rfl ?_ ?_ <;> intro hc) | refine A.nil_seq ?_ | refine .nl ?_ | refine .dd ?_ | refine .ys ?_ | refine .no ?_ | (refine A.guard rfl ?_ ?_ <;> intro hc) | refine .lb ?_ | refine .ln ?_ | refine .ls ?_ | refine .pv ?_ | refine .ix ?_ | refine .pt ?_ | refine .pf ?_ | refine .bx ?_ | refine .al ?_ | refine .st ?_ | refine .ad ?_ | refine .sb ?_ | refine .cl ?_ | refine .ck ?_ | fail
      refine HCode.forK v.m.length (fun k => [(5, .int .i64 k), (3, .int .i64 ((1 : Int) + v.s.length + szL v.l + szM (v.m.take k))), (1, .rptr v.enc)]) (fun _ => ⟨[], []⟩) (fun _ => True) ⟨rfl, congrArg (AV.int .i64) (by simp [szM]), rfl, trivial⟩ rfl trivial fun j hj _ => ?_
      by_cases h2 : j < v.m.length
      · have d2 : decide ((j : Int) < (v.mv.length : Int)) = true := by rw [v.mv_len]; simp [h2]
        have x2 := Val.mv_get h2
        have hc := ih v.m[j].v (by have := Val.size_m h2; omega)
        have ht := szM_take h2
        have hm := szM_mono v.m (j + 1)
        repeat' first | refine .seq ?_ | refine .rg ?_ | refine .rd ?_ | refine .block ?_ | refine .scope ?_ | refine .skip ?_ | refine .label ?_ | refine .exit ?_ | refine .ret ?_ | refine .ct ?_ | refine .cf ?_ | refine .cy ?_ | refine .cn ?_ | (refine .cond rfl ?_ ?_ <;> intro hc) | refine A.nil_seq ?_ | refine .nl ?_ | refine .dd ?_ | refine .ys ?_ | refine .no ?_ | (refine A.guard rfl ?_ ?_ <;> intro hc) | refine .lb ?_ | refine .ln ?_ | refine .ls ?_ | refine .pv ?_ | refine .ix ?_ | refine .pt ?_ | refine .pf ?_ | refine .bx ?_ | refine .al ?_ | refine .st ?_ | refine .ad ?_ | refine .sb ?_ | refine .cl ?_ | refine .ck ?_ | fail
        exact ⟨h2, ⟨rfl, congrArg (AV.int .i64) (by rw [ht]; omega), rfl, trivial⟩, by simp [belowS, AV.low], rfl, rfl, trivial⟩
      · have d2 : decide ((j : Int) < (v.mv.length : Int)) = false := by rw [v.mv_len]; simp; omega
        obtain rfl : j = v.m.length := by omega
        repeat' first | refine .seq ?_ | refine .rg ?_ | refine .rd ?_ | refine .block ?_ | refine .scope ?_ | refine .skip ?_ | refine .label ?_ | refine .exit ?_ | refine .ret ?_ | refine .ct ?_ | refine .cf ?_ | refine .cy ?_ | refine .cn ?_ | (refine .cond rfl ?_ ?_ <;> intro hc) | refine A.nil_seq ?_ | refine .nl ?_ | refine .dd ?_ | refine .ys ?_ | refine .no ?_ | (refine A.guard rfl ?_ ?_ <;> intro hc) | refine .lb ?_ | refine .ln ?_ | refine .ls ?_ | refine .pv ?_ | refine .ix ?_ | refine .pt ?_ | refine .pf ?_ | refine .bx ?_ | refine .al ?_ | refine .st ?_ | refine .ad ?_ | refine .sb ?_ | refine .cl ?_ | refine .ck ?_ | fail
        refine Fin.ret1 rfl (Weak.eq (congrArg (AV.int .i64) ?_))
        rw [List.take_length, heq]; omega
theorem kSize' (v : Val) (h : v.size ≤ 137438953472) : PFn Tryz.prog 67 [v.enc] (.int .i64 (szV v)) := kSize _ h v (Nat.le_refl _)
def ltStrs (l : List Str) : Nat := sumSize (fun s : Str => 1 + s.length) l
def ltPars (l : List Par) : Nat := sumSize (fun p : Par => 1 + p.name.length + szV p.d) l
def ltDirs (l : List Dirc) : Nat := sumSize (fun d : Dirc => 1 + d.name.length + (1 + szM d.args)) l
def ltFlds (l : List Fld) : Nat := sumSize (fun f : Fld => 1 + f.name.length + ltPars f.params + ltDirs f.dirs) l
def ltDfn (d : Dfn) : Nat := 1 + d.name.length + ltStrs d.faces + ltStrs d.parts + ltPars d.params + ltFlds d.fields
def ltSch (s : Sch) : Nat := sumSize ltDfn s.defs
theorem sum_take {α : Type} {f : α → Nat} {l : List α} {k : Nat} (h : k < l.length) : sumSize f (l.take (k + 1)) = sumSize f (l.take k) + f l[k] := by
  induction l generalizing k with
  | nil => simp at h
  | cons x l ih =>
    cases k with
    | zero => simp [sumSize]
    | succ k => simp only [List.take_succ_cons, sumSize, List.getElem_cons_succ]; rw [ih (by simpa using h)]; omega
theorem sum_mono {α : Type} (f : α → Nat) (l : List α) (k : Nat) : sumSize f (l.take k) ≤ sumSize f l := by
  induction l generalizing k with
  | nil => simp
  | cons x l ih =>
    cases k with
    | zero => simp [sumSize]
    | succ k => simp only [List.take_succ_cons, sumSize]; have := ih k; omega
theorem sum_le {α : Type} {f g : α → Nat} (h : ∀ x, f x ≤ g x) : ∀ l : List α, sumSize f l ≤ sumSize g l
  | [] => Nat.le_refl _
  | x :: l => by simp only [sumSize]; have := h x; have := sum_le h l; omega
theorem szM_sum (m : List Mem) : szM m ≤ sumSize Mem.size m := by rw [← Val.sizeM_eq]; exact szM_le m
theorem ltStrs_le (l : List Str) : ltStrs l ≤ strsSize l := by
  have : ltStrs l ≤ sumSize (fun s : Str => s.length + 1) l := sum_le (fun _ => by omega) l
  unfold strsSize; omega
theorem ltPars_le (l : List Par) : ltPars l ≤ sumSize Par.size l := sum_le (fun p => by have := szV_le p.d; unfold Par.size; omega) l
theorem ltDirs_le (l : List Dirc) : ltDirs l ≤ sumSize Dirc.size l := sum_le (fun d => by have := szM_sum d.args; unfold Dirc.size; omega) l
theorem ltFlds_le (l : List Fld) : ltFlds l ≤ sumSize Fld.size l := sum_le (fun f => by have := ltPars_le f.params; have := ltDirs_le f.dirs; unfold Fld.size; omega) l
theorem ltDfn_le (d : Dfn) : ltDfn d ≤ d.size := by
  have := ltStrs_le d.faces; have := ltStrs_le d.parts; have := ltPars_le d.params; have := ltFlds_le d.fields
  unfold ltDfn Dfn.size; omega
theorem ltSch_le (s : Sch) : ltSch s ≤ s.size := by
  have : ltSch s ≤ sumSize Dfn.size s.defs := sum_le ltDfn_le s.defs
  unfold Sch.size; omega
theorem ltTexts (l : List Str) (h : ltStrs l ≤ 68719476736) (hl : l.length ≤ 68719476736) : PFn Tryz.prog 40 [.slice (l.map AV.str) .no] (.int .i64 (ltStrs l)) := by
  refine AFn.plain rfl (by simp [AV.closedL, AV.closed, str_closedL]) (AFn.enter [2] Tryz.func40 rfl rfl rfl rfl rfl (by decide) ?_)
  repeat' first | refine .seq ?_ | refine .rg ?_ | refine .rd ?_ | refine .block ?_ | refine .scope ?_ | refine .skip ?_ | refine .label ?_ | refine .exit ?_ | refine .ret ?_ | refine .ct ?_ | refine .cf ?_ | refine .cy ?_ | refine .cn ?_ | (refine .cond rfl ?_ ?_ <;> intro hc) | refine A.nil_seq ?_ | refine .nl ?_ | refine .dd ?_ | refine .ys ?_ | refine .no ?_ | (refine A.guard rfl ?_ ?_ <;> intro hc) | refine .lb ?_ | refine .ln ?_ | refine .ls ?_ | refine .pv ?_ | refine .ix ?_ | refine .pt ?_ | refine .pf ?_ | refine .bx ?_ | refine .al ?_ | refine .st ?_ | refine .ad ?_ | refine .sb ?_ | refine .cl ?_ | refine .ck ?_ | fail
  refine HCode.forK l.length (fun k => [(4, .int .i64 k), (3, .int .i64 (ltStrs (l.take k))), (0, .slice (l.map AV.str) .no)]) (fun _ => ⟨[], []⟩) (fun _ => True) ⟨rfl, rfl, rfl, trivial⟩ rfl trivial fun k hk _ => ?_
  by_cases h1 : k < l.length
  · have d1 : decide ((k : Int) < (l.length : Int)) = true := by simp [h1]
    have x1 := map_get' (f := AV.str) h1
    have ht : ltStrs (l.take (k + 1)) = ltStrs (l.take k) + (1 + l[k].length) := sum_take h1
    have hm : ltStrs (l.take (k + 1)) ≤ ltStrs l := sum_mono _ l (k + 1)
    repeat' first | refine .seq ?_ | refine .rg ?_ | refine .rd ?_ | refine .block ?_ | refine .scope ?_ | refine .skip ?_ | refine .label ?_ | refine .exit ?_ | refine .ret ?_ | refine .ct ?_ | refine .cf ?_ | refine .cy ?_ | refine .cn ?_ | (refine .cond rfl ?_ ?_ <;> intro hc) | refine A.nil_seq ?_ | refine .nl ?_ | refine .dd ?_ | refine .ys ?_ | refine .no ?_ | (refine A.guard rfl ?_ ?_ <;> intro hc) | refine .lb ?_ | refine .ln ?_ | refine .ls ?_ | refine .pv ?_ | refine .ix ?_ | refine .pt ?_ | refine .pf ?_ | refine .bx ?_ | refine .al ?_ | refine .st ?_ | refine .ad ?_ | refine .sb ?_ | refine .cl ?_ | refine .ck ?_ | fail
    exact ⟨h1, ⟨rfl, congrArg (AV.int .i64) (by rw [ht]; omega), rfl, trivial⟩, by simp [belowS, AV.low], rfl, rfl, trivial⟩
  · have d1 : decide ((k : Int) < (l.length : Int)) = false := by simp; omega
    obtain rfl : k = l.length := by omega
    repeat' first | refine .seq ?_ | refine .rg ?_ | refine .rd ?_ | refine .block ?_ | refine .scope ?_ | refine .skip ?_ | refine .label ?_ | refine .exit ?_ | refine .ret ?_ | refine .ct ?_ | refine .cf ?_ | refine .cy ?_ | refine .cn ?_ | (refine .cond rfl ?_ ?_ <;> intro hc) | refine A.nil_seq ?_ | refine .nl ?_ | refine .dd ?_ | refine .ys ?_ | refine .no ?_ | (refine A.guard rfl ?_ ?_ <;> intro hc) | refine .lb ?_ | refine .ln ?_ | refine .ls ?_ | refine .pv ?_ | refine .ix ?_ | refine .pt ?_ | refine .pf ?_ | refine .bx ?_ | refine .al ?_ | refine .st ?_ | refine .ad ?_ | refine .sb ?_ | refine .cl ?_ | refine .ck ?_ | fail
    refine Fin.ret1 rfl (Weak.eq (congrArg (AV.int .i64) ?_))
    rw [List.take_length]
theorem ltParams (l : List Par) (h : sumSize Par.size l ≤ 68719476736) : PFn Tryz.prog 41 [.slice (l.map Par.enc) .no] (.int .i64 (ltPars l)) := by
  have hl := sumSize_length Par.size_pos l
  have hle := ltPars_le l
  refine AFn.plain rfl (by simp [AV.closedL, AV.closed, Par.closedL]) (AFn.enter [2] Tryz.func41 rfl rfl rfl rfl rfl (by decide) ?_)
  repeat' first | refine .seq ?_ | refine .rg ?_ | refine .rd ?_ | refine .block ?_ | refine .scope ?_ | refine .skip ?_ | refine .label ?_ | refine .exit ?_ | refine .ret ?_ | refine .ct ?_ | refine .cf ?_ | refine .cy ?_ | refine .cn ?_ | (refine .cond rfl ?_ ?_ <;> intro hc) | refine A.nil_seq ?_ | refine .nl ?_ | refine .dd ?_ | refine .ys ?_ | refine .no ?_ | (refine A.guard rfl ?_ ?_ <;> intro hc) | refine .lb ?_ | refine .ln ?_ | refine .ls ?_ | refine .pv ?_ | refine .ix ?_ | refine .pt ?_ | refine .pf ?_ | refine .bx ?_ | refine .al ?_ | refine .st ?_ | refine .ad ?_ | refine .sb ?_ | refine .cl ?_ | refine .ck ?_ | fail
  refine HCode.forK l.length (fun k => [(4, .int .i64 k), (3, .int .i64 (ltPars (l.take k))), (0, .slice (l.map Par.enc) .no)]) (fun _ => ⟨[], []⟩) (fun _ => True) ⟨rfl, rfl, rfl, trivial⟩ rfl trivial fun k hk _ => ?_
  by_cases h1 : k < l.length
  · have d1 : decide ((k : Int) < (l.length : Int)) = true := by simp [h1]
    have x1 := map_get' (f := Par.enc) h1
    have hz := kSize' l[k].d (by have := sumSize_mem (size := Par.size) (List.getElem_mem h1); have := l[k].lens; omega)
    have ht : ltPars (l.take (k + 1)) = ltPars (l.take k) + (1 + l[k].name.length + szV l[k].d) := sum_take h1
    have hm : ltPars (l.take (k + 1)) ≤ ltPars l := sum_mono _ l (k + 1)
    repeat' first | refine .seq ?_ | refine .rg ?_ | refine .rd ?_ | refine .block ?_ | refine .scope ?_ | refine .skip ?_ | refine .label ?_ | refine .exit ?_ | refine .ret ?_ | refine .ct ?_ | refine .cf ?_ | refine .cy ?_ | refine .cn ?_ | (refine .cond rfl ?_ ?_ <;> intro hc) | refine A.nil_seq ?_ | refine .nl ?_ | refine .dd ?_ | refine .ys ?_ | refine .no ?_ | (refine A.guard rfl ?_ ?_ <;> intro hc) | refine .lb ?_ | refine .ln ?_ | refine .ls ?_ | refine .pv ?_ | refine .ix ?_ | refine .pt ?_ | refine .pf ?_ | refine .bx ?_ | refine .al ?_ | refine .st ?_ | refine .ad ?_ | refine .sb ?_ | refine .cl ?_ | refine .ck ?_ | fail
    exact ⟨h1, ⟨rfl, congrArg (AV.int .i64) (by rw [ht]; omega), rfl, trivial⟩, by simp [belowS, AV.low], rfl, rfl, trivial⟩
  · have d1 : decide ((k : Int) < (l.length : Int)) = false := by simp; omega
    obtain rfl : k = l.length := by omega
    repeat' first | refine .seq ?_ | refine .rg ?_ | refine .rd ?_ | refine .block ?_ | refine .scope ?_ | refine .skip ?_ | refine .label ?_ | refine .exit ?_ | refine .ret ?_ | refine .ct ?_ | refine .cf ?_ | refine .cy ?_ | refine .cn ?_ | (refine .cond rfl ?_ ?_ <;> intro hc) | refine A.nil_seq ?_ | refine .nl ?_ | refine .dd ?_ | refine .ys ?_ | refine .no ?_ | (refine A.guard rfl ?_ ?_ <;> intro hc) | refine .lb ?_ | refine .ln ?_ | refine .ls ?_ | refine .pv ?_ | refine .ix ?_ | refine .pt ?_ | refine .pf ?_ | refine .bx ?_ | refine .al ?_ | refine .st ?_ | refine .ad ?_ | refine .sb ?_ | refine .cl ?_ | refine .ck ?_ | fail
    refine Fin.ret1 rfl (Weak.eq (congrArg (AV.int .i64) ?_))
    rw [List.take_length]
theorem ltDirsW (l : List Dirc) (h : sumSize Dirc.size l ≤ 68719476736) : PFn Tryz.prog 42 [.slice (l.map Dirc.enc) .no] (.int .i64 (ltDirs l)) := by
  have hl := sumSize_length Dirc.size_pos l
  have hle := ltDirs_le l
  refine AFn.plain rfl (by simp [AV.closedL, AV.closed, Dirc.closedL]) (AFn.enter [2] Tryz.func42 rfl rfl rfl rfl rfl (by decide) ?_)
  repeat' first | refine .seq ?_ | refine .rg ?_ | refine .rd ?_ | refine .block ?_ | refine .scope ?_ | refine .skip ?_ | refine .label ?_ | refine .exit ?_ | refine .ret ?_ | refine .ct ?_ | refine .cf ?_ | refine .cy ?_ | refine .cn ?_ | (refine .cond rfl ?_ ?_ <;> intro hc) | refine A.nil_seq ?_ | refine .nl ?_ | refine .dd ?_ | refine .ys ?_ | refine .no ?_ | (refine A.guard rfl ?_ ?_ <;> intro hc) | refine .lb ?_ | refine .ln ?_ | refine .ls ?_ | refine .pv ?_ | refine .ix ?_ | refine .pt ?_ | refine .pf ?_ | refine .bx ?_ | refine .al ?_ | refine .st ?_ | refine .ad ?_ | refine .sb ?_ | refine .cl ?_ | refine .ck ?_ | fail
  refine HCode.forK l.length (fun k => [(4, .int .i64 k), (3, .int .i64 (ltDirs (l.take k))), (0, .slice (l.map Dirc.enc) .no)]) (fun _ => ⟨[], []⟩) (fun _ => True) ⟨rfl, rfl, rfl, trivial⟩ rfl trivial fun k hk _ => ?_
  by_cases h1 : k < l.length
  · have d1 : decide ((k : Int) < (l.length : Int)) = true := by simp [h1]
    have x1 := map_get' (f := Dirc.enc) h1
    have hz := kSize' (.mk 0 0 [] [] l[k].args) (by
      have h2 := sumSize_mem (size := Dirc.size) (List.getElem_mem h1)
      have h3 : l[k].size = l[k].name.length + sumSize Mem.size l[k].args + 3 := rfl
      rw [Val.size, Val.sizeL, Val.sizeM_eq]; simp only [List.length_nil]; omega)
    have e0 : szV (.mk 0 0 [] [] l[k].args) = 1 + szM l[k].args := by rw [szV, szL]; simp only [List.length_nil]
    rw [e0] at hz
    have ew : WeakL [AV.agg [.int .i64 0, .int .i64 0, .str [], .slice [] .nil, .slice (l[k].args.map Mem.enc) .no]] [(Val.mk 0 0 [] [] l[k].args).enc] := by
      refine WeakL.cons ?_ (WeakL.refl _)
      unfold Val.enc
      rw [lv_mk, Val.mv_eq]
      exact Weak.agg (WeakL.cons (Weak.refl _) (WeakL.cons (Weak.refl _) (WeakL.cons (Weak.refl _) (WeakL.cons (Weak.no (WeakL.refl _)) (WeakL.refl _)))))
    have ht : ltDirs (l.take (k + 1)) = ltDirs (l.take k) + (1 + l[k].name.length + (1 + szM l[k].args)) := sum_take h1
    have hm : ltDirs (l.take (k + 1)) ≤ ltDirs l := sum_mono _ l (k + 1)
    repeat' first | refine A.call rfl hz ew ?_ | refine .seq ?_ | refine .rg ?_ | refine .rd ?_ | refine .block ?_ | refine .scope ?_ | refine .skip ?_ | refine .label ?_ | refine .exit ?_ | refine .ret ?_ | refine .ct ?_ | refine .cf ?_ | refine .cy ?_ | refine .cn ?_ | (refine .cond rfl ?_ ?_ <;> intro hc) | refine A.nil_seq ?_ | refine .nl ?_ | refine .dd ?_ | refine .ys ?_ | refine .no ?_ | (refine A.guard rfl ?_ ?_ <;> intro hc) | refine .lb ?_ | refine .ln ?_ | refine .ls ?_ | refine .pv ?_ | refine .ix ?_ | refine .pt ?_ | refine .pf ?_ | refine .bx ?_ | refine .al ?_ | refine .st ?_ | refine .ad ?_ | refine .sb ?_ | refine .cl ?_ | refine .ck ?_ | fail
    exact ⟨h1, ⟨rfl, congrArg (AV.int .i64) (by rw [ht]; omega), rfl, trivial⟩, by simp [belowS, AV.low], rfl, rfl, trivial⟩
  · have d1 : decide ((k : Int) < (l.length : Int)) = false := by simp; omega
    obtain rfl : k = l.length := by omega
    repeat' first | refine .seq ?_ | refine .rg ?_ | refine .rd ?_ | refine .block ?_ | refine .scope ?_ | refine .skip ?_ | refine .label ?_ | refine .exit ?_ | refine .ret ?_ | refine .ct ?_ | refine .cf ?_ | refine .cy ?_ | refine .cn ?_ | (refine .cond rfl ?_ ?_ <;> intro hc) | refine A.nil_seq ?_ | refine .nl ?_ | refine .dd ?_ | refine .ys ?_ | refine .no ?_ | (refine A.guard rfl ?_ ?_ <;> intro hc) | refine .lb ?_ | refine .ln ?_ | refine .ls ?_ | refine .pv ?_ | refine .ix ?_ | refine .pt ?_ | refine .pf ?_ | refine .bx ?_ | refine .al ?_ | refine .st ?_ | refine .ad ?_ | refine .sb ?_ | refine .cl ?_ | refine .ck ?_ | fail
    refine Fin.ret1 rfl (Weak.eq (congrArg (AV.int .i64) ?_))
    rw [List.take_length]
theorem Dfn.sums (d : Dfn) : sumSize Par.size d.params ≤ d.size ∧ sumSize Fld.size d.fields ≤ d.size ∧ strsSize d.faces ≤ d.size ∧ strsSize d.parts ≤ d.size := by unfold Dfn.size; omega
theorem Fld.sums (f : Fld) : sumSize Par.size f.params ≤ f.size ∧ sumSize Dirc.size f.dirs ≤ f.size ∧ f.name.length ≤ f.size ∧ f.t.name.length ≤ f.size := by unfold Fld.size Typ.size; omega
def lightS (s : Sch) : Bool := decide (ltSch s ≤ 4000)
theorem light8 (s : Sch) (hs : s.size ≤ 68719476736) : PFn Tryz.prog 13 [s.enc] (.bool (lightS s)) := by
  have hl := s.len
  have hle := ltSch_le s
  refine AFn.plain rfl (by simp [AV.closedL, Sch.closed]) (AFn.enter [2] Tryz.func13 rfl rfl rfl rfl rfl (by decide) ?_)
  repeat' first | refine .br ?_ | refine .seq ?_ | refine .rg ?_ | refine .rd ?_ | refine .block ?_ | refine .scope ?_ | refine .skip ?_ | refine .label ?_ | refine .exit ?_ | refine .ret ?_ | refine .ct ?_ | refine .cf ?_ | refine .cy ?_ | refine .cn ?_ | (refine .cond rfl ?_ ?_ <;> intro hc) | refine A.nil_seq ?_ | refine .nl ?_ | refine .dd ?_ | refine .ys ?_ | refine .no ?_ | (refine A.guard rfl ?_ ?_ <;> intro hc) | refine .lb ?_ | refine .ln ?_ | refine .ls ?_ | refine .pv ?_ | refine .ix ?_ | refine .pt ?_ | refine .pf ?_ | refine .bx ?_ | refine .al ?_ | refine .st ?_ | refine .ad ?_ | refine .sb ?_ | refine .cl ?_ | refine .ck ?_ | fail
  refine HCode.forK s.defs.length (fun k => [(4, .int .i64 k), (3, .int .i64 (sumSize ltDfn (s.defs.take k) : Nat)), (1, .rptr s.enc)]) (fun _ => ⟨[], []⟩) (fun _ => True) ⟨rfl, rfl, rfl, trivial⟩ rfl trivial fun k hk _ => ?_
  by_cases h1 : k < s.defs.length
  · have d1 : decide ((k : Int) < (s.defs.length : Int)) = true := by simp [h1]
    have x1 := map_get' (f := Dfn.enc) h1
    have hds := Sch.dfn (List.getElem_mem h1)
    have hlen := s.defs[k].lens
    have hsum := s.defs[k].sums
    have q1 := ltTexts s.defs[k].faces (by have := ltStrs_le s.defs[k].faces; omega) (by omega)
    have q2 := ltTexts s.defs[k].parts (by have := ltStrs_le s.defs[k].parts; omega) (by omega)
    have q3 := ltParams s.defs[k].params (by omega)
    have ht : sumSize ltDfn (s.defs.take (k + 1)) = sumSize ltDfn (s.defs.take k) + ltDfn s.defs[k] := sum_take h1
    have hm : sumSize ltDfn (s.defs.take (k + 1)) ≤ ltSch s := sum_mono _ s.defs (k + 1)
    have hdd : ltDfn s.defs[k] = 1 + s.defs[k].name.length + ltStrs s.defs[k].faces + ltStrs s.defs[k].parts + ltPars s.defs[k].params + ltFlds s.defs[k].fields := rfl
    repeat' first | refine .seq ?_ | refine .rg ?_ | refine .rd ?_ | refine .block ?_ | refine .scope ?_ | refine .skip ?_ | refine .label ?_ | refine .exit ?_ | refine .ret ?_ | refine .ct ?_ | refine .cf ?_ | refine .cy ?_ | refine .cn ?_ | (refine .cond rfl ?_ ?_ <;> intro hc) | refine A.nil_seq ?_ | refine .nl ?_ | refine .dd ?_ | refine .ys ?_ | refine .no ?_ | (refine A.guard rfl ?_ ?_ <;> intro hc) | refine .lb ?_ | refine .ln ?_ | refine .ls ?_ | refine .pv ?_ | refine .ix ?_ | refine .pt ?_ | refine .pf ?_ | refine .bx ?_ | refine .al ?_ | refine .st ?_ | refine .ad ?_ | refine .sb ?_ | refine .cl ?_ | refine .ck ?_ | fail
    refine HCode.forK s.defs[k].fields.length (fun j => [(6, .int .i64 j), (3, .int .i64 ((sumSize ltDfn (s.defs.take k) : Nat) + 1 + s.defs[k].name.length + ltStrs s.defs[k].faces + ltStrs s.defs[k].parts + ltPars s.defs[k].params + ltFlds (s.defs[k].fields.take j))), (1, .rptr s.enc), (4, .int .i64 k), (5, .ptr 0 0)])
      (fun _ => ⟨[.cells [.int .i64 s.defs[k].kind, .str s.defs[k].name, .slice (s.defs[k].faces.map AV.str) .no, .slice (s.defs[k].fields.map Fld.enc) .no, .slice (s.defs[k].parts.map AV.str) .no, .slice (s.defs[k].params.map Par.enc) .no]], []⟩) (fun _ => True)
      ⟨rfl, congrArg (AV.int .i64) (by rw [List.take_zero]; simp [ltFlds, sumSize]), rfl, rfl, rfl, trivial⟩ rfl trivial fun j hj _ => ?_
    by_cases h2 : j < s.defs[k].fields.length
    · have d2 : decide ((j : Int) < (s.defs[k].fields.length : Int)) = true := by simp [h2]
      have x2 := map_get' (f := Fld.enc) h2
      have hfm := sumSize_mem (size := Fld.size) (List.getElem_mem h2)
      have hfs := s.defs[k].fields[j].sums
      have q4 := ltParams s.defs[k].fields[j].params (by omega)
      have q5 := ltDirsW s.defs[k].fields[j].dirs (by omega)
      have hft : ltFlds (s.defs[k].fields.take (j + 1)) = ltFlds (s.defs[k].fields.take j) + (1 + s.defs[k].fields[j].name.length + ltPars s.defs[k].fields[j].params + ltDirs s.defs[k].fields[j].dirs) := sum_take h2
      have hfm' : ltFlds (s.defs[k].fields.take (j + 1)) ≤ ltFlds s.defs[k].fields := sum_mono _ _ (j + 1)
      repeat' first | refine .seq ?_ | refine .rg ?_ | refine .rd ?_ | refine .block ?_ | refine .scope ?_ | refine .skip ?_ | refine .label ?_ | refine .exit ?_ | refine .ret ?_ | refine .ct ?_ | refine .cf ?_ | refine .cy ?_ | refine .cn ?_ | (refine .cond rfl ?_ ?_ <;> intro hc) | refine A.nil_seq ?_ | refine .nl ?_ | refine .dd ?_ | refine .ys ?_ | refine .no ?_ | (refine A.guard rfl ?_ ?_ <;> intro hc) | refine .lb ?_ | refine .ln ?_ | refine .ls ?_ | refine .pv ?_ | refine .ix ?_ | refine .pt ?_ | refine .pf ?_ | refine .bx ?_ | refine .al ?_ | refine .st ?_ | refine .ad ?_ | refine .sb ?_ | refine .cl ?_ | refine .ck ?_ | fail
      exact ⟨h2, ⟨rfl, congrArg (AV.int .i64) (by rw [hft]; omega), rfl, rfl, rfl, trivial⟩, by simp [belowS, AV.low], by simp [belowB, belowT, Ob.low, AV.lowL, AV.low], rfl, trivial⟩
    · have d2 : decide ((j : Int) < (s.defs[k].fields.length : Int)) = false := by simp; omega
      obtain rfl : j = s.defs[k].fields.length := by omega
      repeat' first | refine .seq ?_ | refine .rg ?_ | refine .rd ?_ | refine .block ?_ | refine .scope ?_ | refine .skip ?_ | refine .label ?_ | refine .exit ?_ | refine .ret ?_ | refine .ct ?_ | refine .cf ?_ | refine .cy ?_ | refine .cn ?_ | (refine .cond rfl ?_ ?_ <;> intro hc) | refine A.nil_seq ?_ | refine .nl ?_ | refine .dd ?_ | refine .ys ?_ | refine .no ?_ | (refine A.guard rfl ?_ ?_ <;> intro hc) | refine .lb ?_ | refine .ln ?_ | refine .ls ?_ | refine .pv ?_ | refine .ix ?_ | refine .pt ?_ | refine .pf ?_ | refine .bx ?_ | refine .al ?_ | refine .st ?_ | refine .ad ?_ | refine .sb ?_ | refine .cl ?_ | refine .ck ?_ | fail
      exact ⟨h1, ⟨rfl, congrArg (AV.int .i64) (by rw [ht, List.take_length]; omega), rfl, trivial⟩, by simp [belowS, AV.low], rfl, rfl, trivial⟩
  · have d1 : decide ((k : Int) < (s.defs.length : Int)) = false := by simp; omega
    obtain rfl : k = s.defs.length := by omega
    repeat' first | refine .seq ?_ | refine .rg ?_ | refine .rd ?_ | refine .block ?_ | refine .scope ?_ | refine .skip ?_ | refine .label ?_ | refine .exit ?_ | refine .ret ?_ | refine .ct ?_ | refine .cf ?_ | refine .cy ?_ | refine .cn ?_ | (refine .cond rfl ?_ ?_ <;> intro hc) | refine A.nil_seq ?_ | refine .nl ?_ | refine .dd ?_ | refine .ys ?_ | refine .no ?_ | (refine A.guard rfl ?_ ?_ <;> intro hc) | refine .lb ?_ | refine .ln ?_ | refine .ls ?_ | refine .pv ?_ | refine .ix ?_ | refine .pt ?_ | refine .pf ?_ | refine .bx ?_ | refine .al ?_ | refine .st ?_ | refine .ad ?_ | refine .sb ?_ | refine .cl ?_ | refine .ck ?_ | fail
    refine Fin.ret1 rfl (Weak.eq (congrArg AV.bool ?_))
    unfold lightS ltSch
    rw [List.take_length, Bool.eq_iff_iff]; simp only [decide_eq_true_eq]; omega
end Go.Proofs.YtegakkonlhmeaaaGreatDoor
namespace Go.Proofs.YtegakkonlhmeaaaGreatDoor
open Go Go.Av
def sch0 : Sch := ⟨[], [], []⟩
theorem weak_sch0 {t : Tk} : Weak (.agg [.slice [] t, .str [], .str []]) sch0.enc := Weak.agg (WeakL.cons (Weak.no (WeakL.refl _)) (WeakL.refl _))
def tII : Typ := ⟨sInt, 2, 0⟩
theorem weak_listV {x y : AV} {v : Val} {t1 t2 : Tk} (h : Weak x v.enc) (n : Int) : Weak (.agg [.int .i64 6, .int .i64 n, .str [], .slice [x] t1, .slice [] t2]) (Val.mk 6 n [] [v] []).enc := by
  unfold Val.enc
  rw [Val.lv_eq, mv_mk]
  exact Weak.agg (WeakL.cons (Weak.refl _) (WeakL.cons (Weak.refl _) (WeakL.cons (Weak.refl _) (WeakL.cons (Weak.no (WeakL.cons h (WeakL.refl _))) (WeakL.cons (Weak.no (WeakL.refl _)) (WeakL.refl _))))))
theorem weak_int1 {n : Int} {t1 t2 : Tk} : Weak (.agg [.int .i64 2, .int .i64 n, .str [], .slice [] t1, .slice [] t2]) (intV n).enc := weak_flatV
end Go.Proofs.YtegakkonlhmeaaaGreatDoor
namespace Go.Proofs.YtegakkonlhmeaaaGreatDoor
open Go Go.Av
attribute [local irreducible] HCode AOps PFn AFn Av.Step TStep
theorem eqFuncV (F : FuncId) (a b : List Val) (ha : a.length ≤ 9223372036854775806) (hb : b.length ≤ 9223372036854775806) (hF : ∀ x ∈ a, ∀ y ∈ b, PFn Tryz.prog F [x.enc, y.enc] (.bool (sameV x y))) :
    PFn Tryz.prog 69 [.slice (a.map Val.enc) .no, .slice (b.map Val.enc) .no, .fn (.func F) [] []] (.bool (sameL a b)) := by
  refine AFn.plain rfl (by simp [AV.closedL, AV.closed, Val.closedL']) (AFn.enter [6] Tryz.func69 rfl rfl rfl rfl rfl (by decide) ?_)
  by_cases hl : a.length = b.length
  · have d0 : ((a.length : Int) != (b.length : Int)) = false := by simp [hl]
    repeat' first | refine .seq ?_ | refine .rg ?_ | refine .rd ?_ | refine .block ?_ | refine .scope ?_ | refine .skip ?_ | refine .label ?_ | refine .exit ?_ | refine .ret ?_ | refine .ct ?_ | refine .cf ?_ | refine .cy ?_ | refine .cn ?_ | (refine .cond rfl ?_ ?_ <;> intro hc) | refine A.nil_seq ?_ | refine .nl ?_ | refine .dd ?_ | refine .ys ?_ | refine .no ?_ | (refine A.guard rfl ?_ ?_ <;> intro hc) | refine .lb ?_ | refine .ln ?_ | refine .ls ?_ | refine .pv ?_ | refine .ix ?_ | refine .pt ?_ | refine .pf ?_ | refine .bx ?_ | refine .al ?_ | refine .st ?_ | refine .ad ?_ | refine .sb ?_ | refine .mf ?_ | refine .cl ?_ | refine .cw ?_ | refine .ck ?_ | fail
    change HCode _ _ _ _ _ _ _
    refine HCode.loop (fun n s σ => ∃ k : Nat, n = a.length - k ∧ k ≤ a.length ∧ sameL a b = sameL (a.drop k) (b.drop k) ∧ σ = ⟨[], []⟩ ∧
      s = [(17, .int .i64 k), (16, .int .i64 a.length), (15, .slice (a.map Val.enc) .no), (1, .slice (b.map Val.enc) .no), (2, .fn (.func F) [] [])])
      (s0 := [(17, .int .i64 (0 : Nat)), (16, .int .i64 a.length), (15, .slice (a.map Val.enc) .no), (1, .slice (b.map Val.enc) .no), (2, .fn (.func F) [] [])])
      ⟨rfl, rfl, rfl, rfl, rfl, trivial⟩ ⟨0, rfl, Nat.zero_le _, rfl, rfl, rfl⟩ ?_
    rintro n s σ ⟨k, rfl, hk, hp, rfl, rfl⟩
    by_cases h1 : k < a.length
    · have d1 : decide ((k : Int) < (a.length : Int)) = true := by simp [h1]
      have x1 := map_get' (f := Val.enc) h1
      have h2 : k < b.length := by omega
      have x2 := map_get' (f := Val.enc) h2
      have hf := hF a[k] (List.getElem_mem h1) b[k] (List.getElem_mem h2)
      by_cases c : sameV a[k] b[k] = true
      · have e1 : (!sameV a[k] b[k]) = false := by rw [c]; rfl
        repeat' first | refine .seq ?_ | refine .rg ?_ | refine .rd ?_ | refine .block ?_ | refine .scope ?_ | refine .skip ?_ | refine .label ?_ | refine .exit ?_ | refine .ret ?_ | refine .ct ?_ | refine .cf ?_ | refine .cy ?_ | refine .cn ?_ | (refine .cond rfl ?_ ?_ <;> intro hc) | refine A.nil_seq ?_ | refine .nl ?_ | refine .dd ?_ | refine .ys ?_ | refine .no ?_ | (refine A.guard rfl ?_ ?_ <;> intro hc) | refine .lb ?_ | refine .ln ?_ | refine .ls ?_ | refine .pv ?_ | refine .ix ?_ | refine .pt ?_ | refine .pf ?_ | refine .bx ?_ | refine .al ?_ | refine .st ?_ | refine .ad ?_ | refine .sb ?_ | refine .mf ?_ | refine .cl ?_ | refine .cw ?_ | refine .ck ?_ | refine A.callv rfl rfl hf (WeakL.refl _) ?_ | fail
        refine ⟨a.length - (k + 1), by omega, [(17, .int .i64 ((k + 1 : Nat) : Int)), (16, .int .i64 a.length), (15, .slice (a.map Val.enc) .no), (1, .slice (b.map Val.enc) .no), (2, .fn (.func F) [] [])],
          ⟨rfl, rfl, rfl, rfl, rfl, trivial⟩, by simp [belowS, AV.low, AV.lowL, Val.lowL'], rfl, k + 1, rfl, by omega, by rw [hp, sameL_drop h1 h2, c]; rfl, rfl, rfl⟩
      · have c' : sameV a[k] b[k] = false := by simpa using c
        have e1 : (!sameV a[k] b[k]) = true := by rw [c']; rfl
        repeat' first | refine .seq ?_ | refine .rg ?_ | refine .rd ?_ | refine .block ?_ | refine .scope ?_ | refine .skip ?_ | refine .label ?_ | refine .exit ?_ | refine .ret ?_ | refine .ct ?_ | refine .cf ?_ | refine .cy ?_ | refine .cn ?_ | (refine .cond rfl ?_ ?_ <;> intro hc) | refine A.nil_seq ?_ | refine .nl ?_ | refine .dd ?_ | refine .ys ?_ | refine .no ?_ | (refine A.guard rfl ?_ ?_ <;> intro hc) | refine .lb ?_ | refine .ln ?_ | refine .ls ?_ | refine .pv ?_ | refine .ix ?_ | refine .pt ?_ | refine .pf ?_ | refine .bx ?_ | refine .al ?_ | refine .st ?_ | refine .ad ?_ | refine .sb ?_ | refine .mf ?_ | refine .cl ?_ | refine .cw ?_ | refine .ck ?_ | refine A.callv rfl rfl hf (WeakL.refl _) ?_ | fail
        refine Fin.ret1 rfl (Weak.eq (congrArg AV.bool ?_))
        rw [hp, sameL_drop h1 h2, c']; rfl
    · have d1 : decide ((k : Int) < (a.length : Int)) = false := by simp; omega
      repeat' first | refine .seq ?_ | refine .rg ?_ | refine .rd ?_ | refine .block ?_ | refine .scope ?_ | refine .skip ?_ | refine .label ?_ | refine .exit ?_ | refine .ret ?_ | refine .ct ?_ | refine .cf ?_ | refine .cy ?_ | refine .cn ?_ | (refine .cond rfl ?_ ?_ <;> intro hc) | refine A.nil_seq ?_ | refine .nl ?_ | refine .dd ?_ | refine .ys ?_ | refine .no ?_ | (refine A.guard rfl ?_ ?_ <;> intro hc) | refine .lb ?_ | refine .ln ?_ | refine .ls ?_ | refine .pv ?_ | refine .ix ?_ | refine .pt ?_ | refine .pf ?_ | refine .bx ?_ | refine .al ?_ | refine .st ?_ | refine .ad ?_ | refine .sb ?_ | refine .mf ?_ | refine .cl ?_ | refine .cw ?_ | refine .ck ?_ | fail
      refine Fin.ret1 rfl (Weak.eq (congrArg AV.bool ?_))
      rw [hp, List.drop_eq_nil_of_le (by omega), List.drop_eq_nil_of_le (by omega)]
      rfl
  · have d0 : ((a.length : Int) != (b.length : Int)) = true := by simp; omega
    repeat' first | refine .seq ?_ | refine .rg ?_ | refine .rd ?_ | refine .block ?_ | refine .scope ?_ | refine .skip ?_ | refine .label ?_ | refine .exit ?_ | refine .ret ?_ | refine .ct ?_ | refine .cf ?_ | refine .cy ?_ | refine .cn ?_ | (refine .cond rfl ?_ ?_ <;> intro hc) | refine A.nil_seq ?_ | refine .nl ?_ | refine .dd ?_ | refine .ys ?_ | refine .no ?_ | (refine A.guard rfl ?_ ?_ <;> intro hc) | refine .lb ?_ | refine .ln ?_ | refine .ls ?_ | refine .pv ?_ | refine .ix ?_ | refine .pt ?_ | refine .pf ?_ | refine .bx ?_ | refine .al ?_ | refine .st ?_ | refine .ad ?_ | refine .sb ?_ | refine .mf ?_ | refine .cl ?_ | refine .cw ?_ | refine .ck ?_ | fail
    exact Fin.ret1 rfl (Weak.eq (by rw [sameL_len hl]))
theorem eqFuncM (F : FuncId) (a b : List Mem) (ha : a.length ≤ 9223372036854775806) (hb : b.length ≤ 9223372036854775806) (hF : ∀ x ∈ a, ∀ y ∈ b, PFn Tryz.prog F [x.enc, y.enc] (.bool (x.name == y.name && sameV x.v y.v))) :
    PFn Tryz.prog 70 [.slice (a.map Mem.enc) .no, .slice (b.map Mem.enc) .no, .fn (.func F) [] []] (.bool (sameM a b)) := by
  refine AFn.plain rfl (by simp [AV.closedL, AV.closed, Mem.closedL]) (AFn.enter [6] Tryz.func70 rfl rfl rfl rfl rfl (by decide) ?_)
  by_cases hl : a.length = b.length
  · have d0 : ((a.length : Int) != (b.length : Int)) = false := by simp [hl]
    repeat' first | refine .seq ?_ | refine .rg ?_ | refine .rd ?_ | refine .block ?_ | refine .scope ?_ | refine .skip ?_ | refine .label ?_ | refine .exit ?_ | refine .ret ?_ | refine .ct ?_ | refine .cf ?_ | refine .cy ?_ | refine .cn ?_ | (refine .cond rfl ?_ ?_ <;> intro hc) | refine A.nil_seq ?_ | refine .nl ?_ | refine .dd ?_ | refine .ys ?_ | refine .no ?_ | (refine A.guard rfl ?_ ?_ <;> intro hc) | refine .lb ?_ | refine .ln ?_ | refine .ls ?_ | refine .pv ?_ | refine .ix ?_ | refine .pt ?_ | refine .pf ?_ | refine .bx ?_ | refine .al ?_ | refine .st ?_ | refine .ad ?_ | refine .sb ?_ | refine .mf ?_ | refine .cl ?_ | refine .cw ?_ | refine .ck ?_ | fail
    change HCode _ _ _ _ _ _ _
    refine HCode.loop (fun n s σ => ∃ k : Nat, n = a.length - k ∧ k ≤ a.length ∧ sameM a b = sameM (a.drop k) (b.drop k) ∧ σ = ⟨[], []⟩ ∧
      s = [(17, .int .i64 k), (16, .int .i64 a.length), (15, .slice (a.map Mem.enc) .no), (1, .slice (b.map Mem.enc) .no), (2, .fn (.func F) [] [])])
      (s0 := [(17, .int .i64 (0 : Nat)), (16, .int .i64 a.length), (15, .slice (a.map Mem.enc) .no), (1, .slice (b.map Mem.enc) .no), (2, .fn (.func F) [] [])])
      ⟨rfl, rfl, rfl, rfl, rfl, trivial⟩ ⟨0, rfl, Nat.zero_le _, rfl, rfl, rfl⟩ ?_
    rintro n s σ ⟨k, rfl, hk, hp, rfl, rfl⟩
    by_cases h1 : k < a.length
    · have d1 : decide ((k : Int) < (a.length : Int)) = true := by simp [h1]
      have x1 := map_get' (f := Mem.enc) h1
      have h2 : k < b.length := by omega
      have x2 := map_get' (f := Mem.enc) h2
      have hf := hF a[k] (List.getElem_mem h1) b[k] (List.getElem_mem h2)
      by_cases c : (a[k].name == b[k].name && sameV a[k].v b[k].v) = true
      · have e1 : (!(a[k].name == b[k].name && sameV a[k].v b[k].v)) = false := by rw [c]; rfl
        repeat' first | refine .seq ?_ | refine .rg ?_ | refine .rd ?_ | refine .block ?_ | refine .scope ?_ | refine .skip ?_ | refine .label ?_ | refine .exit ?_ | refine .ret ?_ | refine .ct ?_ | refine .cf ?_ | refine .cy ?_ | refine .cn ?_ | (refine .cond rfl ?_ ?_ <;> intro hc) | refine A.nil_seq ?_ | refine .nl ?_ | refine .dd ?_ | refine .ys ?_ | refine .no ?_ | (refine A.guard rfl ?_ ?_ <;> intro hc) | refine .lb ?_ | refine .ln ?_ | refine .ls ?_ | refine .pv ?_ | refine .ix ?_ | refine .pt ?_ | refine .pf ?_ | refine .bx ?_ | refine .al ?_ | refine .st ?_ | refine .ad ?_ | refine .sb ?_ | refine .mf ?_ | refine .cl ?_ | refine .cw ?_ | refine .ck ?_ | refine A.callv rfl rfl hf (WeakL.refl _) ?_ | fail
        refine ⟨a.length - (k + 1), by omega, [(17, .int .i64 ((k + 1 : Nat) : Int)), (16, .int .i64 a.length), (15, .slice (a.map Mem.enc) .no), (1, .slice (b.map Mem.enc) .no), (2, .fn (.func F) [] [])],
          ⟨rfl, rfl, rfl, rfl, rfl, trivial⟩, by simp [belowS, AV.low, AV.lowL, Mem.lowL], rfl, k + 1, rfl, by omega, by rw [hp, sameM_drop h1 h2, c]; rfl, rfl, rfl⟩
      · have c' : (a[k].name == b[k].name && sameV a[k].v b[k].v) = false := by simpa using c
        have e1 : (!(a[k].name == b[k].name && sameV a[k].v b[k].v)) = true := by rw [c']; rfl
        repeat' first | refine .seq ?_ | refine .rg ?_ | refine .rd ?_ | refine .block ?_ | refine .scope ?_ | refine .skip ?_ | refine .label ?_ | refine .exit ?_ | refine .ret ?_ | refine .ct ?_ | refine .cf ?_ | refine .cy ?_ | refine .cn ?_ | (refine .cond rfl ?_ ?_ <;> intro hc) | refine A.nil_seq ?_ | refine .nl ?_ | refine .dd ?_ | refine .ys ?_ | refine .no ?_ | (refine A.guard rfl ?_ ?_ <;> intro hc) | refine .lb ?_ | refine .ln ?_ | refine .ls ?_ | refine .pv ?_ | refine .ix ?_ | refine .pt ?_ | refine .pf ?_ | refine .bx ?_ | refine .al ?_ | refine .st ?_ | refine .ad ?_ | refine .sb ?_ | refine .mf ?_ | refine .cl ?_ | refine .cw ?_ | refine .ck ?_ | refine A.callv rfl rfl hf (WeakL.refl _) ?_ | fail
        refine Fin.ret1 rfl (Weak.eq (congrArg AV.bool ?_))
        rw [hp, sameM_drop h1 h2, c']; rfl
    · have d1 : decide ((k : Int) < (a.length : Int)) = false := by simp; omega
      repeat' first | refine .seq ?_ | refine .rg ?_ | refine .rd ?_ | refine .block ?_ | refine .scope ?_ | refine .skip ?_ | refine .label ?_ | refine .exit ?_ | refine .ret ?_ | refine .ct ?_ | refine .cf ?_ | refine .cy ?_ | refine .cn ?_ | (refine .cond rfl ?_ ?_ <;> intro hc) | refine A.nil_seq ?_ | refine .nl ?_ | refine .dd ?_ | refine .ys ?_ | refine .no ?_ | (refine A.guard rfl ?_ ?_ <;> intro hc) | refine .lb ?_ | refine .ln ?_ | refine .ls ?_ | refine .pv ?_ | refine .ix ?_ | refine .pt ?_ | refine .pf ?_ | refine .bx ?_ | refine .al ?_ | refine .st ?_ | refine .ad ?_ | refine .sb ?_ | refine .mf ?_ | refine .cl ?_ | refine .cw ?_ | refine .ck ?_ | fail
      refine Fin.ret1 rfl (Weak.eq (congrArg AV.bool ?_))
      rw [hp, List.drop_eq_nil_of_le (by omega), List.drop_eq_nil_of_le (by omega)]
      rfl
  · have d0 : ((a.length : Int) != (b.length : Int)) = true := by simp; omega
    repeat' first | refine .seq ?_ | refine .rg ?_ | refine .rd ?_ | refine .block ?_ | refine .scope ?_ | refine .skip ?_ | refine .label ?_ | refine .exit ?_ | refine .ret ?_ | refine .ct ?_ | refine .cf ?_ | refine .cy ?_ | refine .cn ?_ | (refine .cond rfl ?_ ?_ <;> intro hc) | refine A.nil_seq ?_ | refine .nl ?_ | refine .dd ?_ | refine .ys ?_ | refine .no ?_ | (refine A.guard rfl ?_ ?_ <;> intro hc) | refine .lb ?_ | refine .ln ?_ | refine .ls ?_ | refine .pv ?_ | refine .ix ?_ | refine .pt ?_ | refine .pf ?_ | refine .bx ?_ | refine .al ?_ | refine .st ?_ | refine .ad ?_ | refine .sb ?_ | refine .mf ?_ | refine .cl ?_ | refine .cw ?_ | refine .ck ?_ | fail
    exact Fin.ret1 rfl (Weak.eq (by rw [sameM_len hl]))
theorem vSame : ∀ (N : Nat) (a b : Val), a.size ≤ N → N ≤ 9223372036854775806 → b.size ≤ 9223372036854775806 → PFn Tryz.prog 35 [a.enc, b.enc] (.bool (sameV a b))
  | 0, a, _, ha, _, _ => absurd ha (by have := a.size_pos; omega)
  | N + 1, a, b, ha, hN, hb => by
    have ih := vSame N
    have hl := eqFuncV 35 a.l b.l (by have := a.l_len; omega) (by have := b.l_len; omega) (fun x hx y hy => by
      obtain ⟨i, hi, rfl⟩ := List.getElem_of_mem hx
      obtain ⟨j, hj, rfl⟩ := List.getElem_of_mem hy
      have h1 := Val.size_l hi
      have h2 := Val.size_l hj
      exact ih _ _ (by omega) (by omega) (by omega))
    have hm := eqFuncM 71 a.m b.m (by have := a.m_len; omega) (by have := b.m_len; omega) (fun x hx y hy => by
      obtain ⟨i, hi, rfl⟩ := List.getElem_of_mem hx
      obtain ⟨j, hj, rfl⟩ := List.getElem_of_mem hy
      have h1 := Val.size_m hi
      have h2 := Val.size_m hj
      have hv := ih a.m[i].v b.m[j].v (by omega) (by omega) (by omega)
      refine AFn.plain rfl (by simp [AV.closedL, Mem.closed]) (AFn.enter [4] Tryz.func71 rfl rfl rfl rfl rfl (by decide) ?_)
      repeat' first | refine A.box_r rfl rfl ?_ | refine .seq ?_ | refine .rg ?_ | refine .rd ?_ | refine .block ?_ | refine .scope ?_ | refine .skip ?_ | refine .label ?_ | refine .exit ?_ | refine .ret ?_ | refine .ct ?_ | refine .cf ?_ | refine .cy ?_ | refine .cn ?_ | (refine .cond rfl ?_ ?_ <;> intro hc) | refine A.nil_seq ?_ | refine .nl ?_ | refine .dd ?_ | refine .ys ?_ | refine .no ?_ | (refine A.guard rfl ?_ ?_ <;> intro hc) | refine .lb ?_ | refine .ln ?_ | refine .ls ?_ | refine .pv ?_ | refine .ix ?_ | refine .pt ?_ | refine .pf ?_ | refine .bx ?_ | refine .al ?_ | refine .st ?_ | refine .ad ?_ | refine .sb ?_ | refine .mf ?_ | refine .cl ?_ | refine .cw ?_ | refine .ck ?_ | refine A.call rfl hv (WeakL.refl _) ?_ | fail
      all_goals
        refine Fin.ret1 rfl (Weak.eq (congrArg AV.bool ?_))
        simp_all)
    rw [← a.lv_eq, ← b.lv_eq] at hl
    rw [← a.mv_eq, ← b.mv_eq] at hm
    refine AFn.plain rfl (by simp [AV.closedL, Val.closed]) (AFn.enter [4] Tryz.func35 rfl rfl rfl rfl rfl (by decide) ?_)
    rw [sameV_eq]
    repeat' first | refine A.box_r rfl rfl ?_ | refine .seq ?_ | refine .rg ?_ | refine .rd ?_ | refine .block ?_ | refine .scope ?_ | refine .skip ?_ | refine .label ?_ | refine .exit ?_ | refine .ret ?_ | refine .ct ?_ | refine .cf ?_ | refine .cy ?_ | refine .cn ?_ | (refine .cond rfl ?_ ?_ <;> intro hc) | refine A.nil_seq ?_ | refine .nl ?_ | refine .dd ?_ | refine .ys ?_ | refine .no ?_ | (refine A.guard rfl ?_ ?_ <;> intro hc) | refine .lb ?_ | refine .ln ?_ | refine .ls ?_ | refine .pv ?_ | refine .ix ?_ | refine .pt ?_ | refine .pf ?_ | refine .bx ?_ | refine .al ?_ | refine .st ?_ | refine .ad ?_ | refine .sb ?_ | refine .mf ?_ | refine .cl ?_ | refine .cw ?_ | refine .ck ?_ | refine A.call rfl hl (WeakL.refl _) ?_ | refine A.call rfl hm (WeakL.refl _) ?_ | fail
    all_goals
      refine Fin.ret1 rfl (Weak.eq (congrArg AV.bool ?_))
      simp_all
end Go.Proofs.YtegakkonlhmeaaaGreatDoor
namespace Go.Proofs.YtegakkonlhmeaaaGreatDoor
open Go Go.Av
mutual
theorem sameV_refl0 : ∀ v : Val, sameV v v = true
  | .mk k n s l m => by rw [sameV, sameL_refl0 l, sameM_refl0 m]; simp
theorem sameL_refl0 : ∀ l : List Val, sameL l l = true
  | [] => by rw [sameL]
  | v :: l => by rw [sameL, sameV_refl0 v, sameL_refl0 l]; rfl
theorem sameM_refl0 : ∀ l : List Mem, sameM l l = true
  | [] => by rw [sameM]
  | .mk n v :: l => by rw [sameM, sameV_refl0 v, sameM_refl0 l]; simp
end
end Go.Proofs.YtegakkonlhmeaaaGreatDoor
namespace Go.Proofs.YtegakkonlhmeaaaGreatDoor
open Go Go.Av
attribute [local irreducible] HCode AOps PFn AFn Av.Step TStep
def memsV (l : List Mem) : Val := .mk 0 0 [] [] l
theorem weak_memsV {l : List Mem} {t1 t2 : Tk} : Weak (.agg [.int .i64 0, .int .i64 0, .str [], .slice [] t1, .slice (l.map Mem.enc) t2]) (memsV l).enc := by
  unfold Val.enc memsV
  rw [Val.mv_eq, lv_mk]
  exact Weak.agg (WeakL.cons (Weak.refl _) (WeakL.cons (Weak.refl _) (WeakL.cons (Weak.refl _) (WeakL.cons (Weak.no (WeakL.refl _)) (WeakL.cons (Weak.no (WeakL.refl _)) (WeakL.refl _))))))
theorem memsV_size (l : List Mem) : (memsV l).size = sumSize Mem.size l + 6 := by rw [memsV, Val.size, Val.sizeL_eq, Val.sizeM_eq, sumSize]; simp
def light23B (s : Sch) (v : Val) (env : List Mem) : Bool := lightS s && decide (szV v + szV (memsV env) ≤ 2000)
theorem light23 (s : Sch) (v : Val) (env : List Mem) (hs : s.size ≤ 68719476736) (hv : v.size ≤ 68719476736) (he : sumSize Mem.size env ≤ 68719476736) : PFn Tryz.prog 32 [s.enc, v.enc, .slice (env.map Mem.enc) .no] (.bool (light23B s v env)) := by
  have h1 := light8 s hs
  have h2 := kSize' v (by omega)
  have h3 := kSize' (memsV env) (by rw [memsV_size]; omega)
  have b1 := szV_le v
  have b2 := szV_le (memsV env)
  rw [memsV_size] at b2
  refine AFn.plain rfl (by simp [AV.closed, AV.closedL, Sch.closed, Val.closed, Mem.closedL]) (AFn.enter [6] Tryz.func32 rfl rfl rfl rfl rfl (by decide) ?_)
  unfold light23B
  repeat' first | refine .br ?_ | refine .seq ?_ | refine .rg ?_ | refine .rd ?_ | refine .block ?_ | refine .scope ?_ | refine .skip ?_ | refine .label ?_ | refine .exit ?_ | refine .ret ?_ | refine .ct ?_ | refine .cf ?_ | refine .cy ?_ | refine .cn ?_ | (refine .cond rfl ?_ ?_ <;> intro hc) | refine A.nil_seq ?_ | refine .nl ?_ | refine .dd ?_ | refine .ys ?_ | refine .no ?_ | (refine A.guard rfl ?_ ?_ <;> intro hc) | refine .lb ?_ | refine .ln ?_ | refine .ls ?_ | refine .pv ?_ | refine .ix ?_ | refine .pt ?_ | refine .pf ?_ | refine .bx ?_ | refine .al ?_ | refine .st ?_ | refine .ad ?_ | refine .sb ?_ | refine .mf ?_ | refine .cl ?_ | refine .cw ?_ | refine .ck ?_ | refine A.call rfl h3 (WeakL.cons weak_memsV (WeakL.refl _)) ?_ | fail
  all_goals
    refine Fin.ret1 rfl (Weak.eq (congrArg AV.bool ?_))
    have e0 : decide (((szV v : Int) + (szV (memsV env) : Int)) ≤ 2000) = decide (szV v + szV (memsV env) ≤ 2000) := by rw [Bool.eq_iff_iff, decide_eq_true_eq, decide_eq_true_eq]; omega
    simp_all
def vLI : Val := .mk 6 0 [] [intV 1] []
theorem coe_awake1 : inV sch0 tII (intV 1) = (.mk 6 0 [] [vLI] [], 0) := by kernel_rfl
theorem coe_awake2 : inV sch0 tII vLI = (val0, 7) := by kernel_rfl
theorem coe_awake3 : inV sch0 ⟨sID, 0, 1⟩ (intV 7) = (textV [55], 0) := by
  have h : inV sch0 ⟨sID, 0, 1⟩ (intV 7) = (textV (Lib.itoa 7), 0) := by kernel_rfl
  rw [h, show Lib.itoa 7 = Lib.decDigits 7 from rfl, Lib.decDigits_one (by decide)]; rfl
theorem okD0 : sch0.okD := by intro d hd; simp [sch0] at hd
theorem intV_ok (n : Int) (h0 : -9223372036854775808 ≤ n) (h1 : n ≤ 9223372036854775807) : (intV n).ok := by
  unfold intV
  rw [Val.ok]
  refine ⟨by decide, ?_, by rw [Val.okL]; trivial, by rw [Val.okM]; trivial⟩
  unfold Lit.wf IntKind.min IntKind.max
  rw [Bool.and_eq_true, decide_eq_true_eq, decide_eq_true_eq]
  exact ⟨h0, h1⟩
theorem vLI_ok : vLI.ok := by
  unfold vLI
  rw [Val.ok]
  exact ⟨by decide, by decide, Val.okL_of (fun x hx => by rw [List.mem_singleton.1 hx]; exact intV_ok _ (by decide) (by decide)), by rw [Val.okM]; trivial⟩
theorem awake23 : PFn Tryz.prog 33 [] (.bool true) := by
  have h1 := coeInput sch0 (by decide) okD0 tII (intV 1) (by decide +kernel) (intV_ok _ (by decide) (by decide)) (by decide)
  have h2 := coeInput sch0 (by decide) okD0 tII vLI (by decide +kernel) vLI_ok (by decide)
  have h3 := coeInput sch0 (by decide) okD0 ⟨sID, 0, 1⟩ (intV 7) (by decide +kernel) (intV_ok _ (by decide) (by decide)) (by decide)
  rw [coe_awake1] at h1
  rw [coe_awake2] at h2
  rw [coe_awake3] at h3
  refine AFn.plain rfl rfl (AFn.enter [0] Tryz.func33 rfl rfl rfl rfl rfl (by decide) ?_)
  repeat' first | refine .seq ?_ | refine .rg ?_ | refine .rd ?_ | refine .block ?_ | refine .scope ?_ | refine .skip ?_ | refine .label ?_ | refine .exit ?_ | refine .ret ?_ | refine .ct ?_ | refine .cf ?_ | refine .cy ?_ | refine .cn ?_ | (refine .cond rfl ?_ ?_ <;> intro hc) | refine A.nil_seq ?_ | refine .nl ?_ | refine .dd ?_ | refine .ys ?_ | refine .no ?_ | (refine A.guard rfl ?_ ?_ <;> intro hc) | refine .lb ?_ | refine .ln ?_ | refine .ls ?_ | refine .pv ?_ | refine .ix ?_ | refine .pt ?_ | refine .pf ?_ | refine .bx ?_ | refine .al ?_ | refine .st ?_ | refine .ad ?_ | refine .sb ?_ | refine .mf ?_ | refine .cl ?_ | refine .cw ?_ | refine .ck ?_ | refine A.call rfl h1 (WeakL.cons weak_sch0 (WeakL.cons (Weak.refl _) (WeakL.cons weak_int1 (WeakL.refl _)))) ?_ | refine A.call rfl h2 (WeakL.cons weak_sch0 (WeakL.cons (Weak.refl _) (WeakL.cons (weak_listV (y := .nili) weak_int1 0) (WeakL.refl _)))) ?_ | refine A.call rfl h3 (WeakL.cons weak_sch0 (WeakL.cons (Weak.refl _) (WeakL.cons weak_int1 (WeakL.refl _)))) ?_ | refine A.index_r (j := 0) rfl rfl rfl rfl rfl rfl rfl rfl ?_ | fail
  exact Fin.ret1 rfl (Weak.refl _)
theorem Sch.okD_of {s : Sch} (h : s.ok) : s.okD := fun d hd p hp => (h d hd).2 p hp
theorem sizeL_take (l : List Val) (k : Nat) : Val.sizeL (l.take k) ≤ Val.sizeL l := by
  induction l generalizing k with
  | nil => simp
  | cons x l ih =>
    cases k with
    | zero => simp [Val.sizeL]
    | succ k => simp only [List.take_succ_cons, Val.sizeL]; have := ih k; omega
theorem sizeM_take (l : List Mem) (k : Nat) : Val.sizeM (l.take k) ≤ Val.sizeM l := by
  induction l generalizing k with
  | nil => simp
  | cons x l ih =>
    cases k with
    | zero => simp [Val.sizeM]
    | succ k => cases x; simp only [List.take_succ_cons, Val.sizeM]; have := ih k; omega
theorem Val.size_parts (v : Val) : Val.sizeL v.l ≤ v.size ∧ Val.sizeM v.m ≤ v.size := by
  cases v; rw [Val.size]; simp only [Val.l, Val.m]; omega
end Go.Proofs.YtegakkonlhmeaaaGreatDoor
