/-
  The statements' helpers: copies all the way down.
  How large tables are; what that bound gives.
  The package letters: Good.
  The package table: row.
  The package table: May.
-/
import Derived.Test.YtijlmchfepjjkaaDoorGTableSays3
import Derived.Test.YtijlmchfepjjkaaDoorAvTab
import Derived.Test.YtijlmchfepjjkaaDoorAvMap
import Derived.Test.YtijlmchfepjjkaaDoorShelf
import Derived.Test.YtijlmchfepjjkaaDoorGTableSays1
namespace Go.Proofs.YtijlmchfepjjkaaDoor
open Go Go.Av
set_option maxRecDepth 100000
set_option maxHeartbeats 8000000
set_option linter.unusedVariables false
set_option linter.unusedSimpArgs false
attribute [local irreducible] HCode AOps PFn AFn Av.Step TStep

theorem take_enc' {α : Type} {f : α → AV} {l : List α} {j : Nat} (h : j < l.length) : (l.take j).map f ++ [f l[j]] = (l.take (j + 1)).map f := by
  rw [List.take_succ_eq_append_getElem h, List.map_append]; rfl
theorem Mem.lowT (n m : Nat) (l : List Mem) (k : Nat) : AV.lowL n m ((l.take k).map Mem.enc) = true := Mem.lowL n m _

theorem lowL_app {a n : Nat} : ∀ (xs ys : List AV), AV.lowL a n (xs ++ ys) = (AV.lowL a n xs && AV.lowL a n ys)
  | [], ys => by simp [AV.lowL]
  | x :: xs, ys => by rw [List.cons_append, AV.lowL, AV.lowL, lowL_app xs ys, Bool.and_assoc]
theorem membersC (N : Nat) (ih : ∀ v : Val, v.size ≤ N → PFn Tryd.prog 109 [v.enc] v.enc) (l : List Mem) (hl : l.length ≤ 1048576) (hs : ∀ x ∈ l, x.v.size ≤ N) :
    PFn Tryd.prog 74 [.slice (l.map Mem.enc) .no] (.slice (l.map Mem.enc) .no) := by
  refine AFn.plain (by simp [AV.closed, Mem.closedL]) (by simp [AV.closedL, AV.closed, Mem.closedL]) (AFn.enter [2] Tryd.func74 rfl rfl rfl rfl rfl (by decide) ?_)
  repeat' first
    | refine .seq ?_ | refine .rg ?_ | refine .rd ?_ | refine .block ?_ | refine .scope ?_ | refine .skip ?_ | refine .label ?_ | refine .exit ?_ | refine .ret ?_
    | refine .ct ?_ | refine .cf ?_ | refine .cy ?_ | refine .cn ?_ | (refine .cond rfl ?_ ?_ <;> intro hc)
    | refine A.nil_seq ?_ | refine .nl ?_ | refine .dd ?_ | refine .ys ?_ | refine .no ?_ | (refine A.guard rfl ?_ ?_ <;> intro hc)
    | refine .lb ?_ | refine .ln ?_ | refine .ls ?_ | refine .pv ?_ | refine .ix ?_ | refine .pt ?_ | refine .pf ?_ | refine .bx ?_ | refine .al ?_ | refine .st ?_ | refine .ad ?_ | refine .sb ?_ | refine .mf ?_ | refine .cl ?_ | refine .cw ?_ | refine .ck ?_ | fail
  change HCode _ _ _ _ _ _ _
  refine HCode.adopt 3 true 6 rfl rfl rfl rfl rfl rfl ?_
  refine HCode.loop (fun n s σ => ∃ k : Nat, n = l.length - k ∧ k ≤ l.length ∧ σ = ⟨[], [.len k]⟩ ∧ s = [(4, .int .i64 k), (3, .slice ((l.take k).map Mem.enc) (.own 0 6)), (0, .slice (l.map Mem.enc) .no)])
    (s0 := [(4, .int .i64 (0 : Nat)), (3, .slice ((l.take 0).map Mem.enc) (.own 0 6)), (0, .slice (l.map Mem.enc) .no)]) ⟨rfl, rfl, rfl, trivial⟩ ⟨0, rfl, Nat.zero_le _, rfl, rfl⟩ ?_
  rintro n s σ ⟨k, rfl, hk, rfl, rfl⟩
  have htl : ((l.take k).map Mem.enc).length = k := by simp; omega
  by_cases h1 : k < l.length
  · have d1 : decide ((k : Int) < (l.length : Int)) = true := by simp [h1]
    have x1 := map_get' (f := Mem.enc) h1
    have hcc := ih l[k].v (hs _ (List.getElem_mem h1))
    repeat' first
      | refine .seq ?_ | refine .rg ?_ | refine .rd ?_ | refine .block ?_ | refine .scope ?_ | refine .skip ?_ | refine .label ?_ | refine .exit ?_ | refine .ret ?_
      | refine .ct ?_ | refine .cf ?_ | refine .cy ?_ | refine .cn ?_ | (refine .cond rfl ?_ ?_ <;> intro hc)
      | refine A.nil_seq ?_ | refine .nl ?_ | refine .dd ?_ | refine .ys ?_ | refine .no ?_ | (refine A.guard rfl ?_ ?_ <;> intro hc)
      | refine .lb ?_ | refine .ln ?_ | refine .ls ?_ | refine .pv ?_ | refine .ix ?_ | refine .pt ?_ | refine .pf ?_ | refine .bx ?_ | refine .al ?_ | refine .st ?_ | refine .ad ?_ | refine .sb ?_ | refine .mf ?_ | refine .cl ?_ | refine .cw ?_ | refine .ck ?_
      | refine A.call rfl hcc (WeakL.refl _) ?_ | refine A.append (n := k) rfl rfl rfl rfl rfl rfl rfl rfl htl rfl (by dsimp only [List.length_cons, List.length_nil]; omega) (by dsimp only [List.length_cons, List.length_nil]; omega) rfl ?_ | fail
    refine ⟨l.length - (k + 1), by omega, [(4, .int .i64 ((k + 1 : Nat) : Int)), (3, .slice ((l.take (k + 1)).map Mem.enc) (.own 0 6)), (0, .slice (l.map Mem.enc) .no)],
      ⟨rfl, ?_, rfl, trivial⟩, by simp [-List.map_take, belowS, AV.low, Mem.lowL], rfl, k + 1, rfl, by omega, rfl, rfl⟩
    rw [← take_enc' h1]
    rfl
  · have d1 : decide ((k : Int) < (l.length : Int)) = false := by simp; omega
    repeat' first
      | refine .seq ?_ | refine .rg ?_ | refine .rd ?_ | refine .block ?_ | refine .scope ?_ | refine .skip ?_ | refine .label ?_ | refine .exit ?_ | refine .ret ?_
      | refine .ct ?_ | refine .cf ?_ | refine .cy ?_ | refine .cn ?_ | (refine .cond rfl ?_ ?_ <;> intro hc)
      | refine A.nil_seq ?_ | refine .nl ?_ | refine .dd ?_ | refine .ys ?_ | refine .no ?_ | (refine A.guard rfl ?_ ?_ <;> intro hc)
      | refine .lb ?_ | refine .ln ?_ | refine .ls ?_ | refine .pv ?_ | refine .ix ?_ | refine .pt ?_ | refine .pf ?_ | refine .bx ?_ | refine .al ?_ | refine .st ?_ | refine .ad ?_ | refine .sb ?_ | refine .mf ?_ | refine .cl ?_ | refine .cw ?_ | refine .ck ?_ | fail
    refine Fin.ret1 rfl (Weak.no (WeakL.eq ?_))
    rw [List.take_of_length_le (by omega)]

theorem copy_aux : ∀ (N : Nat) (v : Val), v.size ≤ N → N ≤ 1048576 → PFn Tryd.prog 109 [v.enc] v.enc
  | 0, v, h, _ => by have := v.size_pos; omega
  | N + 1, v, h, hN => by
    have ih := fun (x : Val) (hx : x.size ≤ N) => copy_aux N x hx (by omega)
    have hm := membersC N ih v.m (by have := v.m_len; omega) (fun x hx => by
      have := sumSize_mem (size := Mem.size) hx
      have h2 : x.size = x.name.length + 2 + x.v.size := rfl
      have := v.size_eq
      omega)
    have hll := v.lv_len
    have la := v.l_len
    rw [← v.mv_eq] at hm
    refine AFn.plain (Val.closed v) (by simp [AV.closedL, Val.closed]) (AFn.enterR [.cell 2 28] Tryd.func109 rfl rfl rfl rfl rfl ?_)
    repeat' first
      | refine .seq ?_ | refine .rg ?_ | refine .rd ?_ | refine .block ?_ | refine .scope ?_ | refine .skip ?_ | refine .label ?_ | refine .exit ?_ | refine .ret ?_
      | refine .ct ?_ | refine .cf ?_ | refine .cy ?_ | refine .cn ?_ | (refine .cond rfl ?_ ?_ <;> intro hc)
      | refine A.nil_seq ?_ | refine .nl ?_ | refine .dd ?_ | refine .ys ?_ | refine .no ?_ | (refine A.guard rfl ?_ ?_ <;> intro hc)
      | refine .lb ?_ | refine .ln ?_ | refine .ls ?_ | refine .pv ?_ | refine .ix ?_ | refine .pt ?_ | refine .pf ?_ | refine .bx ?_ | refine .al ?_ | refine .st ?_ | refine .ad ?_ | refine .sb ?_ | refine .mf ?_ | refine .cl ?_ | refine .cw ?_ | refine .ck ?_ | fail
    change HCode _ _ _ _ _ _ _
    refine HCode.adopt 3 true 5 rfl rfl rfl rfl rfl rfl ?_
    refine HCode.loop (fun n s σ => ∃ k : Nat, n = v.l.length - k ∧ k ≤ v.l.length ∧ σ = ⟨[.cells [.int .i64 v.kind, .int .i64 v.n, .str v.s, .slice v.lv .no, .slice v.mv .no], .cells [.int .i64 0, .int .i64 0, .str [], .slice [] .nil, .slice [] .nil]], [.len k]⟩ ∧
        s = [(4, .int .i64 k), (3, .slice ((v.l.take k).map Val.enc) (.own 0 5)), (1, .ptr 0 0), (2, .ptr 1 0)])
      (s0 := [(4, .int .i64 (0 : Nat)), (3, .slice ((v.l.take 0).map Val.enc) (.own 0 5)), (1, .ptr 0 0), (2, .ptr 1 0)]) ⟨rfl, rfl, rfl, rfl, trivial⟩ ⟨0, rfl, Nat.zero_le _, rfl, rfl⟩ ?_
    rintro n s σ ⟨k, rfl, hk, rfl, rfl⟩
    have htl : ((v.l.take k).map Val.enc).length = k := by simp; omega
    by_cases h1 : k < v.l.length
    · have d1 : decide ((k : Int) < (v.lv.length : Int)) = true := by simp [h1, hll]
      have x1 := Val.lv_get h1
      have hcc := ih v.l[k] (by have := Val.size_l h1; omega)
      repeat' first
        | refine .seq ?_ | refine .rg ?_ | refine .rd ?_ | refine .block ?_ | refine .scope ?_ | refine .skip ?_ | refine .label ?_ | refine .exit ?_ | refine .ret ?_
        | refine .ct ?_ | refine .cf ?_ | refine .cy ?_ | refine .cn ?_ | (refine .cond rfl ?_ ?_ <;> intro hc)
        | refine A.nil_seq ?_ | refine .nl ?_ | refine .dd ?_ | refine .ys ?_ | refine .no ?_ | (refine A.guard rfl ?_ ?_ <;> intro hc)
        | refine .lb ?_ | refine .ln ?_ | refine .ls ?_ | refine .pv ?_ | refine .ix ?_ | refine .pt ?_ | refine .pf ?_ | refine .bx ?_ | refine .al ?_ | refine .st ?_ | refine .ad ?_ | refine .sb ?_ | refine .mf ?_ | refine .cl ?_ | refine .cw ?_ | refine .ck ?_
        | refine A.len rfl rfl rfl rfl ?_ | refine A.call rfl hcc (WeakL.refl _) ?_ | refine A.append (n := k) rfl rfl rfl rfl rfl rfl rfl rfl htl rfl (by dsimp only [List.length_cons, List.length_nil]; omega) (by dsimp only [List.length_cons, List.length_nil]; omega) rfl ?_ | fail
      refine ⟨v.l.length - (k + 1), by omega, [(4, .int .i64 ((k + 1 : Nat) : Int)), (3, .slice ((v.l.take (k + 1)).map Val.enc) (.own 0 5)), (1, .ptr 0 0), (2, .ptr 1 0)],
        ⟨rfl, ?_, rfl, rfl, trivial⟩, by simp [-List.map_take, belowS, AV.low, Val.lowL'], by simp [belowB, belowT, Ob.low, Tok.low, AV.low, AV.lowL, Val.lv_low, Val.mv_low], k + 1, rfl, by omega, rfl, rfl⟩
      rw [← take_enc' h1]
      rfl
    · have d1 : decide ((k : Int) < (v.lv.length : Int)) = false := by simp [hll]; omega
      repeat' first
        | refine .seq ?_ | refine .rg ?_ | refine .rd ?_ | refine .block ?_ | refine .scope ?_ | refine .skip ?_ | refine .label ?_ | refine .exit ?_ | refine .ret ?_
        | refine .ct ?_ | refine .cf ?_ | refine .cy ?_ | refine .cn ?_ | (refine .cond rfl ?_ ?_ <;> intro hc)
        | refine A.nil_seq ?_ | refine .nl ?_ | refine .dd ?_ | refine .ys ?_ | refine .no ?_ | (refine A.guard rfl ?_ ?_ <;> intro hc)
        | refine .lb ?_ | refine .ln ?_ | refine .ls ?_ | refine .pv ?_ | refine .ix ?_ | refine .pt ?_ | refine .pf ?_ | refine .bx ?_ | refine .al ?_ | refine .st ?_ | refine .ad ?_ | refine .sb ?_ | refine .mf ?_ | refine .cl ?_ | refine .cw ?_ | refine .ck ?_
        | refine A.len rfl rfl rfl rfl ?_ | refine A.call rfl hm (WeakL.refl _) ?_ | fail
      refine FinR.ret1 rfl (Weak.agg (WeakL.cons (Weak.refl _) (WeakL.cons (Weak.refl _) (WeakL.cons (Weak.refl _) (WeakL.cons (Weak.no (WeakL.eq ?_)) (WeakL.refl _))))))
      rw [List.take_of_length_le (by omega), v.lv_eq]

theorem membersK (l : List Mem) (h : sumSize Mem.size l ≤ 1048576) : PFn Tryd.prog 74 [.slice (l.map Mem.enc) .no] (.slice (l.map Mem.enc) .no) :=
  membersC (sumSize Mem.size l) (fun v hv => copy_aux _ v hv h) l (by have := sumSize_length Mem.size_pos l; omega) (fun x hx => by
    have := sumSize_mem (size := Mem.size) hx
    have h2 : x.size = x.name.length + 2 + x.v.size := rfl
    omega)

theorem tablesK (l : List Tbl) (hl : l.length ≤ 1048576) (hr : ∀ t ∈ l, t.rows.length ≤ 1048576) (hs : ∀ t ∈ l, ∀ r ∈ t.rows, sumSize Mem.size r.cols ≤ 1048576) :
    PFn Tryd.prog 23 [Tbls.enc l] (Tbls.enc l) := by
  refine AFn.plain (Tbls.closed l) (by simp [AV.closedL, Tbls.closed]) (AFn.enter [2] Tryd.func23 rfl rfl rfl rfl rfl (by decide) ?_)
  repeat' first
    | refine .seq ?_ | refine .rg ?_ | refine .rd ?_ | refine .block ?_ | refine .scope ?_ | refine .skip ?_ | refine .label ?_ | refine .exit ?_ | refine .ret ?_
    | refine .ct ?_ | refine .cf ?_ | refine .cy ?_ | refine .cn ?_ | (refine .cond rfl ?_ ?_ <;> intro hc)
    | refine A.nil_seq ?_ | refine .nl ?_ | refine .dd ?_ | refine .ys ?_ | refine .no ?_ | (refine A.guard rfl ?_ ?_ <;> intro hc)
    | refine .lb ?_ | refine .ln ?_ | refine .ls ?_ | refine .pv ?_ | refine .ix ?_ | refine .pt ?_ | refine .pf ?_ | refine .bx ?_ | refine .al ?_ | refine .st ?_ | refine .ad ?_ | refine .sb ?_ | refine .mf ?_ | refine .cl ?_ | refine .cw ?_ | refine .ck ?_ | fail
  change HCode _ _ _ _ _ _ _
  refine HCode.adopt 3 true 2 rfl rfl rfl rfl rfl rfl ?_
  refine HCode.loop (fun n s σ => ∃ k : Nat, n = l.length - k ∧ k ≤ l.length ∧ σ = ⟨[], [.len k]⟩ ∧ s = [(4, .int .i64 k), (3, .slice ((l.take k).map Tbl.enc) (.own 0 2)), (0, Tbls.enc l)])
    (s0 := [(4, .int .i64 (0 : Nat)), (3, .slice ((l.take 0).map Tbl.enc) (.own 0 2)), (0, Tbls.enc l)]) ⟨rfl, rfl, rfl, trivial⟩ ⟨0, rfl, Nat.zero_le _, rfl, rfl⟩ ?_
  rintro n s σ ⟨k, rfl, hk, rfl, rfl⟩
  have htl : ((l.take k).map Tbl.enc).length = k := by simp; omega
  by_cases h1 : k < l.length
  · have d1 : decide ((k : Int) < (l.length : Int)) = true := by simp [h1]
    have x1 := map_get' (f := Tbl.enc) h1
    have hrl := hr _ (List.getElem_mem h1)
    repeat' first
      | refine .seq ?_ | refine .rg ?_ | refine .rd ?_ | refine .block ?_ | refine .scope ?_ | refine .skip ?_ | refine .label ?_ | refine .exit ?_ | refine .ret ?_
      | refine .ct ?_ | refine .cf ?_ | refine .cy ?_ | refine .cn ?_ | (refine .cond rfl ?_ ?_ <;> intro hc)
      | refine A.nil_seq ?_ | refine .nl ?_ | refine .dd ?_ | refine .ys ?_ | refine .no ?_ | (refine A.guard rfl ?_ ?_ <;> intro hc)
      | refine .lb ?_ | refine .ln ?_ | refine .ls ?_ | refine .pv ?_ | refine .ix ?_ | refine .pt ?_ | refine .pf ?_ | refine .bx ?_ | refine .al ?_ | refine .st ?_ | refine .ad ?_ | refine .sb ?_ | refine .mf ?_ | refine .cl ?_ | refine .cw ?_ | refine .ck ?_ | fail
    change HCode _ _ _ _ _ _ _
    refine HCode.adoptB 0 1 true 4 rfl rfl rfl rfl rfl rfl rfl rfl ?_
    refine HCode.loop (fun n s σ => ∃ j : Nat, n = l[k].rows.length - j ∧ j ≤ l[k].rows.length ∧ σ = ⟨[.cells [.str l[k].name, .slice ((l[k].rows.take j).map Row.enc) (.own 1 4)]], [.len k, .len j]⟩ ∧ s = [(6, .int .i64 j), (5, .ptr 0 0), (4, .int .i64 k), (3, .slice ((l.take k).map Tbl.enc) (.own 0 2)), (0, Tbls.enc l)])
      (s0 := [(6, .int .i64 (0 : Nat)), (5, .ptr 0 0), (4, .int .i64 k), (3, .slice ((l.take k).map Tbl.enc) (.own 0 2)), (0, Tbls.enc l)]) ⟨rfl, rfl, rfl, rfl, rfl, trivial⟩ ⟨0, rfl, Nat.zero_le _, rfl, rfl⟩ ?_
    rintro n s σ ⟨j, rfl, hj, rfl, rfl⟩
    have hjl : ((l[k].rows.take j).map Row.enc).length = j := by simp; omega
    by_cases h2 : j < l[k].rows.length
    · have d2 : decide ((j : Int) < (l[k].rows.length : Int)) = true := by simp [h2]
      have x2 := map_get' (f := Row.enc) h2
      have hm := membersK l[k].rows[j].cols (hs _ (List.getElem_mem h1) _ (List.getElem_mem h2))
      repeat' first
        | refine .seq ?_ | refine .rg ?_ | refine .rd ?_ | refine .block ?_ | refine .scope ?_ | refine .skip ?_ | refine .label ?_ | refine .exit ?_ | refine .ret ?_
        | refine .ct ?_ | refine .cf ?_ | refine .cy ?_ | refine .cn ?_ | (refine .cond rfl ?_ ?_ <;> intro hc)
        | refine A.nil_seq ?_ | refine .nl ?_ | refine .dd ?_ | refine .ys ?_ | refine .no ?_ | (refine A.guard rfl ?_ ?_ <;> intro hc)
        | refine .lb ?_ | refine .ln ?_ | refine .ls ?_ | refine .pv ?_ | refine .ix ?_ | refine .pt ?_ | refine .pf ?_ | refine .bx ?_ | refine .al ?_ | refine .st ?_ | refine .ad ?_ | refine .sb ?_ | refine .mf ?_ | refine .cl ?_ | refine .cw ?_ | refine .ck ?_
        | refine A.call rfl hm (WeakL.refl _) ?_ | refine A.append (n := j) rfl rfl rfl rfl rfl rfl rfl rfl hjl rfl (by dsimp only [List.length_cons, List.length_nil]; omega) (by dsimp only [List.length_cons, List.length_nil]; omega) rfl ?_ | fail
      refine ⟨l[k].rows.length - (j + 1), by omega, [(6, .int .i64 ((j + 1 : Nat) : Int)), (5, .ptr 0 0), (4, .int .i64 k), (3, .slice ((l.take k).map Tbl.enc) (.own 0 2)), (0, Tbls.enc l)],
        ⟨rfl, rfl, rfl, rfl, rfl, trivial⟩, by simp [-List.map_take, belowS, AV.low, Tbl.lowL, Tbls.enc], ?_, j + 1, rfl, by omega, ?_, rfl⟩
      · have hp4 := Row.lowL 1 2 (l[k].rows.take j)
        simp [-List.map_take, belowB, belowT, Ob.low, Tok.low, AV.lowL, AV.low, lowL_app, hp4, Mem.lowL]
      · rw [← take_enc' h2]; rfl
    · have d2 : decide ((j : Int) < (l[k].rows.length : Int)) = false := by simp; omega
      have hjn : j = l[k].rows.length := by omega
      subst hjn
      have hcan : (l[k].rows.take l[k].rows.length).map Row.enc = l[k].rows.map Row.enc := by rw [List.take_length]
      repeat' first
        | refine HCode.turnB 0 1 rfl rfl (Turn.weak (x := .slice ((l[k].rows.take l[k].rows.length).map Row.enc) (.own 1 4)) (y := .slice (l[k].rows.map Row.enc) .no) (Weak.no (WeakL.eq hcan))) rfl ?_
        | refine .seq ?_ | refine .rg ?_ | refine .rd ?_ | refine .block ?_ | refine .scope ?_ | refine .skip ?_ | refine .label ?_ | refine .exit ?_ | refine .ret ?_
        | refine .ct ?_ | refine .cf ?_ | refine .cy ?_ | refine .cn ?_ | (refine .cond rfl ?_ ?_ <;> intro hc)
        | refine A.nil_seq ?_ | refine .nl ?_ | refine .dd ?_ | refine .ys ?_ | refine .no ?_ | (refine A.guard rfl ?_ ?_ <;> intro hc)
        | refine .lb ?_ | refine .ln ?_ | refine .ls ?_ | refine .pv ?_ | refine .ix ?_ | refine .pt ?_ | refine .pf ?_ | refine .bx ?_ | refine .al ?_ | refine .st ?_ | refine .ad ?_ | refine .sb ?_ | refine .mf ?_ | refine .cl ?_ | refine .cw ?_ | refine .ck ?_
        | refine A.append (n := k) rfl rfl rfl rfl rfl rfl rfl rfl htl rfl (by dsimp only [List.length_cons, List.length_nil]; omega) (by dsimp only [List.length_cons, List.length_nil]; omega) rfl ?_ | fail
      refine ⟨l.length - (k + 1), by omega, [(4, .int .i64 ((k + 1 : Nat) : Int)), (3, .slice ((l.take (k + 1)).map Tbl.enc) (.own 0 2)), (0, Tbls.enc l)],
        ⟨rfl, ?_, rfl, trivial⟩, by simp [-List.map_take, belowS, AV.low, Tbl.lowL, Tbls.enc], rfl, k + 1, rfl, by omega, rfl, rfl⟩
      rw [← take_enc' h1]
      rfl
  · have d1 : decide ((k : Int) < (l.length : Int)) = false := by simp; omega
    repeat' first
      | refine .seq ?_ | refine .rg ?_ | refine .rd ?_ | refine .block ?_ | refine .scope ?_ | refine .skip ?_ | refine .label ?_ | refine .exit ?_ | refine .ret ?_
      | refine .ct ?_ | refine .cf ?_ | refine .cy ?_ | refine .cn ?_ | (refine .cond rfl ?_ ?_ <;> intro hc)
      | refine A.nil_seq ?_ | refine .nl ?_ | refine .dd ?_ | refine .ys ?_ | refine .no ?_ | (refine A.guard rfl ?_ ?_ <;> intro hc)
      | refine .lb ?_ | refine .ln ?_ | refine .ls ?_ | refine .pv ?_ | refine .ix ?_ | refine .pt ?_ | refine .pf ?_ | refine .bx ?_ | refine .al ?_ | refine .st ?_ | refine .ad ?_ | refine .sb ?_ | refine .mf ?_ | refine .cl ?_ | refine .cw ?_ | refine .ck ?_ | fail
    refine Fin.ret1 rfl (Weak.no (WeakL.eq ?_))
    rw [List.take_of_length_le (by omega)]
end Go.Proofs.YtijlmchfepjjkaaDoor
namespace Go.Proofs.YtijlmchfepjjkaaDoor
open Go Go.Av
set_option maxRecDepth 100000
set_option linter.unusedVariables false
set_option linter.unusedSimpArgs false

/-- Small enough, as the bound on the arguments' bulk says. -/
def tabSize (l : List Tbl) : Nat := sumSize Tbl.size l
theorem fine_of {l : List Tbl} {n : Nat} (h : tabSize l ≤ n) : Fine n l := by
  have hl := sumSize_length (size := Tbl.size) (fun t => by unfold Tbl.size; omega) l
  refine ⟨by unfold tabSize at h; omega, fun t ht => ?_, fun t ht r hr => ?_⟩
  · have h1 := sumSize_mem (size := Tbl.size) ht
    have h2 := sumSize_length (size := Row.size) (fun r => by unfold Row.size; omega) t.rows
    have h3 : t.size = t.name.length + sumSize Row.size t.rows + 2 := rfl
    unfold tabSize at h; omega
  · have h1 := sumSize_mem (size := Tbl.size) ht
    have h2 := sumSize_mem (size := Row.size) hr
    have h3 := sumSize_length (size := Mem.size) Mem.size_pos r.cols
    have h4 : t.size = t.name.length + sumSize Row.size t.rows + 2 := rfl
    have h5 : r.size = r.key.length + r.typ.length + sumSize Mem.size r.cols + 4 := rfl
    unfold tabSize at h; omega
theorem cols_of {l : List Tbl} {n : Nat} (h : tabSize l ≤ n) : ∀ t ∈ l, ∀ r ∈ t.rows, sumSize Mem.size r.cols ≤ n := fun t ht r hr => by
  have h1 := sumSize_mem (size := Tbl.size) ht
  have h2 := sumSize_mem (size := Row.size) hr
  have h4 : t.size = t.name.length + sumSize Row.size t.rows + 2 := rfl
  have h5 : r.size = r.key.length + r.typ.length + sumSize Mem.size r.cols + 4 := rfl
  unfold tabSize at h; omega
theorem args_of (c : Cmd) : sumSize Mem.size c.args ≤ c.size ∧ c.args.length ≤ c.size := by
  have h1 : c.size = c.name.length + c.table.length + c.col.length + c.typ.length + sumSize Mem.size c.args + 5 := rfl
  have := sumSize_length Mem.size_pos c.args
  omega

/-! How large the tables are behind a command. -/
theorem sumSize_app {α : Type} (f : α → Nat) : ∀ l m : List α, sumSize f (l ++ m) = sumSize f l + sumSize f m
  | [], m => by simp [sumSize]
  | x :: l, m => by rw [List.cons_append, sumSize, sumSize, sumSize_app f l m]; omega
theorem sumSize_set {α : Type} (f : α → Nat) : ∀ (l : List α) (i : Nat) (h : i < l.length) (y : α), sumSize f (l.set i y) + f l[i] = sumSize f l + f y
  | [], i, h, _ => by simp at h
  | x :: l, 0, _, y => by simp only [List.set_cons_zero, sumSize, List.getElem_cons_zero]; omega
  | x :: l, i + 1, h, y => by
    have := sumSize_set f l i (by simpa using h) y
    simp only [List.set_cons_succ, sumSize, List.getElem_cons_succ]; omega
theorem setG_size (l : List Mem) (n : Str) (v : Val) : sumSize Mem.size (setG l n v) ≤ sumSize Mem.size l + n.length + 2 + v.size := by
  unfold setG
  split
  · rw [sumSize_app]; simp only [sumSize]; have : (Mem.mk n v).size = n.length + 2 + v.size := rfl; omega
  · rename_i i hi
    rcases fidx_spec (fun m : Mem => m.name == n) l 0 with ⟨_, h4⟩ | ⟨k, hk, _, h4, _⟩
    · rw [h4] at hi; cases hi
    · rw [h4] at hi
      cases hi
      have hk' : i < l.length := hk
      rw [modAt_eq hk']
      have := sumSize_set Mem.size l i hk' (.mk l[i].name v)
      have h1 : (Mem.mk l[i].name v).size = l[i].name.length + 2 + v.size := rfl
      have h2 : l[i].size = l[i].name.length + 2 + l[i].v.size := rfl
      omega
theorem putCols_size : ∀ (args cols : List Mem), sumSize Mem.size (putCols args cols) ≤ sumSize Mem.size cols + sumSize Mem.size args
  | [], cols => by simp [putCols, sumSize]
  | m :: args, cols => by
    rw [putCols]
    have h1 := putCols_size args (if m.name != sKey then setG cols m.name m.v else cols)
    have h2 := setG_size cols m.name m.v
    have h3 : m.size = m.name.length + 2 + m.v.size := rfl
    simp only [sumSize]
    split at h1 <;> simp_all <;> omega
theorem putRows_size (rows : List Row) (r : Row) : sumSize Row.size (putRows rows r) ≤ sumSize Row.size rows + r.size := by
  unfold putRows
  split
  · rw [sumSize_app]; simp only [sumSize]; omega
  · rename_i i hi
    rcases fidx_spec (fun x : Row => x.key == r.key) rows 0 with ⟨_, h4⟩ | ⟨k, hk, _, h4, _⟩
    · rw [h4] at hi; cases hi
    · rw [h4] at hi
      cases hi
      have := sumSize_set Row.size rows i hk r
      omega
theorem sumSize_take_drop {α : Type} (f : α → Nat) (l : List α) (i j : Nat) (h : i ≤ j) : sumSize f (l.take i) + sumSize f (l.drop j) ≤ sumSize f l := by
  have h1 := sumSize_app f (l.take i) (l.drop i)
  have h2 := sumSize_app f ((l.drop i).take (j - i)) ((l.drop i).drop (j - i))
  rw [List.take_append_drop] at h1 h2
  rw [List.drop_drop] at h2
  have h3 : i + (j - i) = j := by omega
  rw [h3] at h2
  omega
theorem cutRows_size (rows : List Row) (key : Str) : sumSize Row.size (cutRows rows key) ≤ sumSize Row.size rows := by
  unfold cutRows
  split
  · omega
  · rename_i i hi
    rw [sumSize_app]
    exact sumSize_take_drop _ _ _ _ (by omega)
theorem putG_size (l : List Tbl) (name : Str) (r : Row) : tabSize (putG l name r) ≤ tabSize l + name.length + r.size + 2 := by
  unfold putG tabSize
  split
  · rw [sumSize_app]; simp only [sumSize]
    have : Tbl.size ⟨name, [r]⟩ = name.length + sumSize Row.size [r] + 2 := rfl
    simp only [sumSize] at this; omega
  · rename_i i hi
    rcases fidx_spec (fun t : Tbl => t.name == name) l 0 with ⟨_, h4⟩ | ⟨k, hk, _, h4, _⟩
    · rw [h4] at hi; cases hi
    · rw [h4] at hi
      cases hi
      have hk' : i < l.length := hk
      rw [modAt_eq hk']
      have := sumSize_set Tbl.size l i hk' ⟨l[i].name, putRows l[i].rows r⟩
      have h1 : Tbl.size ⟨l[i].name, putRows l[i].rows r⟩ = l[i].name.length + sumSize Row.size (putRows l[i].rows r) + 2 := rfl
      have h2 : l[i].size = l[i].name.length + sumSize Row.size l[i].rows + 2 := rfl
      have h3 := putRows_size l[i].rows r
      omega
theorem cutG_size (l : List Tbl) (name key : Str) : tabSize (cutG l name key) ≤ tabSize l := by
  unfold cutG tabSize
  split
  · omega
  · rename_i i hi
    rcases fidx_spec (fun t : Tbl => t.name == name) l 0 with ⟨_, h4⟩ | ⟨k, hk, _, h4, _⟩
    · rw [h4] at hi; cases hi
    · rw [h4] at hi
      cases hi
      have hk' : i < l.length := hk
      rw [modAt_eq hk']
      have := sumSize_set Tbl.size l i hk' ⟨l[i].name, cutRows l[i].rows key⟩
      have h1 : Tbl.size ⟨l[i].name, cutRows l[i].rows key⟩ = l[i].name.length + sumSize Row.size (cutRows l[i].rows key) + 2 := rfl
      have h2 : l[i].size = l[i].name.length + sumSize Row.size l[i].rows + 2 := rfl
      have h3 := cutRows_size l[i].rows key
      omega
theorem light_of (l : List Tbl) (n : Nat) (h : tabSize l ≤ n) (hn : n ≤ 1048576) : PFn Tryd.prog 21 [Tbls.enc l] (.bool (lightT l)) := by
  have hf := fine_of h
  exact light l (by have := hf.len; omega) (fun t ht => by have := hf.rows t ht; omega) (fun t ht r hr => by have := cols_of h t ht r hr; omega)
theorem same_of (l : List Tbl) (n : Nat) (h : tabSize l ≤ n) (hn : n ≤ 9223372036854775807) : PFn Tryd.prog 32 [Tbls.enc l, Tbls.enc l] (.bool true) := by
  have hf := fine_of h
  exact sameTables l (by have := hf.len; omega) (fun t ht => by have := hf.rows t ht; omega) (fun t ht r hr => by have := cols_of h t ht r hr; omega)
theorem keep_of (l : List Tbl) (n : Nat) (h : tabSize l ≤ n) (hn : n ≤ 1048576) : PFn Tryd.prog 23 [Tbls.enc l] (Tbls.enc l) := by
  have hf := fine_of h
  exact tablesK l (by have := hf.len; omega) (fun t ht => by have := hf.rows t ht; omega) (fun t ht r hr => by have := cols_of h t ht r hr; omega)

end Go.Proofs.YtijlmchfepjjkaaDoor
namespace Go.Proofs.YtijlmchfepjjkaaDoor
open Go Go.Av
set_option maxRecDepth 100000
set_option maxHeartbeats 8000000
set_option linter.unusedVariables false
set_option linter.unusedSimpArgs false

/-- Is a text code points alone? -/
def good (s : Str) : Bool := Lib.validD s
theorem validString (s : Str) (hs : s.length ≤ 9223372036854775807) : PFn Tryd.prog 85 [.str s] (.bool (good s)) := by
  refine PFn.ofBelow ⟨_, Tryd.func85, rfl, rfl⟩ rfl (fun im w vals him hgl hl => ?_)
  obtain ⟨v, rest, e, hv, hr⟩ := hl
  have hv' : v = .string ⟨s.toArray⟩ := hv
  have hr' : rest = [] := hr
  subst hv'; subst hr'
  obtain rfl : vals = #[.string ⟨s.toArray⟩] := by cases vals; simp_all
  have h3 := GlobOk.rep (g := ⟨[], [], im⟩) hgl (p := (0, .agg (Lib.firstTab.map (AV.int .u8)))) (.head _)
  have h4 := GlobOk.rep (g := ⟨[], [], im⟩) hgl (p := (1, .agg (accTab.map (AV.int .u8)))) (.tail _ (.head _))
  refine (Tryd.utf8_ValidString ⟨s.toArray⟩ w (by simpa [ByteArray.size] using hs) (utf8_tabs h3 h4)).mono ?_
  rintro e w' ⟨rfl, hb⟩
  exact ⟨⟨_, rfl, rfl⟩, hb⟩
attribute [local irreducible] HCode AOps PFn AFn Av.Step TStep
theorem lgood (s : Str) (hs : s.length ≤ 9223372036854775807) : PFn Tryd.prog 36 [.str s] (.bool (good s)) := by
  have hv := validString s hs
  refine AFn.plain rfl rfl (AFn.enter [2] Tryd.func36 rfl rfl rfl rfl rfl (by decide) ?_)
  repeat' first
    | refine .seq ?_ | refine .rg ?_ | refine .rd ?_ | refine .block ?_ | refine .scope ?_ | refine .skip ?_ | refine .label ?_ | refine .exit ?_ | refine .ret ?_
    | refine .ct ?_ | refine .cf ?_ | refine .cy ?_ | refine .cn ?_ | (refine .cond rfl ?_ ?_ <;> intro hc)
    | refine A.nil_seq ?_ | refine .nl ?_ | refine .dd ?_ | refine .ys ?_ | refine .no ?_ | (refine A.guard rfl ?_ ?_ <;> intro hc)
    | refine .lb ?_ | refine .ln ?_ | refine .ls ?_ | refine .pv ?_ | refine .ix ?_ | refine .pt ?_ | refine .pf ?_ | refine .bx ?_ | refine .al ?_ | refine .st ?_ | refine .ad ?_ | refine .sb ?_ | refine .mf ?_ | refine .cl ?_ | refine .cw ?_ | refine .ck ?_
    | refine A.call rfl hv (WeakL.refl _) ?_ | fail
  exact Fin.ret1 rfl (Weak.refl _)

end Go.Proofs.YtijlmchfepjjkaaDoor
namespace Go.Proofs.YtijlmchfepjjkaaDoor
open Go Go.Av
set_option maxRecDepth 100000
set_option maxHeartbeats 8000000
set_option linter.unusedVariables false
set_option linter.unusedSimpArgs false

attribute [local irreducible] HCode AOps PFn AFn Av.Step TStep
/-- A set of texts, as a map. -/
def seenM (ns : List Str) : List (AV × AV) := ns.map fun n => (.str n, .bool true)
theorem seen_keys : ∀ ns : List Str, strKeys (seenM ns) = true
  | [] => rfl
  | n :: ns => seen_keys ns
theorem seen_look (k : Str) : ∀ ns : List Str, (mlook k (seenM ns)).getD (.bool false) = .bool (decide (k ∈ ns))
  | [] => rfl
  | n :: ns => by
    by_cases e : n = k
    · subst e; simp [seenM, mlook]
    · have := seen_look k ns
      simp only [seenM, List.map_cons, mlook, if_neg e] at this ⊢
      rw [this]
      have : ¬ k = n := fun h => e h.symm
      simp [this]
theorem seen_put (k : Str) : ∀ ns : List Str, k ∉ ns → mput k (.bool true) (seenM ns) = seenM (ns ++ [k])
  | [], _ => rfl
  | n :: ns, h => by
    have e : ¬ n = k := fun e => h (by simp [e])
    have := seen_put k ns (fun hm => h (List.mem_cons_of_mem _ hm))
    simp only [seenM, List.map_cons, mput, if_neg e, List.cons_append] at this ⊢
    rw [this]
theorem seen_low (a b : Nat) : ∀ ns : List Str, belowM a b (seenM ns) = true
  | [] => rfl
  | n :: ns => by
    show ((AV.str n).low a b && (AV.bool true).low a b && belowM a b (seenM ns)) = true
    rw [seen_low a b ns]; rfl

section
variable (gv st : Val → Bool)
def colOk (m : Mem) : Bool := good m.name && (gv m.v && st m.v)
def colsOk : List Mem → List Str → Bool
  | [], _ => true
  | m :: l, ns => !decide (m.name ∈ ns) && (colOk gv st m && colsOk l (ns ++ [m.name]))
def rowOk (r : Row) : Bool := colsOk gv st r.cols [] && (good r.key && good r.typ)
def rowsOk : List Row → List Str → Bool
  | [], _ => true
  | r :: l, ks => !decide (r.key ∈ ks) && (rowOk gv st r && rowsOk l (ks ++ [r.key]))
def tblsOk : List Tbl → List Str → Bool
  | [], _ => true
  | t :: l, ns => !decide (t.name ∈ ns) && (good t.name && (rowsOk gv st t.rows [] && tblsOk l (ns ++ [t.name])))
theorem colsOk_drop {l : List Mem} {k : Nat} (h : k < l.length) : colsOk gv st (l.drop k) ((l.take k).map Mem.name) = (!decide (l[k].name ∈ (l.take k).map Mem.name) && (colOk gv st l[k] && colsOk gv st (l.drop (k + 1)) ((l.take (k + 1)).map Mem.name))) := by
  rw [List.drop_eq_getElem_cons h, colsOk, List.take_succ_eq_append_getElem h, List.map_append]; rfl
theorem rowsOk_drop {l : List Row} {k : Nat} (h : k < l.length) : rowsOk gv st (l.drop k) ((l.take k).map Row.key) = (!decide (l[k].key ∈ (l.take k).map Row.key) && (rowOk gv st l[k] && rowsOk gv st (l.drop (k + 1)) ((l.take (k + 1)).map Row.key))) := by
  rw [List.drop_eq_getElem_cons h, rowsOk, List.take_succ_eq_append_getElem h, List.map_append]; rfl
theorem tblsOk_drop {l : List Tbl} {k : Nat} (h : k < l.length) : tblsOk gv st (l.drop k) ((l.take k).map Tbl.name) = (!decide (l[k].name ∈ (l.take k).map Tbl.name) && (good l[k].name && (rowsOk gv st l[k].rows [] && tblsOk gv st (l.drop (k + 1)) ((l.take (k + 1)).map Tbl.name)))) := by
  rw [List.drop_eq_getElem_cons h, tblsOk, List.take_succ_eq_append_getElem h, List.map_append]; rfl
end

/-- What a row of such columns asks of the functions on values. -/
structure ValFns (gv st : Val → Bool) (B : Nat) : Prop where
  good : ∀ v : Val, v.size ≤ B → PFn Tryd.prog 19 [v.enc] (.bool (gv v))
  stands : ∀ v : Val, v.size ≤ B → PFn Tryd.prog 113 [v.enc] (.bool (st v))

theorem tableRow {gv st : Val → Bool} {B : Nat} (F : ValFns gv st B) (r : Row) (hB : B ≤ 1048576) (hc : ∀ m ∈ r.cols, m.name.length ≤ 1048576 ∧ m.v.size ≤ B) (hl : r.cols.length ≤ 1048576) (hk : r.key.length ≤ 1048576) (ht : r.typ.length ≤ 1048576) :
    PFn Tryd.prog 77 [r.enc] (.bool (rowOk gv st r)) := by
  refine AFn.plain rfl (by simp [AV.closedL, Row.closed]) (AFn.enter [2] Tryd.func77 rfl rfl rfl rfl rfl (by decide) ?_)
  repeat' first
    | refine A.box_r rfl rfl ?_ | refine A.makeMap rfl rfl ?_
    | refine .seq ?_ | refine .rg ?_ | refine .rd ?_ | refine .block ?_ | refine .scope ?_ | refine .skip ?_ | refine .label ?_ | refine .exit ?_ | refine .ret ?_
    | refine .ct ?_ | refine .cf ?_ | refine .cy ?_ | refine .cn ?_ | (refine .cond rfl ?_ ?_ <;> intro hc)
    | refine A.nil_seq ?_ | refine .nl ?_ | refine .dd ?_ | refine .ys ?_ | refine .no ?_ | (refine A.guard rfl ?_ ?_ <;> intro hc)
    | refine .lb ?_ | refine .ln ?_ | refine .ls ?_ | refine .pv ?_ | refine .ix ?_ | refine .pt ?_ | refine .pf ?_ | refine .bx ?_ | refine .al ?_ | refine .st ?_ | refine .ad ?_ | refine .sb ?_ | refine .mf ?_ | refine .cl ?_ | refine .cw ?_ | refine .ck ?_ | fail
  change HCode _ _ _ _ _ _ _
  refine HCode.loop (fun n s σ => ∃ k : Nat, n = r.cols.length - k ∧ k ≤ r.cols.length ∧ colsOk gv st r.cols [] = colsOk gv st (r.cols.drop k) ((r.cols.take k).map Mem.name) ∧ σ = ⟨[.map (seenM ((r.cols.take k).map Mem.name))], []⟩ ∧
    s = [(10, .int .i64 k), (9, .int .i64 r.cols.length), (8, .slice (r.cols.map Mem.enc) .no), (3, .map 0), (1, .rptr r.enc)])
    (s0 := [(10, .int .i64 (0 : Nat)), (9, .int .i64 r.cols.length), (8, .slice (r.cols.map Mem.enc) .no), (3, .map 0), (1, .rptr r.enc)])
    ⟨rfl, rfl, rfl, rfl, rfl, trivial⟩ ⟨0, rfl, Nat.zero_le _, rfl, rfl, rfl⟩ ?_
  rintro n s σ ⟨k, rfl, hk', hp, rfl, rfl⟩
  by_cases h1 : k < r.cols.length
  · have d1 : decide ((k : Int) < (r.cols.length : Int)) = true := by simp [h1]
    have x1 := map_get' (f := Mem.enc) h1
    have hsk := seen_keys ((r.cols.take k).map Mem.name)
    have hlo := seen_look r.cols[k].name ((r.cols.take k).map Mem.name)
    have hgd := lgood r.cols[k].name (by have := (hc _ (List.getElem_mem h1)).1; omega)
    have hvg := F.good r.cols[k].v (hc _ (List.getElem_mem h1)).2
    have hvs := F.stands r.cols[k].v (hc _ (List.getElem_mem h1)).2
    have hd := colsOk_drop gv st h1
    by_cases c1 : r.cols[k].name ∈ (r.cols.take k).map Mem.name
    · have e1 : decide (r.cols[k].name ∈ (r.cols.take k).map Mem.name) = true := by simpa using c1
      repeat' first
        | refine .seq ?_ | refine .rg ?_ | refine .rd ?_ | refine .block ?_ | refine .scope ?_ | refine .skip ?_ | refine .label ?_ | refine .exit ?_ | refine .ret ?_
        | refine .ct ?_ | refine .cf ?_ | refine .cy ?_ | refine .cn ?_ | (refine .cond rfl ?_ ?_ <;> intro hc)
        | refine A.nil_seq ?_ | refine .nl ?_ | refine .dd ?_ | refine .ys ?_ | refine .no ?_ | (refine A.guard rfl ?_ ?_ <;> intro hc)
        | refine .lb ?_ | refine .ln ?_ | refine .ls ?_ | refine .pv ?_ | refine .ix ?_ | refine .pt ?_ | refine .pf ?_ | refine .bx ?_ | refine .al ?_ | refine .st ?_ | refine .ad ?_ | refine .sb ?_ | refine .mf ?_ | refine .cl ?_ | refine .cw ?_ | refine .ck ?_
        | refine A.lookup Tryd.underlying123 Tryd.underlying9 rfl rfl rfl rfl hsk hlo ?_ | fail
      refine Fin.ret1 rfl (Weak.eq ?_)
      unfold rowOk
      rw [hp, hd, e1]; rfl
    · have e1 : decide (r.cols[k].name ∈ (r.cols.take k).map Mem.name) = false := by simpa using c1
      by_cases c2 : good r.cols[k].name = true
      · have e2 : (!good r.cols[k].name) = false := by rw [c2]; rfl
        by_cases c3 : gv r.cols[k].v = true
        · have e3 : (!gv r.cols[k].v) = false := by rw [c3]; rfl
          by_cases c4 : st r.cols[k].v = true
          · have e4 : (!st r.cols[k].v) = false := by rw [c4]; rfl
            have hpu := seen_put r.cols[k].name ((r.cols.take k).map Mem.name) c1
            have htk : (r.cols.take k).map Mem.name ++ [r.cols[k].name] = (r.cols.take (k + 1)).map Mem.name := by rw [List.take_succ_eq_append_getElem h1, List.map_append]; rfl
            repeat' first
              | refine .seq ?_ | refine .rg ?_ | refine .rd ?_ | refine .block ?_ | refine .scope ?_ | refine .skip ?_ | refine .label ?_ | refine .exit ?_ | refine .ret ?_
              | refine .ct ?_ | refine .cf ?_ | refine .cy ?_ | refine .cn ?_ | (refine .cond rfl ?_ ?_ <;> intro hc)
              | refine A.nil_seq ?_ | refine .nl ?_ | refine .dd ?_ | refine .ys ?_ | refine .no ?_ | (refine A.guard rfl ?_ ?_ <;> intro hc)
              | refine .lb ?_ | refine .ln ?_ | refine .ls ?_ | refine .pv ?_ | refine .ix ?_ | refine .pt ?_ | refine .pf ?_ | refine .bx ?_ | refine .al ?_ | refine .st ?_ | refine .ad ?_ | refine .sb ?_ | refine .mf ?_ | refine .cl ?_ | refine .cw ?_ | refine .ck ?_
              | refine A.lookup Tryd.underlying123 Tryd.underlying9 rfl rfl rfl rfl hsk hlo ?_ | refine A.call rfl hgd (WeakL.refl _) ?_ | refine A.call rfl hvg (WeakL.refl _) ?_ | refine A.call rfl hvs (WeakL.refl _) ?_ | refine A.mapUpdate Tryd.underlying123 Tryd.underlying9 rfl rfl rfl rfl hsk rfl ?_ | fail
            refine ⟨r.cols.length - (k + 1), by omega, [(10, .int .i64 ((k + 1 : Nat) : Int)), (9, .int .i64 r.cols.length), (8, .slice (r.cols.map Mem.enc) .no), (3, .map 0), (1, .rptr r.enc)],
              ⟨rfl, rfl, rfl, rfl, rfl, trivial⟩, by simp [belowS, AV.low, Mem.lowL, AV.low_of_closed _ _ _ (Row.closed r)], ?_, k + 1, rfl, by omega, ?_, ?_, rfl⟩
            · simp only [List.length_cons, List.length_nil, List.set_cons_zero, List.take_succ_cons, List.take_zero, hpu]
              simp [belowB, belowT, Ob.low, seen_low]
            · rw [hp, hd, e1, colOk, c2, c3, c4]; rfl
            · simp only [List.length_cons, List.length_nil, List.set_cons_zero, List.take_succ_cons, List.take_zero, hpu, htk]
          · have e4 : (!st r.cols[k].v) = true := by simpa using c4
            repeat' first
              | refine .seq ?_ | refine .rg ?_ | refine .rd ?_ | refine .block ?_ | refine .scope ?_ | refine .skip ?_ | refine .label ?_ | refine .exit ?_ | refine .ret ?_
              | refine .ct ?_ | refine .cf ?_ | refine .cy ?_ | refine .cn ?_ | (refine .cond rfl ?_ ?_ <;> intro hc)
              | refine A.nil_seq ?_ | refine .nl ?_ | refine .dd ?_ | refine .ys ?_ | refine .no ?_ | (refine A.guard rfl ?_ ?_ <;> intro hc)
              | refine .lb ?_ | refine .ln ?_ | refine .ls ?_ | refine .pv ?_ | refine .ix ?_ | refine .pt ?_ | refine .pf ?_ | refine .bx ?_ | refine .al ?_ | refine .st ?_ | refine .ad ?_ | refine .sb ?_ | refine .mf ?_ | refine .cl ?_ | refine .cw ?_ | refine .ck ?_
              | refine A.lookup Tryd.underlying123 Tryd.underlying9 rfl rfl rfl rfl hsk hlo ?_ | refine A.call rfl hgd (WeakL.refl _) ?_ | refine A.call rfl hvg (WeakL.refl _) ?_ | refine A.call rfl hvs (WeakL.refl _) ?_ | fail
            refine Fin.ret1 rfl (Weak.eq ?_)
            unfold rowOk
            rw [hp, hd, colOk, show st r.cols[k].v = false by simpa using c4]; simp
        · have e3 : (!gv r.cols[k].v) = true := by simpa using c3
          repeat' first
            | refine .seq ?_ | refine .rg ?_ | refine .rd ?_ | refine .block ?_ | refine .scope ?_ | refine .skip ?_ | refine .label ?_ | refine .exit ?_ | refine .ret ?_
            | refine .ct ?_ | refine .cf ?_ | refine .cy ?_ | refine .cn ?_ | (refine .cond rfl ?_ ?_ <;> intro hc)
            | refine A.nil_seq ?_ | refine .nl ?_ | refine .dd ?_ | refine .ys ?_ | refine .no ?_ | (refine A.guard rfl ?_ ?_ <;> intro hc)
            | refine .lb ?_ | refine .ln ?_ | refine .ls ?_ | refine .pv ?_ | refine .ix ?_ | refine .pt ?_ | refine .pf ?_ | refine .bx ?_ | refine .al ?_ | refine .st ?_ | refine .ad ?_ | refine .sb ?_ | refine .mf ?_ | refine .cl ?_ | refine .cw ?_ | refine .ck ?_
            | refine A.lookup Tryd.underlying123 Tryd.underlying9 rfl rfl rfl rfl hsk hlo ?_ | refine A.call rfl hgd (WeakL.refl _) ?_ | refine A.call rfl hvg (WeakL.refl _) ?_ | fail
          refine Fin.ret1 rfl (Weak.eq ?_)
          unfold rowOk
          rw [hp, hd, colOk, show gv r.cols[k].v = false by simpa using c3]; simp
      · have e2 : (!good r.cols[k].name) = true := by simpa using c2
        repeat' first
          | refine .seq ?_ | refine .rg ?_ | refine .rd ?_ | refine .block ?_ | refine .scope ?_ | refine .skip ?_ | refine .label ?_ | refine .exit ?_ | refine .ret ?_
          | refine .ct ?_ | refine .cf ?_ | refine .cy ?_ | refine .cn ?_ | (refine .cond rfl ?_ ?_ <;> intro hc)
          | refine A.nil_seq ?_ | refine .nl ?_ | refine .dd ?_ | refine .ys ?_ | refine .no ?_ | (refine A.guard rfl ?_ ?_ <;> intro hc)
          | refine .lb ?_ | refine .ln ?_ | refine .ls ?_ | refine .pv ?_ | refine .ix ?_ | refine .pt ?_ | refine .pf ?_ | refine .bx ?_ | refine .al ?_ | refine .st ?_ | refine .ad ?_ | refine .sb ?_ | refine .mf ?_ | refine .cl ?_ | refine .cw ?_ | refine .ck ?_
          | refine A.lookup Tryd.underlying123 Tryd.underlying9 rfl rfl rfl rfl hsk hlo ?_ | refine A.call rfl hgd (WeakL.refl _) ?_ | fail
        refine Fin.ret1 rfl (Weak.eq ?_)
        unfold rowOk
        rw [hp, hd, colOk, show good r.cols[k].name = false by simpa using c2]; simp
  · have d1 : decide ((k : Int) < (r.cols.length : Int)) = false := by simp; omega
    have hkk := lgood r.key (by omega)
    have hkt := lgood r.typ (by omega)
    have hend : colsOk gv st r.cols [] = true := by rw [hp, List.drop_eq_nil_of_le (by omega)]; rfl
    by_cases c1 : good r.key = true
    · repeat' first
        | refine .seq ?_ | refine .rg ?_ | refine .rd ?_ | refine .block ?_ | refine .scope ?_ | refine .skip ?_ | refine .label ?_ | refine .exit ?_ | refine .ret ?_
        | refine .ct ?_ | refine .cf ?_ | refine .cy ?_ | refine .cn ?_ | (refine .cond rfl ?_ ?_ <;> intro hc)
        | refine A.nil_seq ?_ | refine .nl ?_ | refine .dd ?_ | refine .ys ?_ | refine .no ?_ | (refine A.guard rfl ?_ ?_ <;> intro hc)
        | refine .lb ?_ | refine .ln ?_ | refine .ls ?_ | refine .pv ?_ | refine .ix ?_ | refine .pt ?_ | refine .pf ?_ | refine .bx ?_ | refine .al ?_ | refine .st ?_ | refine .ad ?_ | refine .sb ?_ | refine .mf ?_ | refine .cl ?_ | refine .cw ?_ | refine .ck ?_
        | refine A.call rfl hkk (WeakL.refl _) ?_ | refine A.call rfl hkt (WeakL.refl _) ?_ | fail
      refine Fin.ret1 rfl (Weak.eq ?_)
      unfold rowOk
      rw [hend, c1]; rfl
    · have e1 : good r.key = false := by simpa using c1
      repeat' first
        | refine .seq ?_ | refine .rg ?_ | refine .rd ?_ | refine .block ?_ | refine .scope ?_ | refine .skip ?_ | refine .label ?_ | refine .exit ?_ | refine .ret ?_
        | refine .ct ?_ | refine .cf ?_ | refine .cy ?_ | refine .cn ?_ | (refine .cond rfl ?_ ?_ <;> intro hc)
        | refine A.nil_seq ?_ | refine .nl ?_ | refine .dd ?_ | refine .ys ?_ | refine .no ?_ | (refine A.guard rfl ?_ ?_ <;> intro hc)
        | refine .lb ?_ | refine .ln ?_ | refine .ls ?_ | refine .pv ?_ | refine .ix ?_ | refine .pt ?_ | refine .pf ?_ | refine .bx ?_ | refine .al ?_ | refine .st ?_ | refine .ad ?_ | refine .sb ?_ | refine .mf ?_ | refine .cl ?_ | refine .cw ?_ | refine .ck ?_
        | refine A.call rfl hkk (WeakL.refl _) ?_ | refine A.call rfl hkt (WeakL.refl _) ?_ | fail
      refine Fin.ret1 rfl (Weak.eq ?_)
      unfold rowOk
      rw [hend, e1]; rfl
end Go.Proofs.YtijlmchfepjjkaaDoor
namespace Go.Proofs.YtijlmchfepjjkaaDoor
open Go Go.Av
set_option maxRecDepth 100000
set_option maxHeartbeats 8000000
set_option linter.unusedVariables false
set_option linter.unusedSimpArgs false
attribute [local irreducible] HCode AOps PFn AFn Av.Step TStep

/-- What the lengths and sizes in tables are bound by. -/
structure TblsIn (B : Nat) (l : List Tbl) : Prop where
  len : l.length ≤ 1048576
  name : ∀ t ∈ l, t.name.length ≤ 1048576
  rows : ∀ t ∈ l, t.rows.length ≤ 1048576
  key : ∀ t ∈ l, ∀ r ∈ t.rows, r.key.length ≤ 1048576 ∧ r.typ.length ≤ 1048576 ∧ r.cols.length ≤ 1048576
  cols : ∀ t ∈ l, ∀ r ∈ t.rows, ∀ m ∈ r.cols, m.name.length ≤ 1048576 ∧ m.v.size ≤ B

theorem tableMay {gv st : Val → Bool} {B : Nat} (F : ValFns gv st B) (hB : B ≤ 1048576) (l : List Tbl) (hl : TblsIn B l) : PFn Tryd.prog 25 [Tbls.enc l] (.bool (tblsOk gv st l [])) := by
  refine AFn.plain rfl (by simp [AV.closedL, Tbls.closed]) (AFn.enter [2] Tryd.func25 rfl rfl rfl rfl rfl (by decide) ?_)
  repeat' first
    | refine A.makeMap rfl rfl ?_
    | refine .seq ?_ | refine .rg ?_ | refine .rd ?_ | refine .block ?_ | refine .scope ?_ | refine .skip ?_ | refine .label ?_ | refine .exit ?_ | refine .ret ?_
    | refine .ct ?_ | refine .cf ?_ | refine .cy ?_ | refine .cn ?_ | (refine .cond rfl ?_ ?_ <;> intro hc)
    | refine A.nil_seq ?_ | refine .nl ?_ | refine .dd ?_ | refine .ys ?_ | refine .no ?_ | (refine A.guard rfl ?_ ?_ <;> intro hc)
    | refine .lb ?_ | refine .ln ?_ | refine .ls ?_ | refine .pv ?_ | refine .ix ?_ | refine .pt ?_ | refine .pf ?_ | refine .bx ?_ | refine .al ?_ | refine .st ?_ | refine .ad ?_ | refine .sb ?_ | refine .mf ?_ | refine .cl ?_ | refine .cw ?_ | refine .ck ?_ | fail
  change HCode _ _ _ _ _ _ _
  refine HCode.loop (fun n s σ => ∃ k : Nat, n = l.length - k ∧ k ≤ l.length ∧ tblsOk gv st l [] = tblsOk gv st (l.drop k) ((l.take k).map Tbl.name) ∧ σ = ⟨[.map (seenM ((l.take k).map Tbl.name))], []⟩ ∧
    s = [(12, .int .i64 k), (11, .int .i64 l.length), (10, Tbls.enc l), (3, .map 0)])
    (s0 := [(12, .int .i64 (0 : Nat)), (11, .int .i64 l.length), (10, Tbls.enc l), (3, .map 0)])
    ⟨rfl, rfl, rfl, rfl, trivial⟩ ⟨0, rfl, Nat.zero_le _, rfl, rfl, rfl⟩ ?_
  rintro n s σ ⟨k, rfl, hk', hp, rfl, rfl⟩
  by_cases h1 : k < l.length
  · have d1 : decide ((k : Int) < (l.length : Int)) = true := by simp [h1]
    have x1 := map_get' (f := Tbl.enc) h1
    have hm := List.getElem_mem h1
    have hsk := seen_keys ((l.take k).map Tbl.name)
    have hlo := seen_look l[k].name ((l.take k).map Tbl.name)
    have hgd := lgood l[k].name (by have := hl.name _ hm; omega)
    have hrl := hl.rows _ hm
    have hll := hl.len
    have hd := tblsOk_drop gv st h1
    by_cases c1 : l[k].name ∈ (l.take k).map Tbl.name
    · have e1 : decide (l[k].name ∈ (l.take k).map Tbl.name) = true := by simpa using c1
      repeat' first
        | refine .seq ?_ | refine .rg ?_ | refine .rd ?_ | refine .block ?_ | refine .scope ?_ | refine .skip ?_ | refine .label ?_ | refine .exit ?_ | refine .ret ?_
        | refine .ct ?_ | refine .cf ?_ | refine .cy ?_ | refine .cn ?_ | (refine .cond rfl ?_ ?_ <;> intro hc)
        | refine A.nil_seq ?_ | refine .nl ?_ | refine .dd ?_ | refine .ys ?_ | refine .no ?_ | (refine A.guard rfl ?_ ?_ <;> intro hc)
        | refine .lb ?_ | refine .ln ?_ | refine .ls ?_ | refine .pv ?_ | refine .ix ?_ | refine .pt ?_ | refine .pf ?_ | refine .bx ?_ | refine .al ?_ | refine .st ?_ | refine .ad ?_ | refine .sb ?_ | refine .mf ?_ | refine .cl ?_ | refine .cw ?_ | refine .ck ?_
        | refine A.lookup Tryd.underlying123 Tryd.underlying9 rfl rfl rfl rfl hsk hlo ?_ | fail
      refine Fin.ret1 rfl (Weak.eq ?_)
      rw [hp, hd, e1]; rfl
    · have e1 : decide (l[k].name ∈ (l.take k).map Tbl.name) = false := by simpa using c1
      by_cases c2 : good l[k].name = true
      · have e2 : (!good l[k].name) = false := by rw [c2]; rfl
        have hpu := seen_put l[k].name ((l.take k).map Tbl.name) c1
        have htk : (l.take k).map Tbl.name ++ [l[k].name] = (l.take (k + 1)).map Tbl.name := by rw [List.take_succ_eq_append_getElem h1, List.map_append]; rfl
        rw [htk] at hpu
        repeat' first
          | refine A.makeMap rfl rfl ?_
          | refine .seq ?_ | refine .rg ?_ | refine .rd ?_ | refine .block ?_ | refine .scope ?_ | refine .skip ?_ | refine .label ?_ | refine .exit ?_ | refine .ret ?_
          | refine .ct ?_ | refine .cf ?_ | refine .cy ?_ | refine .cn ?_ | (refine .cond rfl ?_ ?_ <;> intro hc)
          | refine A.nil_seq ?_ | refine .nl ?_ | refine .dd ?_ | refine .ys ?_ | refine .no ?_ | (refine A.guard rfl ?_ ?_ <;> intro hc)
          | refine .lb ?_ | refine .ln ?_ | refine .ls ?_ | refine .pv ?_ | refine .ix ?_ | refine .pt ?_ | refine .pf ?_ | refine .bx ?_ | refine .al ?_ | refine .st ?_ | refine .ad ?_ | refine .sb ?_ | refine .mf ?_ | refine .cl ?_ | refine .cw ?_ | refine .ck ?_
          | refine A.lookup Tryd.underlying123 Tryd.underlying9 rfl rfl rfl rfl hsk hlo ?_ | refine A.call rfl hgd (WeakL.refl _) ?_ | refine A.mapUpdate (B' := [.map (seenM ((l.take (k + 1)).map Tbl.name)), .cells [.str l[k].name, .slice (l[k].rows.map Row.enc) .no]]) Tryd.underlying123 Tryd.underlying9 rfl rfl rfl rfl hsk (by rw [← hpu]; rfl) ?_ | fail
        change HCode _ _ _ _ _ _ _
        refine HCode.loop (fun n s σ => ∃ j : Nat, n = l[k].rows.length - j ∧ j ≤ l[k].rows.length ∧ rowsOk gv st l[k].rows [] = rowsOk gv st (l[k].rows.drop j) ((l[k].rows.take j).map Row.key) ∧
            σ = ⟨[.map (seenM ((l.take (k + 1)).map Tbl.name)), .cells [.str l[k].name, .slice (l[k].rows.map Row.enc) .no], .map (seenM ((l[k].rows.take j).map Row.key))], []⟩ ∧
          s = [(33, .int .i64 j), (32, .int .i64 l[k].rows.length), (31, .slice (l[k].rows.map Row.enc) .no), (6, .map 2), (12, .int .i64 k), (11, .int .i64 l.length), (10, Tbls.enc l), (3, .map 0)])
          (s0 := [(33, .int .i64 (0 : Nat)), (32, .int .i64 l[k].rows.length), (31, .slice (l[k].rows.map Row.enc) .no), (6, .map 2), (12, .int .i64 k), (11, .int .i64 l.length), (10, Tbls.enc l), (3, .map 0)])
          ⟨rfl, rfl, rfl, rfl, rfl, rfl, rfl, rfl, trivial⟩ ⟨0, rfl, Nat.zero_le _, rfl, rfl, rfl⟩ ?_
        rintro n s σ ⟨j, rfl, hj', hpj, rfl, rfl⟩
        by_cases h2 : j < l[k].rows.length
        · have d2 : decide ((j : Int) < (l[k].rows.length : Int)) = true := by simp [h2]
          have x2 := map_get' (f := Row.enc) h2
          have hmr := List.getElem_mem h2
          have hsk2 := seen_keys ((l[k].rows.take j).map Row.key)
          have hlo2 := seen_look l[k].rows[j].key ((l[k].rows.take j).map Row.key)
          obtain ⟨w1, w2, w3⟩ := hl.key _ hm _ hmr
          have hrow := tableRow F l[k].rows[j] hB (hl.cols _ hm _ hmr) w3 w1 w2
          have hdj := rowsOk_drop gv st h2
          by_cases c3 : l[k].rows[j].key ∈ (l[k].rows.take j).map Row.key
          · have e3 : decide (l[k].rows[j].key ∈ (l[k].rows.take j).map Row.key) = true := by simpa using c3
            repeat' first
              | refine .seq ?_ | refine .rg ?_ | refine .rd ?_ | refine .block ?_ | refine .scope ?_ | refine .skip ?_ | refine .label ?_ | refine .exit ?_ | refine .ret ?_
              | refine .ct ?_ | refine .cf ?_ | refine .cy ?_ | refine .cn ?_ | (refine .cond rfl ?_ ?_ <;> intro hc)
              | refine A.nil_seq ?_ | refine .nl ?_ | refine .dd ?_ | refine .ys ?_ | refine .no ?_ | (refine A.guard rfl ?_ ?_ <;> intro hc)
              | refine .lb ?_ | refine .ln ?_ | refine .ls ?_ | refine .pv ?_ | refine .ix ?_ | refine .pt ?_ | refine .pf ?_ | refine .bx ?_ | refine .al ?_ | refine .st ?_ | refine .ad ?_ | refine .sb ?_ | refine .mf ?_ | refine .cl ?_ | refine .cw ?_ | refine .ck ?_
              | refine A.lookup Tryd.underlying123 Tryd.underlying9 rfl rfl rfl rfl hsk2 hlo2 ?_ | fail
            refine Fin.ret1 rfl (Weak.eq ?_)
            rw [hp, hd, hpj, hdj, e3]; simp
          · have e3 : decide (l[k].rows[j].key ∈ (l[k].rows.take j).map Row.key) = false := by simpa using c3
            by_cases c4 : rowOk gv st l[k].rows[j] = true
            · have e4 : (!rowOk gv st l[k].rows[j]) = false := by rw [c4]; rfl
              have hpu2 := seen_put l[k].rows[j].key ((l[k].rows.take j).map Row.key) c3
              have htk2 : (l[k].rows.take j).map Row.key ++ [l[k].rows[j].key] = (l[k].rows.take (j + 1)).map Row.key := by rw [List.take_succ_eq_append_getElem h2, List.map_append]; rfl
              rw [htk2] at hpu2
              repeat' first
                | refine .seq ?_ | refine .rg ?_ | refine .rd ?_ | refine .block ?_ | refine .scope ?_ | refine .skip ?_ | refine .label ?_ | refine .exit ?_ | refine .ret ?_
                | refine .ct ?_ | refine .cf ?_ | refine .cy ?_ | refine .cn ?_ | (refine .cond rfl ?_ ?_ <;> intro hc)
                | refine A.nil_seq ?_ | refine .nl ?_ | refine .dd ?_ | refine .ys ?_ | refine .no ?_ | (refine A.guard rfl ?_ ?_ <;> intro hc)
                | refine .lb ?_ | refine .ln ?_ | refine .ls ?_ | refine .pv ?_ | refine .ix ?_ | refine .pt ?_ | refine .pf ?_ | refine .bx ?_ | refine .al ?_ | refine .st ?_ | refine .ad ?_ | refine .sb ?_ | refine .mf ?_ | refine .cl ?_ | refine .cw ?_ | refine .ck ?_
                | refine A.lookup Tryd.underlying123 Tryd.underlying9 rfl rfl rfl rfl hsk2 hlo2 ?_ | refine A.call rfl hrow (WeakL.refl _) ?_ | refine A.mapUpdate (B' := [.map (seenM ((l.take (k + 1)).map Tbl.name)), .cells [.str l[k].name, .slice (l[k].rows.map Row.enc) .no], .map (seenM ((l[k].rows.take (j + 1)).map Row.key)), .cells l[k].rows[j].cells]) Tryd.underlying123 Tryd.underlying9 rfl rfl rfl rfl hsk2 (by rw [← hpu2]; rfl) ?_ | fail
              refine ⟨l[k].rows.length - (j + 1), by omega, [(33, .int .i64 ((j + 1 : Nat) : Int)), (32, .int .i64 l[k].rows.length), (31, .slice (l[k].rows.map Row.enc) .no), (6, .map 2), (12, .int .i64 k), (11, .int .i64 l.length), (10, Tbls.enc l), (3, .map 0)],
                ⟨rfl, rfl, rfl, rfl, rfl, rfl, rfl, rfl, trivial⟩, by simp [belowS, AV.low, Row.lowL, Tbls.enc, Tbl.lowL], ?_, j + 1, rfl, by omega, ?_, rfl, rfl⟩
              · simp [-List.map_take, belowB, belowT, Ob.low, seen_low, AV.lowL, AV.low, Row.lowL]
              · rw [hpj, hdj, e3, c4]; rfl
            · have e4 : (!rowOk gv st l[k].rows[j]) = true := by simpa using c4
              repeat' first
                | refine .seq ?_ | refine .rg ?_ | refine .rd ?_ | refine .block ?_ | refine .scope ?_ | refine .skip ?_ | refine .label ?_ | refine .exit ?_ | refine .ret ?_
                | refine .ct ?_ | refine .cf ?_ | refine .cy ?_ | refine .cn ?_ | (refine .cond rfl ?_ ?_ <;> intro hc)
                | refine A.nil_seq ?_ | refine .nl ?_ | refine .dd ?_ | refine .ys ?_ | refine .no ?_ | (refine A.guard rfl ?_ ?_ <;> intro hc)
                | refine .lb ?_ | refine .ln ?_ | refine .ls ?_ | refine .pv ?_ | refine .ix ?_ | refine .pt ?_ | refine .pf ?_ | refine .bx ?_ | refine .al ?_ | refine .st ?_ | refine .ad ?_ | refine .sb ?_ | refine .mf ?_ | refine .cl ?_ | refine .cw ?_ | refine .ck ?_
                | refine A.lookup Tryd.underlying123 Tryd.underlying9 rfl rfl rfl rfl hsk2 hlo2 ?_ | refine A.call rfl hrow (WeakL.refl _) ?_ | fail
              refine Fin.ret1 rfl (Weak.eq ?_)
              rw [hp, hd, hpj, hdj, show rowOk gv st l[k].rows[j] = false by simpa using c4]; simp
        · have d2 : decide ((j : Int) < (l[k].rows.length : Int)) = false := by simp; omega
          have hend : rowsOk gv st l[k].rows [] = true := by rw [hpj, List.drop_eq_nil_of_le (by omega)]; rfl
          repeat' first
            | refine .seq ?_ | refine .rg ?_ | refine .rd ?_ | refine .block ?_ | refine .scope ?_ | refine .skip ?_ | refine .label ?_ | refine .exit ?_ | refine .ret ?_
            | refine .ct ?_ | refine .cf ?_ | refine .cy ?_ | refine .cn ?_ | (refine .cond rfl ?_ ?_ <;> intro hc)
            | refine A.nil_seq ?_ | refine .nl ?_ | refine .dd ?_ | refine .ys ?_ | refine .no ?_ | (refine A.guard rfl ?_ ?_ <;> intro hc)
            | refine .lb ?_ | refine .ln ?_ | refine .ls ?_ | refine .pv ?_ | refine .ix ?_ | refine .pt ?_ | refine .pf ?_ | refine .bx ?_ | refine .al ?_ | refine .st ?_ | refine .ad ?_ | refine .sb ?_ | refine .mf ?_ | refine .cl ?_ | refine .cw ?_ | refine .ck ?_ | fail
          refine ⟨l.length - (k + 1), by omega, [(12, .int .i64 ((k + 1 : Nat) : Int)), (11, .int .i64 l.length), (10, Tbls.enc l), (3, .map 0)],
            ⟨rfl, rfl, rfl, rfl, trivial⟩, by simp [belowS, AV.low, Tbls.enc, Tbl.lowL], ?_, k + 1, rfl, by omega, ?_, rfl, rfl⟩
          · simp [-List.map_take, belowB, belowT, Ob.low, seen_low]
          · rw [hp, hd, e1, c2, hend]; rfl
      · have e2 : (!good l[k].name) = true := by simpa using c2
        repeat' first
          | refine .seq ?_ | refine .rg ?_ | refine .rd ?_ | refine .block ?_ | refine .scope ?_ | refine .skip ?_ | refine .label ?_ | refine .exit ?_ | refine .ret ?_
          | refine .ct ?_ | refine .cf ?_ | refine .cy ?_ | refine .cn ?_ | (refine .cond rfl ?_ ?_ <;> intro hc)
          | refine A.nil_seq ?_ | refine .nl ?_ | refine .dd ?_ | refine .ys ?_ | refine .no ?_ | (refine A.guard rfl ?_ ?_ <;> intro hc)
          | refine .lb ?_ | refine .ln ?_ | refine .ls ?_ | refine .pv ?_ | refine .ix ?_ | refine .pt ?_ | refine .pf ?_ | refine .bx ?_ | refine .al ?_ | refine .st ?_ | refine .ad ?_ | refine .sb ?_ | refine .mf ?_ | refine .cl ?_ | refine .cw ?_ | refine .ck ?_
          | refine A.lookup Tryd.underlying123 Tryd.underlying9 rfl rfl rfl rfl hsk hlo ?_ | refine A.call rfl hgd (WeakL.refl _) ?_ | fail
        refine Fin.ret1 rfl (Weak.eq ?_)
        rw [hp, hd, show good l[k].name = false by simpa using c2]; simp
  · have d1 : decide ((k : Int) < (l.length : Int)) = false := by simp; omega
    have hend : tblsOk gv st l [] = true := by rw [hp, List.drop_eq_nil_of_le (by omega)]; rfl
    repeat' first
      | refine .seq ?_ | refine .rg ?_ | refine .rd ?_ | refine .block ?_ | refine .scope ?_ | refine .skip ?_ | refine .label ?_ | refine .exit ?_ | refine .ret ?_
      | refine .ct ?_ | refine .cf ?_ | refine .cy ?_ | refine .cn ?_ | (refine .cond rfl ?_ ?_ <;> intro hc)
      | refine A.nil_seq ?_ | refine .nl ?_ | refine .dd ?_ | refine .ys ?_ | refine .no ?_ | (refine A.guard rfl ?_ ?_ <;> intro hc)
      | refine .lb ?_ | refine .ln ?_ | refine .ls ?_ | refine .pv ?_ | refine .ix ?_ | refine .pt ?_ | refine .pf ?_ | refine .bx ?_ | refine .al ?_ | refine .st ?_ | refine .ad ?_ | refine .sb ?_ | refine .mf ?_ | refine .cl ?_ | refine .cw ?_ | refine .ck ?_ | fail
    refine Fin.ret1 rfl (Weak.eq ?_)
    rw [hend]
end Go.Proofs.YtijlmchfepjjkaaDoor
