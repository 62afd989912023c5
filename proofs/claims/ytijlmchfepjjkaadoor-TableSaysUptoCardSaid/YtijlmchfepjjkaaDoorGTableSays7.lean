/-
  Plain laws of tables: what is found behind a row that is put, and behind a cut.
  The reference of the layers table and command: what their functions compute.
  Rules for and, or, neg on integers.
  The reference: Code, Codes, Good.
  The reference: Code.
-/
import Derived.Test.YtijlmchfepjjkaaDoorGTableSays5
import Derived.Test.YtijlmchfepjjkaaDoorGTableSays1
import Derived.Test.YtijlmchfepjjkaaDoorGTableSays3
import Derived.Test.YtijlmchfepjjkaaDoorAvMap
import Derived.Lib.TrimUEq
import Derived.Test.YtijlmchfepjjkaaDoorGTableSays4
import Derived.Test.YtijlmchfepjjkaaDoorGTableSays6
namespace Go.Proofs.YtijlmchfepjjkaaDoor
open Go Go.Av
set_option maxRecDepth 100000
set_option linter.unusedVariables false
set_option linter.unusedSimpArgs false

theorem find_none {α : Type} {p : α → Bool} {l : List α} (h : fidx p l = none) : l.find? p = none := List.find?_eq_none.2 fun x hx => by rw [fidx_none h x hx]; simp
theorem find_hit {α : Type} {p : α → Bool} : ∀ {l : List α} {i : Nat} {y : α}, fidx p l = some i → p y = true → (l.set i y).find? p = some y
  | [], _, _, h, _ => by cases h
  | x :: l, i, y, h, hy => by
    rw [fidx] at h
    by_cases c : p x = true
    · rw [if_pos c] at h; cases h
      simp [List.find?, hy]
    · rw [if_neg c] at h
      cases e : fidx p l with
      | none => rw [e] at h; cases h
      | some j =>
        rw [e] at h; cases h
        rw [List.set_cons_succ, List.find?, show p x = false by simpa using c]
        exact find_hit e hy
theorem find_at {α : Type} {p : α → Bool} {l : List α} {i : Nat} (h : fidx p l = some i) (hi : i < l.length) (hp : p l[i] = true) : l.find? p = some l[i] := by
  have := find_hit (y := l[i]) h hp
  rwa [List.set_getElem_self] at this
theorem find_miss {α : Type} {p : α → Bool} : ∀ {l : List α} {i : Nat} {y : α}, (∀ hi : i < l.length, p l[i] = false) → p y = false → (l.set i y).find? p = l.find? p
  | [], _, _, _, _ => by simp
  | x :: l, 0, y, h, hy => by
    have hx : p x = false := h (by simp)
    rw [List.set_cons_zero, List.find?, List.find?, hy, hx]
  | x :: l, i + 1, y, h, hy => by
    rw [List.set_cons_succ, List.find?, List.find?]
    rw [find_miss (l := l) (i := i) (fun hi => h (Nat.succ_lt_succ hi)) hy]
theorem find_cut {α : Type} {p : α → Bool} {l : List α} {k : Nat} (hk : k < l.length) (h : p l[k] = false) : (l.take k ++ l.drop (k + 1)).find? p = l.find? p := by
  have e : l = l.take k ++ l[k] :: l.drop (k + 1) := by rw [← List.drop_eq_getElem_cons hk, List.take_append_drop]
  conv => rhs; rw [e]
  rw [List.find?_append, List.find?_append]
  congr 1
  rw [List.find?, h]

theorem find_put (l : List Tbl) (name : Str) (r : Row) : findG (putG l name r) ⟨name, r.key⟩ = gotOf r := by
  unfold findG putG
  cases e : fidx (fun t : Tbl => t.name == name) l with
  | none =>
    have h := find_none e
    rw [List.find?_append, h]
    simp
  | some i =>
    obtain ⟨hi, hp⟩ := fidx_some e
    dsimp only
    rw [modAt_eq hi, find_hit e (by simpa using hp)]
    dsimp only
    unfold putRows
    cases e2 : fidx (fun x : Row => x.key == r.key) l[i].rows with
    | none =>
      have h := find_none e2
      rw [List.find?_append, h]
      simp
    | some k =>
      rw [find_hit e2 (by simp)]
theorem find_put_other {l : List Tbl} {name : Str} {r : Row} {n : Need} (h : (n.table == name && (n.key == r.key && true)) = false) : findG (putG l name r) n = findG l n := by
  unfold findG putG
  by_cases ht : n.table = name
  · have hk : (r.key == n.key) = false := by
      rw [ht] at h
      simp only [beq_self_eq_true, Bool.true_and, Bool.and_true] at h
      rw [beq_eq_false_iff_ne] at h ⊢
      exact fun e => h e.symm
    rw [ht]
    cases e : fidx (fun t : Tbl => t.name == name) l with
    | none =>
      rw [List.find?_append, find_none e]
      simp [hk]
    | some i =>
      obtain ⟨hi, hp⟩ := fidx_some e
      dsimp only
      rw [modAt_eq hi, find_hit e (by simpa using hp), find_at e hi hp]
      dsimp only
      unfold putRows
      cases e2 : fidx (fun x : Row => x.key == r.key) l[i].rows with
      | none =>
        rw [List.find?_append]
        cases l[i].rows.find? (fun r => r.key == n.key) <;> simp [hk]
      | some k =>
        obtain ⟨hk2, hp2⟩ := fidx_some e2
        have e3 : l[i].rows[k].key = r.key := beq_iff_eq.1 hp2
        dsimp only
        rw [find_miss (p := fun r : Row => r.key == n.key) (fun _ => by first | (rw [e3]; exact hk) | (dsimp only; rw [e3]; exact hk)) hk]
  · have hn : (name == n.table) = false := by
      rw [beq_eq_false_iff_ne]; exact fun e => ht e.symm
    cases e : fidx (fun t : Tbl => t.name == name) l with
    | none =>
      rw [List.find?_append]
      cases l.find? (fun t => t.name == n.table) <;> simp [hn]
    | some i =>
      obtain ⟨hi, hp⟩ := fidx_some e
      have e3 : l[i].name = name := beq_iff_eq.1 hp
      dsimp only
      rw [modAt_eq hi, find_miss (p := fun t : Tbl => t.name == n.table) (fun _ => by first | (rw [e3]; exact hn) | (dsimp only; rw [e3]; exact hn)) (by first | (rw [e3]; exact hn) | (dsimp only; rw [e3]; exact hn))]
theorem find_cut_other {l : List Tbl} {name key : Str} {n : Need} (h : (n.table == name && (n.key == key && true)) = false) : findG (cutG l name key) n = findG l n := by
  unfold findG cutG
  cases e : fidx (fun t : Tbl => t.name == name) l with
  | none => rfl
  | some i =>
    obtain ⟨hi, hp⟩ := fidx_some e
    have e3 : l[i].name = name := beq_iff_eq.1 hp
    dsimp only
    rw [modAt_eq hi]
    by_cases ht : n.table = name
    · have hk : (key == n.key) = false := by
        rw [ht] at h
        simp only [beq_self_eq_true, Bool.true_and, Bool.and_true] at h
        rw [beq_eq_false_iff_ne] at h ⊢
        exact fun e => h e.symm
      rw [ht, find_hit e (by simpa using hp), find_at e hi hp]
      dsimp only
      unfold cutRows
      cases e2 : fidx (fun x : Row => x.key == key) l[i].rows with
      | none => rfl
      | some k =>
        obtain ⟨hk2, hp2⟩ := fidx_some e2
        have e4 : l[i].rows[k].key = key := beq_iff_eq.1 hp2
        dsimp only
        rw [find_cut (p := fun r : Row => r.key == n.key) hk2 (by first | (rw [e4]; exact hk) | (dsimp only; rw [e4]; exact hk))]
    · have hn : (name == n.table) = false := by
        rw [beq_eq_false_iff_ne]; exact fun e => ht e.symm
      rw [find_miss (p := fun t : Tbl => t.name == n.table) (fun _ => by first | (rw [e3]; exact hn) | (dsimp only; rw [e3]; exact hn)) (by first | (rw [e3]; exact hn) | (dsimp only; rw [e3]; exact hn))]
theorem find_cut_own {gv st : Val → Bool} {l : List Tbl} (name key : Str) (h : tblsOk gv st l [] = true) : findG (cutG l name key) ⟨name, key⟩ = gotNone := by
  unfold findG cutG
  cases e : fidx (fun t : Tbl => t.name == name) l with
  | none => dsimp only; rw [find_none e]
  | some i =>
    obtain ⟨hi, hp⟩ := fidx_some e
    dsimp only
    rw [modAt_eq hi, find_hit e (by simpa using hp)]
    dsimp only
    have hr := ((tblsOk_iff gv st l []).1 h).2.2 _ (List.getElem_mem hi)
    have hn := ((rowsOk_iff gv st _ []).1 hr.2).2.1
    unfold cutRows
    cases e2 : fidx (fun x : Row => x.key == key) l[i].rows with
    | none => dsimp only; rw [find_none e2]
    | some k =>
      obtain ⟨hk2, hp2⟩ := fidx_some e2
      have e4 : l[i].rows[k].key = key := beq_iff_eq.1 hp2
      dsimp only
      have : (l[i].rows.take k ++ l[i].rows.drop (k + 1)).find? (fun r => r.key == key) = none := by
        rw [List.find?_eq_none]
        intro x hx hx2
        have hx3 : x.key = key := by simpa using hx2
        have e5 : l[i].rows = l[i].rows.take k ++ l[i].rows[k] :: l[i].rows.drop (k + 1) := by rw [← List.drop_eq_getElem_cons hk2, List.take_append_drop]
        rw [e5, List.map_append, List.map_cons, List.nodup_append] at hn
        obtain ⟨h1, h2, h3⟩ := hn
        rw [List.nodup_cons] at h2
        rcases List.mem_append.1 hx with hx | hx
        · exact h3 x.key (List.mem_map.2 ⟨x, hx, rfl⟩) l[i].rows[k].key (by simp) (by rw [hx3, e4])
        · exact h2.1 (List.mem_map.2 ⟨x, hx, by rw [hx3, e4]⟩)
      rw [this]
theorem findG_cs (l : List Tbl) (n : Need) : sumSize Mem.size (findG l n).row.cols ≤ tabSize l := by
  unfold findG
  split
  · exact Nat.zero_le _
  · rename_i t ht
    split
    · exact Nat.zero_le _
    · rename_i r hr
      have h1 := cols_of (Nat.le_refl (tabSize l)) t (List.mem_of_find?_eq_some ht) r (List.mem_of_find?_eq_some hr)
      unfold gotOf
      split
      · exact Nat.zero_le _
      · exact h1
end Go.Proofs.YtijlmchfepjjkaaDoor
namespace Go.Proofs.YtijlmchfepjjkaaDoor
open Go Go.Av
set_option maxRecDepth 100000
set_option maxHeartbeats 8000000
set_option linter.unusedVariables false
set_option linter.unusedSimpArgs false
attribute [local irreducible] HCode AOps PFn AFn Av.Step TStep

theorem rGet (name : Str) (l : List Mem) (hl : l.length ≤ 9223372036854775807) : PFn Tryd.prog 84 [.str name, .slice (l.map Mem.enc) .no] (.tup [(getG name l).1.enc, .bool (getG name l).2]) := by
  refine AFn.plain (by simp [AV.closed, AV.closedL, Val.closed]) (by simp [AV.closed, AV.closedL, Mem.closedL]) (AFn.enterR [.cell 4 28, .tmp 5] Tryd.func84 rfl rfl rfl rfl rfl ?_)
  repeat' first
    | refine .seq ?_ | refine .rg ?_ | refine .rd ?_ | refine .block ?_ | refine .scope ?_ | refine .skip ?_ | refine .label ?_ | refine .exit ?_ | refine .ret ?_
    | refine .ct ?_ | refine .cf ?_ | refine .cy ?_ | refine .cn ?_ | (refine .cond rfl ?_ ?_ <;> intro hc)
    | refine A.nil_seq ?_ | refine .nl ?_ | refine .dd ?_ | refine .ys ?_ | refine .no ?_ | (refine A.guard rfl ?_ ?_ <;> intro hc)
    | refine .lb ?_ | refine .ln ?_ | refine .ls ?_ | refine .pv ?_ | refine .ix ?_ | refine .pt ?_ | refine .pf ?_ | refine .bx ?_ | refine .al ?_ | refine .st ?_ | refine .ad ?_ | refine .sb ?_ | refine .mf ?_ | refine .cl ?_ | refine .cw ?_ | refine .ck ?_ | fail
  change HCode _ _ _ _ _ _ _
  refine HCode.loop (fun n s σ => ∃ k : Nat, n = l.length - k ∧ k ≤ l.length ∧ getG name l = getG name (l.drop k) ∧ σ = ⟨[.cells zeroV], []⟩ ∧
    s = [(6, .int .i64 k), (1, .slice (l.map Mem.enc) .no), (0, .str name), (4, .ptr 0 0)])
    (s0 := [(6, .int .i64 (0 : Nat)), (1, .slice (l.map Mem.enc) .no), (0, .str name), (4, .ptr 0 0)])
    ⟨rfl, rfl, rfl, rfl, trivial⟩ ⟨0, rfl, Nat.zero_le _, rfl, rfl, rfl⟩ ?_
  rintro n s σ ⟨k, rfl, hk, hp, rfl, rfl⟩
  by_cases h1 : k < l.length
  · have d1 : decide ((k : Int) < (l.length : Int)) = true := by simp [h1]
    have x1 := map_get' (f := Mem.enc) h1
    repeat' first
      | refine .seq ?_ | refine .rg ?_ | refine .rd ?_ | refine .block ?_ | refine .scope ?_ | refine .skip ?_ | refine .label ?_ | refine .exit ?_ | refine .ret ?_
      | refine .ct ?_ | refine .cf ?_ | refine .cy ?_ | refine .cn ?_ | (refine .cond rfl ?_ ?_ <;> intro hc)
      | refine A.nil_seq ?_ | refine .nl ?_ | refine .dd ?_ | refine .ys ?_ | refine .no ?_ | (refine A.guard rfl ?_ ?_ <;> intro hc)
      | refine .lb ?_ | refine .ln ?_ | refine .ls ?_ | refine .pv ?_ | refine .ix ?_ | refine .pt ?_ | refine .pf ?_ | refine .bx ?_ | refine .al ?_ | refine .st ?_ | refine .ad ?_ | refine .sb ?_ | refine .mf ?_ | refine .cl ?_ | refine .cw ?_ | refine .ck ?_ | fail
    · refine FinR.ret1 rfl (Weak.eq ?_)
      rw [hp, getG_drop h1, if_pos hc]; rfl
    · refine ⟨l.length - (k + 1), by omega, [(6, .int .i64 ((k + 1 : Nat) : Int)), (1, .slice (l.map Mem.enc) .no), (0, .str name), (4, .ptr 0 0)],
        ⟨rfl, rfl, rfl, rfl, trivial⟩, by simp [belowS, AV.low, Mem.lowL], rfl, k + 1, rfl, by omega, by rw [hp, getG_drop h1, if_neg (by simp [hc])], rfl, rfl⟩
  · have d1 : decide ((k : Int) < (l.length : Int)) = false := by simp; omega
    repeat' first
      | refine .seq ?_ | refine .rg ?_ | refine .rd ?_ | refine .block ?_ | refine .scope ?_ | refine .skip ?_ | refine .label ?_ | refine .exit ?_ | refine .ret ?_
      | refine .ct ?_ | refine .cf ?_ | refine .cy ?_ | refine .cn ?_ | (refine .cond rfl ?_ ?_ <;> intro hc)
      | refine A.nil_seq ?_ | refine .nl ?_ | refine .dd ?_ | refine .ys ?_ | refine .no ?_ | (refine A.guard rfl ?_ ?_ <;> intro hc)
      | refine .lb ?_ | refine .ln ?_ | refine .ls ?_ | refine .pv ?_ | refine .ix ?_ | refine .pt ?_ | refine .pf ?_ | refine .bx ?_ | refine .al ?_ | refine .st ?_ | refine .ad ?_ | refine .sb ?_ | refine .mf ?_ | refine .cl ?_ | refine .cw ?_ | refine .ck ?_ | fail
    refine FinR.ret1 rfl ?_
    rw [hp, List.drop_eq_nil_of_le (by omega), getG]
    exact Weak.tup (WeakL.cons weak_flatV (WeakL.refl _))
theorem rCol (r : Row) (name : Str) (hl : r.cols.length ≤ 9223372036854775807) : PFn Tryd.prog 31 [r.enc, .str name] (colG r name).enc := by
  refine AFn.plain (Val.closed _) (by simp [AV.closedL, AV.closed, Row.closed]) (AFn.enterR [.cell 4 28] Tryd.func31 rfl rfl rfl rfl rfl ?_)
  have hg := rGet name r.cols hl
  repeat' first
    | refine A.box_r rfl rfl ?_
    | refine .seq ?_ | refine .rg ?_ | refine .rd ?_ | refine .block ?_ | refine .scope ?_ | refine .skip ?_ | refine .label ?_ | refine .exit ?_ | refine .ret ?_
    | refine .ct ?_ | refine .cf ?_ | refine .cy ?_ | refine .cn ?_ | (refine .cond rfl ?_ ?_ <;> intro hc)
    | refine A.nil_seq ?_ | refine .nl ?_ | refine .dd ?_ | refine .ys ?_ | refine .no ?_ | (refine A.guard rfl ?_ ?_ <;> intro hc)
    | refine .lb ?_ | refine .ln ?_ | refine .ls ?_ | refine .pv ?_ | refine .ix ?_ | refine .pt ?_ | refine .pf ?_ | refine .bx ?_ | refine .al ?_ | refine .st ?_ | refine .ad ?_ | refine .sb ?_ | refine .mf ?_ | refine .cl ?_ | refine .cw ?_ | refine .ck ?_
    | refine A.call rfl hg (WeakL.refl _) ?_ | fail
  exact FinR.ret1 rfl (Weak.refl _)

theorem rTable (l : List Tbl) (name : Str) (hl : l.length ≤ 9223372036854775807) : PFn Tryd.prog 78 [Tbls.enc l, .str name] (.int .i64 (idxFrom (fun t : Tbl => t.name == name) l 0)) := by
  refine AFn.plain rfl (by simp [AV.closedL, AV.closed, Tbls.closed]) (AFn.enter [4] Tryd.func78 rfl rfl rfl rfl rfl (by decide) ?_)
  repeat' first
    | refine .seq ?_ | refine .rg ?_ | refine .rd ?_ | refine .block ?_ | refine .scope ?_ | refine .skip ?_ | refine .label ?_ | refine .exit ?_ | refine .ret ?_
    | refine .ct ?_ | refine .cf ?_ | refine .cy ?_ | refine .cn ?_ | (refine .cond rfl ?_ ?_ <;> intro hc)
    | refine A.nil_seq ?_ | refine .nl ?_ | refine .dd ?_ | refine .ys ?_ | refine .no ?_ | (refine A.guard rfl ?_ ?_ <;> intro hc)
    | refine .lb ?_ | refine .ln ?_ | refine .ls ?_ | refine .pv ?_ | refine .ix ?_ | refine .pt ?_ | refine .pf ?_ | refine .bx ?_ | refine .al ?_ | refine .st ?_ | refine .ad ?_ | refine .sb ?_ | refine .mf ?_ | refine .cl ?_ | refine .cw ?_ | refine .ck ?_ | fail
  change HCode _ _ _ _ _ _ _
  refine HCode.loop (fun n s σ => ∃ k : Nat, n = l.length - k ∧ k ≤ l.length ∧ idxFrom (fun t : Tbl => t.name == name) l 0 = idxFrom (fun t : Tbl => t.name == name) (l.drop k) k ∧ σ = ⟨[], []⟩ ∧
    s = [(5, .int .i64 k), (0, Tbls.enc l), (1, .str name)])
    (s0 := [(5, .int .i64 (0 : Nat)), (0, Tbls.enc l), (1, .str name)])
    ⟨rfl, rfl, rfl, trivial⟩ ⟨0, rfl, Nat.zero_le _, rfl, rfl, rfl⟩ ?_
  rintro n s σ ⟨k, rfl, hk, hp, rfl, rfl⟩
  by_cases h1 : k < l.length
  · have d1 : decide ((k : Int) < (l.length : Int)) = true := by simp [h1]
    have x1 := map_get' (f := Tbl.enc) h1
    repeat' first
      | refine .seq ?_ | refine .rg ?_ | refine .rd ?_ | refine .block ?_ | refine .scope ?_ | refine .skip ?_ | refine .label ?_ | refine .exit ?_ | refine .ret ?_
      | refine .ct ?_ | refine .cf ?_ | refine .cy ?_ | refine .cn ?_ | (refine .cond rfl ?_ ?_ <;> intro hc)
      | refine A.nil_seq ?_ | refine .nl ?_ | refine .dd ?_ | refine .ys ?_ | refine .no ?_ | (refine A.guard rfl ?_ ?_ <;> intro hc)
      | refine .lb ?_ | refine .ln ?_ | refine .ls ?_ | refine .pv ?_ | refine .ix ?_ | refine .pt ?_ | refine .pf ?_ | refine .bx ?_ | refine .al ?_ | refine .st ?_ | refine .ad ?_ | refine .sb ?_ | refine .mf ?_ | refine .cl ?_ | refine .cw ?_ | refine .ck ?_ | fail
    · refine Fin.ret1 rfl (Weak.eq ?_)
      rw [hp, idxFrom_drop h1, if_pos hc]
    · refine ⟨l.length - (k + 1), by omega, [(5, .int .i64 ((k + 1 : Nat) : Int)), (0, Tbls.enc l), (1, .str name)],
        ⟨rfl, rfl, rfl, trivial⟩, by simp [belowS, AV.low, Tbls.enc, Tbl.lowL], rfl, k + 1, rfl, by omega, by rw [hp, idxFrom_drop h1, if_neg (by simp [hc])], rfl, rfl⟩
  · have d1 : decide ((k : Int) < (l.length : Int)) = false := by simp; omega
    repeat' first
      | refine .seq ?_ | refine .rg ?_ | refine .rd ?_ | refine .block ?_ | refine .scope ?_ | refine .skip ?_ | refine .label ?_ | refine .exit ?_ | refine .ret ?_
      | refine .ct ?_ | refine .cf ?_ | refine .cy ?_ | refine .cn ?_ | (refine .cond rfl ?_ ?_ <;> intro hc)
      | refine A.nil_seq ?_ | refine .nl ?_ | refine .dd ?_ | refine .ys ?_ | refine .no ?_ | (refine A.guard rfl ?_ ?_ <;> intro hc)
      | refine .lb ?_ | refine .ln ?_ | refine .ls ?_ | refine .pv ?_ | refine .ix ?_ | refine .pt ?_ | refine .pf ?_ | refine .bx ?_ | refine .al ?_ | refine .st ?_ | refine .ad ?_ | refine .sb ?_ | refine .mf ?_ | refine .cl ?_ | refine .cw ?_ | refine .ck ?_ | fail
    refine Fin.ret1 rfl (Weak.eq ?_)
    rw [hp, List.drop_eq_nil_of_le (by omega), idxFrom]
theorem rRow (l : List Row) (name : Str) (hl : l.length ≤ 9223372036854775807) : PFn Tryd.prog 80 [.slice (l.map Row.enc) .no, .str name] (.int .i64 (idxFrom (fun r : Row => r.key == name) l 0)) := by
  refine AFn.plain rfl (by simp [AV.closedL, AV.closed, Row.closedL]) (AFn.enter [4] Tryd.func80 rfl rfl rfl rfl rfl (by decide) ?_)
  repeat' first
    | refine .seq ?_ | refine .rg ?_ | refine .rd ?_ | refine .block ?_ | refine .scope ?_ | refine .skip ?_ | refine .label ?_ | refine .exit ?_ | refine .ret ?_
    | refine .ct ?_ | refine .cf ?_ | refine .cy ?_ | refine .cn ?_ | (refine .cond rfl ?_ ?_ <;> intro hc)
    | refine A.nil_seq ?_ | refine .nl ?_ | refine .dd ?_ | refine .ys ?_ | refine .no ?_ | (refine A.guard rfl ?_ ?_ <;> intro hc)
    | refine .lb ?_ | refine .ln ?_ | refine .ls ?_ | refine .pv ?_ | refine .ix ?_ | refine .pt ?_ | refine .pf ?_ | refine .bx ?_ | refine .al ?_ | refine .st ?_ | refine .ad ?_ | refine .sb ?_ | refine .mf ?_ | refine .cl ?_ | refine .cw ?_ | refine .ck ?_ | fail
  change HCode _ _ _ _ _ _ _
  refine HCode.loop (fun n s σ => ∃ k : Nat, n = l.length - k ∧ k ≤ l.length ∧ idxFrom (fun r : Row => r.key == name) l 0 = idxFrom (fun r : Row => r.key == name) (l.drop k) k ∧ σ = ⟨[], []⟩ ∧
    s = [(5, .int .i64 k), (0, .slice (l.map Row.enc) .no), (1, .str name)])
    (s0 := [(5, .int .i64 (0 : Nat)), (0, .slice (l.map Row.enc) .no), (1, .str name)])
    ⟨rfl, rfl, rfl, trivial⟩ ⟨0, rfl, Nat.zero_le _, rfl, rfl, rfl⟩ ?_
  rintro n s σ ⟨k, rfl, hk, hp, rfl, rfl⟩
  by_cases h1 : k < l.length
  · have d1 : decide ((k : Int) < (l.length : Int)) = true := by simp [h1]
    have x1 := map_get' (f := Row.enc) h1
    repeat' first
      | refine .seq ?_ | refine .rg ?_ | refine .rd ?_ | refine .block ?_ | refine .scope ?_ | refine .skip ?_ | refine .label ?_ | refine .exit ?_ | refine .ret ?_
      | refine .ct ?_ | refine .cf ?_ | refine .cy ?_ | refine .cn ?_ | (refine .cond rfl ?_ ?_ <;> intro hc)
      | refine A.nil_seq ?_ | refine .nl ?_ | refine .dd ?_ | refine .ys ?_ | refine .no ?_ | (refine A.guard rfl ?_ ?_ <;> intro hc)
      | refine .lb ?_ | refine .ln ?_ | refine .ls ?_ | refine .pv ?_ | refine .ix ?_ | refine .pt ?_ | refine .pf ?_ | refine .bx ?_ | refine .al ?_ | refine .st ?_ | refine .ad ?_ | refine .sb ?_ | refine .mf ?_ | refine .cl ?_ | refine .cw ?_ | refine .ck ?_ | fail
    · refine Fin.ret1 rfl (Weak.eq ?_)
      rw [hp, idxFrom_drop h1, if_pos hc]
    · refine ⟨l.length - (k + 1), by omega, [(5, .int .i64 ((k + 1 : Nat) : Int)), (0, .slice (l.map Row.enc) .no), (1, .str name)],
        ⟨rfl, rfl, rfl, trivial⟩, by simp [belowS, AV.low, Row.lowL], rfl, k + 1, rfl, by omega, by rw [hp, idxFrom_drop h1, if_neg (by simp [hc])], rfl, rfl⟩
  · have d1 : decide ((k : Int) < (l.length : Int)) = false := by simp; omega
    repeat' first
      | refine .seq ?_ | refine .rg ?_ | refine .rd ?_ | refine .block ?_ | refine .scope ?_ | refine .skip ?_ | refine .label ?_ | refine .exit ?_ | refine .ret ?_
      | refine .ct ?_ | refine .cf ?_ | refine .cy ?_ | refine .cn ?_ | (refine .cond rfl ?_ ?_ <;> intro hc)
      | refine A.nil_seq ?_ | refine .nl ?_ | refine .dd ?_ | refine .ys ?_ | refine .no ?_ | (refine A.guard rfl ?_ ?_ <;> intro hc)
      | refine .lb ?_ | refine .ln ?_ | refine .ls ?_ | refine .pv ?_ | refine .ix ?_ | refine .pt ?_ | refine .pf ?_ | refine .bx ?_ | refine .al ?_ | refine .st ?_ | refine .ad ?_ | refine .sb ?_ | refine .mf ?_ | refine .cl ?_ | refine .cw ?_ | refine .ck ?_ | fail
    refine Fin.ret1 rfl (Weak.eq ?_)
    rw [hp, List.drop_eq_nil_of_le (by omega), idxFrom]

theorem rFind (l : List Tbl) (n : Need) (hl : l.length ≤ 9223372036854775807) (hr : ∀ t ∈ l, t.rows.length ≤ 9223372036854775807) :
    PFn Tryd.prog 28 [Tbls.enc l, n.enc] (findG l n).enc := by
  refine AFn.plain (Got.closed _) (by simp [AV.closedL, Tbls.closed, Need.closed]) (AFn.enterR [.cell 4 48] Tryd.func28 rfl rfl rfl rfl rfl ?_)
  have hp := rTable l n.table hl
  rcases idxFrom_spec (fun t : Tbl => t.name == n.table) l 0 with ⟨h1, h2⟩ | ⟨i, hi, h1, h2⟩
  · rw [h1] at hp
    repeat' first
      | refine A.box_r rfl rfl ?_
      | refine .seq ?_ | refine .rg ?_ | refine .rd ?_ | refine .block ?_ | refine .scope ?_ | refine .skip ?_ | refine .label ?_ | refine .exit ?_ | refine .ret ?_
      | refine .ct ?_ | refine .cf ?_ | refine .cy ?_ | refine .cn ?_ | (refine .cond rfl ?_ ?_ <;> intro hc)
      | refine A.nil_seq ?_ | refine .nl ?_ | refine .dd ?_ | refine .ys ?_ | refine .no ?_ | (refine A.guard rfl ?_ ?_ <;> intro hc)
      | refine .lb ?_ | refine .ln ?_ | refine .ls ?_ | refine .pv ?_ | refine .ix ?_ | refine .pt ?_ | refine .pf ?_ | refine .bx ?_ | refine .al ?_ | refine .st ?_ | refine .ad ?_ | refine .sb ?_ | refine .mf ?_ | refine .cl ?_ | refine .cw ?_ | refine .ck ?_
      | refine A.call rfl hp (WeakL.refl _) ?_ | fail
    refine FinR.ret1 rfl ?_
    have e : findG l n = gotNone := by rw [findG, h2]
    rw [e]
    exact weak_got (r := noRow) rfl
  · rw [h1] at hp
    simp only [Nat.zero_add] at hp
    have hq := rRow l[i].rows n.key (hr _ (List.getElem_mem hi))
    have x1 := map_get' (f := Tbl.enc) hi
    have d0 : decide ((i : Int) < 0) = false := by simp
    rcases idxFrom_spec (fun r : Row => r.key == n.key) l[i].rows 0 with ⟨h3, h4⟩ | ⟨k, hk, h3, h4⟩
    · rw [h3] at hq
      repeat' first
        | refine A.box_r rfl rfl ?_
        | refine .seq ?_ | refine .rg ?_ | refine .rd ?_ | refine .block ?_ | refine .scope ?_ | refine .skip ?_ | refine .label ?_ | refine .exit ?_ | refine .ret ?_
        | refine .ct ?_ | refine .cf ?_ | refine .cy ?_ | refine .cn ?_ | (refine .cond rfl ?_ ?_ <;> intro hc)
        | refine A.nil_seq ?_ | refine .nl ?_ | refine .dd ?_ | refine .ys ?_ | refine .no ?_ | (refine A.guard rfl ?_ ?_ <;> intro hc)
        | refine .lb ?_ | refine .ln ?_ | refine .ls ?_ | refine .pv ?_ | refine .ix ?_ | refine .pt ?_ | refine .pf ?_ | refine .bx ?_ | refine .al ?_ | refine .st ?_ | refine .ad ?_ | refine .sb ?_ | refine .mf ?_ | refine .cl ?_ | refine .cw ?_ | refine .ck ?_
        | refine A.call rfl hp (WeakL.refl _) ?_ | refine A.call rfl hq (WeakL.refl _) ?_ | fail
      refine FinR.ret1 rfl ?_
      have e : findG l n = gotNone := by rw [findG, h2]; simp only [h4]
      rw [e]
      exact weak_got (r := noRow) rfl
    · rw [h3] at hq
      simp only [Nat.zero_add] at hq
      have x2 := map_get' (f := Row.enc) hk
      have d1 : decide ((k : Int) < 0) = false := by simp
      repeat' first
        | refine A.box_r rfl rfl ?_
        | refine .seq ?_ | refine .rg ?_ | refine .rd ?_ | refine .block ?_ | refine .scope ?_ | refine .skip ?_ | refine .label ?_ | refine .exit ?_ | refine .ret ?_
        | refine .ct ?_ | refine .cf ?_ | refine .cy ?_ | refine .cn ?_ | (refine .cond rfl ?_ ?_ <;> intro hc)
        | refine A.nil_seq ?_ | refine .nl ?_ | refine .dd ?_ | refine .ys ?_ | refine .no ?_ | (refine A.guard rfl ?_ ?_ <;> intro hc)
        | refine .lb ?_ | refine .ln ?_ | refine .ls ?_ | refine .pv ?_ | refine .ix ?_ | refine .pt ?_ | refine .pf ?_ | refine .bx ?_ | refine .al ?_ | refine .st ?_ | refine .ad ?_ | refine .sb ?_ | refine .mf ?_ | refine .cl ?_ | refine .cw ?_ | refine .ck ?_
        | refine A.call rfl hp (WeakL.refl _) ?_ | refine A.call rfl hq (WeakL.refl _) ?_ | fail
      all_goals refine FinR.ret1 rfl ?_
      · have e : findG l n = ⟨noRow, false, 10⟩ := by rw [findG, h2]; simp only [h4, gotOf]; rw [if_pos hc]
        rw [e]
        exact weak_got (r := noRow) rfl
      · have e : findG l n = ⟨l[i].rows[k], true, 0⟩ := by rw [findG, h2]; simp only [h4, gotOf]; rw [if_neg (by simp [hc])]
        rw [e]
        exact weak_got rfl

theorem fidx_drop {α : Type} {p : α → Bool} {l : List α} {k : Nat} (h : k < l.length) : fidx p (l.drop k) = if p l[k] then some 0 else (fidx p (l.drop (k + 1))).map (· + 1) := by
  rw [List.drop_eq_getElem_cons h, fidx]

end Go.Proofs.YtijlmchfepjjkaaDoor
namespace Go.Av
open Go
set_option linter.unusedSectionVars false
set_option linter.unusedVariables false
section
variable [Globals]
variable {P : Program} {all : Array Oper} {draw : Bool} {K : AX → Slots → St → Prop} {rest : List Oper} {acc : List Tag} {s : Slots} {σ : St} {d : Tmp} {ty : TypeId} {pos : String} {af : Array Edge}
theorem ofInt_nat {m : Nat} (h : m < 9223372036854775808) : (BitVec.ofInt 64 (m : Int)).toNat = m := by
  rw [BitVec.ofInt_natCast, BitVec.toNat_ofNat, Nat.mod_eq_of_lt (by omega)]
theorem wrap_nat {m : Nat} (h : m < 9223372036854775808) : IntKind.i64.wrap (m : Int) = (m : Int) := IntWalk.i64_in _ (by omega)
theorem A.band {x y : Operand} {T U : TypeId} {a b : Int} {m n r : Nat} (hx : ev? s x = some (.int .i64 a)) (hy : ev? s y = some (.int .i64 b)) (ha : a = (m : Int)) (hb : b = (n : Int)) (hm : m < 9223372036854775808) (hn : n < 9223372036854775808) (hr : m &&& n = r)
    (k' : AOps P all draw K rest (.pure :: acc) ((d, .int .i64 (r : Int)) :: s) σ) : AOps P all draw K (⟨some d, .binOp .and T x y U, ty, pos, af, none⟩ :: rest) acc s σ :=
  two_ops hx hy (fun g w u v hu hv => by
    cases (show u = _ from hu); cases (show v = _ from hv)
    subst ha; subst hb
    have hle : m &&& n ≤ m := Nat.and_le_left
    have e : IntKind.i64.wrap (((BitVec.ofInt IntKind.i64.bits (m : Int)) &&& (BitVec.ofInt IntKind.i64.bits (n : Int))).toNat : Int) = (r : Int) := by
      rw [BitVec.toNat_and, show (BitVec.ofInt IntKind.i64.bits (m : Int)).toNat = m from ofInt_nat hm, show (BitVec.ofInt IntKind.i64.bits (n : Int)).toNat = n from ofInt_nat hn, hr, wrap_nat (by omega)]
    exact ⟨.int .i64 (r : Int), by simp only [eqGuard, Go.binOp, Op.intBits]; rw [e]; rfl, rfl⟩) k'
theorem or_lt {m n : Nat} (hm : m < 9223372036854775808) (hn : n < 9223372036854775808) : m ||| n < 9223372036854775808 := Nat.or_lt_two_pow (n := 63) hm hn
theorem A.bor {x y : Operand} {T U : TypeId} {a b : Int} {m n r : Nat} (hx : ev? s x = some (.int .i64 a)) (hy : ev? s y = some (.int .i64 b)) (ha : a = (m : Int)) (hb : b = (n : Int)) (hm : m < 9223372036854775808) (hn : n < 9223372036854775808) (hr : m ||| n = r)
    (k' : AOps P all draw K rest (.pure :: acc) ((d, .int .i64 (r : Int)) :: s) σ) : AOps P all draw K (⟨some d, .binOp .or T x y U, ty, pos, af, none⟩ :: rest) acc s σ :=
  two_ops hx hy (fun g w u v hu hv => by
    cases (show u = _ from hu); cases (show v = _ from hv)
    subst ha; subst hb
    have hle := or_lt hm hn
    have e : IntKind.i64.wrap (((BitVec.ofInt IntKind.i64.bits (m : Int)) ||| (BitVec.ofInt IntKind.i64.bits (n : Int))).toNat : Int) = (r : Int) := by
      rw [BitVec.toNat_or, show (BitVec.ofInt IntKind.i64.bits (m : Int)).toNat = m from ofInt_nat hm, show (BitVec.ofInt IntKind.i64.bits (n : Int)).toNat = n from ofInt_nat hn, hr, wrap_nat (by omega)]
    exact ⟨.int .i64 (r : Int), by simp only [eqGuard, Go.binOp, Op.intBits]; rw [e]; rfl, rfl⟩) k'
theorem A.bclr {x y : Operand} {T U : TypeId} {a b r : Int} (hx : ev? s x = some (.int .i64 a)) (hy : ev? s y = some (.int .i64 b)) (hr : IntKind.i64.wrap (((BitVec.ofInt IntKind.i64.bits a) &&& ~~~(BitVec.ofInt IntKind.i64.bits b)).toNat : Int) = r)
    (k' : AOps P all draw K rest (.pure :: acc) ((d, .int .i64 r) :: s) σ) : AOps P all draw K (⟨some d, .binOp .andNot T x y U, ty, pos, af, none⟩ :: rest) acc s σ :=
  two_ops hx hy (fun g w u v hu hv => by
    cases (show u = _ from hu); cases (show v = _ from hv)
    exact ⟨.int .i64 r, by simp only [eqGuard, Go.binOp, Op.intBits]; rw [hr]; rfl, rfl⟩) k'
theorem and31 (m : Nat) : m &&& 31 = m % 32 := Nat.and_two_pow_sub_one_eq_mod m 5
theorem and15 (m : Nat) : m &&& 15 = m % 16 := Nat.and_two_pow_sub_one_eq_mod m 4
theorem and7 (m : Nat) : m &&& 7 = m % 8 := Nat.and_two_pow_sub_one_eq_mod m 3
theorem and63 (m : Nat) : m &&& 63 = m % 64 := Nat.and_two_pow_sub_one_eq_mod m 6
theorem or64 (m n : Nat) (h : n < 64) : m * 64 ||| n = m * 64 + n := by
  have := Nat.two_pow_add_eq_or_of_lt (i := 6) (b := n) h m
  rw [Nat.mul_comm] at this
  exact this.symm
def tailOf : Nat → Code → Code
  | 0, c => c
  | n + 1, .seq _ y => tailOf n y
  | _ + 1, c => c
/-- A piece of code, walked by itself. -/
theorem HCode.cut {P : Program} {N : Nat} {D : List Deferred} {x y : Code} {K : AX → Slots → St → Prop} {s : Slots} {σ : St} (s1 : Slots) (σ1 : St) (h : HCode P N D x (fun e s' σ' => e = .normal ∧ Sub s1 s' ∧ σ' = σ1) s σ) (k : HCode P N D y K s1 σ1) : HCode P N D (.seq x y) K s σ :=
  HCode.seq (h.mono fun e s' σ' ⟨he, hs, hσ⟩ => by subst he; subst hσ; exact k.weaken hs)
def bodyOf (f : Func) : Code := f.body.getD .skip
end
end Go.Av
namespace Go.Av
open Go
set_option linter.unusedSectionVars false
set_option linter.unusedVariables false
section
variable [Globals]
variable {P : Program} {all : Array Oper} {draw : Bool} {K : AX → Slots → St → Prop} {rest : List Oper} {acc : List Tag} {s : Slots} {σ : St} {d : Tmp} {ty : TypeId} {pos : String} {af : Array Edge}
theorem A.shl6 {x y : Operand} {T U : TypeId} {a : Int} {m : Nat} {k2 : IntKind} (hx : ev? s x = some (.int .i64 a)) (hy : ev? s y = some (.int k2 6)) (ha : a = (m : Int)) (hm : m < 144115188075855872)
    (k' : AOps P all draw K rest (.pure :: acc) ((d, .int .i64 ((m * 64 : Nat) : Int)) :: s) σ) : AOps P all draw K (⟨some d, .binOp .shl T x y U, ty, pos, af, none⟩ :: rest) acc s σ :=
  A.shl hx hy (by decide) (by
    subst ha
    have e : ((m : Int) * 2 ^ min (6 : Int).toNat IntKind.i64.bits) = ((m * 64 : Nat) : Int) := by
      rw [show min (6 : Int).toNat IntKind.i64.bits = 6 from rfl, Int.natCast_mul]; rfl
    rw [e, wrap_nat (by omega)]) k'
end
end Go.Av
namespace Go.Proofs.YtijlmchfepjjkaaDoor
open Go Go.Av
set_option maxRecDepth 100000
set_option maxHeartbeats 8000000
set_option linter.unusedVariables false
set_option linter.unusedSimpArgs false
attribute [local irreducible] HCode AOps PFn AFn Av.Step TStep

def finC (c low w : Nat) : Nat × Nat := if c < low ∨ 1114111 < c ∨ (55296 ≤ c ∧ c < 57344) then (0, 0) else (c, w)
def codeP (n b0 b1 b2 b3 : Nat) : Nat × Nat :=
  if b0 < 128 then (b0, 1)
  else if 194 ≤ b0 ∧ b0 < 224 then (if 2 ≤ n ∧ (128 ≤ b1 ∧ b1 ≤ 191) then finC (b0 % 32 * 64 + b1 % 64) 128 2 else (0, 0))
  else if 224 ≤ b0 ∧ b0 < 240 then (if 3 ≤ n ∧ (128 ≤ b1 ∧ b1 ≤ 191) ∧ (128 ≤ b2 ∧ b2 ≤ 191) then finC ((b0 % 16 * 64 + b1 % 64) * 64 + b2 % 64) 2048 3 else (0, 0))
  else if 240 ≤ b0 ∧ b0 < 245 then (if 4 ≤ n ∧ (128 ≤ b1 ∧ b1 ≤ 191) ∧ (128 ≤ b2 ∧ b2 ≤ 191) ∧ (128 ≤ b3 ∧ b3 ≤ 191) then finC (((b0 % 8 * 64 + b1 % 64) * 64 + b2 % 64) * 64 + b3 % 64) 65536 4 else (0, 0))
  else (0, 0)
theorem codeP_eq (n b0 b1 b2 b3 : Nat) (h0 : b0 < 256) (h1 : b1 < 256) (h2 : b2 < 256) (h3 : b3 < 256) :
    codeP n b0 b1 b2 b3 = if Lib.decodeN n b0 b1 b2 b3 = (65533, 1) then (0, 0) else Lib.decodeN n b0 b1 b2 b3 := by
  unfold codeP Lib.decodeN finC
  repeat' split
  all_goals first
    | rfl
    | (exfalso; simp only [Prod.mk.injEq] at *; omega)
    | (simp only [Prod.mk.injEq] at *; omega)
    | (exfalso; rename_i hx; exact hx rfl)
    | (exfalso; simp only [Prod.mk.injEq, and_self, and_true, true_and, not_true_eq_false] at *; done)
    | (exfalso; simp only [Prod.mk.injEq, and_self, and_true, true_and, not_true_eq_false] at *; omega)
    | (simp only [Prod.mk.injEq, and_self, and_true, true_and] at *; omega)
/-- The code point at the head, and its width; (0, 0): none. -/
def codeL (l : Str) : Nat × Nat := if Lib.decodeL l = (65533, 1) then (0, 0) else Lib.decodeL l
theorem codeL_eq (s : Str) (i : Nat) : codeL (s.drop i) = codeP (s.length - i) (s.getD i 0).toNat (s.getD (i + 1) 0).toNat (s.getD (i + 2) 0).toNat (s.getD (i + 3) 0).toNat := by
  unfold codeL
  rw [codeP_eq _ _ _ _ _ (UInt8.toNat_lt _) (UInt8.toNat_lt _) (UInt8.toNat_lt _) (UInt8.toNat_lt _), Lib.decodeL_N, List.length_drop, Lib.getD_dropU, Lib.getD_dropU, Lib.getD_dropU, Lib.getD_dropU, Nat.add_zero]
end Go.Proofs.YtijlmchfepjjkaaDoor
namespace Go.Proofs.YtijlmchfepjjkaaDoor
open Go Go.Av
set_option maxRecDepth 100000
set_option maxHeartbeats 16000000
set_option linter.unusedVariables false
set_option linter.unusedSimpArgs false
attribute [local irreducible] HCode AOps PFn AFn Av.Step TStep

theorem conv_u8 (c : UInt8) : IntKind.i64.wrap (c.toNat : Int) = (c.toNat : Int) := wrap_nat (by have := UInt8.toNat_lt c; omega)
def cAcc (f : Nat → Nat) (c0 : Nat) : Nat → Nat
  | 0 => c0
  | j + 1 => cAcc f c0 j * 64 + f (j + 1) % 64
theorem cAcc_lt (f : Nat → Nat) {c0 : Nat} (h0 : c0 < 32) : ∀ {j : Nat}, j ≤ 3 → cAcc f c0 j < 8388608
  | 0, _ => by rw [cAcc]; omega
  | 1, _ => by rw [cAcc, cAcc]; omega
  | 2, _ => by rw [cAcc, cAcc, cAcc]; omega
  | 3, _ => by rw [cAcc, cAcc, cAcc, cAcc]; omega
def byteAt (s : Str) (i k : Nat) : Nat := (s.getD (i + k) 0).toNat
theorem byteAt_of {s : Str} {i k : Nat} (h : i + k < s.length) : byteAt s i k = s[i + k].toNat := by unfold byteAt; simp [List.getD, h]
def contB (b : Nat) : Bool := decide (128 ≤ b) && decide (b ≤ 191)
/-- The bytes behind the first, from the k-th on. -/
def contAll (s : Str) (i : Nat) : Nat → Nat → Bool
  | _, 0 => true
  | k, n + 1 => contB (byteAt s i k) && contAll s i (k + 1) n
/-- What Code tells, as soon as the first byte is read. -/
def restC (s : Str) (i N LO c0 : Nat) : Nat × Nat := if N ≤ s.length - i then (if contAll s i 1 (N - 1) = true then finC (cAcc (byteAt s i) c0 (N - 1)) LO N else (0, 0)) else (0, 0)
abbrev pairV (p : Nat × Nat) : AV := .tup [.int .i64 (p.1 : Int), .int .i64 (p.2 : Int)]

attribute [local irreducible] Int.decLt Int.decLe Int.le Int.lt in
theorem codeEnd (N LO c : Nat) : HCode Tryd.prog Tryd.f135.ntmps [] (tailOf 8 (bodyOf Tryd.f135)) (fin [4, 5] (fun e _ => ∃ v, e = .ret v ∧ Weak v (pairV (finC c LO N))))
    [(6, .int .i64 (c : Int)), (7, .int .i64 (N : Int)), (8, .int .i64 (LO : Int))] ⟨[], []⟩ := by
  by_cases w1 : c < LO
  · have v1 : decide ((c : Int) < (LO : Int)) = true := decide_eq_true (by omega)
    repeat' first
      | refine .seq ?_ | refine .rg ?_ | refine .rd ?_ | refine .block ?_ | refine .scope ?_ | refine .skip ?_ | refine .label ?_ | refine .exit ?_ | refine .ret ?_
      | refine .ct ?_ | refine .cf ?_ | refine .cy ?_ | refine .cn ?_ | (refine .cond rfl ?_ ?_ <;> intro hc)
      | refine A.nil_seq ?_ | refine .nl ?_ | refine .dd ?_ | refine .ys ?_ | refine .no ?_ | (refine A.guard rfl ?_ ?_ <;> intro hc)
      | refine .lb ?_ | refine .ln ?_ | refine .ls ?_ | refine .pv ?_ | refine .ix ?_ | refine .pt ?_ | refine .pf ?_ | refine .bx ?_ | refine .al ?_ | refine .st ?_ | refine .ad ?_ | refine .sb ?_ | refine .mf ?_ | refine .cl ?_ | refine .cw ?_ | refine .ck ?_ | fail
    refine Fin.two rfl rfl (Weak.eq ?_)
    rw [finC, if_pos (.inl w1)]; rfl
  · have v1 : decide ((c : Int) < (LO : Int)) = false := decide_eq_false (by omega)
    by_cases w2 : 1114111 < c
    · have v2 : decide ((c : Int) > 1114111) = true := decide_eq_true (by omega)
      repeat' first
        | refine .seq ?_ | refine .rg ?_ | refine .rd ?_ | refine .block ?_ | refine .scope ?_ | refine .skip ?_ | refine .label ?_ | refine .exit ?_ | refine .ret ?_
        | refine .ct ?_ | refine .cf ?_ | refine .cy ?_ | refine .cn ?_ | (refine .cond rfl ?_ ?_ <;> intro hc)
        | refine A.nil_seq ?_ | refine .nl ?_ | refine .dd ?_ | refine .ys ?_ | refine .no ?_ | (refine A.guard rfl ?_ ?_ <;> intro hc)
        | refine .lb ?_ | refine .ln ?_ | refine .ls ?_ | refine .pv ?_ | refine .ix ?_ | refine .pt ?_ | refine .pf ?_ | refine .bx ?_ | refine .al ?_ | refine .st ?_ | refine .ad ?_ | refine .sb ?_ | refine .mf ?_ | refine .cl ?_ | refine .cw ?_ | refine .ck ?_ | fail
      refine Fin.two rfl rfl (Weak.eq ?_)
      rw [finC, if_pos (.inr (.inl w2))]; rfl
    · have v2 : decide ((c : Int) > 1114111) = false := decide_eq_false (by omega)
      by_cases w3 : 55296 ≤ c
      · have v3 : decide ((c : Int) ≥ 55296) = true := decide_eq_true (by omega)
        by_cases w4 : c < 57344
        · have v4 : decide ((c : Int) < 57344) = true := decide_eq_true (by omega)
          repeat' first
            | refine .seq ?_ | refine .rg ?_ | refine .rd ?_ | refine .block ?_ | refine .scope ?_ | refine .skip ?_ | refine .label ?_ | refine .exit ?_ | refine .ret ?_
            | refine .ct ?_ | refine .cf ?_ | refine .cy ?_ | refine .cn ?_ | (refine .cond rfl ?_ ?_ <;> intro hc)
            | refine A.nil_seq ?_ | refine .nl ?_ | refine .dd ?_ | refine .ys ?_ | refine .no ?_ | (refine A.guard rfl ?_ ?_ <;> intro hc)
            | refine .lb ?_ | refine .ln ?_ | refine .ls ?_ | refine .pv ?_ | refine .ix ?_ | refine .pt ?_ | refine .pf ?_ | refine .bx ?_ | refine .al ?_ | refine .st ?_ | refine .ad ?_ | refine .sb ?_ | refine .mf ?_ | refine .cl ?_ | refine .cw ?_ | refine .ck ?_ | fail
          refine Fin.two rfl rfl (Weak.eq ?_)
          rw [finC, if_pos (.inr (.inr ⟨w3, w4⟩))]; rfl
        · have v4 : decide ((c : Int) < 57344) = false := decide_eq_false (by omega)
          repeat' first
            | refine .seq ?_ | refine .rg ?_ | refine .rd ?_ | refine .block ?_ | refine .scope ?_ | refine .skip ?_ | refine .label ?_ | refine .exit ?_ | refine .ret ?_
            | refine .ct ?_ | refine .cf ?_ | refine .cy ?_ | refine .cn ?_ | (refine .cond rfl ?_ ?_ <;> intro hc)
            | refine A.nil_seq ?_ | refine .nl ?_ | refine .dd ?_ | refine .ys ?_ | refine .no ?_ | (refine A.guard rfl ?_ ?_ <;> intro hc)
            | refine .lb ?_ | refine .ln ?_ | refine .ls ?_ | refine .pv ?_ | refine .ix ?_ | refine .pt ?_ | refine .pf ?_ | refine .bx ?_ | refine .al ?_ | refine .st ?_ | refine .ad ?_ | refine .sb ?_ | refine .mf ?_ | refine .cl ?_ | refine .cw ?_ | refine .ck ?_ | fail
          refine Fin.two rfl rfl (Weak.eq ?_)
          rw [finC, if_neg (by omega)]
      · have v3 : decide ((c : Int) ≥ 55296) = false := decide_eq_false (by omega)
        repeat' first
          | refine .seq ?_ | refine .rg ?_ | refine .rd ?_ | refine .block ?_ | refine .scope ?_ | refine .skip ?_ | refine .label ?_ | refine .exit ?_ | refine .ret ?_
          | refine .ct ?_ | refine .cf ?_ | refine .cy ?_ | refine .cn ?_ | (refine .cond rfl ?_ ?_ <;> intro hc)
          | refine A.nil_seq ?_ | refine .nl ?_ | refine .dd ?_ | refine .ys ?_ | refine .no ?_ | (refine A.guard rfl ?_ ?_ <;> intro hc)
          | refine .lb ?_ | refine .ln ?_ | refine .ls ?_ | refine .pv ?_ | refine .ix ?_ | refine .pt ?_ | refine .pf ?_ | refine .bx ?_ | refine .al ?_ | refine .st ?_ | refine .ad ?_ | refine .sb ?_ | refine .mf ?_ | refine .cl ?_ | refine .cw ?_ | refine .ck ?_ | fail
        refine Fin.two rfl rfl (Weak.eq ?_)
        rw [finC, if_neg (by omega)]

theorem contAll_stop {s : Str} {i : Nat} : ∀ {n k j : Nat}, k ≤ j → j < k + n → contB (byteAt s i j) = false → contAll s i k n = false
  | 0, k, j, h1, h2, _ => by omega
  | n + 1, k, j, h1, h2, h => by
    rw [contAll]
    by_cases e : k = j
    · subst e; rw [h]; rfl
    · rw [contAll_stop (by omega) (by omega) h, Bool.and_false]
theorem contAll_all {s : Str} {i : Nat} : ∀ {n k : Nat}, (∀ j, k ≤ j → j < k + n → contB (byteAt s i j) = true) → contAll s i k n = true
  | 0, _, _ => rfl
  | n + 1, k, h => by
    rw [contAll, h k (Nat.le_refl _) (by omega), contAll_all fun j h1 h2 => h j (by omega) (by omega)]; rfl
attribute [local irreducible] Int.decLt Int.decLe Int.le Int.lt in
theorem codeRest (s : Str) (i N LO c0 : Nat) (hi : i < s.length) (hs : s.length ≤ 4611686018427387904) (hN : 2 ≤ N ∧ N ≤ 4) (hc0 : c0 < 32) :
    HCode Tryd.prog Tryd.f135.ntmps [] (tailOf 6 (bodyOf Tryd.f135)) (fin [4, 5] (fun e _ => ∃ v, e = .ret v ∧ Weak v (pairV (restC s i N LO c0))))
      [(6, .int .i64 (c0 : Int)), (7, .int .i64 (N : Int)), (8, .int .i64 (LO : Int)), (0, .str s), (1, .int .i64 (i : Int))] ⟨[], []⟩ := by
  unfold restC
  by_cases hn : N ≤ s.length - i
  · have d2 : decide ((N : Int) > (s.length : Int) - (i : Int)) = false := decide_eq_false (by omega)
    rw [if_pos hn]
    repeat' first
      | refine .seq ?_ | refine .rg ?_ | refine .rd ?_ | refine .block ?_ | refine .scope ?_ | refine .skip ?_ | refine .label ?_ | refine .exit ?_ | refine .ret ?_
      | refine .ct ?_ | refine .cf ?_ | refine .cy ?_ | refine .cn ?_ | (refine .cond rfl ?_ ?_ <;> intro hc)
      | refine A.nil_seq ?_ | refine .nl ?_ | refine .dd ?_ | refine .ys ?_ | refine .no ?_ | (refine A.guard rfl ?_ ?_ <;> intro hc)
      | refine .lb ?_ | refine .ln ?_ | refine .ls ?_ | refine .pv ?_ | refine .ix ?_ | refine .pt ?_ | refine .pf ?_ | refine .bx ?_ | refine .al ?_ | refine .st ?_ | refine .ad ?_ | refine .sb ?_ | refine .mf ?_ | refine .cl ?_ | refine .cw ?_ | refine .ck ?_ | fail
    change HCode _ _ _ _ _ _ _
    refine HCode.loop (fun n σs σ => ∃ j : Nat, n = N - 1 - j ∧ j ≤ N - 1 ∧ (∀ k, 1 ≤ k → k ≤ j → contB (byteAt s i k) = true) ∧ σ = ⟨[], []⟩ ∧
      σs = [(9, .int .i64 ((j + 1 : Nat) : Int)), (7, .int .i64 (N : Int)), (6, .int .i64 ((cAcc (byteAt s i) c0 j : Nat) : Int)), (0, .str s), (1, .int .i64 (i : Int)), (8, .int .i64 (LO : Int))])
      (s0 := [(9, .int .i64 ((0 + 1 : Nat) : Int)), (7, .int .i64 (N : Int)), (6, .int .i64 ((cAcc (byteAt s i) c0 0 : Nat) : Int)), (0, .str s), (1, .int .i64 (i : Int)), (8, .int .i64 (LO : Int))])
      ⟨rfl, rfl, rfl, rfl, rfl, rfl, trivial⟩ ⟨0, rfl, Nat.zero_le _, fun k h1 h2 => by omega, rfl, rfl⟩ ?_
    rintro n σs σ ⟨j, rfl, hj, hcont, rfl, rfl⟩
    have hacc := cAcc_lt (byteAt s i) hc0 (j := j) (by omega)
    by_cases h1 : j + 1 < N
    · have d3 : decide (((j + 1 : Nat) : Int) < (N : Int)) = true := decide_eq_true (by omega)
      have hk : i + (j + 1) < s.length := by omega
      have xk := get_str hk
      have hbk := UInt8.toNat_lt s[i + (j + 1)]
      have gk := byteAt_of (s := s) (i := i) (k := j + 1) hk
      by_cases k1 : s[i + (j + 1)].toNat < 128
      · have d4 : decide ((s[i + (j + 1)].toNat : Int) < 128) = true := decide_eq_true (by omega)
        have hq : contB (byteAt s i (j + 1)) = false := by rw [gk]; unfold contB; rw [decide_eq_false (by omega)]; rfl
        rw [contAll_stop (j := j + 1) (by omega) (by omega) hq, if_neg (by decide)]
        repeat' first
          | refine .seq ?_ | refine .rg ?_ | refine .rd ?_ | refine .block ?_ | refine .scope ?_ | refine .skip ?_ | refine .label ?_ | refine .exit ?_ | refine .ret ?_
          | refine .ct ?_ | refine .cf ?_ | refine .cy ?_ | refine .cn ?_ | (refine .cond rfl ?_ ?_ <;> intro hc)
          | refine A.nil_seq ?_ | refine .nl ?_ | refine .dd ?_ | refine .ys ?_ | refine .no ?_ | (refine A.guard rfl ?_ ?_ <;> intro hc)
          | refine .lb ?_ | refine .ln ?_ | refine .ls ?_ | refine .pv ?_ | refine .ix ?_ | refine .pt ?_ | refine .pf ?_ | refine .bx ?_ | refine .al ?_ | refine .st ?_ | refine .ad ?_ | refine .sb ?_ | refine .mf ?_ | refine .cl ?_ | refine .cw ?_ | refine .ck ?_
          | refine A.index_s (j := i + (j + 1)) rfl rfl rfl rfl rfl (by assumption) ?_ | refine A.conv rfl rfl rfl rfl (conv_u8 _) ?_ | fail
        exact Fin.two rfl rfl (Weak.refl _)
      · have d4 : decide ((s[i + (j + 1)].toNat : Int) < 128) = false := decide_eq_false (by omega)
        by_cases k2 : 191 < s[i + (j + 1)].toNat
        · have d5 : decide ((s[i + (j + 1)].toNat : Int) > 191) = true := decide_eq_true (by omega)
          have hq : contB (byteAt s i (j + 1)) = false := by rw [gk]; unfold contB; rw [decide_eq_true (by omega), decide_eq_false (by omega)]; rfl
          rw [contAll_stop (j := j + 1) (by omega) (by omega) hq, if_neg (by decide)]
          repeat' first
            | refine .seq ?_ | refine .rg ?_ | refine .rd ?_ | refine .block ?_ | refine .scope ?_ | refine .skip ?_ | refine .label ?_ | refine .exit ?_ | refine .ret ?_
            | refine .ct ?_ | refine .cf ?_ | refine .cy ?_ | refine .cn ?_ | (refine .cond rfl ?_ ?_ <;> intro hc)
            | refine A.nil_seq ?_ | refine .nl ?_ | refine .dd ?_ | refine .ys ?_ | refine .no ?_ | (refine A.guard rfl ?_ ?_ <;> intro hc)
            | refine .lb ?_ | refine .ln ?_ | refine .ls ?_ | refine .pv ?_ | refine .ix ?_ | refine .pt ?_ | refine .pf ?_ | refine .bx ?_ | refine .al ?_ | refine .st ?_ | refine .ad ?_ | refine .sb ?_ | refine .mf ?_ | refine .cl ?_ | refine .cw ?_ | refine .ck ?_
            | refine A.index_s (j := i + (j + 1)) rfl rfl rfl rfl rfl (by assumption) ?_ | refine A.conv rfl rfl rfl rfl (conv_u8 _) ?_ | fail
          exact Fin.two rfl rfl (Weak.refl _)
        · have d5 : decide ((s[i + (j + 1)].toNat : Int) > 191) = false := decide_eq_false (by omega)
          repeat' first
            | refine .seq ?_ | refine .rg ?_ | refine .rd ?_ | refine .block ?_ | refine .scope ?_ | refine .skip ?_ | refine .label ?_ | refine .exit ?_ | refine .ret ?_
            | refine .ct ?_ | refine .cf ?_ | refine .cy ?_ | refine .cn ?_ | (refine .cond rfl ?_ ?_ <;> intro hc)
            | refine A.nil_seq ?_ | refine .nl ?_ | refine .dd ?_ | refine .ys ?_ | refine .no ?_ | (refine A.guard rfl ?_ ?_ <;> intro hc)
            | refine .lb ?_ | refine .ln ?_ | refine .ls ?_ | refine .pv ?_ | refine .ix ?_ | refine .pt ?_ | refine .pf ?_ | refine .bx ?_ | refine .al ?_ | refine .st ?_ | refine .ad ?_ | refine .sb ?_ | refine .mf ?_ | refine .cl ?_ | refine .cw ?_ | refine .ck ?_
            | refine A.index_s (j := i + (j + 1)) rfl rfl rfl rfl rfl (by assumption) ?_ | refine A.conv rfl rfl rfl rfl (conv_u8 _) ?_ | refine A.shl6 rfl rfl rfl (by omega) ?_ | refine A.band (n := 63) rfl rfl rfl rfl (by omega) (by decide) (and63 _) ?_ | refine A.bor rfl rfl rfl rfl (by omega) (by omega) (or64 _ _ (by omega)) ?_ | fail
          refine ⟨N - 1 - (j + 1), by omega, [(9, .int .i64 ((j + 1 + 1 : Nat) : Int)), (7, .int .i64 (N : Int)), (6, .int .i64 ((cAcc (byteAt s i) c0 (j + 1) : Nat) : Int)), (0, .str s), (1, .int .i64 (i : Int)), (8, .int .i64 (LO : Int))],
            ⟨rfl, rfl, by rw [cAcc, gk]; rfl, rfl, rfl, rfl, trivial⟩, by simp [belowS, AV.low], rfl, j + 1, rfl, by omega, fun k q1 q2 => ?_, rfl, rfl⟩
          by_cases e : k = j + 1
          · subst e; rw [gk]; unfold contB; rw [decide_eq_true (by omega), decide_eq_true (by omega)]; rfl
          · exact hcont k q1 (by omega)
    · have d3 : decide (((j + 1 : Nat) : Int) < (N : Int)) = false := decide_eq_false (by omega)
      obtain rfl : j = N - 1 := by omega
      rw [contAll_all fun k q1 q2 => hcont k q1 (by omega), if_pos rfl]
      have hend := codeEnd N LO (cAcc (byteAt s i) c0 (N - 1))
      repeat' first
        | (refine HCode.weaken hend ?_; exact ⟨rfl, rfl, rfl, trivial⟩)
        | refine .seq ?_ | refine .rg ?_ | refine .rd ?_ | refine .block ?_ | refine .scope ?_ | refine .skip ?_ | refine .label ?_ | refine .exit ?_ | refine .ret ?_
        | refine .ct ?_ | refine .cf ?_ | refine .cy ?_ | refine .cn ?_ | (refine .cond rfl ?_ ?_ <;> intro hc)
        | refine A.nil_seq ?_ | refine .nl ?_ | refine .dd ?_ | refine .ys ?_ | refine .no ?_ | (refine A.guard rfl ?_ ?_ <;> intro hc)
        | refine .lb ?_ | refine .ln ?_ | refine .ls ?_ | refine .pv ?_ | refine .ix ?_ | refine .pt ?_ | refine .pf ?_ | refine .bx ?_ | refine .al ?_ | refine .st ?_ | refine .ad ?_ | refine .sb ?_ | refine .mf ?_ | refine .cl ?_ | refine .cw ?_ | refine .ck ?_ | fail
  · have d2 : decide ((N : Int) > (s.length : Int) - (i : Int)) = true := decide_eq_true (by omega)
    rw [if_neg hn]
    repeat' first
      | refine .seq ?_ | refine .rg ?_ | refine .rd ?_ | refine .block ?_ | refine .scope ?_ | refine .skip ?_ | refine .label ?_ | refine .exit ?_ | refine .ret ?_
      | refine .ct ?_ | refine .cf ?_ | refine .cy ?_ | refine .cn ?_ | (refine .cond rfl ?_ ?_ <;> intro hc)
      | refine A.nil_seq ?_ | refine .nl ?_ | refine .dd ?_ | refine .ys ?_ | refine .no ?_ | (refine A.guard rfl ?_ ?_ <;> intro hc)
      | refine .lb ?_ | refine .ln ?_ | refine .ls ?_ | refine .pv ?_ | refine .ix ?_ | refine .pt ?_ | refine .pf ?_ | refine .bx ?_ | refine .al ?_ | refine .st ?_ | refine .ad ?_ | refine .sb ?_ | refine .mf ?_ | refine .cl ?_ | refine .cw ?_ | refine .ck ?_ | fail
    exact Fin.two rfl rfl (Weak.refl _)
end Go.Proofs.YtijlmchfepjjkaaDoor
