/-
  The statements' helpers: copies of values all the way down.
  The reference's equality of values.
  The law CoerceVars.
-/
import Derived.Test.YtpidjkihngiaoaaGreatDoorGCoerceVars1
import Derived.Test.YtpidjkihngiaoaaGreatDoorAvMap
import Derived.Test.YtpidjkihngiaoaaGreatDoorGCoerceVars8
import Derived.Test.YtpidjkihngiaoaaGreatDoorGCoerceVars14
namespace Go.Proofs.YtpidjkihngiaoaaGreatDoor
open Go Go.Av
set_option maxRecDepth 100000
set_option maxHeartbeats 8000000
set_option linter.unusedVariables false
set_option linter.unusedSimpArgs false
attribute [local irreducible] HCode AOps PFn AFn Av.Step TStep

theorem take_enc' {α : Type} {f : α → AV} {l : List α} {j : Nat} (h : j < l.length) : (l.take j).map f ++ [f l[j]] = (l.take (j + 1)).map f := by
  rw [List.take_succ_eq_append_getElem h, List.map_append]; rfl
theorem Mem.lowT (n m : Nat) (l : List Mem) (k : Nat) : AV.lowL n m ((l.take k).map Mem.enc) = true := Mem.lowL n m _

theorem lowL_app {a n : Nat} : ∀ (xs ys : List AV), AV.lowL a n (xs ++ ys) = (AV.lowL a n xs && AV.lowL a n ys)
  | [], ys => by simp [AV.lowL]
  | x :: xs, ys => by rw [List.cons_append, AV.lowL, AV.lowL, lowL_app xs ys, Bool.and_assoc]
theorem membersC (N : Nat) (ih : ∀ v : Val, v.size ≤ N → PFn Tryz.prog 18 [v.enc] v.enc) (l : List Mem) (hl : l.length ≤ 1048576) (hs : ∀ x ∈ l, x.v.size ≤ N) :
    PFn Tryz.prog 24 [.slice (l.map Mem.enc) .no] (.slice (l.map Mem.enc) .no) := by
  refine AFn.plain (by simp [AV.closed, Mem.closedL]) (by simp [AV.closedL, AV.closed, Mem.closedL]) (AFn.enter [2] Tryz.func24 rfl rfl rfl rfl rfl (by decide) ?_)
  repeat' first
    | refine .seq ?_ | refine .rg ?_ | refine .rd ?_ | refine .block ?_ | refine .scope ?_ | refine .skip ?_ | refine .label ?_ | refine .exit ?_ | refine .ret ?_
    | refine .ct ?_ | refine .cf ?_ | refine .cy ?_ | refine .cn ?_ | (refine .cond rfl ?_ ?_ <;> intro hc)
    | refine A.nil_seq ?_ | refine .nl ?_ | refine .dd ?_ | refine .ys ?_ | refine .no ?_ | (refine A.guard rfl ?_ ?_ <;> intro hc)
    | refine .lb ?_ | refine .ln ?_ | refine .ls ?_ | refine .pv ?_ | refine .ix ?_ | refine .pt ?_ | refine .pf ?_ | refine .bx ?_ | refine .al ?_ | refine .st ?_ | refine .ad ?_ | refine .sb ?_ | refine .mf ?_ | refine .cl ?_ | refine .cw ?_ | refine .ck ?_ | fail
  change HCode _ _ _ _ _ _ _
  refine HCode.adopt 3 true 6 rfl rfl rfl rfl rfl rfl ?_
  refine HCode.loop (fun n s σ => ∃ k : Nat, n = l.length - k ∧ k ≤ l.length ∧ σ = ⟨[], [.len k]⟩ ∧ s = [(4, .int .i64 k), (3, .slice ((l.take k).map Mem.enc) (.own 0 6)), (0, .slice (l.map Mem.enc) .no)])
    (s0 := [(4, .int .i64 (0 : Nat)), (3, .slice ((l.take 0).map Mem.enc) (.own 0 6)), (0, .slice (l.map Mem.enc) .no)]) ⟨rfl, rfl, rfl, trivial⟩ ⟨0, rfl, Nat.zero_le _, rfl, rfl⟩ ?_
  rintro n s σ ⟨k, rfl, hk, rfl, rfl⟩
  have htl : ((l.take k).map Mem.enc).length = k := by simp; omega
  by_cases h1 : k < l.length
  · have d1 : decide ((k : Int) < (l.length : Int)) = true := by simp [h1]
    have x1 := map_get' (f := Mem.enc) h1
    have hcc := ih l[k].v (hs _ (List.getElem_mem h1))
    repeat' first
      | refine .seq ?_ | refine .rg ?_ | refine .rd ?_ | refine .block ?_ | refine .scope ?_ | refine .skip ?_ | refine .label ?_ | refine .exit ?_ | refine .ret ?_
      | refine .ct ?_ | refine .cf ?_ | refine .cy ?_ | refine .cn ?_ | (refine .cond rfl ?_ ?_ <;> intro hc)
      | refine A.nil_seq ?_ | refine .nl ?_ | refine .dd ?_ | refine .ys ?_ | refine .no ?_ | (refine A.guard rfl ?_ ?_ <;> intro hc)
      | refine .lb ?_ | refine .ln ?_ | refine .ls ?_ | refine .pv ?_ | refine .ix ?_ | refine .pt ?_ | refine .pf ?_ | refine .bx ?_ | refine .al ?_ | refine .st ?_ | refine .ad ?_ | refine .sb ?_ | refine .mf ?_ | refine .cl ?_ | refine .cw ?_ | refine .ck ?_
      | refine A.call rfl hcc (WeakL.refl _) ?_ | refine A.append (n := k) rfl rfl rfl rfl rfl rfl rfl rfl htl rfl (by dsimp only [List.length_cons, List.length_nil]; omega) (by dsimp only [List.length_cons, List.length_nil]; omega) rfl ?_ | fail
    refine ⟨l.length - (k + 1), by omega, [(4, .int .i64 ((k + 1 : Nat) : Int)), (3, .slice ((l.take (k + 1)).map Mem.enc) (.own 0 6)), (0, .slice (l.map Mem.enc) .no)],
      ⟨rfl, ?_, rfl, trivial⟩, by simp [-List.map_take, belowS, AV.low, Mem.lowL], rfl, k + 1, rfl, by omega, rfl, rfl⟩
    rw [← take_enc' h1]
    rfl
  · have d1 : decide ((k : Int) < (l.length : Int)) = false := by simp; omega
    repeat' first
      | refine .seq ?_ | refine .rg ?_ | refine .rd ?_ | refine .block ?_ | refine .scope ?_ | refine .skip ?_ | refine .label ?_ | refine .exit ?_ | refine .ret ?_
      | refine .ct ?_ | refine .cf ?_ | refine .cy ?_ | refine .cn ?_ | (refine .cond rfl ?_ ?_ <;> intro hc)
      | refine A.nil_seq ?_ | refine .nl ?_ | refine .dd ?_ | refine .ys ?_ | refine .no ?_ | (refine A.guard rfl ?_ ?_ <;> intro hc)
      | refine .lb ?_ | refine .ln ?_ | refine .ls ?_ | refine .pv ?_ | refine .ix ?_ | refine .pt ?_ | refine .pf ?_ | refine .bx ?_ | refine .al ?_ | refine .st ?_ | refine .ad ?_ | refine .sb ?_ | refine .mf ?_ | refine .cl ?_ | refine .cw ?_ | refine .ck ?_ | fail
    refine Fin.ret1 rfl (Weak.no (WeakL.eq ?_))
    rw [List.take_of_length_le (by omega)]

theorem copy_aux : ∀ (N : Nat) (v : Val), v.size ≤ N → N ≤ 1048576 → PFn Tryz.prog 18 [v.enc] v.enc
  | 0, v, h, _ => by have := v.size_pos; omega
  | N + 1, v, h, hN => by
    have ih := fun (x : Val) (hx : x.size ≤ N) => copy_aux N x hx (by omega)
    have hm := membersC N ih v.m (by have := v.m_len; omega) (fun x hx => by
      have := sumSize_mem (size := Mem.size) hx
      have h2 : x.size = x.name.length + 2 + x.v.size := rfl
      have := v.size_eq
      omega)
    have hll := v.lv_len
    have la := v.l_len
    rw [← v.mv_eq] at hm
    refine AFn.plain (Val.closed v) (by simp [AV.closedL, Val.closed]) (AFn.enterR [.cell 2 30] Tryz.func18 rfl rfl rfl rfl rfl ?_)
    repeat' first
      | refine .seq ?_ | refine .rg ?_ | refine .rd ?_ | refine .block ?_ | refine .scope ?_ | refine .skip ?_ | refine .label ?_ | refine .exit ?_ | refine .ret ?_
      | refine .ct ?_ | refine .cf ?_ | refine .cy ?_ | refine .cn ?_ | (refine .cond rfl ?_ ?_ <;> intro hc)
      | refine A.nil_seq ?_ | refine .nl ?_ | refine .dd ?_ | refine .ys ?_ | refine .no ?_ | (refine A.guard rfl ?_ ?_ <;> intro hc)
      | refine .lb ?_ | refine .ln ?_ | refine .ls ?_ | refine .pv ?_ | refine .ix ?_ | refine .pt ?_ | refine .pf ?_ | refine .bx ?_ | refine .al ?_ | refine .st ?_ | refine .ad ?_ | refine .sb ?_ | refine .mf ?_ | refine .cl ?_ | refine .cw ?_ | refine .ck ?_ | fail
    change HCode _ _ _ _ _ _ _
    refine HCode.adopt 3 true 5 rfl rfl rfl rfl rfl rfl ?_
    refine HCode.loop (fun n s σ => ∃ k : Nat, n = v.l.length - k ∧ k ≤ v.l.length ∧ σ = ⟨[.cells [.int .i64 v.kind, .int .i64 v.n, .str v.s, .slice v.lv .no, .slice v.mv .no], .cells [.int .i64 0, .int .i64 0, .str [], .slice [] .nil, .slice [] .nil]], [.len k]⟩ ∧
        s = [(4, .int .i64 k), (3, .slice ((v.l.take k).map Val.enc) (.own 0 5)), (1, .ptr 0 0), (2, .ptr 1 0)])
      (s0 := [(4, .int .i64 (0 : Nat)), (3, .slice ((v.l.take 0).map Val.enc) (.own 0 5)), (1, .ptr 0 0), (2, .ptr 1 0)]) ⟨rfl, rfl, rfl, rfl, trivial⟩ ⟨0, rfl, Nat.zero_le _, rfl, rfl⟩ ?_
    rintro n s σ ⟨k, rfl, hk, rfl, rfl⟩
    have htl : ((v.l.take k).map Val.enc).length = k := by simp; omega
    by_cases h1 : k < v.l.length
    · have d1 : decide ((k : Int) < (v.lv.length : Int)) = true := by simp [h1, hll]
      have x1 := Val.lv_get h1
      have hcc := ih v.l[k] (by have := Val.size_l h1; omega)
      repeat' first
        | refine .seq ?_ | refine .rg ?_ | refine .rd ?_ | refine .block ?_ | refine .scope ?_ | refine .skip ?_ | refine .label ?_ | refine .exit ?_ | refine .ret ?_
        | refine .ct ?_ | refine .cf ?_ | refine .cy ?_ | refine .cn ?_ | (refine .cond rfl ?_ ?_ <;> intro hc)
        | refine A.nil_seq ?_ | refine .nl ?_ | refine .dd ?_ | refine .ys ?_ | refine .no ?_ | (refine A.guard rfl ?_ ?_ <;> intro hc)
        | refine .lb ?_ | refine .ln ?_ | refine .ls ?_ | refine .pv ?_ | refine .ix ?_ | refine .pt ?_ | refine .pf ?_ | refine .bx ?_ | refine .al ?_ | refine .st ?_ | refine .ad ?_ | refine .sb ?_ | refine .mf ?_ | refine .cl ?_ | refine .cw ?_ | refine .ck ?_
        | refine A.len rfl rfl rfl rfl ?_ | refine A.call rfl hcc (WeakL.refl _) ?_ | refine A.append (n := k) rfl rfl rfl rfl rfl rfl rfl rfl htl rfl (by dsimp only [List.length_cons, List.length_nil]; omega) (by dsimp only [List.length_cons, List.length_nil]; omega) rfl ?_ | fail
      refine ⟨v.l.length - (k + 1), by omega, [(4, .int .i64 ((k + 1 : Nat) : Int)), (3, .slice ((v.l.take (k + 1)).map Val.enc) (.own 0 5)), (1, .ptr 0 0), (2, .ptr 1 0)],
        ⟨rfl, ?_, rfl, rfl, trivial⟩, by simp [-List.map_take, belowS, AV.low, Val.lowL'], by simp [belowB, belowT, Ob.low, Tok.low, AV.low, AV.lowL, Val.lv_low, Val.mv_low], k + 1, rfl, by omega, rfl, rfl⟩
      rw [← take_enc' h1]
      rfl
    · have d1 : decide ((k : Int) < (v.lv.length : Int)) = false := by simp [hll]; omega
      repeat' first
        | refine .seq ?_ | refine .rg ?_ | refine .rd ?_ | refine .block ?_ | refine .scope ?_ | refine .skip ?_ | refine .label ?_ | refine .exit ?_ | refine .ret ?_
        | refine .ct ?_ | refine .cf ?_ | refine .cy ?_ | refine .cn ?_ | (refine .cond rfl ?_ ?_ <;> intro hc)
        | refine A.nil_seq ?_ | refine .nl ?_ | refine .dd ?_ | refine .ys ?_ | refine .no ?_ | (refine A.guard rfl ?_ ?_ <;> intro hc)
        | refine .lb ?_ | refine .ln ?_ | refine .ls ?_ | refine .pv ?_ | refine .ix ?_ | refine .pt ?_ | refine .pf ?_ | refine .bx ?_ | refine .al ?_ | refine .st ?_ | refine .ad ?_ | refine .sb ?_ | refine .mf ?_ | refine .cl ?_ | refine .cw ?_ | refine .ck ?_
        | refine A.len rfl rfl rfl rfl ?_ | refine A.call rfl hm (WeakL.refl _) ?_ | fail
      refine FinR.ret1 rfl (Weak.agg (WeakL.cons (Weak.refl _) (WeakL.cons (Weak.refl _) (WeakL.cons (Weak.refl _) (WeakL.cons (Weak.no (WeakL.eq ?_)) (WeakL.refl _))))))
      rw [List.take_of_length_le (by omega), v.lv_eq]

theorem membersK (l : List Mem) (h : sumSize Mem.size l ≤ 1048576) : PFn Tryz.prog 24 [.slice (l.map Mem.enc) .no] (.slice (l.map Mem.enc) .no) :=
  membersC (sumSize Mem.size l) (fun v hv => copy_aux _ v hv h) l (by have := sumSize_length Mem.size_pos l; omega) (fun x hx => by
    have := sumSize_mem (size := Mem.size) hx
    have h2 : x.size = x.name.length + 2 + x.v.size := rfl
    omega)

end Go.Proofs.YtpidjkihngiaoaaGreatDoor
namespace Go.Proofs.YtpidjkihngiaoaaGreatDoor
open Go Go.Av
set_option maxRecDepth 100000
set_option maxHeartbeats 4000000
set_option linter.unusedVariables false
set_option linter.unusedSimpArgs false
attribute [local irreducible] HCode AOps PFn AFn Av.Step TStep

theorem members1 (N : Nat) (ih : ∀ a b : Val, a.size ≤ N → PFn Tryz.prog 21 [a.enc, b.enc] (.bool (sameV a b))) (a b : List Mem) (ha : a.length ≤ 9223372036854775807) (hs : ∀ x ∈ a, x.v.size ≤ N) :
    PFn Tryz.prog 26 [.slice (a.map Mem.enc) .no, .slice (b.map Mem.enc) .no] (.bool (sameM a b)) := by
  refine AFn.plain rfl (by simp [AV.closedL, AV.closed, Mem.closedL]) (AFn.enter [4] Tryz.func26 rfl rfl rfl rfl rfl (by decide) ?_)
  by_cases hl : a.length = b.length
  · have d0 : ((a.length : Int) != (b.length : Int)) = false := by simp [hl]
    repeat' first
      | refine .seq ?_ | refine .rg ?_ | refine .rd ?_ | refine .block ?_ | refine .scope ?_ | refine .skip ?_ | refine .label ?_ | refine .exit ?_ | refine .ret ?_
      | refine .ct ?_ | refine .cf ?_ | refine .cy ?_ | refine .cn ?_ | (refine .cond rfl ?_ ?_ <;> intro hc)
      | refine A.nil_seq ?_ | refine .nl ?_ | refine .dd ?_ | refine .ys ?_ | refine .no ?_ | (refine A.guard rfl ?_ ?_ <;> intro hc)
      | refine .lb ?_ | refine .ln ?_ | refine .ls ?_ | refine .pv ?_ | refine .ix ?_ | refine .pt ?_ | refine .pf ?_ | refine .bx ?_ | refine .al ?_ | refine .st ?_ | refine .ad ?_ | refine .sb ?_ | refine .mf ?_ | refine .cl ?_ | refine .cw ?_ | refine .ck ?_ | fail
    change HCode _ _ _ _ _ _ _
    refine HCode.loop (fun n s σ => ∃ k : Nat, n = a.length - k ∧ k ≤ a.length ∧ sameM a b = sameM (a.drop k) (b.drop k) ∧ σ = ⟨[], []⟩ ∧
      s = [(5, .int .i64 k), (0, .slice (a.map Mem.enc) .no), (1, .slice (b.map Mem.enc) .no)])
      (s0 := [(5, .int .i64 (0 : Nat)), (0, .slice (a.map Mem.enc) .no), (1, .slice (b.map Mem.enc) .no)])
      ⟨rfl, rfl, rfl, trivial⟩ ⟨0, rfl, Nat.zero_le _, rfl, rfl, rfl⟩ ?_
    rintro n s σ ⟨k, rfl, hk, hp, rfl, rfl⟩
    by_cases h1 : k < a.length
    · have d1 : decide ((k : Int) < (a.length : Int)) = true := by simp [h1]
      have x1 := map_get' (f := Mem.enc) h1
      have h2 : k < b.length := by omega
      have x2 := map_get' (f := Mem.enc) h2
      have hcc := ih a[k].v b[k].v (hs _ (List.getElem_mem h1))
      repeat' first
        | refine .seq ?_ | refine .rg ?_ | refine .rd ?_ | refine .block ?_ | refine .scope ?_ | refine .skip ?_ | refine .label ?_ | refine .exit ?_ | refine .ret ?_
        | refine .ct ?_ | refine .cf ?_ | refine .cy ?_ | refine .cn ?_ | (refine .cond rfl ?_ ?_ <;> intro hc)
        | refine A.nil_seq ?_ | refine .nl ?_ | refine .dd ?_ | refine .ys ?_ | refine .no ?_ | (refine A.guard rfl ?_ ?_ <;> intro hc)
        | refine .lb ?_ | refine .ln ?_ | refine .ls ?_ | refine .pv ?_ | refine .ix ?_ | refine .pt ?_ | refine .pf ?_ | refine .bx ?_ | refine .al ?_ | refine .st ?_ | refine .ad ?_ | refine .sb ?_ | refine .mf ?_ | refine .cl ?_ | refine .cw ?_ | refine .ck ?_
        | refine A.call rfl hcc (WeakL.refl _) ?_ | fail
      all_goals first
        | (refine Fin.ret1 rfl (Weak.eq ?_); rw [hp, sameM_drop h1 h2]; simp_all; done)
        | (refine ⟨a.length - (k + 1), by omega, [(5, .int .i64 ((k + 1 : Nat) : Int)), (0, .slice (a.map Mem.enc) .no), (1, .slice (b.map Mem.enc) .no)],
          ⟨rfl, rfl, rfl, trivial⟩, by simp [belowS, AV.low, Mem.lowL], rfl, k + 1, rfl, by omega, by rw [hp, sameM_drop h1 h2]; simp_all, rfl, rfl⟩; done)
    · have d1 : decide ((k : Int) < (a.length : Int)) = false := by simp; omega
      repeat' first
        | refine .seq ?_ | refine .rg ?_ | refine .rd ?_ | refine .block ?_ | refine .scope ?_ | refine .skip ?_ | refine .label ?_ | refine .exit ?_ | refine .ret ?_
        | refine .ct ?_ | refine .cf ?_ | refine .cy ?_ | refine .cn ?_ | (refine .cond rfl ?_ ?_ <;> intro hc)
        | refine A.nil_seq ?_ | refine .nl ?_ | refine .dd ?_ | refine .ys ?_ | refine .no ?_ | (refine A.guard rfl ?_ ?_ <;> intro hc)
        | refine .lb ?_ | refine .ln ?_ | refine .ls ?_ | refine .pv ?_ | refine .ix ?_ | refine .pt ?_ | refine .pf ?_ | refine .bx ?_ | refine .al ?_ | refine .st ?_ | refine .ad ?_ | refine .sb ?_ | refine .mf ?_ | refine .cl ?_ | refine .cw ?_ | refine .ck ?_ | fail
      refine Fin.ret1 rfl (Weak.eq ?_)
      rw [hp, List.drop_eq_nil_of_le (by omega), List.drop_eq_nil_of_le (by omega), sameM]
  · have d0 : ((a.length : Int) != (b.length : Int)) = true := by simp; omega
    repeat' first
      | refine .seq ?_ | refine .rg ?_ | refine .rd ?_ | refine .block ?_ | refine .scope ?_ | refine .skip ?_ | refine .label ?_ | refine .exit ?_ | refine .ret ?_
      | refine .ct ?_ | refine .cf ?_ | refine .cy ?_ | refine .cn ?_ | (refine .cond rfl ?_ ?_ <;> intro hc)
      | refine A.nil_seq ?_ | refine .nl ?_ | refine .dd ?_ | refine .ys ?_ | refine .no ?_ | (refine A.guard rfl ?_ ?_ <;> intro hc)
      | refine .lb ?_ | refine .ln ?_ | refine .ls ?_ | refine .pv ?_ | refine .ix ?_ | refine .pt ?_ | refine .pf ?_ | refine .bx ?_ | refine .al ?_ | refine .st ?_ | refine .ad ?_ | refine .sb ?_ | refine .mf ?_ | refine .cl ?_ | refine .cw ?_ | refine .ck ?_ | fail
    exact Fin.ret1 rfl (Weak.eq (by rw [sameM_len hl]))

theorem val_lens {g : Gh} {w : World} {v : Val} {u : Value} (h : Rep g w v.enc u) : v.l.length ≤ 9223372036854775807 ∧ v.m.length ≤ 9223372036854775807 := by
  obtain ⟨vs, _, h1, _⟩ := h
  obtain ⟨x, _, h2⟩ := h1.get (i := 3) (c := .slice v.lv .no) rfl
  obtain ⟨y, _, h3⟩ := h1.get (i := 4) (c := .slice v.mv .no) rfl
  have h4 := rep_len h2
  have h5 := rep_len h3
  rw [v.lv_len] at h4
  rw [v.mv_len] at h5
  exact ⟨h4, h5⟩
theorem same1_aux : ∀ (N : Nat) (a b : Val), a.size ≤ N → PFn Tryz.prog 21 [a.enc, b.enc] (.bool (sameV a b))
  | 0, a, b, h => absurd h (by have := a.size_pos; omega)
  | N + 1, a, b, h => PFn.bounded ⟨_, Tryz.func21, rfl, rfl⟩ (by simp [AV.closedL, Val.closed]) (fun g w vs ⟨u, r, _, hu, _⟩ => val_lens hu) fun ⟨la, ma⟩ => by
    have ih := fun a b h => same1_aux N a b h
    have hmem := members1 N ih a.m b.m (by omega) (fun x hx => by
      have h1 := sumSize_mem (size := Mem.size) hx
      have h2 : x.size = x.name.length + 2 + x.v.size := rfl
      have := a.size_eq
      omega)
    rw [← Val.mv_eq, ← Val.mv_eq] at hmem
    refine AFn.plain rfl (by simp [AV.closedL, Val.closed]) (AFn.enter [4] Tryz.func21 rfl rfl rfl rfl rfl (by decide) ?_)
    have hq := sameV_eq a b
    repeat' first
      | refine A.len rfl rfl rfl (by rw [Val.lv_len]) ?_
      | refine .seq ?_ | refine .rg ?_ | refine .rd ?_ | refine .block ?_ | refine .scope ?_ | refine .skip ?_ | refine .label ?_ | refine .exit ?_ | refine .ret ?_
      | refine .ct ?_ | refine .cf ?_ | refine .cy ?_ | refine .cn ?_ | (refine .cond rfl ?_ ?_ <;> intro hc)
      | refine A.nil_seq ?_ | refine .nl ?_ | refine .dd ?_ | refine .ys ?_ | refine .no ?_ | (refine A.guard rfl ?_ ?_ <;> intro hc)
      | refine .lb ?_ | refine .ln ?_ | refine .ls ?_ | refine .pv ?_ | refine .ix ?_ | refine .pt ?_ | refine .pf ?_ | refine .bx ?_ | refine .al ?_ | refine .st ?_ | refine .ad ?_ | refine .sb ?_ | refine .mf ?_ | refine .cl ?_ | refine .cw ?_ | refine .ck ?_ | fail
    all_goals try (refine Fin.ret1 rfl (Weak.eq ?_); rw [hq]; first | (simp_all; done) | (rw [sameL_len (p := a.l) (q := b.l) (by simp at hc; omega)]; simp; done))
    have hll : a.l.length = b.l.length := by simp at hc; omega
    change HCode _ _ _ _ _ _ _
    refine HCode.loop (fun n s σ => ∃ k : Nat, n = a.l.length - k ∧ k ≤ a.l.length ∧ sameL a.l b.l = sameL (a.l.drop k) (b.l.drop k) ∧
      σ = ⟨[.cells [.int .i64 a.kind, .int .i64 a.n, .str a.s, .slice a.lv .no, .slice a.mv .no], .cells [.int .i64 b.kind, .int .i64 b.n, .str b.s, .slice b.lv .no, .slice b.mv .no]], []⟩ ∧
      s = [(5, .int .i64 k), (2, .ptr 0 0), (3, .ptr 1 0)])
      (s0 := [(5, .int .i64 (0 : Nat)), (2, .ptr 0 0), (3, .ptr 1 0)])
      ⟨rfl, rfl, rfl, trivial⟩ ⟨0, rfl, Nat.zero_le _, rfl, rfl, rfl⟩ ?_
    rintro n s σ ⟨k, rfl, hk, hp, rfl, rfl⟩
    by_cases h1 : k < a.l.length
    · have d1 : decide ((k : Int) < (a.l.length : Int)) = true := by simp [h1]
      have x1 := Val.lv_get h1
      have h2 : k < b.l.length := by omega
      have x2 := Val.lv_get h2
      have hcc := ih a.l[k] b.l[k] (by have := Val.size_l h1; omega)
      repeat' first
        | refine A.len rfl rfl rfl (by rw [Val.lv_len]) ?_
        | refine .seq ?_ | refine .rg ?_ | refine .rd ?_ | refine .block ?_ | refine .scope ?_ | refine .skip ?_ | refine .label ?_ | refine .exit ?_ | refine .ret ?_
        | refine .ct ?_ | refine .cf ?_ | refine .cy ?_ | refine .cn ?_ | (refine .cond rfl ?_ ?_ <;> intro hc)
        | refine A.nil_seq ?_ | refine .nl ?_ | refine .dd ?_ | refine .ys ?_ | refine .no ?_ | (refine A.guard rfl ?_ ?_ <;> intro hc)
        | refine .lb ?_ | refine .ln ?_ | refine .ls ?_ | refine .pv ?_ | refine .ix ?_ | refine .pt ?_ | refine .pf ?_ | refine .bx ?_ | refine .al ?_ | refine .st ?_ | refine .ad ?_ | refine .sb ?_ | refine .mf ?_ | refine .cl ?_ | refine .cw ?_ | refine .ck ?_
        | refine A.call rfl hcc (WeakL.refl _) ?_ | fail
      · refine Fin.ret1 rfl (Weak.eq ?_)
        rw [hq, hp, sameL_drop h1 h2]; simp_all
      · refine ⟨a.l.length - (k + 1), by omega, [(5, .int .i64 ((k + 1 : Nat) : Int)), (2, .ptr 0 0), (3, .ptr 1 0)],
          ⟨rfl, rfl, rfl, trivial⟩, by simp [belowS, AV.low], by simp [belowB, belowT, Ob.low, AV.lowL, AV.low, Val.lv_low, Val.mv_low], k + 1, rfl, by omega, by rw [hp, sameL_drop h1 h2]; simp_all, rfl, rfl⟩
    · have d1 : decide ((k : Int) < (a.l.length : Int)) = false := by simp; omega
      repeat' first
        | refine A.len rfl rfl rfl (by rw [Val.lv_len]) ?_
        | refine .seq ?_ | refine .rg ?_ | refine .rd ?_ | refine .block ?_ | refine .scope ?_ | refine .skip ?_ | refine .label ?_ | refine .exit ?_ | refine .ret ?_
        | refine .ct ?_ | refine .cf ?_ | refine .cy ?_ | refine .cn ?_ | (refine .cond rfl ?_ ?_ <;> intro hc)
        | refine A.nil_seq ?_ | refine .nl ?_ | refine .dd ?_ | refine .ys ?_ | refine .no ?_ | (refine A.guard rfl ?_ ?_ <;> intro hc)
        | refine .lb ?_ | refine .ln ?_ | refine .ls ?_ | refine .pv ?_ | refine .ix ?_ | refine .pt ?_ | refine .pf ?_ | refine .bx ?_ | refine .al ?_ | refine .st ?_ | refine .ad ?_ | refine .sb ?_ | refine .mf ?_ | refine .cl ?_ | refine .cw ?_ | refine .ck ?_
        | refine A.call rfl hmem (WeakL.refl _) ?_ | fail
      refine Fin.ret1 rfl (Weak.eq ?_)
      rw [hq, hp, List.drop_eq_nil_of_le (by omega), List.drop_eq_nil_of_le (by omega)]
      rw [show sameL [] [] = true by rw [sameL]]
      simp_all

theorem same1 (a b : Val) (h : a.size ≤ 9223372036854775807) : PFn Tryz.prog 21 [a.enc, b.enc] (.bool (sameV a b)) := same1_aux a.size a b (Nat.le_refl _)
/-- .. of any. -/
theorem sameAny (a b : Val) : PFn Tryz.prog 21 [a.enc, b.enc] (.bool (sameV a b)) := same1_aux a.size a b (Nat.le_refl _)
theorem membersAny (a b : List Mem) : PFn Tryz.prog 26 [.slice (a.map Mem.enc) .no, .slice (b.map Mem.enc) .no] (.bool (sameM a b)) :=
  PFn.bounded ⟨_, Tryz.func26, rfl, rfl⟩ (by simp [AV.closedL, AV.closed, Mem.closedL]) (fun g w vs ⟨u, r, _, hu, _⟩ => by have := rep_len hu; rwa [List.length_map] at this) fun ha =>
    members1 (sumSize Mem.size a) (fun x y _ => sameAny x y) a b ha (fun x hx => by have := sumSize_mem (size := Mem.size) hx; have h2 : x.size = x.name.length + 2 + x.v.size := rfl; omega)
end Go.Proofs.YtpidjkihngiaoaaGreatDoor
namespace Go.Proofs.YtpidjkihngiaoaaGreatDoor
open Go Go.Av
set_option maxRecDepth 100000
set_option maxHeartbeats 16000000
set_option linter.unusedVariables false
set_option linter.unusedSimpArgs false
attribute [local irreducible] HCode AOps PFn AFn Av.Step TStep

theorem reads_vdef : ∀ n : Nat, ReadN Tryz.prog n 95 true Par.enc Par.size Par.ok
  | 0 => ReadN.zero
  | n + 1 => (ReadN.struct Tryz.underlying95 (by kernel_rfl)
      (ReadF.cons (c := 1) rfl (by kernel_rfl) (one_cell fun _ => rfl) (reads_str n)
        (ReadF.cons (c := 3) rfl (by kernel_rfl) (flat_cells fun _ => ⟨_, rfl⟩) (reads_typ n)
          (ReadF.cons (c := 1) rfl (by kernel_rfl) (one_cell fun _ => rfl) (reads_bool' n)
            (ReadF.cons (c := 5) rfl (by kernel_rfl) (flat_cells fun _ => ⟨_, rfl⟩) (reads_val n) ReadF.nil))))).map
      (fun x => (⟨x.1, x.2.1, x.2.2.1, x.2.2.2.1⟩ : Par)) (fun _ => rfl) (fun x => by simp only [Par.size]; omega) (fun x h => h.2.2.2.1)
theorem reads_vdefs : ∀ n : Nat, ReadN Tryz.prog n 39 false (fun l => .slice (l.map Par.enc) .no) (fun l => sumSize Par.size l + 1) (fun l => ∀ x ∈ l, x.ok)
  | 0 => ReadN.zero
  | n + 1 => ReadN.slice Tryz.underlying39 (c := 10) (by kernel_rfl) (by decide) (reads_vdef n)
theorem rVars (s : Sch) (hs : s.size ≤ 1048576) (hok : s.okD) (ps : List Par) (g : List Mem) (hps : sumSize Par.size ps ≤ 1048576) (hpo : ∀ p ∈ ps, p.d.ok) (hg : sumSize Mem.size g ≤ 1048576) (hgo : ∀ m ∈ g, m.v.ok) :
    PFn Tryz.prog 25 [s.enc, .slice (ps.map Par.enc) .no, .slice (g.map Mem.enc) .no] (.tup [.slice ((varsC s ps g).1.map Mem.enc) .no, .int .i64 (varsC s ps g).2]) := by
  have hpl := sumSize_length Par.size_pos ps
  have hgl := sumSize_length Mem.size_pos g
  refine AFn.plain (by simp [AV.closed, AV.closedL, Mem.closedL]) (by simp [AV.closed, AV.closedL, Sch.closed, Par.closedL, Mem.closedL]) (AFn.enter [6, 7] Tryz.func25 rfl rfl rfl rfl rfl (by decide) ?_)
  unfold varsC
  rw [memsMk_F]
  have hG : ∀ p ∈ ps, PFn Tryz.prog 60 [s.enc, p.t.enc, (getG p.name g).1.enc, .bool (getG p.name g).2, .bool p.has, p.d.enc, .bool false, .slice (List.map Mem.enc []) .no] (M3.enc (fix3 (memMk s false false [] (dflAll s) (mkM s false [] (dflLeaf s) g) p))) := fun p hp => by
    have h1 := sumSize_mem (size := Par.size) hp
    have h2 := p.lens
    refine rGiven s false false p.has [] g (dflLeaf s) (dflAll s) p (by decide) (by omega) (by omega) (by simp) (fun h => by cases h) (fun _ x hx => ?_) (fun _ _ => ?_)
    · have h3 := sumSize_mem (size := Mem.size) hx
      have h4 : x.size = x.name.length + 2 + x.v.size := rfl
      exact rInputAll s hs hok x.v p.t (by omega) (hgo x hx) (by omega)
    · exact rLiteralAll s hs hok [] (by decide) p.d p.t (by omega) (hpo p hp) (by omega)
  generalize memMk s false false [] (dflAll s) (mkM s false [] (dflLeaf s) g) = R at hG
  repeat' first
    | refine .br ?_
    | refine .seq ?_ | refine .rg ?_ | refine .rd ?_ | refine .block ?_ | refine .scope ?_ | refine .skip ?_ | refine .label ?_ | refine .exit ?_ | refine .ret ?_
    | refine .ct ?_ | refine .cf ?_ | refine .cy ?_ | refine .cn ?_ | (refine .cond rfl ?_ ?_ <;> intro hc)
    | refine A.nil_seq ?_ | refine .nl ?_ | refine .dd ?_ | refine .ys ?_ | refine .no ?_ | (refine A.guard rfl ?_ ?_ <;> intro hc)
    | refine .lb ?_ | refine .ln ?_ | refine .ls ?_ | refine .pv ?_ | refine .ix ?_ | refine .pt ?_ | refine .pf ?_ | refine .bx ?_ | refine .al ?_ | refine .st ?_ | refine .ad ?_ | refine .sb ?_ | refine .mf ?_ | refine .cl ?_ | refine .cw ?_ | refine .ck ?_ | fail
  refine HCode.adopt 8 true 6 rfl rfl rfl rfl rfl rfl ?_
  refine HCode.forK ps.length (fun k => [(9, .int .i64 k), (1, .slice (ps.map Par.enc) .no), (2, .slice (g.map Mem.enc) .no), (3, .rptr s.enc), (8, .slice ((memsA R (ps.take k)).map Mem.enc) (.own 0 6))])
    (fun k => ⟨[], [.len (memsA R (ps.take k)).length]⟩) (memsJ R ps) ⟨rfl, rfl, rfl, rfl, rfl, trivial⟩ rfl (memsJ_zero R ps) fun k hk hj2 => ?_
  by_cases h2 : k < ps.length
  · have d2 : decide ((k : Int) < (ps.length : Int)) = true := by simp [h2]
    have x2 := map_get' (f := Par.enc) h2
    have hgt := rGetV ps[k].name g (by omega)
    have hgv := hG ps[k] (List.getElem_mem h2)
    have je := memsJ_err h2 hj2
    have jn := memsJ_next h2 hj2
    have hla := memsA_len R (ps.take k)
    rw [List.length_take] at hla
    have htk : memsA R (ps.take (k + 1)) = memsA R (ps.take k) ++ (if (R ps[k]).2.1 = true then [.mk ps[k].name (R ps[k]).1] else []) := by
      rw [List.take_succ_eq_append_getElem h2, memsA_app, memsA, memsA, List.append_nil]
    generalize R ps[k] = r at hgv je jn htk
    obtain ⟨rv, rb, re⟩ := r
    unfold M3.enc fix3 at hgv
    simp only at hgv je jn htk
    generalize getG ps[k].name g = gv at hgt hgv
    have wk : ∀ (a b c d e f h : AV) (t : Tk), WeakL [a, b, c, d, e, f, h, .slice [] t] [a, b, c, d, e, f, h, .slice (List.map Mem.enc []) .no] := fun a b c d e f h t => WeakL.cons (Weak.refl _) (WeakL.cons (Weak.refl _) (WeakL.cons (Weak.refl _) (WeakL.cons (Weak.refl _) (WeakL.cons (Weak.refl _) (WeakL.cons (Weak.refl _) (WeakL.cons (Weak.refl _) (WeakL.cons (Weak.no (WeakL.refl _)) (WeakL.refl _))))))))
    by_cases er : re = 0
    · subst er
      have jn' := jn rfl
      simp only [decide_true, Bool.and_true] at hgv
      cases rb with
      | true =>
        rw [if_pos rfl] at htk
        repeat' first
          | refine A.allocv (d := 10) rfl rfl rfl rfl rfl ?_ | refine HCode.turn 10 rfl (Turn.freezeP rfl rfl rfl rfl) ?_
          | refine .seq ?_ | refine .rg ?_ | refine .rd ?_ | refine .block ?_ | refine .scope ?_ | refine .skip ?_ | refine .label ?_ | refine .exit ?_ | refine .ret ?_
          | refine .ct ?_ | refine .cf ?_ | refine .cy ?_ | refine .cn ?_ | (refine .cond rfl ?_ ?_ <;> intro hc)
          | refine A.nil_seq ?_ | refine .nl ?_ | refine .dd ?_ | refine .ys ?_ | refine .no ?_ | (refine A.guard rfl ?_ ?_ <;> intro hc)
          | refine .lb ?_ | refine .ln ?_ | refine .ls ?_ | refine .pv ?_ | refine .ix ?_ | refine .pt ?_ | refine .pf ?_ | refine .bx ?_ | refine .al ?_ | refine .st ?_ | refine .ad ?_ | refine .sb ?_ | refine .mf ?_ | refine .cl ?_ | refine .cw ?_ | refine .ck ?_
          | refine A.vstore (agg := true) rfl rfl rfl rfl rfl rfl rfl rfl rfl rfl rfl ?_ | refine A.call rfl hgv (wk _ _ _ _ _ _ _ _) ?_ | refine A.append (n := (memsA R (ps.take k)).length) rfl rfl rfl rfl rfl rfl rfl rfl (List.length_map ..) rfl (by dsimp only [List.length_cons, List.length_nil]; omega) (by dsimp only [List.length_cons, List.length_nil]; omega) rfl ?_ | fail
        exact ⟨h2, ⟨rfl, rfl, rfl, rfl, by rw [htk, List.map_append]; rfl, trivial⟩, by simp [belowS, AV.low], by simp [belowB, belowT, Ob.low, Tok.low, AV.lowL, AV.low], by rw [htk, List.length_append]; rfl, jn'⟩
      | false =>
        rw [if_neg (by decide), List.append_nil] at htk
        repeat' first
          | refine A.allocv (d := 10) rfl rfl rfl rfl rfl ?_ | refine HCode.turn 10 rfl (Turn.freezeP rfl rfl rfl rfl) ?_
          | refine .seq ?_ | refine .rg ?_ | refine .rd ?_ | refine .block ?_ | refine .scope ?_ | refine .skip ?_ | refine .label ?_ | refine .exit ?_ | refine .ret ?_
          | refine .ct ?_ | refine .cf ?_ | refine .cy ?_ | refine .cn ?_ | (refine .cond rfl ?_ ?_ <;> intro hc)
          | refine A.nil_seq ?_ | refine .nl ?_ | refine .dd ?_ | refine .ys ?_ | refine .no ?_ | (refine A.guard rfl ?_ ?_ <;> intro hc)
          | refine .lb ?_ | refine .ln ?_ | refine .ls ?_ | refine .pv ?_ | refine .ix ?_ | refine .pt ?_ | refine .pf ?_ | refine .bx ?_ | refine .al ?_ | refine .st ?_ | refine .ad ?_ | refine .sb ?_ | refine .mf ?_ | refine .cl ?_ | refine .cw ?_ | refine .ck ?_
          | refine A.vstore (agg := true) rfl rfl rfl rfl rfl rfl rfl rfl rfl rfl rfl ?_ | refine A.call rfl hgv (wk _ _ _ _ _ _ _ _) ?_ | fail
        exact ⟨h2, ⟨rfl, rfl, rfl, rfl, by rw [htk]; rfl, trivial⟩, by simp [belowS, AV.low], by simp [belowB, belowT, Ob.low, Tok.low, AV.lowL, AV.low], by rw [htk]; rfl, jn'⟩
    · have er' : (re != 0) = true := by simpa using er
      rw [je er]
      repeat' first
        | refine A.allocv (d := 10) rfl rfl rfl rfl rfl ?_ | refine HCode.turn 10 rfl (Turn.freezeP rfl rfl rfl rfl) ?_
        | refine .seq ?_ | refine .rg ?_ | refine .rd ?_ | refine .block ?_ | refine .scope ?_ | refine .skip ?_ | refine .label ?_ | refine .exit ?_ | refine .ret ?_
        | refine .ct ?_ | refine .cf ?_ | refine .cy ?_ | refine .cn ?_ | (refine .cond rfl ?_ ?_ <;> intro hc)
        | refine A.nil_seq ?_ | refine .nl ?_ | refine .dd ?_ | refine .ys ?_ | refine .no ?_ | (refine A.guard rfl ?_ ?_ <;> intro hc)
        | refine .lb ?_ | refine .ln ?_ | refine .ls ?_ | refine .pv ?_ | refine .ix ?_ | refine .pt ?_ | refine .pf ?_ | refine .bx ?_ | refine .al ?_ | refine .st ?_ | refine .ad ?_ | refine .sb ?_ | refine .mf ?_ | refine .cl ?_ | refine .cw ?_ | refine .ck ?_
        | refine A.vstore (agg := true) rfl rfl rfl rfl rfl rfl rfl rfl rfl rfl rfl ?_ | refine A.call rfl hgv (wk _ _ _ _ _ _ _ _) ?_ | fail
      exact Fin.ret2C rfl rfl (Weak.tup (WeakL.cons (Weak.no (WeakL.refl _)) (WeakL.refl _)))
  · have d2 : decide ((k : Int) < (ps.length : Int)) = false := by simp; omega
    obtain rfl : k = ps.length := by omega
    rw [memsJ_end hj2]
    repeat' first
      | refine .seq ?_ | refine .rg ?_ | refine .rd ?_ | refine .block ?_ | refine .scope ?_ | refine .skip ?_ | refine .label ?_ | refine .exit ?_ | refine .ret ?_
      | refine .ct ?_ | refine .cf ?_ | refine .cy ?_ | refine .cn ?_ | (refine .cond rfl ?_ ?_ <;> intro hc)
      | refine A.nil_seq ?_ | refine .nl ?_ | refine .dd ?_ | refine .ys ?_ | refine .no ?_ | (refine A.guard rfl ?_ ?_ <;> intro hc)
      | refine .lb ?_ | refine .ln ?_ | refine .ls ?_ | refine .pv ?_ | refine .ix ?_ | refine .pt ?_ | refine .pf ?_ | refine .bx ?_ | refine .al ?_ | refine .st ?_ | refine .ad ?_ | refine .sb ?_ | refine .mf ?_ | refine .cl ?_ | refine .cw ?_ | refine .ck ?_ | fail
    refine Fin.ret2C rfl rfl (Weak.tup (WeakL.cons (Weak.no (WeakL.eq ?_)) (WeakL.refl _)))
    rw [List.take_length]

theorem l7lightDirs : PFn Tryz.prog 56 [.slice [] .no] (.int .i64 0) := by
  refine AFn.plain rfl rfl (AFn.enter [2] Tryz.func56 rfl rfl rfl rfl rfl (by decide) ?_)
  repeat' first
    | refine .seq ?_ | refine .rg ?_ | refine .rd ?_ | refine .block ?_ | refine .scope ?_ | refine .skip ?_ | refine .label ?_ | refine .exit ?_ | refine .ret ?_
    | refine .ct ?_ | refine .cf ?_ | refine .cy ?_ | refine .cn ?_ | (refine .cond rfl ?_ ?_ <;> intro hc)
    | refine A.nil_seq ?_ | refine .nl ?_ | refine .dd ?_ | refine .ys ?_ | refine .no ?_ | (refine A.guard rfl ?_ ?_ <;> intro hc)
    | refine .lb ?_ | refine .ln ?_ | refine .ls ?_ | refine .pv ?_ | refine .ix ?_ | refine .pt ?_ | refine .pf ?_ | refine .bx ?_ | refine .al ?_ | refine .st ?_ | refine .ad ?_ | refine .sb ?_ | refine .mf ?_ | refine .cl ?_ | refine .cw ?_ | refine .ck ?_ | fail
  refine HCode.forK 0 (fun k => [(4, .int .i64 k), (3, .int .i64 0), (0, .slice [] .no)]) (fun _ => ⟨[], []⟩) (fun _ => True) ⟨rfl, rfl, rfl, trivial⟩ rfl trivial fun k hk _ => ?_
  obtain rfl : k = 0 := by omega
  repeat' first
    | refine .seq ?_ | refine .rg ?_ | refine .rd ?_ | refine .block ?_ | refine .scope ?_ | refine .skip ?_ | refine .label ?_ | refine .exit ?_ | refine .ret ?_
    | refine .ct ?_ | refine .cf ?_ | refine .cy ?_ | refine .cn ?_ | (refine .cond rfl ?_ ?_ <;> intro hc)
    | refine A.nil_seq ?_ | refine .nl ?_ | refine .dd ?_ | refine .ys ?_ | refine .no ?_ | (refine A.guard rfl ?_ ?_ <;> intro hc)
    | refine .lb ?_ | refine .ln ?_ | refine .ls ?_ | refine .pv ?_ | refine .ix ?_ | refine .pt ?_ | refine .pf ?_ | refine .bx ?_ | refine .al ?_ | refine .st ?_ | refine .ad ?_ | refine .sb ?_ | refine .mf ?_ | refine .cl ?_ | refine .cw ?_ | refine .ck ?_ | fail
  exact Fin.ret1 rfl (Weak.refl _)
theorem l7lightSels : PFn Tryz.prog 57 [.slice [] .no] (.int .i64 0) := by
  refine AFn.plain rfl rfl (AFn.enter [2] Tryz.func57 rfl rfl rfl rfl rfl (by decide) ?_)
  repeat' first
    | refine .seq ?_ | refine .rg ?_ | refine .rd ?_ | refine .block ?_ | refine .scope ?_ | refine .skip ?_ | refine .label ?_ | refine .exit ?_ | refine .ret ?_
    | refine .ct ?_ | refine .cf ?_ | refine .cy ?_ | refine .cn ?_ | (refine .cond rfl ?_ ?_ <;> intro hc)
    | refine A.nil_seq ?_ | refine .nl ?_ | refine .dd ?_ | refine .ys ?_ | refine .no ?_ | (refine A.guard rfl ?_ ?_ <;> intro hc)
    | refine .lb ?_ | refine .ln ?_ | refine .ls ?_ | refine .pv ?_ | refine .ix ?_ | refine .pt ?_ | refine .pf ?_ | refine .bx ?_ | refine .al ?_ | refine .st ?_ | refine .ad ?_ | refine .sb ?_ | refine .mf ?_ | refine .cl ?_ | refine .cw ?_ | refine .ck ?_ | fail
  refine HCode.forK 0 (fun k => [(4, .int .i64 k), (3, .int .i64 0), (0, .slice [] .no)]) (fun _ => ⟨[], []⟩) (fun _ => True) ⟨rfl, rfl, rfl, trivial⟩ rfl trivial fun k hk _ => ?_
  obtain rfl : k = 0 := by omega
  repeat' first
    | refine .seq ?_ | refine .rg ?_ | refine .rd ?_ | refine .block ?_ | refine .scope ?_ | refine .skip ?_ | refine .label ?_ | refine .exit ?_ | refine .ret ?_
    | refine .ct ?_ | refine .cf ?_ | refine .cy ?_ | refine .cn ?_ | (refine .cond rfl ?_ ?_ <;> intro hc)
    | refine A.nil_seq ?_ | refine .nl ?_ | refine .dd ?_ | refine .ys ?_ | refine .no ?_ | (refine A.guard rfl ?_ ?_ <;> intro hc)
    | refine .lb ?_ | refine .ln ?_ | refine .ls ?_ | refine .pv ?_ | refine .ix ?_ | refine .pt ?_ | refine .pf ?_ | refine .bx ?_ | refine .al ?_ | refine .st ?_ | refine .ad ?_ | refine .sb ?_ | refine .mf ?_ | refine .cl ?_ | refine .cw ?_ | refine .ck ?_ | fail
  exact Fin.ret1 rfl (Weak.refl _)
/-- A document of nothing but variables. -/
def opE (ps : List Par) : AV := .agg [.int .i64 0, .str [], .slice (ps.map Par.enc) .no, .slice [] .no, .slice [] .no]
def docE (ps : List Par) : AV := .agg [.slice [opE ps] .no, .slice [] .no]
theorem docE_closed (ps : List Par) : (docE ps).closed = true := by simp [docE, opE, AV.closed, AV.closedL, Par.closedL]
theorem weak_docE {ps : List Par} {t0 t1 t2 t3 t4 : Tk} : Weak (.agg [.slice [.agg [.int .i64 0, .str [], .slice (ps.map Par.enc) t1, .slice [] t2, .slice [] t3]] t0, .slice [] t4]) (docE ps) := by
  refine Weak.agg (WeakL.cons (Weak.no (WeakL.cons ?_ (WeakL.refl _))) (WeakL.cons (Weak.no (WeakL.refl _)) (WeakL.refl _)))
  exact Weak.agg (WeakL.cons (Weak.refl _) (WeakL.cons (Weak.refl _) (WeakL.cons (Weak.no (WeakL.refl _)) (WeakL.cons (Weak.no (WeakL.refl _)) (WeakL.cons (Weak.no (WeakL.refl _)) (WeakL.refl _))))))
theorem l7Light (ps : List Par) (h : sumSize Par.size ps ≤ 2097152) : PFn Tryz.prog 22 [docE ps] (.bool (decide (((1 : Int) + ltPars ps) ≤ 3200))) := by
  have hl := sumSize_length Par.size_pos ps
  have hle := ltPars_le ps
  have hd := l7lightDirs
  have hs := l7lightSels
  refine AFn.plain rfl (by simp [AV.closedL, docE_closed]) (AFn.enter [2] Tryz.func22 rfl rfl rfl rfl rfl (by decide) ?_)
  repeat' first
    | refine .br ?_
    | refine .seq ?_ | refine .rg ?_ | refine .rd ?_ | refine .block ?_ | refine .scope ?_ | refine .skip ?_ | refine .label ?_ | refine .exit ?_ | refine .ret ?_
    | refine .ct ?_ | refine .cf ?_ | refine .cy ?_ | refine .cn ?_ | (refine .cond rfl ?_ ?_ <;> intro hc)
    | refine A.nil_seq ?_ | refine .nl ?_ | refine .dd ?_ | refine .ys ?_ | refine .no ?_ | (refine A.guard rfl ?_ ?_ <;> intro hc)
    | refine .lb ?_ | refine .ln ?_ | refine .ls ?_ | refine .pv ?_ | refine .ix ?_ | refine .pt ?_ | refine .pf ?_ | refine .bx ?_ | refine .al ?_ | refine .st ?_ | refine .ad ?_ | refine .sb ?_ | refine .mf ?_ | refine .cl ?_ | refine .cw ?_ | refine .ck ?_ | fail
  refine HCode.forK 1 (fun k => [(4, .int .i64 k), (3, .int .i64 (if k = 0 then 0 else (1 : Int) + ltPars ps)), (1, .rptr (docE ps))]) (fun _ => ⟨[], []⟩) (fun _ => True) ⟨rfl, rfl, rfl, trivial⟩ rfl trivial fun k hk _ => ?_
  by_cases h1 : k < 1
  · obtain rfl : k = 0 := by omega
    have x1 : [opE ps][0]? = some (opE ps) := rfl
    rw [if_pos rfl]
    repeat' first
      | refine .seq ?_ | refine .rg ?_ | refine .rd ?_ | refine .block ?_ | refine .scope ?_ | refine .skip ?_ | refine .label ?_ | refine .exit ?_ | refine .ret ?_
      | refine .ct ?_ | refine .cf ?_ | refine .cy ?_ | refine .cn ?_ | (refine .cond rfl ?_ ?_ <;> intro hc)
      | refine A.nil_seq ?_ | refine .nl ?_ | refine .dd ?_ | refine .ys ?_ | refine .no ?_ | (refine A.guard rfl ?_ ?_ <;> intro hc)
      | refine .lb ?_ | refine .ln ?_ | refine .ls ?_ | refine .pv ?_ | refine .ix ?_ | refine .pt ?_ | refine .pf ?_ | refine .bx ?_ | refine .al ?_ | refine .st ?_ | refine .ad ?_ | refine .sb ?_ | refine .mf ?_ | refine .cl ?_ | refine .cw ?_ | refine .ck ?_
      | refine A.add64 rfl rfl rfl (by simp) ?_ | fail
    refine HCode.forK ps.length (fun j => [(5, .int .i64 j), (3, .int .i64 ((1 : Int) + ltPars (ps.take j))), (1, .rptr (docE ps)), (4, .int .i64 (0 : Nat))]) (fun _ => ⟨[], []⟩) (fun _ => True) ⟨rfl, congrArg (AV.int .i64) (by simp [ltPars, sumSize]), rfl, rfl, trivial⟩ rfl trivial fun j hj _ => ?_
    by_cases h2 : j < ps.length
    · have d2 : decide ((j : Int) < (ps.length : Int)) = true := by simp [h2]
      have x2 := map_get' (f := Par.enc) h2
      have hz := kSize' ps[j].d (by have := sumSize_mem (size := Par.size) (List.getElem_mem h2); have := ps[j].lens; omega)
      have hft : ltPars (ps.take (j + 1)) = ltPars (ps.take j) + (1 + ps[j].name.length + szV ps[j].d) := sum_take h2
      have hfm : ltPars (ps.take (j + 1)) ≤ ltPars ps := sum_mono _ _ (j + 1)
      repeat' first
        | refine .seq ?_ | refine .rg ?_ | refine .rd ?_ | refine .block ?_ | refine .scope ?_ | refine .skip ?_ | refine .label ?_ | refine .exit ?_ | refine .ret ?_
        | refine .ct ?_ | refine .cf ?_ | refine .cy ?_ | refine .cn ?_ | (refine .cond rfl ?_ ?_ <;> intro hc)
        | refine A.nil_seq ?_ | refine .nl ?_ | refine .dd ?_ | refine .ys ?_ | refine .no ?_ | (refine A.guard rfl ?_ ?_ <;> intro hc)
        | refine .lb ?_ | refine .ln ?_ | refine .ls ?_ | refine .pv ?_ | refine .ix ?_ | refine .pt ?_ | refine .pf ?_ | refine .bx ?_ | refine .al ?_ | refine .st ?_ | refine .ad ?_ | refine .sb ?_ | refine .mf ?_ | refine .cl ?_ | refine .cw ?_ | refine .ck ?_ | fail
      exact ⟨h2, ⟨rfl, congrArg (AV.int .i64) (by rw [hft]; omega), rfl, rfl, trivial⟩, by simp [belowS, AV.low, AV.low_of_closed, docE_closed], rfl, rfl, trivial⟩
    · have d2 : decide ((j : Int) < (ps.length : Int)) = false := by simp; omega
      obtain rfl : j = ps.length := by omega
      rw [List.take_length]
      repeat' first
        | refine .seq ?_ | refine .rg ?_ | refine .rd ?_ | refine .block ?_ | refine .scope ?_ | refine .skip ?_ | refine .label ?_ | refine .exit ?_ | refine .ret ?_
        | refine .ct ?_ | refine .cf ?_ | refine .cy ?_ | refine .cn ?_ | (refine .cond rfl ?_ ?_ <;> intro hc)
        | refine A.nil_seq ?_ | refine .nl ?_ | refine .dd ?_ | refine .ys ?_ | refine .no ?_ | (refine A.guard rfl ?_ ?_ <;> intro hc)
        | refine .lb ?_ | refine .ln ?_ | refine .ls ?_ | refine .pv ?_ | refine .ix ?_ | refine .pt ?_ | refine .pf ?_ | refine .bx ?_ | refine .al ?_ | refine .st ?_ | refine .ad ?_ | refine .sb ?_ | refine .mf ?_ | refine .cl ?_ | refine .cw ?_ | refine .ck ?_ | fail
      exact ⟨h1, ⟨rfl, rfl, rfl, trivial⟩, by simp [belowS, AV.low, AV.low_of_closed, docE_closed], rfl, rfl, trivial⟩
  · obtain rfl : k = 1 := by omega
    rw [if_neg (by decide)]
    repeat' first
      | refine .seq ?_ | refine .rg ?_ | refine .rd ?_ | refine .block ?_ | refine .scope ?_ | refine .skip ?_ | refine .label ?_ | refine .exit ?_ | refine .ret ?_
      | refine .ct ?_ | refine .cf ?_ | refine .cy ?_ | refine .cn ?_ | (refine .cond rfl ?_ ?_ <;> intro hc)
      | refine A.nil_seq ?_ | refine .nl ?_ | refine .dd ?_ | refine .ys ?_ | refine .no ?_ | (refine A.guard rfl ?_ ?_ <;> intro hc)
      | refine .lb ?_ | refine .ln ?_ | refine .ls ?_ | refine .pv ?_ | refine .ix ?_ | refine .pt ?_ | refine .pf ?_ | refine .bx ?_ | refine .al ?_ | refine .st ?_ | refine .ad ?_ | refine .sb ?_ | refine .mf ?_ | refine .cl ?_ | refine .cw ?_ | refine .ck ?_ | fail
    refine HCode.forK 0 (fun j => [(6, .int .i64 j), (3, .int .i64 ((1 : Int) + ltPars ps)), (1, .rptr (docE ps))]) (fun _ => ⟨[], []⟩) (fun _ => True) ⟨rfl, rfl, rfl, trivial⟩ rfl trivial fun j hj _ => ?_
    obtain rfl : j = 0 := by omega
    repeat' first
      | refine .seq ?_ | refine .rg ?_ | refine .rd ?_ | refine .block ?_ | refine .scope ?_ | refine .skip ?_ | refine .label ?_ | refine .exit ?_ | refine .ret ?_
      | refine .ct ?_ | refine .cf ?_ | refine .cy ?_ | refine .cn ?_ | (refine .cond rfl ?_ ?_ <;> intro hc)
      | refine A.nil_seq ?_ | refine .nl ?_ | refine .dd ?_ | refine .ys ?_ | refine .no ?_ | (refine A.guard rfl ?_ ?_ <;> intro hc)
      | refine .lb ?_ | refine .ln ?_ | refine .ls ?_ | refine .pv ?_ | refine .ix ?_ | refine .pt ?_ | refine .pf ?_ | refine .bx ?_ | refine .al ?_ | refine .st ?_ | refine .ad ?_ | refine .sb ?_ | refine .mf ?_ | refine .cl ?_ | refine .cw ?_ | refine .ck ?_ | fail
    exact Fin.ret1 rfl (Weak.refl _)
theorem coerceVars (s : Sch) (ps : List Par) (g : List Mem) (h : s.size + sumSize Par.size ps + sumSize Mem.size g ≤ 1048576) (hok : s.okD) (hpo : ∀ p ∈ ps, p.d.ok) (hgo : ∀ m ∈ g, m.v.ok) : PFn Tryz.prog 4 [s.enc, .slice (ps.map Par.enc) .no, .slice (g.map Mem.enc) .no] (.bool true) := by
  have hL := light23 s val0 g (by omega) (by decide +kernel) (by omega)
  have hL7 := l7Light ps (by omega)
  have hw := awake23
  have hpl := sumSize_length Par.size_pos ps
  have hk := membersK g (by omega)
  have q1 := coeVars s (by omega) hok ps g (by omega) hpo (by omega) hgo
  have q2 := rVars s (by omega) hok ps g (by omega) hpo (by omega) hgo
  generalize varsC s ps g = r at q1 q2
  have hs1 := membersAny r.1 r.1
  rw [sameM_refl0] at hs1
  have ee : (r.2 == r.2) = true := by simp
  have hlm : (ps.map Par.enc).length = ps.length := List.length_map ..
  refine AFn.plain rfl (by simp [AV.closed, AV.closedL, Sch.closed, Par.closedL, Mem.closedL]) (AFn.enter [6] Tryz.func4 rfl rfl rfl rfl rfl (by decide) ?_)
  cases c1 : light23B s val0 g <;> rw [c1] at hL
  · repeat' first
      | refine .br ?_
      | refine .seq ?_ | refine .rg ?_ | refine .rd ?_ | refine .block ?_ | refine .scope ?_ | refine .skip ?_ | refine .label ?_ | refine .exit ?_ | refine .ret ?_
      | refine .ct ?_ | refine .cf ?_ | refine .cy ?_ | refine .cn ?_ | (refine .cond rfl ?_ ?_ <;> intro hc)
      | refine A.nil_seq ?_ | refine .nl ?_ | refine .dd ?_ | refine .ys ?_ | refine .no ?_ | (refine A.guard rfl ?_ ?_ <;> intro hc)
      | refine .lb ?_ | refine .ln ?_ | refine .ls ?_ | refine .pv ?_ | refine .ix ?_ | refine .pt ?_ | refine .pf ?_ | refine .bx ?_ | refine .al ?_ | refine .st ?_ | refine .ad ?_ | refine .sb ?_ | refine .mf ?_ | refine .cl ?_ | refine .cw ?_ | refine .ck ?_
      | refine A.call rfl hL (WeakL.cons (Weak.refl _) (WeakL.cons weak_flatV (WeakL.refl _))) ?_ | fail
    exact Fin.ret1 rfl (Weak.refl _)
  cases c2 : decide (((1 : Int) + ltPars ps) ≤ 3200) <;> rw [c2] at hL7
  · repeat' first
      | refine .br ?_
      | refine .seq ?_ | refine .rg ?_ | refine .rd ?_ | refine .block ?_ | refine .scope ?_ | refine .skip ?_ | refine .label ?_ | refine .exit ?_ | refine .ret ?_
      | refine .ct ?_ | refine .cf ?_ | refine .cy ?_ | refine .cn ?_ | (refine .cond rfl ?_ ?_ <;> intro hc)
      | refine A.nil_seq ?_ | refine .nl ?_ | refine .dd ?_ | refine .ys ?_ | refine .no ?_ | (refine A.guard rfl ?_ ?_ <;> intro hc)
      | refine .lb ?_ | refine .ln ?_ | refine .ls ?_ | refine .pv ?_ | refine .ix ?_ | refine .pt ?_ | refine .pf ?_ | refine .bx ?_ | refine .al ?_ | refine .st ?_ | refine .ad ?_ | refine .sb ?_ | refine .mf ?_ | refine .cl ?_ | refine .cw ?_ | refine .ck ?_
      | refine A.call rfl hL (WeakL.cons (Weak.refl _) (WeakL.cons weak_flatV (WeakL.refl _))) ?_ | refine A.call rfl hL7 (WeakL.cons weak_docE (WeakL.refl _)) ?_ | fail
    exact Fin.ret1 rfl (Weak.refl _)
  · repeat' first
      | refine .br ?_
      | refine .seq ?_ | refine .rg ?_ | refine .rd ?_ | refine .block ?_ | refine .scope ?_ | refine .skip ?_ | refine .label ?_ | refine .exit ?_ | refine .ret ?_
      | refine .ct ?_ | refine .cf ?_ | refine .cy ?_ | refine .cn ?_ | (refine .cond rfl ?_ ?_ <;> intro hc)
      | refine A.nil_seq ?_ | refine .nl ?_ | refine .dd ?_ | refine .ys ?_ | refine .no ?_ | (refine A.guard rfl ?_ ?_ <;> intro hc)
      | refine .lb ?_ | refine .ln ?_ | refine .ls ?_ | refine .pv ?_ | refine .ix ?_ | refine .pt ?_ | refine .pf ?_ | refine .bx ?_ | refine .al ?_ | refine .st ?_ | refine .ad ?_ | refine .sb ?_ | refine .mf ?_ | refine .cl ?_ | refine .cw ?_ | refine .ck ?_
      | refine A.call rfl hL (WeakL.cons (Weak.refl _) (WeakL.cons weak_flatV (WeakL.refl _))) ?_ | refine A.call rfl hL7 (WeakL.cons weak_docE (WeakL.refl _)) ?_ | refine A.append_new (n := 0) rfl rfl rfl rfl rfl rfl rfl rfl rfl rfl (Par.fitsAll ps) (by dsimp only; omega) (by omega) rfl ?_ | fail
    exact Fin.ret1 rfl (Weak.refl _)
end Go.Proofs.YtpidjkihngiaoaaGreatDoor
