/-
  The statements' helpers: Size, Light, copies.
  The statements' helpers: copies all the way down.
  How large tables are; what that bound gives.
  The laws CommandSays, CommandRefused: the functions.
-/
import Derived.Test.YtijlmchfepjjkaaDoorGCommandMays3
namespace Go.Proofs.YtijlmchfepjjkaaDoor
open Go Go.Av
set_option maxRecDepth 100000
set_option maxHeartbeats 8000000
set_option linter.unusedVariables false
set_option linter.unusedSimpArgs false
attribute [local irreducible] HCode AOps PFn AFn Av.Step TStep

def w64 (n : Int) : Int := IntKind.i64.wrap n
mutual
/-- Size of the parts of a value, as the helper counts. -/
def szV : Val → Int
  | .mk _ _ s l m => szM m (szL l (w64 (1 + s.length)))
def szL : List Val → Int → Int
  | [], n => n
  | v :: l, n => szL l (w64 (n + szV v))
def szM : List Mem → Int → Int
  | [], n => n
  | .mk name v :: l, n => szM l (w64 (w64 (n + name.length) + szV v))
end
theorem szL_drop {l : List Val} {k : Nat} (h : k < l.length) (n : Int) : szL (l.drop k) n = szL (l.drop (k + 1)) (w64 (n + szV l[k])) := by
  rw [List.drop_eq_getElem_cons h, szL]
theorem szM_drop {l : List Mem} {k : Nat} (h : k < l.length) (n : Int) : szM (l.drop k) n = szM (l.drop (k + 1)) (w64 (w64 (n + l[k].name.length) + szV l[k].v)) := by
  rw [List.drop_eq_getElem_cons h]
  cases l[k]
  rw [szM]; rfl
theorem szV_eq (v : Val) : szV v = szM v.m (szL v.l (w64 (1 + v.s.length))) := by cases v; rw [szV]; rfl
theorem lvG {v : Val} {k : Nat} (h : k < v.l.length) : v.lv[k]? = some v.l[k].enc := Val.lv_get h

theorem size_aux : ∀ (N : Nat) (v : Val), v.size ≤ N → N ≤ 9223372036854775807 → PFn Tryd.prog 15 [v.enc] (.int .i64 (szV v))
  | 0, v, h, _ => by have := v.size_pos; omega
  | N + 1, v, h, hN => by
    have ih := fun (x : Val) (hx : x.size ≤ N) => size_aux N x hx (by omega)
    refine AFn.plain rfl (by simp [AV.closedL, Val.closed]) (AFn.enter [2] Tryd.func15 rfl rfl rfl rfl rfl (by decide) ?_)
    have la := v.l_len
    have ma := v.m_len
    repeat' first
      | refine A.box_r rfl rfl ?_
      | refine .seq ?_ | refine .rg ?_ | refine .rd ?_ | refine .block ?_ | refine .scope ?_ | refine .skip ?_ | refine .label ?_ | refine .exit ?_ | refine .ret ?_
      | refine .ct ?_ | refine .cf ?_ | refine .cy ?_ | refine .cn ?_ | (refine .cond rfl ?_ ?_ <;> intro hc)
      | refine A.nil_seq ?_ | refine .nl ?_ | refine .dd ?_ | refine .ys ?_ | refine .no ?_ | (refine A.guard rfl ?_ ?_ <;> intro hc)
      | refine .lb ?_ | refine .ln ?_ | refine .ls ?_ | refine .pv ?_ | refine .ix ?_ | refine .pt ?_ | refine .pf ?_ | refine .bx ?_ | refine .al ?_ | refine .st ?_ | refine .ad ?_ | refine .sb ?_ | refine .mf ?_ | refine .cl ?_ | refine .cw ?_ | refine .ck ?_
      | refine A.add rfl rfl ?_ | fail
    change HCode _ _ _ _ _ _ _
    refine HCode.loop (fun n s σ => ∃ (k : Nat) (c : Int), n = v.l.length - k ∧ k ≤ v.l.length ∧ szL v.l (w64 (1 + v.s.length)) = szL (v.l.drop k) c ∧ σ = ⟨[], []⟩ ∧ s = [(4, .int .i64 k), (3, .int .i64 c), (1, .rptr v.enc)])
      (s0 := [(4, .int .i64 (0 : Nat)), (3, .int .i64 (w64 (1 + v.s.length))), (1, .rptr v.enc)]) ⟨rfl, rfl, rfl, trivial⟩ ⟨0, _, rfl, Nat.zero_le _, rfl, rfl, rfl⟩ ?_
    rintro n s σ ⟨k, c, rfl, hk, hp, rfl, rfl⟩
    have hll := v.lv_len
    by_cases h1 : k < v.l.length
    · have d1 : decide ((k : Int) < (v.lv.length : Int)) = true := by simp [h1, hll]
      have x1 := Val.lv_get h1
      have hcc := ih v.l[k] (by have := Val.size_l h1; omega)
      repeat' first
        | refine .seq ?_ | refine .rg ?_ | refine .rd ?_ | refine .block ?_ | refine .scope ?_ | refine .skip ?_ | refine .label ?_ | refine .exit ?_ | refine .ret ?_
        | refine .ct ?_ | refine .cf ?_ | refine .cy ?_ | refine .cn ?_ | (refine .cond rfl ?_ ?_ <;> intro hc)
        | refine A.nil_seq ?_ | refine .nl ?_ | refine .dd ?_ | refine .ys ?_ | refine .no ?_ | (refine A.guard rfl ?_ ?_ <;> intro hc)
        | refine .lb ?_ | refine .ln ?_ | refine .ls ?_ | refine .pv ?_ | refine .ix ?_ | refine .pt ?_ | refine .pf ?_ | refine .bx ?_ | refine .al ?_ | refine .st ?_ | refine .ad ?_ | refine .sb ?_ | refine .mf ?_ | refine .cl ?_ | refine .cw ?_ | refine .ck ?_
        | refine A.len rfl rfl rfl rfl ?_ | refine A.call rfl hcc (WeakL.refl _) ?_ | refine A.add rfl rfl ?_ | fail
      exact ⟨v.l.length - (k + 1), by omega, [(4, .int .i64 ((k + 1 : Nat) : Int)), (3, .int .i64 (w64 (c + szV v.l[k]))), (1, .rptr v.enc)],
        ⟨rfl, rfl, rfl, trivial⟩, by simp [belowS, AV.low, Val.low], rfl, k + 1, _, rfl, by omega, by rw [hp, szL_drop h1], rfl, rfl⟩
    · have d1 : decide ((k : Int) < (v.lv.length : Int)) = false := by simp [hll]; omega
      rw [List.drop_eq_nil_of_le (by omega), szL] at hp
      repeat' first
        | refine .seq ?_ | refine .rg ?_ | refine .rd ?_ | refine .block ?_ | refine .scope ?_ | refine .skip ?_ | refine .label ?_ | refine .exit ?_ | refine .ret ?_
        | refine .ct ?_ | refine .cf ?_ | refine .cy ?_ | refine .cn ?_ | (refine .cond rfl ?_ ?_ <;> intro hc)
        | refine A.nil_seq ?_ | refine .nl ?_ | refine .dd ?_ | refine .ys ?_ | refine .no ?_ | (refine A.guard rfl ?_ ?_ <;> intro hc)
        | refine .lb ?_ | refine .ln ?_ | refine .ls ?_ | refine .pv ?_ | refine .ix ?_ | refine .pt ?_ | refine .pf ?_ | refine .bx ?_ | refine .al ?_ | refine .st ?_ | refine .ad ?_ | refine .sb ?_ | refine .mf ?_ | refine .cl ?_ | refine .cw ?_ | refine .ck ?_
        | refine A.len rfl rfl rfl rfl ?_ | fail
      change HCode _ _ _ _ _ _ _
      refine HCode.loop (fun n s σ => ∃ (k : Nat) (c' : Int), n = v.m.length - k ∧ k ≤ v.m.length ∧ szM v.m c = szM (v.m.drop k) c' ∧ σ = ⟨[], []⟩ ∧ s = [(5, .int .i64 k), (3, .int .i64 c'), (1, .rptr v.enc)])
        (s0 := [(5, .int .i64 (0 : Nat)), (3, .int .i64 c), (1, .rptr v.enc)]) ⟨rfl, rfl, rfl, trivial⟩ ⟨0, _, rfl, Nat.zero_le _, rfl, rfl, rfl⟩ ?_
      rintro n s σ ⟨k2, c2, rfl, hk2, hp2, rfl, rfl⟩
      have hml := v.mv_len
      by_cases h2 : k2 < v.m.length
      · have d2 : decide ((k2 : Int) < (v.mv.length : Int)) = true := by simp [h2, hml]
        have x2 := Val.mv_get h2
        have hcc := ih v.m[k2].v (by have := Val.size_m h2; omega)
        repeat' first
          | refine .seq ?_ | refine .rg ?_ | refine .rd ?_ | refine .block ?_ | refine .scope ?_ | refine .skip ?_ | refine .label ?_ | refine .exit ?_ | refine .ret ?_
          | refine .ct ?_ | refine .cf ?_ | refine .cy ?_ | refine .cn ?_ | (refine .cond rfl ?_ ?_ <;> intro hc)
          | refine A.nil_seq ?_ | refine .nl ?_ | refine .dd ?_ | refine .ys ?_ | refine .no ?_ | (refine A.guard rfl ?_ ?_ <;> intro hc)
          | refine .lb ?_ | refine .ln ?_ | refine .ls ?_ | refine .pv ?_ | refine .ix ?_ | refine .pt ?_ | refine .pf ?_ | refine .bx ?_ | refine .al ?_ | refine .st ?_ | refine .ad ?_ | refine .sb ?_ | refine .mf ?_ | refine .cl ?_ | refine .cw ?_ | refine .ck ?_
          | refine A.len rfl rfl rfl rfl ?_ | refine A.call rfl hcc (WeakL.refl _) ?_ | refine A.add rfl rfl ?_ | fail
        exact ⟨v.m.length - (k2 + 1), by omega, [(5, .int .i64 ((k2 + 1 : Nat) : Int)), (3, .int .i64 (w64 (w64 (c2 + v.m[k2].name.length) + szV v.m[k2].v))), (1, .rptr v.enc)],
          ⟨rfl, rfl, rfl, trivial⟩, by simp [belowS, AV.low, Val.low], rfl, k2 + 1, _, rfl, by omega, by rw [hp2, szM_drop h2], rfl, rfl⟩
      · have d2 : decide ((k2 : Int) < (v.mv.length : Int)) = false := by simp [hml]; omega
        rw [List.drop_eq_nil_of_le (by omega), szM] at hp2
        repeat' first
          | refine .seq ?_ | refine .rg ?_ | refine .rd ?_ | refine .block ?_ | refine .scope ?_ | refine .skip ?_ | refine .label ?_ | refine .exit ?_ | refine .ret ?_
          | refine .ct ?_ | refine .cf ?_ | refine .cy ?_ | refine .cn ?_ | (refine .cond rfl ?_ ?_ <;> intro hc)
          | refine A.nil_seq ?_ | refine .nl ?_ | refine .dd ?_ | refine .ys ?_ | refine .no ?_ | (refine A.guard rfl ?_ ?_ <;> intro hc)
          | refine .lb ?_ | refine .ln ?_ | refine .ls ?_ | refine .pv ?_ | refine .ix ?_ | refine .pt ?_ | refine .pf ?_ | refine .bx ?_ | refine .al ?_ | refine .st ?_ | refine .ad ?_ | refine .sb ?_ | refine .mf ?_ | refine .cl ?_ | refine .cw ?_ | refine .ck ?_
          | refine A.len rfl rfl rfl rfl ?_ | fail
        refine Fin.ret1 rfl (Weak.eq ?_)
        rw [szV_eq, hp, hp2]
theorem sizeF (v : Val) (h : v.size ≤ 9223372036854775807) : PFn Tryd.prog 15 [v.enc] (.int .i64 (szV v)) := size_aux v.size v (Nat.le_refl _) h

def memsV (l : List Mem) : Val := .mk 0 0 [] [] l
theorem weak_mems {l : List Mem} {t1 t2 : Tk} : Weak (.agg [.int .i64 0, .int .i64 0, .str [], .slice [] t1, .slice (l.map Mem.enc) t2]) (memsV l).enc := by
  have h1 : (memsV l).lv = [] := by rw [memsV, Val.lv, Val.goL]
  have h2 : (memsV l).mv = l.map Mem.enc := by rw [memsV, Val.mv, Val.goM_eq]
  unfold Val.enc
  rw [h1, h2]
  exact Weak.agg (WeakL.cons (Weak.refl _) (WeakL.cons (Weak.refl _) (WeakL.cons (Weak.refl _) (WeakL.cons (Weak.no (WeakL.refl _)) (WeakL.cons (Weak.no (WeakL.refl _)) (WeakL.refl _))))))
theorem memsV_size (l : List Mem) : (memsV l).size = sumSize Mem.size l + 6 := by rw [memsV, Val.size, Val.sizeL_eq, Val.sizeM_eq, sumSize]; simp
def lightRowI (r : Row) : Int := w64 (w64 (w64 (1 + r.key.length) + r.typ.length) + szV (memsV r.cols))
theorem lightRow (r : Row) (h : sumSize Mem.size r.cols ≤ 1048576) : PFn Tryd.prog 71 [r.enc] (.int .i64 (lightRowI r)) := by
  refine AFn.plain rfl (by simp [AV.closedL, Row.closed]) (AFn.enter [2] Tryd.func71 rfl rfl rfl rfl rfl (by decide) ?_)
  have hs := sizeF (memsV r.cols) (by rw [memsV_size]; omega)
  repeat' first
    | refine A.box_r rfl rfl ?_
    | refine .seq ?_ | refine .rg ?_ | refine .rd ?_ | refine .block ?_ | refine .scope ?_ | refine .skip ?_ | refine .label ?_ | refine .exit ?_ | refine .ret ?_
    | refine .ct ?_ | refine .cf ?_ | refine .cy ?_ | refine .cn ?_ | (refine .cond rfl ?_ ?_ <;> intro hc)
    | refine A.nil_seq ?_ | refine .nl ?_ | refine .dd ?_ | refine .ys ?_ | refine .no ?_ | (refine A.guard rfl ?_ ?_ <;> intro hc)
    | refine .lb ?_ | refine .ln ?_ | refine .ls ?_ | refine .pv ?_ | refine .ix ?_ | refine .pt ?_ | refine .pf ?_ | refine .bx ?_ | refine .al ?_ | refine .st ?_ | refine .ad ?_ | refine .sb ?_ | refine .mf ?_ | refine .cl ?_ | refine .cw ?_ | refine .ck ?_
    | refine A.add rfl rfl ?_ | refine A.call rfl hs (WeakL.cons weak_mems (WeakL.refl _)) ?_ | fail
  exact Fin.ret1 rfl (Weak.refl _)
def lightCmd (c : Cmd) : Bool := decide (w64 (w64 (w64 (w64 (c.name.length + c.table.length) + c.col.length) + c.typ.length) + szV (memsV c.args)) ≤ 2000)
theorem lightC (c : Cmd) (h : sumSize Mem.size c.args ≤ 1048576) : PFn Tryd.prog 53 [c.enc] (.bool (lightCmd c)) := by
  refine AFn.plain rfl (by simp [AV.closedL, Cmd.closed]) (AFn.enter [2] Tryd.func53 rfl rfl rfl rfl rfl (by decide) ?_)
  have hs := sizeF (memsV c.args) (by rw [memsV_size]; omega)
  repeat' first
    | refine A.box_r rfl rfl ?_
    | refine .seq ?_ | refine .rg ?_ | refine .rd ?_ | refine .block ?_ | refine .scope ?_ | refine .skip ?_ | refine .label ?_ | refine .exit ?_ | refine .ret ?_
    | refine .ct ?_ | refine .cf ?_ | refine .cy ?_ | refine .cn ?_ | (refine .cond rfl ?_ ?_ <;> intro hc)
    | refine A.nil_seq ?_ | refine .nl ?_ | refine .dd ?_ | refine .ys ?_ | refine .no ?_ | (refine A.guard rfl ?_ ?_ <;> intro hc)
    | refine .lb ?_ | refine .ln ?_ | refine .ls ?_ | refine .pv ?_ | refine .ix ?_ | refine .pt ?_ | refine .pf ?_ | refine .bx ?_ | refine .al ?_ | refine .st ?_ | refine .ad ?_ | refine .sb ?_ | refine .mf ?_ | refine .cl ?_ | refine .cw ?_ | refine .ck ?_
    | refine A.add rfl rfl ?_ | refine A.call rfl hs (WeakL.cons weak_mems (WeakL.refl _)) ?_ | fail
  exact Fin.ret1 rfl (Weak.refl _)
def lightRows : List Row → Int → Int
  | [], n => n
  | r :: l, n => lightRows l (w64 (n + lightRowI r))
theorem lightRows_drop {l : List Row} {k : Nat} (h : k < l.length) (n : Int) : lightRows (l.drop k) n = lightRows (l.drop (k + 1)) (w64 (n + lightRowI l[k])) := by
  rw [List.drop_eq_getElem_cons h, lightRows]
def lightTs : List Tbl → Int → Int
  | [], n => n
  | t :: l, n => lightTs l (lightRows t.rows (w64 (w64 (n + 1) + t.name.length)))
theorem lightTs_drop {l : List Tbl} {k : Nat} (h : k < l.length) (n : Int) : lightTs (l.drop k) n = lightTs (l.drop (k + 1)) (lightRows l[k].rows (w64 (w64 (n + 1) + l[k].name.length))) := by
  rw [List.drop_eq_getElem_cons h, lightTs]
def lightT (l : List Tbl) : Bool := decide (lightTs l 0 ≤ 4000)
theorem light (l : List Tbl) (hl : l.length ≤ 1048576) (hr : ∀ t ∈ l, t.rows.length ≤ 1048576) (hs : ∀ t ∈ l, ∀ r ∈ t.rows, sumSize Mem.size r.cols ≤ 1048576) : PFn Tryd.prog 21 [Tbls.enc l] (.bool (lightT l)) := by
  refine AFn.plain rfl (by simp [AV.closedL, Tbls.closed]) (AFn.enter [2] Tryd.func21 rfl rfl rfl rfl rfl (by decide) ?_)
  repeat' first
    | refine .seq ?_ | refine .rg ?_ | refine .rd ?_ | refine .block ?_ | refine .scope ?_ | refine .skip ?_ | refine .label ?_ | refine .exit ?_ | refine .ret ?_
    | refine .ct ?_ | refine .cf ?_ | refine .cy ?_ | refine .cn ?_ | (refine .cond rfl ?_ ?_ <;> intro hc)
    | refine A.nil_seq ?_ | refine .nl ?_ | refine .dd ?_ | refine .ys ?_ | refine .no ?_ | (refine A.guard rfl ?_ ?_ <;> intro hc)
    | refine .lb ?_ | refine .ln ?_ | refine .ls ?_ | refine .pv ?_ | refine .ix ?_ | refine .pt ?_ | refine .pf ?_ | refine .bx ?_ | refine .al ?_ | refine .st ?_ | refine .ad ?_ | refine .sb ?_ | refine .mf ?_ | refine .cl ?_ | refine .cw ?_ | refine .ck ?_ | fail
  change HCode _ _ _ _ _ _ _
  refine HCode.loop (fun n s σ => ∃ (k : Nat) (c : Int), n = l.length - k ∧ k ≤ l.length ∧ lightTs l 0 = lightTs (l.drop k) c ∧ σ = ⟨[], []⟩ ∧ s = [(4, .int .i64 k), (3, .int .i64 c), (0, Tbls.enc l)])
    (s0 := [(4, .int .i64 (0 : Nat)), (3, .int .i64 0), (0, Tbls.enc l)]) ⟨rfl, rfl, rfl, trivial⟩ ⟨0, _, rfl, Nat.zero_le _, rfl, rfl, rfl⟩ ?_
  rintro n s σ ⟨k, c, rfl, hk, hp, rfl, rfl⟩
  by_cases h1 : k < l.length
  · have d1 : decide ((k : Int) < (l.length : Int)) = true := by simp [h1]
    have x1 := map_get' (f := Tbl.enc) h1
    have hrl := hr _ (List.getElem_mem h1)
    rw [lightTs_drop h1] at hp
    repeat' first
      | refine .seq ?_ | refine .rg ?_ | refine .rd ?_ | refine .block ?_ | refine .scope ?_ | refine .skip ?_ | refine .label ?_ | refine .exit ?_ | refine .ret ?_
      | refine .ct ?_ | refine .cf ?_ | refine .cy ?_ | refine .cn ?_ | (refine .cond rfl ?_ ?_ <;> intro hc)
      | refine A.nil_seq ?_ | refine .nl ?_ | refine .dd ?_ | refine .ys ?_ | refine .no ?_ | (refine A.guard rfl ?_ ?_ <;> intro hc)
      | refine .lb ?_ | refine .ln ?_ | refine .ls ?_ | refine .pv ?_ | refine .ix ?_ | refine .pt ?_ | refine .pf ?_ | refine .bx ?_ | refine .al ?_ | refine .st ?_ | refine .ad ?_ | refine .sb ?_ | refine .mf ?_ | refine .cl ?_ | refine .cw ?_ | refine .ck ?_
      | refine A.add rfl rfl ?_ | fail
    change HCode _ _ _ _ _ _ _
    refine HCode.loop (fun n s σ => ∃ (j : Nat) (c' : Int), n = l[k].rows.length - j ∧ j ≤ l[k].rows.length ∧ lightRows l[k].rows (w64 (w64 (c + 1) + l[k].name.length)) = lightRows (l[k].rows.drop j) c' ∧ σ = ⟨[], []⟩ ∧ s = [(5, .int .i64 j), (3, .int .i64 c'), (4, .int .i64 k), (0, Tbls.enc l)])
      (s0 := [(5, .int .i64 (0 : Nat)), (3, .int .i64 (w64 (w64 (c + 1) + l[k].name.length))), (4, .int .i64 k), (0, Tbls.enc l)]) ⟨rfl, rfl, rfl, rfl, trivial⟩ ⟨0, _, rfl, Nat.zero_le _, rfl, rfl, rfl⟩ ?_
    rintro n s σ ⟨j, c', rfl, hj, hp2, rfl, rfl⟩
    by_cases h2 : j < l[k].rows.length
    · have d2 : decide ((j : Int) < (l[k].rows.length : Int)) = true := by simp [h2]
      have x2 := map_get' (f := Row.enc) h2
      have hlr := lightRow l[k].rows[j] (hs _ (List.getElem_mem h1) _ (List.getElem_mem h2))
      repeat' first
        | refine .seq ?_ | refine .rg ?_ | refine .rd ?_ | refine .block ?_ | refine .scope ?_ | refine .skip ?_ | refine .label ?_ | refine .exit ?_ | refine .ret ?_
        | refine .ct ?_ | refine .cf ?_ | refine .cy ?_ | refine .cn ?_ | (refine .cond rfl ?_ ?_ <;> intro hc)
        | refine A.nil_seq ?_ | refine .nl ?_ | refine .dd ?_ | refine .ys ?_ | refine .no ?_ | (refine A.guard rfl ?_ ?_ <;> intro hc)
        | refine .lb ?_ | refine .ln ?_ | refine .ls ?_ | refine .pv ?_ | refine .ix ?_ | refine .pt ?_ | refine .pf ?_ | refine .bx ?_ | refine .al ?_ | refine .st ?_ | refine .ad ?_ | refine .sb ?_ | refine .mf ?_ | refine .cl ?_ | refine .cw ?_ | refine .ck ?_
        | refine A.call rfl hlr (WeakL.refl _) ?_ | refine A.add rfl rfl ?_ | fail
      exact ⟨l[k].rows.length - (j + 1), by omega, [(5, .int .i64 ((j + 1 : Nat) : Int)), (3, .int .i64 (w64 (c' + lightRowI l[k].rows[j]))), (4, .int .i64 k), (0, Tbls.enc l)],
        ⟨rfl, rfl, rfl, rfl, trivial⟩, by simp [belowS, AV.low, Tbls.enc, Tbl.lowL], rfl, j + 1, _, rfl, by omega, by rw [hp2, lightRows_drop h2], rfl, rfl⟩
    · have d2 : decide ((j : Int) < (l[k].rows.length : Int)) = false := by simp; omega
      rw [List.drop_eq_nil_of_le (by omega), lightRows] at hp2
      rw [hp2] at hp
      repeat' first
        | refine .seq ?_ | refine .rg ?_ | refine .rd ?_ | refine .block ?_ | refine .scope ?_ | refine .skip ?_ | refine .label ?_ | refine .exit ?_ | refine .ret ?_
        | refine .ct ?_ | refine .cf ?_ | refine .cy ?_ | refine .cn ?_ | (refine .cond rfl ?_ ?_ <;> intro hc)
        | refine A.nil_seq ?_ | refine .nl ?_ | refine .dd ?_ | refine .ys ?_ | refine .no ?_ | (refine A.guard rfl ?_ ?_ <;> intro hc)
        | refine .lb ?_ | refine .ln ?_ | refine .ls ?_ | refine .pv ?_ | refine .ix ?_ | refine .pt ?_ | refine .pf ?_ | refine .bx ?_ | refine .al ?_ | refine .st ?_ | refine .ad ?_ | refine .sb ?_ | refine .mf ?_ | refine .cl ?_ | refine .cw ?_ | refine .ck ?_ | fail
      exact ⟨l.length - (k + 1), by omega, [(4, .int .i64 ((k + 1 : Nat) : Int)), (3, .int .i64 c'), (0, Tbls.enc l)],
        ⟨rfl, rfl, rfl, trivial⟩, by simp [belowS, AV.low, Tbls.enc, Tbl.lowL], rfl, k + 1, _, rfl, by omega, hp, rfl, rfl⟩
  · have d1 : decide ((k : Int) < (l.length : Int)) = false := by simp; omega
    rw [List.drop_eq_nil_of_le (by omega), lightTs] at hp
    repeat' first
      | refine .seq ?_ | refine .rg ?_ | refine .rd ?_ | refine .block ?_ | refine .scope ?_ | refine .skip ?_ | refine .label ?_ | refine .exit ?_ | refine .ret ?_
      | refine .ct ?_ | refine .cf ?_ | refine .cy ?_ | refine .cn ?_ | (refine .cond rfl ?_ ?_ <;> intro hc)
      | refine A.nil_seq ?_ | refine .nl ?_ | refine .dd ?_ | refine .ys ?_ | refine .no ?_ | (refine A.guard rfl ?_ ?_ <;> intro hc)
      | refine .lb ?_ | refine .ln ?_ | refine .ls ?_ | refine .pv ?_ | refine .ix ?_ | refine .pt ?_ | refine .pf ?_ | refine .bx ?_ | refine .al ?_ | refine .st ?_ | refine .ad ?_ | refine .sb ?_ | refine .mf ?_ | refine .cl ?_ | refine .cw ?_ | refine .ck ?_ | fail
    refine Fin.ret1 rfl (Weak.eq ?_)
    unfold lightT
    rw [hp]
end Go.Proofs.YtijlmchfepjjkaaDoor
namespace Go.Proofs.YtijlmchfepjjkaaDoor
open Go Go.Av
set_option maxRecDepth 100000
set_option maxHeartbeats 8000000
set_option linter.unusedVariables false
set_option linter.unusedSimpArgs false
attribute [local irreducible] HCode AOps PFn AFn Av.Step TStep

theorem take_enc' {α : Type} {f : α → AV} {l : List α} {j : Nat} (h : j < l.length) : (l.take j).map f ++ [f l[j]] = (l.take (j + 1)).map f := by
  rw [List.take_succ_eq_append_getElem h, List.map_append]; rfl
theorem Mem.lowT (n m : Nat) (l : List Mem) (k : Nat) : AV.lowL n m ((l.take k).map Mem.enc) = true := Mem.lowL n m _

theorem lowL_app {a n : Nat} : ∀ (xs ys : List AV), AV.lowL a n (xs ++ ys) = (AV.lowL a n xs && AV.lowL a n ys)
  | [], ys => by simp [AV.lowL]
  | x :: xs, ys => by rw [List.cons_append, AV.lowL, AV.lowL, lowL_app xs ys, Bool.and_assoc]
theorem membersC (N : Nat) (ih : ∀ v : Val, v.size ≤ N → PFn Tryd.prog 109 [v.enc] v.enc) (l : List Mem) (hl : l.length ≤ 1048576) (hs : ∀ x ∈ l, x.v.size ≤ N) :
    PFn Tryd.prog 74 [.slice (l.map Mem.enc) .no] (.slice (l.map Mem.enc) .no) := by
  refine AFn.plain (by simp [AV.closed, Mem.closedL]) (by simp [AV.closedL, AV.closed, Mem.closedL]) (AFn.enter [2] Tryd.func74 rfl rfl rfl rfl rfl (by decide) ?_)
  repeat' first
    | refine .seq ?_ | refine .rg ?_ | refine .rd ?_ | refine .block ?_ | refine .scope ?_ | refine .skip ?_ | refine .label ?_ | refine .exit ?_ | refine .ret ?_
    | refine .ct ?_ | refine .cf ?_ | refine .cy ?_ | refine .cn ?_ | (refine .cond rfl ?_ ?_ <;> intro hc)
    | refine A.nil_seq ?_ | refine .nl ?_ | refine .dd ?_ | refine .ys ?_ | refine .no ?_ | (refine A.guard rfl ?_ ?_ <;> intro hc)
    | refine .lb ?_ | refine .ln ?_ | refine .ls ?_ | refine .pv ?_ | refine .ix ?_ | refine .pt ?_ | refine .pf ?_ | refine .bx ?_ | refine .al ?_ | refine .st ?_ | refine .ad ?_ | refine .sb ?_ | refine .mf ?_ | refine .cl ?_ | refine .cw ?_ | refine .ck ?_ | fail
  change HCode _ _ _ _ _ _ _
  refine HCode.adopt 3 true 6 rfl rfl rfl rfl rfl rfl ?_
  refine HCode.loop (fun n s σ => ∃ k : Nat, n = l.length - k ∧ k ≤ l.length ∧ σ = ⟨[], [.len k]⟩ ∧ s = [(4, .int .i64 k), (3, .slice ((l.take k).map Mem.enc) (.own 0 6)), (0, .slice (l.map Mem.enc) .no)])
    (s0 := [(4, .int .i64 (0 : Nat)), (3, .slice ((l.take 0).map Mem.enc) (.own 0 6)), (0, .slice (l.map Mem.enc) .no)]) ⟨rfl, rfl, rfl, trivial⟩ ⟨0, rfl, Nat.zero_le _, rfl, rfl⟩ ?_
  rintro n s σ ⟨k, rfl, hk, rfl, rfl⟩
  have htl : ((l.take k).map Mem.enc).length = k := by simp; omega
  by_cases h1 : k < l.length
  · have d1 : decide ((k : Int) < (l.length : Int)) = true := by simp [h1]
    have x1 := map_get' (f := Mem.enc) h1
    have hcc := ih l[k].v (hs _ (List.getElem_mem h1))
    repeat' first
      | refine .seq ?_ | refine .rg ?_ | refine .rd ?_ | refine .block ?_ | refine .scope ?_ | refine .skip ?_ | refine .label ?_ | refine .exit ?_ | refine .ret ?_
      | refine .ct ?_ | refine .cf ?_ | refine .cy ?_ | refine .cn ?_ | (refine .cond rfl ?_ ?_ <;> intro hc)
      | refine A.nil_seq ?_ | refine .nl ?_ | refine .dd ?_ | refine .ys ?_ | refine .no ?_ | (refine A.guard rfl ?_ ?_ <;> intro hc)
      | refine .lb ?_ | refine .ln ?_ | refine .ls ?_ | refine .pv ?_ | refine .ix ?_ | refine .pt ?_ | refine .pf ?_ | refine .bx ?_ | refine .al ?_ | refine .st ?_ | refine .ad ?_ | refine .sb ?_ | refine .mf ?_ | refine .cl ?_ | refine .cw ?_ | refine .ck ?_
      | refine A.call rfl hcc (WeakL.refl _) ?_ | refine A.append (n := k) rfl rfl rfl rfl rfl rfl rfl rfl htl rfl (by dsimp only [List.length_cons, List.length_nil]; omega) (by dsimp only [List.length_cons, List.length_nil]; omega) rfl ?_ | fail
    refine ⟨l.length - (k + 1), by omega, [(4, .int .i64 ((k + 1 : Nat) : Int)), (3, .slice ((l.take (k + 1)).map Mem.enc) (.own 0 6)), (0, .slice (l.map Mem.enc) .no)],
      ⟨rfl, ?_, rfl, trivial⟩, by simp [-List.map_take, belowS, AV.low, Mem.lowL], rfl, k + 1, rfl, by omega, rfl, rfl⟩
    rw [← take_enc' h1]
    rfl
  · have d1 : decide ((k : Int) < (l.length : Int)) = false := by simp; omega
    repeat' first
      | refine .seq ?_ | refine .rg ?_ | refine .rd ?_ | refine .block ?_ | refine .scope ?_ | refine .skip ?_ | refine .label ?_ | refine .exit ?_ | refine .ret ?_
      | refine .ct ?_ | refine .cf ?_ | refine .cy ?_ | refine .cn ?_ | (refine .cond rfl ?_ ?_ <;> intro hc)
      | refine A.nil_seq ?_ | refine .nl ?_ | refine .dd ?_ | refine .ys ?_ | refine .no ?_ | (refine A.guard rfl ?_ ?_ <;> intro hc)
      | refine .lb ?_ | refine .ln ?_ | refine .ls ?_ | refine .pv ?_ | refine .ix ?_ | refine .pt ?_ | refine .pf ?_ | refine .bx ?_ | refine .al ?_ | refine .st ?_ | refine .ad ?_ | refine .sb ?_ | refine .mf ?_ | refine .cl ?_ | refine .cw ?_ | refine .ck ?_ | fail
    refine Fin.ret1 rfl (Weak.no (WeakL.eq ?_))
    rw [List.take_of_length_le (by omega)]

theorem copy_aux : ∀ (N : Nat) (v : Val), v.size ≤ N → N ≤ 1048576 → PFn Tryd.prog 109 [v.enc] v.enc
  | 0, v, h, _ => by have := v.size_pos; omega
  | N + 1, v, h, hN => by
    have ih := fun (x : Val) (hx : x.size ≤ N) => copy_aux N x hx (by omega)
    have hm := membersC N ih v.m (by have := v.m_len; omega) (fun x hx => by
      have := sumSize_mem (size := Mem.size) hx
      have h2 : x.size = x.name.length + 2 + x.v.size := rfl
      have := v.size_eq
      omega)
    have hll := v.lv_len
    have la := v.l_len
    rw [← v.mv_eq] at hm
    refine AFn.plain (Val.closed v) (by simp [AV.closedL, Val.closed]) (AFn.enterR [.cell 2 28] Tryd.func109 rfl rfl rfl rfl rfl ?_)
    repeat' first
      | refine .seq ?_ | refine .rg ?_ | refine .rd ?_ | refine .block ?_ | refine .scope ?_ | refine .skip ?_ | refine .label ?_ | refine .exit ?_ | refine .ret ?_
      | refine .ct ?_ | refine .cf ?_ | refine .cy ?_ | refine .cn ?_ | (refine .cond rfl ?_ ?_ <;> intro hc)
      | refine A.nil_seq ?_ | refine .nl ?_ | refine .dd ?_ | refine .ys ?_ | refine .no ?_ | (refine A.guard rfl ?_ ?_ <;> intro hc)
      | refine .lb ?_ | refine .ln ?_ | refine .ls ?_ | refine .pv ?_ | refine .ix ?_ | refine .pt ?_ | refine .pf ?_ | refine .bx ?_ | refine .al ?_ | refine .st ?_ | refine .ad ?_ | refine .sb ?_ | refine .mf ?_ | refine .cl ?_ | refine .cw ?_ | refine .ck ?_ | fail
    change HCode _ _ _ _ _ _ _
    refine HCode.adopt 3 true 5 rfl rfl rfl rfl rfl rfl ?_
    refine HCode.loop (fun n s σ => ∃ k : Nat, n = v.l.length - k ∧ k ≤ v.l.length ∧ σ = ⟨[.cells [.int .i64 v.kind, .int .i64 v.n, .str v.s, .slice v.lv .no, .slice v.mv .no], .cells [.int .i64 0, .int .i64 0, .str [], .slice [] .nil, .slice [] .nil]], [.len k]⟩ ∧
        s = [(4, .int .i64 k), (3, .slice ((v.l.take k).map Val.enc) (.own 0 5)), (1, .ptr 0 0), (2, .ptr 1 0)])
      (s0 := [(4, .int .i64 (0 : Nat)), (3, .slice ((v.l.take 0).map Val.enc) (.own 0 5)), (1, .ptr 0 0), (2, .ptr 1 0)]) ⟨rfl, rfl, rfl, rfl, trivial⟩ ⟨0, rfl, Nat.zero_le _, rfl, rfl⟩ ?_
    rintro n s σ ⟨k, rfl, hk, rfl, rfl⟩
    have htl : ((v.l.take k).map Val.enc).length = k := by simp; omega
    by_cases h1 : k < v.l.length
    · have d1 : decide ((k : Int) < (v.lv.length : Int)) = true := by simp [h1, hll]
      have x1 := Val.lv_get h1
      have hcc := ih v.l[k] (by have := Val.size_l h1; omega)
      repeat' first
        | refine .seq ?_ | refine .rg ?_ | refine .rd ?_ | refine .block ?_ | refine .scope ?_ | refine .skip ?_ | refine .label ?_ | refine .exit ?_ | refine .ret ?_
        | refine .ct ?_ | refine .cf ?_ | refine .cy ?_ | refine .cn ?_ | (refine .cond rfl ?_ ?_ <;> intro hc)
        | refine A.nil_seq ?_ | refine .nl ?_ | refine .dd ?_ | refine .ys ?_ | refine .no ?_ | (refine A.guard rfl ?_ ?_ <;> intro hc)
        | refine .lb ?_ | refine .ln ?_ | refine .ls ?_ | refine .pv ?_ | refine .ix ?_ | refine .pt ?_ | refine .pf ?_ | refine .bx ?_ | refine .al ?_ | refine .st ?_ | refine .ad ?_ | refine .sb ?_ | refine .mf ?_ | refine .cl ?_ | refine .cw ?_ | refine .ck ?_
        | refine A.len rfl rfl rfl rfl ?_ | refine A.call rfl hcc (WeakL.refl _) ?_ | refine A.append (n := k) rfl rfl rfl rfl rfl rfl rfl rfl htl rfl (by dsimp only [List.length_cons, List.length_nil]; omega) (by dsimp only [List.length_cons, List.length_nil]; omega) rfl ?_ | fail
      refine ⟨v.l.length - (k + 1), by omega, [(4, .int .i64 ((k + 1 : Nat) : Int)), (3, .slice ((v.l.take (k + 1)).map Val.enc) (.own 0 5)), (1, .ptr 0 0), (2, .ptr 1 0)],
        ⟨rfl, ?_, rfl, rfl, trivial⟩, by simp [-List.map_take, belowS, AV.low, Val.lowL'], by simp [belowB, belowT, Ob.low, Tok.low, AV.low, AV.lowL, Val.lv_low, Val.mv_low], k + 1, rfl, by omega, rfl, rfl⟩
      rw [← take_enc' h1]
      rfl
    · have d1 : decide ((k : Int) < (v.lv.length : Int)) = false := by simp [hll]; omega
      repeat' first
        | refine .seq ?_ | refine .rg ?_ | refine .rd ?_ | refine .block ?_ | refine .scope ?_ | refine .skip ?_ | refine .label ?_ | refine .exit ?_ | refine .ret ?_
        | refine .ct ?_ | refine .cf ?_ | refine .cy ?_ | refine .cn ?_ | (refine .cond rfl ?_ ?_ <;> intro hc)
        | refine A.nil_seq ?_ | refine .nl ?_ | refine .dd ?_ | refine .ys ?_ | refine .no ?_ | (refine A.guard rfl ?_ ?_ <;> intro hc)
        | refine .lb ?_ | refine .ln ?_ | refine .ls ?_ | refine .pv ?_ | refine .ix ?_ | refine .pt ?_ | refine .pf ?_ | refine .bx ?_ | refine .al ?_ | refine .st ?_ | refine .ad ?_ | refine .sb ?_ | refine .mf ?_ | refine .cl ?_ | refine .cw ?_ | refine .ck ?_
        | refine A.len rfl rfl rfl rfl ?_ | refine A.call rfl hm (WeakL.refl _) ?_ | fail
      refine FinR.ret1 rfl (Weak.agg (WeakL.cons (Weak.refl _) (WeakL.cons (Weak.refl _) (WeakL.cons (Weak.refl _) (WeakL.cons (Weak.no (WeakL.eq ?_)) (WeakL.refl _))))))
      rw [List.take_of_length_le (by omega), v.lv_eq]

theorem membersK (l : List Mem) (h : sumSize Mem.size l ≤ 1048576) : PFn Tryd.prog 74 [.slice (l.map Mem.enc) .no] (.slice (l.map Mem.enc) .no) :=
  membersC (sumSize Mem.size l) (fun v hv => copy_aux _ v hv h) l (by have := sumSize_length Mem.size_pos l; omega) (fun x hx => by
    have := sumSize_mem (size := Mem.size) hx
    have h2 : x.size = x.name.length + 2 + x.v.size := rfl
    omega)

theorem tablesK (l : List Tbl) (hl : l.length ≤ 1048576) (hr : ∀ t ∈ l, t.rows.length ≤ 1048576) (hs : ∀ t ∈ l, ∀ r ∈ t.rows, sumSize Mem.size r.cols ≤ 1048576) :
    PFn Tryd.prog 23 [Tbls.enc l] (Tbls.enc l) := by
  refine AFn.plain (Tbls.closed l) (by simp [AV.closedL, Tbls.closed]) (AFn.enter [2] Tryd.func23 rfl rfl rfl rfl rfl (by decide) ?_)
  repeat' first
    | refine .seq ?_ | refine .rg ?_ | refine .rd ?_ | refine .block ?_ | refine .scope ?_ | refine .skip ?_ | refine .label ?_ | refine .exit ?_ | refine .ret ?_
    | refine .ct ?_ | refine .cf ?_ | refine .cy ?_ | refine .cn ?_ | (refine .cond rfl ?_ ?_ <;> intro hc)
    | refine A.nil_seq ?_ | refine .nl ?_ | refine .dd ?_ | refine .ys ?_ | refine .no ?_ | (refine A.guard rfl ?_ ?_ <;> intro hc)
    | refine .lb ?_ | refine .ln ?_ | refine .ls ?_ | refine .pv ?_ | refine .ix ?_ | refine .pt ?_ | refine .pf ?_ | refine .bx ?_ | refine .al ?_ | refine .st ?_ | refine .ad ?_ | refine .sb ?_ | refine .mf ?_ | refine .cl ?_ | refine .cw ?_ | refine .ck ?_ | fail
  change HCode _ _ _ _ _ _ _
  refine HCode.adopt 3 true 2 rfl rfl rfl rfl rfl rfl ?_
  refine HCode.loop (fun n s σ => ∃ k : Nat, n = l.length - k ∧ k ≤ l.length ∧ σ = ⟨[], [.len k]⟩ ∧ s = [(4, .int .i64 k), (3, .slice ((l.take k).map Tbl.enc) (.own 0 2)), (0, Tbls.enc l)])
    (s0 := [(4, .int .i64 (0 : Nat)), (3, .slice ((l.take 0).map Tbl.enc) (.own 0 2)), (0, Tbls.enc l)]) ⟨rfl, rfl, rfl, trivial⟩ ⟨0, rfl, Nat.zero_le _, rfl, rfl⟩ ?_
  rintro n s σ ⟨k, rfl, hk, rfl, rfl⟩
  have htl : ((l.take k).map Tbl.enc).length = k := by simp; omega
  by_cases h1 : k < l.length
  · have d1 : decide ((k : Int) < (l.length : Int)) = true := by simp [h1]
    have x1 := map_get' (f := Tbl.enc) h1
    have hrl := hr _ (List.getElem_mem h1)
    repeat' first
      | refine .seq ?_ | refine .rg ?_ | refine .rd ?_ | refine .block ?_ | refine .scope ?_ | refine .skip ?_ | refine .label ?_ | refine .exit ?_ | refine .ret ?_
      | refine .ct ?_ | refine .cf ?_ | refine .cy ?_ | refine .cn ?_ | (refine .cond rfl ?_ ?_ <;> intro hc)
      | refine A.nil_seq ?_ | refine .nl ?_ | refine .dd ?_ | refine .ys ?_ | refine .no ?_ | (refine A.guard rfl ?_ ?_ <;> intro hc)
      | refine .lb ?_ | refine .ln ?_ | refine .ls ?_ | refine .pv ?_ | refine .ix ?_ | refine .pt ?_ | refine .pf ?_ | refine .bx ?_ | refine .al ?_ | refine .st ?_ | refine .ad ?_ | refine .sb ?_ | refine .mf ?_ | refine .cl ?_ | refine .cw ?_ | refine .ck ?_ | fail
    change HCode _ _ _ _ _ _ _
    refine HCode.adoptB 0 1 true 4 rfl rfl rfl rfl rfl rfl rfl rfl ?_
    refine HCode.loop (fun n s σ => ∃ j : Nat, n = l[k].rows.length - j ∧ j ≤ l[k].rows.length ∧ σ = ⟨[.cells [.str l[k].name, .slice ((l[k].rows.take j).map Row.enc) (.own 1 4)]], [.len k, .len j]⟩ ∧ s = [(6, .int .i64 j), (5, .ptr 0 0), (4, .int .i64 k), (3, .slice ((l.take k).map Tbl.enc) (.own 0 2)), (0, Tbls.enc l)])
      (s0 := [(6, .int .i64 (0 : Nat)), (5, .ptr 0 0), (4, .int .i64 k), (3, .slice ((l.take k).map Tbl.enc) (.own 0 2)), (0, Tbls.enc l)]) ⟨rfl, rfl, rfl, rfl, rfl, trivial⟩ ⟨0, rfl, Nat.zero_le _, rfl, rfl⟩ ?_
    rintro n s σ ⟨j, rfl, hj, rfl, rfl⟩
    have hjl : ((l[k].rows.take j).map Row.enc).length = j := by simp; omega
    by_cases h2 : j < l[k].rows.length
    · have d2 : decide ((j : Int) < (l[k].rows.length : Int)) = true := by simp [h2]
      have x2 := map_get' (f := Row.enc) h2
      have hm := membersK l[k].rows[j].cols (hs _ (List.getElem_mem h1) _ (List.getElem_mem h2))
      repeat' first
        | refine .seq ?_ | refine .rg ?_ | refine .rd ?_ | refine .block ?_ | refine .scope ?_ | refine .skip ?_ | refine .label ?_ | refine .exit ?_ | refine .ret ?_
        | refine .ct ?_ | refine .cf ?_ | refine .cy ?_ | refine .cn ?_ | (refine .cond rfl ?_ ?_ <;> intro hc)
        | refine A.nil_seq ?_ | refine .nl ?_ | refine .dd ?_ | refine .ys ?_ | refine .no ?_ | (refine A.guard rfl ?_ ?_ <;> intro hc)
        | refine .lb ?_ | refine .ln ?_ | refine .ls ?_ | refine .pv ?_ | refine .ix ?_ | refine .pt ?_ | refine .pf ?_ | refine .bx ?_ | refine .al ?_ | refine .st ?_ | refine .ad ?_ | refine .sb ?_ | refine .mf ?_ | refine .cl ?_ | refine .cw ?_ | refine .ck ?_
        | refine A.call rfl hm (WeakL.refl _) ?_ | refine A.append (n := j) rfl rfl rfl rfl rfl rfl rfl rfl hjl rfl (by dsimp only [List.length_cons, List.length_nil]; omega) (by dsimp only [List.length_cons, List.length_nil]; omega) rfl ?_ | fail
      refine ⟨l[k].rows.length - (j + 1), by omega, [(6, .int .i64 ((j + 1 : Nat) : Int)), (5, .ptr 0 0), (4, .int .i64 k), (3, .slice ((l.take k).map Tbl.enc) (.own 0 2)), (0, Tbls.enc l)],
        ⟨rfl, rfl, rfl, rfl, rfl, trivial⟩, by simp [-List.map_take, belowS, AV.low, Tbl.lowL, Tbls.enc], ?_, j + 1, rfl, by omega, ?_, rfl⟩
      · have hp4 := Row.lowL 1 2 (l[k].rows.take j)
        simp [-List.map_take, belowB, belowT, Ob.low, Tok.low, AV.lowL, AV.low, lowL_app, hp4, Mem.lowL]
      · rw [← take_enc' h2]; rfl
    · have d2 : decide ((j : Int) < (l[k].rows.length : Int)) = false := by simp; omega
      have hjn : j = l[k].rows.length := by omega
      subst hjn
      have hcan : (l[k].rows.take l[k].rows.length).map Row.enc = l[k].rows.map Row.enc := by rw [List.take_length]
      repeat' first
        | refine HCode.turnB 0 1 rfl rfl (Turn.weak (x := .slice ((l[k].rows.take l[k].rows.length).map Row.enc) (.own 1 4)) (y := .slice (l[k].rows.map Row.enc) .no) (Weak.no (WeakL.eq hcan))) rfl ?_
        | refine .seq ?_ | refine .rg ?_ | refine .rd ?_ | refine .block ?_ | refine .scope ?_ | refine .skip ?_ | refine .label ?_ | refine .exit ?_ | refine .ret ?_
        | refine .ct ?_ | refine .cf ?_ | refine .cy ?_ | refine .cn ?_ | (refine .cond rfl ?_ ?_ <;> intro hc)
        | refine A.nil_seq ?_ | refine .nl ?_ | refine .dd ?_ | refine .ys ?_ | refine .no ?_ | (refine A.guard rfl ?_ ?_ <;> intro hc)
        | refine .lb ?_ | refine .ln ?_ | refine .ls ?_ | refine .pv ?_ | refine .ix ?_ | refine .pt ?_ | refine .pf ?_ | refine .bx ?_ | refine .al ?_ | refine .st ?_ | refine .ad ?_ | refine .sb ?_ | refine .mf ?_ | refine .cl ?_ | refine .cw ?_ | refine .ck ?_
        | refine A.append (n := k) rfl rfl rfl rfl rfl rfl rfl rfl htl rfl (by dsimp only [List.length_cons, List.length_nil]; omega) (by dsimp only [List.length_cons, List.length_nil]; omega) rfl ?_ | fail
      refine ⟨l.length - (k + 1), by omega, [(4, .int .i64 ((k + 1 : Nat) : Int)), (3, .slice ((l.take (k + 1)).map Tbl.enc) (.own 0 2)), (0, Tbls.enc l)],
        ⟨rfl, ?_, rfl, trivial⟩, by simp [-List.map_take, belowS, AV.low, Tbl.lowL, Tbls.enc], rfl, k + 1, rfl, by omega, rfl, rfl⟩
      rw [← take_enc' h1]
      rfl
  · have d1 : decide ((k : Int) < (l.length : Int)) = false := by simp; omega
    repeat' first
      | refine .seq ?_ | refine .rg ?_ | refine .rd ?_ | refine .block ?_ | refine .scope ?_ | refine .skip ?_ | refine .label ?_ | refine .exit ?_ | refine .ret ?_
      | refine .ct ?_ | refine .cf ?_ | refine .cy ?_ | refine .cn ?_ | (refine .cond rfl ?_ ?_ <;> intro hc)
      | refine A.nil_seq ?_ | refine .nl ?_ | refine .dd ?_ | refine .ys ?_ | refine .no ?_ | (refine A.guard rfl ?_ ?_ <;> intro hc)
      | refine .lb ?_ | refine .ln ?_ | refine .ls ?_ | refine .pv ?_ | refine .ix ?_ | refine .pt ?_ | refine .pf ?_ | refine .bx ?_ | refine .al ?_ | refine .st ?_ | refine .ad ?_ | refine .sb ?_ | refine .mf ?_ | refine .cl ?_ | refine .cw ?_ | refine .ck ?_ | fail
    refine Fin.ret1 rfl (Weak.no (WeakL.eq ?_))
    rw [List.take_of_length_le (by omega)]
end Go.Proofs.YtijlmchfepjjkaaDoor
namespace Go.Proofs.YtijlmchfepjjkaaDoor
open Go Go.Av
set_option maxRecDepth 100000
set_option linter.unusedVariables false
set_option linter.unusedSimpArgs false

/-- Small enough, as the bound on the arguments' bulk says. -/
def tabSize (l : List Tbl) : Nat := sumSize Tbl.size l
theorem fine_of {l : List Tbl} {n : Nat} (h : tabSize l ≤ n) : Fine n l := by
  have hl := sumSize_length (size := Tbl.size) (fun t => by unfold Tbl.size; omega) l
  refine ⟨by unfold tabSize at h; omega, fun t ht => ?_, fun t ht r hr => ?_⟩
  · have h1 := sumSize_mem (size := Tbl.size) ht
    have h2 := sumSize_length (size := Row.size) (fun r => by unfold Row.size; omega) t.rows
    have h3 : t.size = t.name.length + sumSize Row.size t.rows + 2 := rfl
    unfold tabSize at h; omega
  · have h1 := sumSize_mem (size := Tbl.size) ht
    have h2 := sumSize_mem (size := Row.size) hr
    have h3 := sumSize_length (size := Mem.size) Mem.size_pos r.cols
    have h4 : t.size = t.name.length + sumSize Row.size t.rows + 2 := rfl
    have h5 : r.size = r.key.length + r.typ.length + sumSize Mem.size r.cols + 4 := rfl
    unfold tabSize at h; omega
theorem cols_of {l : List Tbl} {n : Nat} (h : tabSize l ≤ n) : ∀ t ∈ l, ∀ r ∈ t.rows, sumSize Mem.size r.cols ≤ n := fun t ht r hr => by
  have h1 := sumSize_mem (size := Tbl.size) ht
  have h2 := sumSize_mem (size := Row.size) hr
  have h4 : t.size = t.name.length + sumSize Row.size t.rows + 2 := rfl
  have h5 : r.size = r.key.length + r.typ.length + sumSize Mem.size r.cols + 4 := rfl
  unfold tabSize at h; omega
theorem args_of (c : Cmd) : sumSize Mem.size c.args ≤ c.size ∧ c.args.length ≤ c.size := by
  have h1 : c.size = c.name.length + c.table.length + c.col.length + c.typ.length + sumSize Mem.size c.args + 5 := rfl
  have := sumSize_length Mem.size_pos c.args
  omega

/-! How large the tables are behind a command. -/
theorem sumSize_app {α : Type} (f : α → Nat) : ∀ l m : List α, sumSize f (l ++ m) = sumSize f l + sumSize f m
  | [], m => by simp [sumSize]
  | x :: l, m => by rw [List.cons_append, sumSize, sumSize, sumSize_app f l m]; omega
theorem sumSize_set {α : Type} (f : α → Nat) : ∀ (l : List α) (i : Nat) (h : i < l.length) (y : α), sumSize f (l.set i y) + f l[i] = sumSize f l + f y
  | [], i, h, _ => by simp at h
  | x :: l, 0, _, y => by simp only [List.set_cons_zero, sumSize, List.getElem_cons_zero]; omega
  | x :: l, i + 1, h, y => by
    have := sumSize_set f l i (by simpa using h) y
    simp only [List.set_cons_succ, sumSize, List.getElem_cons_succ]; omega
theorem setG_size (l : List Mem) (n : Str) (v : Val) : sumSize Mem.size (setG l n v) ≤ sumSize Mem.size l + n.length + 2 + v.size := by
  unfold setG
  split
  · rw [sumSize_app]; simp only [sumSize]; have : (Mem.mk n v).size = n.length + 2 + v.size := rfl; omega
  · rename_i i hi
    rcases fidx_spec (fun m : Mem => m.name == n) l 0 with ⟨_, h4⟩ | ⟨k, hk, _, h4, _⟩
    · rw [h4] at hi; cases hi
    · rw [h4] at hi
      cases hi
      have hk' : i < l.length := hk
      rw [modAt_eq hk']
      have := sumSize_set Mem.size l i hk' (.mk l[i].name v)
      have h1 : (Mem.mk l[i].name v).size = l[i].name.length + 2 + v.size := rfl
      have h2 : l[i].size = l[i].name.length + 2 + l[i].v.size := rfl
      omega
theorem putCols_size : ∀ (args cols : List Mem), sumSize Mem.size (putCols args cols) ≤ sumSize Mem.size cols + sumSize Mem.size args
  | [], cols => by simp [putCols, sumSize]
  | m :: args, cols => by
    rw [putCols]
    have h1 := putCols_size args (if m.name != sKey then setG cols m.name m.v else cols)
    have h2 := setG_size cols m.name m.v
    have h3 : m.size = m.name.length + 2 + m.v.size := rfl
    simp only [sumSize]
    split at h1 <;> simp_all <;> omega
theorem putRows_size (rows : List Row) (r : Row) : sumSize Row.size (putRows rows r) ≤ sumSize Row.size rows + r.size := by
  unfold putRows
  split
  · rw [sumSize_app]; simp only [sumSize]; omega
  · rename_i i hi
    rcases fidx_spec (fun x : Row => x.key == r.key) rows 0 with ⟨_, h4⟩ | ⟨k, hk, _, h4, _⟩
    · rw [h4] at hi; cases hi
    · rw [h4] at hi
      cases hi
      have := sumSize_set Row.size rows i hk r
      omega
theorem sumSize_take_drop {α : Type} (f : α → Nat) (l : List α) (i j : Nat) (h : i ≤ j) : sumSize f (l.take i) + sumSize f (l.drop j) ≤ sumSize f l := by
  have h1 := sumSize_app f (l.take i) (l.drop i)
  have h2 := sumSize_app f ((l.drop i).take (j - i)) ((l.drop i).drop (j - i))
  rw [List.take_append_drop] at h1 h2
  rw [List.drop_drop] at h2
  have h3 : i + (j - i) = j := by omega
  rw [h3] at h2
  omega
theorem cutRows_size (rows : List Row) (key : Str) : sumSize Row.size (cutRows rows key) ≤ sumSize Row.size rows := by
  unfold cutRows
  split
  · omega
  · rename_i i hi
    rw [sumSize_app]
    exact sumSize_take_drop _ _ _ _ (by omega)
theorem putG_size (l : List Tbl) (name : Str) (r : Row) : tabSize (putG l name r) ≤ tabSize l + name.length + r.size + 2 := by
  unfold putG tabSize
  split
  · rw [sumSize_app]; simp only [sumSize]
    have : Tbl.size ⟨name, [r]⟩ = name.length + sumSize Row.size [r] + 2 := rfl
    simp only [sumSize] at this; omega
  · rename_i i hi
    rcases fidx_spec (fun t : Tbl => t.name == name) l 0 with ⟨_, h4⟩ | ⟨k, hk, _, h4, _⟩
    · rw [h4] at hi; cases hi
    · rw [h4] at hi
      cases hi
      have hk' : i < l.length := hk
      rw [modAt_eq hk']
      have := sumSize_set Tbl.size l i hk' ⟨l[i].name, putRows l[i].rows r⟩
      have h1 : Tbl.size ⟨l[i].name, putRows l[i].rows r⟩ = l[i].name.length + sumSize Row.size (putRows l[i].rows r) + 2 := rfl
      have h2 : l[i].size = l[i].name.length + sumSize Row.size l[i].rows + 2 := rfl
      have h3 := putRows_size l[i].rows r
      omega
theorem cutG_size (l : List Tbl) (name key : Str) : tabSize (cutG l name key) ≤ tabSize l := by
  unfold cutG tabSize
  split
  · omega
  · rename_i i hi
    rcases fidx_spec (fun t : Tbl => t.name == name) l 0 with ⟨_, h4⟩ | ⟨k, hk, _, h4, _⟩
    · rw [h4] at hi; cases hi
    · rw [h4] at hi
      cases hi
      have hk' : i < l.length := hk
      rw [modAt_eq hk']
      have := sumSize_set Tbl.size l i hk' ⟨l[i].name, cutRows l[i].rows key⟩
      have h1 : Tbl.size ⟨l[i].name, cutRows l[i].rows key⟩ = l[i].name.length + sumSize Row.size (cutRows l[i].rows key) + 2 := rfl
      have h2 : l[i].size = l[i].name.length + sumSize Row.size l[i].rows + 2 := rfl
      have h3 := cutRows_size l[i].rows key
      omega
theorem light_of (l : List Tbl) (n : Nat) (h : tabSize l ≤ n) (hn : n ≤ 1048576) : PFn Tryd.prog 21 [Tbls.enc l] (.bool (lightT l)) := by
  have hf := fine_of h
  exact light l (by have := hf.len; omega) (fun t ht => by have := hf.rows t ht; omega) (fun t ht r hr => by have := cols_of h t ht r hr; omega)
theorem same_of (l : List Tbl) (n : Nat) (h : tabSize l ≤ n) (hn : n ≤ 9223372036854775807) : PFn Tryd.prog 32 [Tbls.enc l, Tbls.enc l] (.bool true) := by
  have hf := fine_of h
  exact sameTables l (by have := hf.len; omega) (fun t ht => by have := hf.rows t ht; omega) (fun t ht r hr => by have := cols_of h t ht r hr; omega)
theorem keep_of (l : List Tbl) (n : Nat) (h : tabSize l ≤ n) (hn : n ≤ 1048576) : PFn Tryd.prog 23 [Tbls.enc l] (Tbls.enc l) := by
  have hf := fine_of h
  exact tablesK l (by have := hf.len; omega) (fun t ht => by have := hf.rows t ht; omega) (fun t ht r hr => by have := cols_of h t ht r hr; omega)

end Go.Proofs.YtijlmchfepjjkaaDoor
namespace Go.Proofs.YtijlmchfepjjkaaDoor
open Go Go.Av
set_option maxRecDepth 100000
set_option maxHeartbeats 16000000
set_option linter.unusedVariables false
set_option linter.unusedSimpArgs false
attribute [local irreducible] HCode AOps PFn AFn Av.Step TStep

theorem arg (n : Str) (v : Val) : PFn Tryd.prog 92 [.str n, v.enc] (Mem.mk n v).enc := by
  refine AFn.plain (Mem.closed _) (by simp [AV.closedL, AV.closed, Val.closed]) (AFn.enterR [.cell 4 88] Tryd.func92 rfl rfl rfl rfl rfl ?_)
  repeat' first
    | refine A.box_r rfl rfl ?_
    | refine .seq ?_ | refine .rg ?_ | refine .rd ?_ | refine .block ?_ | refine .scope ?_ | refine .skip ?_ | refine .label ?_ | refine .exit ?_ | refine .ret ?_
    | refine .ct ?_ | refine .cf ?_ | refine .cy ?_ | refine .cn ?_ | (refine .cond rfl ?_ ?_ <;> intro hc)
    | refine A.nil_seq ?_ | refine .nl ?_ | refine .dd ?_ | refine .ys ?_ | refine .no ?_ | (refine A.guard rfl ?_ ?_ <;> intro hc)
    | refine .lb ?_ | refine .ln ?_ | refine .ls ?_ | refine .pv ?_ | refine .ix ?_ | refine .pt ?_ | refine .pf ?_ | refine .bx ?_ | refine .al ?_ | refine .st ?_ | refine .ad ?_ | refine .sb ?_ | refine .mf ?_ | refine .cl ?_ | refine .cw ?_ | refine .ck ?_
    | fail | fail
  exact FinR.ret1 rfl (Weak.refl _)

def aCmd : Cmd := ⟨sPut, [116], [], [84], [.mk sKey (textV [107]), .mk [97] (intV 1)]⟩
def aTbl : List Tbl := [⟨[116], [⟨[107], [84], [.mk [97] (intV 1)], false⟩]⟩]
def bCmd : Cmd := ⟨sBurn, [], [], [], []⟩
theorem aDo : cmdG [] aCmd = (aTbl, textV [107], 0) := rfl
theorem bDo : cmdG aTbl bCmd = (aTbl, val0, 11) := rfl
theorem fineA : Fine 10 aTbl := ⟨by decide, by simp [aTbl], by simp [aTbl]⟩
theorem fine0 : Fine 0 [] := ⟨by decide, by simp, by simp⟩

theorem awake : PFn Tryd.prog 54 [] (.bool true) := by
  refine AFn.plain rfl rfl (AFn.enter [0] Tryd.func54 rfl rfl rfl rfl rfl (by decide) ?_)
  have h1 := cmdDo [] aCmd fine0 (by decide)
  have h2 := cmdDo aTbl bCmd fineA (by decide)
  rw [aDo] at h1
  rw [bDo] at h2
  have a1 := arg sKey (textV [107])
  have a2 := arg [97] (intV 1)
  have hk := known sCut
  repeat' first
    | refine .seq ?_ | refine .rg ?_ | refine .rd ?_ | refine .block ?_ | refine .scope ?_ | refine .skip ?_ | refine .label ?_ | refine .exit ?_ | refine .ret ?_
    | refine .ct ?_ | refine .cf ?_ | refine .cy ?_ | refine .cn ?_ | (refine .cond rfl ?_ ?_ <;> intro hc)
    | refine A.nil_seq ?_ | refine .nl ?_ | refine .dd ?_ | refine .ys ?_ | refine .no ?_ | (refine A.guard rfl ?_ ?_ <;> intro hc)
    | refine .lb ?_ | refine .ln ?_ | refine .ls ?_ | refine .pv ?_ | refine .ix ?_ | refine .pt ?_ | refine .pf ?_ | refine .bx ?_ | refine .al ?_ | refine .st ?_ | refine .ad ?_ | refine .sb ?_ | refine .mf ?_ | refine .cl ?_ | refine .cw ?_ | refine .ck ?_
    | refine A.call rfl a1 (WeakL.cons (Weak.refl _) (WeakL.cons weak_flatV (WeakL.refl _))) ?_ | refine A.call rfl a2 (WeakL.cons (Weak.refl _) (WeakL.cons weak_flatV (WeakL.refl _))) ?_
    | refine A.call rfl h1 (WeakL.cons (Weak.no (WeakL.refl _)) (WeakL.cons (Weak.agg (WeakL.cons (Weak.refl _) (WeakL.cons (Weak.refl _) (WeakL.cons (Weak.refl _) (WeakL.cons (Weak.refl _) (WeakL.cons (Weak.no (WeakL.refl _)) (WeakL.refl _))))))) (WeakL.refl _))) ?_
    | refine A.call rfl h2 (WeakL.cons (Weak.refl _) (WeakL.cons (Weak.agg (WeakL.cons (Weak.refl _) (WeakL.cons (Weak.refl _) (WeakL.cons (Weak.refl _) (WeakL.cons (Weak.refl _) (WeakL.cons (Weak.no (WeakL.refl _)) (WeakL.refl _))))))) (WeakL.refl _))) ?_
    | refine A.call rfl hk (WeakL.refl _) ?_ | refine A.index_r (j := 0) rfl rfl rfl rfl rfl rfl rfl rfl ?_ | fail
  all_goals exact Fin.ret1 rfl (Weak.refl _)

theorem val0_size : val0.size = 6 := rfl
theorem getG_size (n : Str) : ∀ l : List Mem, (getG n l).1.size ≤ sumSize Mem.size l + 6
  | [] => by rw [getG, val0_size]; omega
  | m :: l => by
    rw [getG]
    have h3 : m.size = m.name.length + 2 + m.v.size := rfl
    have := getG_size n l
    simp only [sumSize]
    split
    · dsimp only; omega
    · omega
theorem s_size (v : Val) : v.s.length ≤ v.size := by
  cases v; rw [Val.size, Val.s]; omega
theorem findG_size (l : List Tbl) (n : Need) : (findG l n).row.size ≤ tabSize l + 4 := by
  have h0 : noRow.size = 4 := rfl
  unfold findG
  split
  · show noRow.size ≤ _; omega
  · rename_i t ht
    split
    · show noRow.size ≤ _; omega
    · rename_i r hr
      have h1 := sumSize_mem (size := Tbl.size) (List.mem_of_find?_eq_some ht)
      have h2 := sumSize_mem (size := Row.size) (List.mem_of_find?_eq_some hr)
      have h3 : t.size = t.name.length + sumSize Row.size t.rows + 2 := rfl
      unfold gotOf tabSize
      split
      · show noRow.size ≤ _; omega
      · show r.size ≤ _; omega
theorem textV_size (s : Str) : (textV s).size = s.length + 6 := by rw [textV, Val.size, Val.sizeL_eq, Val.sizeM_eq, sumSize, sumSize]
theorem intV_size (n : Int) : (intV n).size = 6 := by rw [intV, Val.size, Val.sizeL_eq, Val.sizeM_eq, sumSize, sumSize]; rfl
theorem putRow_size (c : Cmd) (key : Str) (g : Got) : (putRow c key g).size ≤ g.row.size + key.length + 2 * c.size + 4 := by
  have ha := (args_of c).1
  have h1 : c.size = c.name.length + c.table.length + c.col.length + c.typ.length + sumSize Mem.size c.args + 5 := rfl
  have h2 : ∀ r : Row, r.size = r.key.length + r.typ.length + sumSize Mem.size r.cols + 4 := fun _ => rfl
  unfold putRow
  by_cases hg : g.is = true
  · rw [if_pos hg, h2, h2]
    dsimp only
    have := putCols_size c.args g.row.cols
    omega
  · rw [if_neg hg, h2, h2]
    dsimp only
    have := putCols_size c.args []
    simp only [sumSize] at this
    omega
theorem addG_size (l : List Tbl) (c : Cmd) (r : Row) (B : Nat) (h : r.size ≤ B) : tabSize (addG l c r).1 ≤ tabSize l + B + 2 * c.size + 20 ∧ (addG l c r).2.1.size ≤ 6 := by
  have h1 : c.size = c.name.length + c.table.length + c.col.length + c.typ.length + sumSize Mem.size c.args + 5 := rfl
  unfold addG
  dsimp only
  split
  · exact ⟨by dsimp only; omega, by dsimp only; rw [val0_size]; omega⟩
  · split
    · exact ⟨by dsimp only; omega, by dsimp only; rw [val0_size]; omega⟩
    · split
      · exact ⟨by dsimp only; omega, by dsimp only; rw [val0_size]; omega⟩
      · refine ⟨?_, by dsimp only; rw [intV_size]; omega⟩
        dsimp only
        have h2 := putG_size l c.table { r with cols := setG r.cols c.col (intV (wrap64 ((getG sBy c.args).1.n + (colG r c.col).n))) }
        have h3 := setG_size r.cols c.col (intV (wrap64 ((getG sBy c.args).1.n + (colG r c.col).n)))
        rw [intV_size] at h3
        have h4 : r.size = r.key.length + r.typ.length + sumSize Mem.size r.cols + 4 := rfl
        have h5 : ∀ m, Row.size { r with cols := m } = r.key.length + r.typ.length + sumSize Mem.size m + 4 := fun _ => rfl
        rw [h5] at h2
        omega
theorem cmdG_size (l : List Tbl) (c : Cmd) : tabSize (cmdG l c).1 ≤ 2 * tabSize l + 6 * c.size + 50 ∧ (cmdG l c).2.1.size ≤ c.size + 20 := by
  have hk := getG_size sKey c.args
  have hs := s_size (getG sKey c.args).1
  have ha := (args_of c).1
  have hfz := findG_size l ⟨c.table, (getG sKey c.args).1.s⟩
  have hpr := putRow_size c (getG sKey c.args).1.s (findG l ⟨c.table, (getG sKey c.args).1.s⟩)
  have hpg := putG_size l c.table (putRow c (getG sKey c.args).1.s (findG l ⟨c.table, (getG sKey c.args).1.s⟩))
  have hcg := cutG_size l c.table (getG sKey c.args).1.s
  have hag := addG_size l c (findG l ⟨c.table, (getG sKey c.args).1.s⟩).row _ hfz
  have h1 : c.size = c.name.length + c.table.length + c.col.length + c.typ.length + sumSize Mem.size c.args + 5 := rfl
  have h0 := val0_size
  have ht := textV_size (getG sKey c.args).1.s
  unfold cmdG
  repeat' split
  all_goals (constructor <;> first | omega | (dsimp only; omega))
theorem cmdG_kind (l : List Tbl) (c : Cmd) (h : (cmdG l c).2.2 = 0) : knownG c.name = true ∧ (c.name != sBurn) = true ∧ ((cmdG l c).2.1.kind != 0) = true := by
  unfold cmdG at h ⊢
  split at h
  · cases h
  · split at h
    · cases h
    · rename_i h1 h2
      refine ⟨by simpa using h1, by simpa using h2, ?_⟩
      rw [if_neg h1, if_neg h2]
      split at h
      · cases h
      · split at h
        · rename_i h3 h4
          dsimp only at h
          rw [h] at h4
          cases h4
        · rename_i h3 h4
          rw [if_neg h3, if_neg h4]
          split at h
          · rename_i h5
            rw [if_pos h5]; rfl
          · rename_i h5
            rw [if_neg h5]
            split at h
            · cases h
            · rename_i h6
              rw [if_neg h6]
              split at h
              · rename_i h7
                rw [if_pos h7]; rfl
              · rename_i h7
                rw [if_neg h7]
                unfold addG at h ⊢
                dsimp only at h ⊢
                split at h
                · cases h
                · rename_i h8
                  rw [if_neg h8]
                  split at h
                  · cases h
                  · rename_i h9
                    rw [if_neg h9]
                    split at h
                    · cases h
                    · rename_i h10
                      rw [if_neg h10]; rfl
end Go.Proofs.YtijlmchfepjjkaaDoor
