/-
  The reference: scalar, Find, Param, Get, input, right, Right.
-/
import Derived.Test.YtijlmchfepjjkaaGreatDoorMRefV
import Derived.Test.YtijlmchfepjjkaaGreatDoorMLitW2
namespace Go.Proofs.YtijlmchfepjjkaaGreatDoor
open Go Go.Av
set_option maxRecDepth 100000
set_option maxHeartbeats 16000000
set_option linter.unusedVariables false
set_option linter.unusedSimpArgs false
attribute [local irreducible] HCode AOps PFn AFn Av.Step TStep

theorem rScalar9 (n : Str) : PFn Tryz.prog 57 [.str n] (.bool (scalarB n)) := by
  refine AFn.plain rfl rfl (AFn.enter [2] Tryz.func57 rfl rfl rfl rfl rfl (by decide) ?_)
  repeat' first
    | refine .seq ?_ | refine .rg ?_ | refine .rd ?_ | refine .block ?_ | refine .scope ?_ | refine .skip ?_ | refine .label ?_ | refine .exit ?_ | refine .ret ?_
    | refine .ct ?_ | refine .cf ?_ | refine .cy ?_ | refine .cn ?_ | (refine .cond rfl ?_ ?_ <;> intro hc)
    | refine A.nil_seq ?_ | refine .nl ?_ | refine .dd ?_ | refine .ys ?_ | refine .no ?_ | (refine A.guard rfl ?_ ?_ <;> intro hc)
    | refine .lb ?_ | refine .ln ?_ | refine .ls ?_ | refine .pv ?_ | refine .ix ?_ | refine .pt ?_ | refine .pf ?_ | refine .bx ?_ | refine .al ?_ | refine .st ?_ | refine .ad ?_ | refine .sb ?_ | refine .mf ?_ | refine .cl ?_ | refine .cw ?_ | refine .ck ?_ | fail
  all_goals
    refine Fin.ret1 rfl (Weak.eq (congrArg AV.bool ?_))
    unfold scalarB sInt sString sBoolean sID
    simp_all
theorem rFind9 (s : Sch) (name : Str) (hs : s.size ≤ 1048576) : PFn Tryz.prog 33 [s.enc, .str name] (.tup [(findR s name).1.enc, .bool (findR s name).2]) := by
  have hsc := rScalar9 name
  have hl := s.len
  refine AFn.plain (by simp [AV.closed, AV.closedL, Dfn.closed]) (by simp [AV.closed, AV.closedL, Sch.closed]) (AFn.enterR [.cell 4 73, .tmp 5] Tryz.func33 rfl rfl rfl rfl rfl ?_)
  cases c : scalarB name with
  | true =>
    rw [c] at hsc
    repeat' first
      | refine .br ?_
      | refine .seq ?_ | refine .rg ?_ | refine .rd ?_ | refine .block ?_ | refine .scope ?_ | refine .skip ?_ | refine .label ?_ | refine .exit ?_ | refine .ret ?_
      | refine .ct ?_ | refine .cf ?_ | refine .cy ?_ | refine .cn ?_ | (refine .cond rfl ?_ ?_ <;> intro hc)
      | refine A.nil_seq ?_ | refine .nl ?_ | refine .dd ?_ | refine .ys ?_ | refine .no ?_ | (refine A.guard rfl ?_ ?_ <;> intro hc)
      | refine .lb ?_ | refine .ln ?_ | refine .ls ?_ | refine .pv ?_ | refine .ix ?_ | refine .pt ?_ | refine .pf ?_ | refine .bx ?_ | refine .al ?_ | refine .st ?_ | refine .ad ?_ | refine .sb ?_ | refine .mf ?_ | refine .cl ?_ | refine .cw ?_ | refine .ck ?_ | fail
    refine FinR.ret1 rfl ?_
    rw [findR, findO, if_pos c]
    exact Weak.tup (WeakL.cons weak_dfn (WeakL.refl _))
  | false =>
    rw [c] at hsc
    repeat' first
      | refine .br ?_
      | refine .seq ?_ | refine .rg ?_ | refine .rd ?_ | refine .block ?_ | refine .scope ?_ | refine .skip ?_ | refine .label ?_ | refine .exit ?_ | refine .ret ?_
      | refine .ct ?_ | refine .cf ?_ | refine .cy ?_ | refine .cn ?_ | (refine .cond rfl ?_ ?_ <;> intro hc)
      | refine A.nil_seq ?_ | refine .nl ?_ | refine .dd ?_ | refine .ys ?_ | refine .no ?_ | (refine A.guard rfl ?_ ?_ <;> intro hc)
      | refine .lb ?_ | refine .ln ?_ | refine .ls ?_ | refine .pv ?_ | refine .ix ?_ | refine .pt ?_ | refine .pf ?_ | refine .bx ?_ | refine .al ?_ | refine .st ?_ | refine .ad ?_ | refine .sb ?_ | refine .mf ?_ | refine .cl ?_ | refine .cw ?_ | refine .ck ?_ | fail
    refine HCode.forK s.defs.length (fun k => [(6, .int .i64 k), (2, .rptr s.enc), (1, .str name), (4, .ptr 0 0)])
      (fun _ => ⟨[.cells [.int .i64 0, .str [], .slice [] .nil, .slice [] .nil, .slice [] .nil, .slice [] .nil]], []⟩) (fun k => findO s name = (s.defs.drop k).find? (fun d => d.name == name))
      ⟨rfl, rfl, rfl, rfl, trivial⟩ rfl (by rw [findO, if_neg (by rw [c]; decide)]; rfl) fun k hk hp => ?_
    by_cases h1 : k < s.defs.length
    · have d1 : decide ((k : Int) < (s.defs.length : Int)) = true := by simp [h1]
      have x1 := map_get' (f := Dfn.enc) h1
      have hd := find_drop (p := fun d : Dfn => d.name == name) h1
      repeat' first
        | refine .lb ?_
        | refine .seq ?_ | refine .rg ?_ | refine .rd ?_ | refine .block ?_ | refine .scope ?_ | refine .skip ?_ | refine .label ?_ | refine .exit ?_ | refine .ret ?_
        | refine .ct ?_ | refine .cf ?_ | refine .cy ?_ | refine .cn ?_ | (refine .cond rfl ?_ ?_ <;> intro hc)
        | refine A.nil_seq ?_ | refine .nl ?_ | refine .dd ?_ | refine .ys ?_ | refine .no ?_ | (refine A.guard rfl ?_ ?_ <;> intro hc)
        | refine .lb ?_ | refine .ln ?_ | refine .ls ?_ | refine .pv ?_ | refine .ix ?_ | refine .pt ?_ | refine .pf ?_ | refine .bx ?_ | refine .al ?_ | refine .st ?_ | refine .ad ?_ | refine .sb ?_ | refine .mf ?_ | refine .cl ?_ | refine .cw ?_ | refine .ck ?_ | fail
      · refine FinR.ret1 rfl (Weak.eq ?_)
        rw [findR, hp, hd, if_pos hc]; rfl
      · exact ⟨h1, ⟨rfl, rfl, rfl, rfl, trivial⟩, by simp [belowS, AV.low], rfl, rfl, by rw [hp, hd, if_neg (by simp [hc])]⟩
    · have d1 : decide ((k : Int) < (s.defs.length : Int)) = false := by simp; omega
      repeat' first
        | refine .seq ?_ | refine .rg ?_ | refine .rd ?_ | refine .block ?_ | refine .scope ?_ | refine .skip ?_ | refine .label ?_ | refine .exit ?_ | refine .ret ?_
        | refine .ct ?_ | refine .cf ?_ | refine .cy ?_ | refine .cn ?_ | (refine .cond rfl ?_ ?_ <;> intro hc)
        | refine A.nil_seq ?_ | refine .nl ?_ | refine .dd ?_ | refine .ys ?_ | refine .no ?_ | (refine A.guard rfl ?_ ?_ <;> intro hc)
        | refine .lb ?_ | refine .ln ?_ | refine .ls ?_ | refine .pv ?_ | refine .ix ?_ | refine .pt ?_ | refine .pf ?_ | refine .bx ?_ | refine .al ?_ | refine .st ?_ | refine .ad ?_ | refine .sb ?_ | refine .mf ?_ | refine .cl ?_ | refine .cw ?_ | refine .ck ?_ | fail
      refine FinR.ret1 rfl ?_
      rw [findR, hp, List.drop_eq_nil_of_le (by omega)]
      exact Weak.tup (WeakL.cons weak_dfn (WeakL.refl _))
theorem rParam9 (l : List Par) (name : Str) (hl : l.length ≤ 2097152) : PFn Tryz.prog 34 [.slice (l.map Par.enc) .no, .str name] (.tup [(parR l name).1.enc, .bool (parR l name).2]) := by
  refine AFn.plain (by simp [AV.closed, AV.closedL, Par.closed]) (by simp [AV.closed, AV.closedL, Par.closedL]) (AFn.enterR [.cell 4 79, .tmp 5] Tryz.func34 rfl rfl rfl rfl rfl ?_)
  repeat' first
    | refine .seq ?_ | refine .rg ?_ | refine .rd ?_ | refine .block ?_ | refine .scope ?_ | refine .skip ?_ | refine .label ?_ | refine .exit ?_ | refine .ret ?_
    | refine .ct ?_ | refine .cf ?_ | refine .cy ?_ | refine .cn ?_ | (refine .cond rfl ?_ ?_ <;> intro hc)
    | refine A.nil_seq ?_ | refine .nl ?_ | refine .dd ?_ | refine .ys ?_ | refine .no ?_ | (refine A.guard rfl ?_ ?_ <;> intro hc)
    | refine .lb ?_ | refine .ln ?_ | refine .ls ?_ | refine .pv ?_ | refine .ix ?_ | refine .pt ?_ | refine .pf ?_ | refine .bx ?_ | refine .al ?_ | refine .st ?_ | refine .ad ?_ | refine .sb ?_ | refine .mf ?_ | refine .cl ?_ | refine .cw ?_ | refine .ck ?_ | fail
  refine HCode.forK l.length (fun k => [(6, .int .i64 k), (0, .slice (l.map Par.enc) .no), (1, .str name), (4, .ptr 0 0)])
    (fun _ => ⟨[.cells [.str [], .str [], .int .i64 0, .int .i64 0, .bool false, .int .i64 0, .int .i64 0, .str [], .slice [] .nil, .slice [] .nil]], []⟩) (fun k => parO l name = (l.drop k).find? (fun p => p.name == name))
    ⟨rfl, rfl, rfl, rfl, trivial⟩ rfl rfl fun k hk hp => ?_
  by_cases h1 : k < l.length
  · have d1 : decide ((k : Int) < (l.length : Int)) = true := by simp [h1]
    have x1 := map_get' (f := Par.enc) h1
    have hd := find_drop (p := fun p : Par => p.name == name) h1
    repeat' first
      | refine .seq ?_ | refine .rg ?_ | refine .rd ?_ | refine .block ?_ | refine .scope ?_ | refine .skip ?_ | refine .label ?_ | refine .exit ?_ | refine .ret ?_
      | refine .ct ?_ | refine .cf ?_ | refine .cy ?_ | refine .cn ?_ | (refine .cond rfl ?_ ?_ <;> intro hc)
      | refine A.nil_seq ?_ | refine .nl ?_ | refine .dd ?_ | refine .ys ?_ | refine .no ?_ | (refine A.guard rfl ?_ ?_ <;> intro hc)
      | refine .lb ?_ | refine .ln ?_ | refine .ls ?_ | refine .pv ?_ | refine .ix ?_ | refine .pt ?_ | refine .pf ?_ | refine .bx ?_ | refine .al ?_ | refine .st ?_ | refine .ad ?_ | refine .sb ?_ | refine .mf ?_ | refine .cl ?_ | refine .cw ?_ | refine .ck ?_ | fail
    · refine FinR.ret1 rfl (Weak.eq ?_)
      rw [parR, hp, hd, if_pos hc]; rfl
    · exact ⟨h1, ⟨rfl, rfl, rfl, rfl, trivial⟩, by simp [belowS, AV.low], rfl, rfl, by rw [hp, hd, if_neg (by simp [hc])]⟩
  · have d1 : decide ((k : Int) < (l.length : Int)) = false := by simp; omega
    repeat' first
      | refine .seq ?_ | refine .rg ?_ | refine .rd ?_ | refine .block ?_ | refine .scope ?_ | refine .skip ?_ | refine .label ?_ | refine .exit ?_ | refine .ret ?_
      | refine .ct ?_ | refine .cf ?_ | refine .cy ?_ | refine .cn ?_ | (refine .cond rfl ?_ ?_ <;> intro hc)
      | refine A.nil_seq ?_ | refine .nl ?_ | refine .dd ?_ | refine .ys ?_ | refine .no ?_ | (refine A.guard rfl ?_ ?_ <;> intro hc)
      | refine .lb ?_ | refine .ln ?_ | refine .ls ?_ | refine .pv ?_ | refine .ix ?_ | refine .pt ?_ | refine .pf ?_ | refine .bx ?_ | refine .al ?_ | refine .st ?_ | refine .ad ?_ | refine .sb ?_ | refine .mf ?_ | refine .cl ?_ | refine .cw ?_ | refine .ck ?_ | fail
    refine FinR.ret1 rfl ?_
    rw [parR, hp, List.drop_eq_nil_of_le (by omega)]
    exact Weak.tup (WeakL.cons weak_zeroP (WeakL.refl _))
theorem rGetV (name : Str) (l : List Mem) (hl : l.length ≤ 9223372036854775807) : PFn Tryz.prog 40 [.str name, .slice (l.map Mem.enc) .no] (.tup [(getG name l).1.enc, .bool (getG name l).2]) := by
  refine AFn.plain (by simp [AV.closed, AV.closedL, Val.closed]) (by simp [AV.closed, AV.closedL, Mem.closedL]) (AFn.enterR [.cell 4 30, .tmp 5] Tryz.func40 rfl rfl rfl rfl rfl ?_)
  repeat' first
    | refine .seq ?_ | refine .rg ?_ | refine .rd ?_ | refine .block ?_ | refine .scope ?_ | refine .skip ?_ | refine .label ?_ | refine .exit ?_ | refine .ret ?_
    | refine .ct ?_ | refine .cf ?_ | refine .cy ?_ | refine .cn ?_ | (refine .cond rfl ?_ ?_ <;> intro hc)
    | refine A.nil_seq ?_ | refine .nl ?_ | refine .dd ?_ | refine .ys ?_ | refine .no ?_ | (refine A.guard rfl ?_ ?_ <;> intro hc)
    | refine .lb ?_ | refine .ln ?_ | refine .ls ?_ | refine .pv ?_ | refine .ix ?_ | refine .pt ?_ | refine .pf ?_ | refine .bx ?_ | refine .al ?_ | refine .st ?_ | refine .ad ?_ | refine .sb ?_ | refine .mf ?_ | refine .cl ?_ | refine .cw ?_ | refine .ck ?_ | fail
  refine HCode.forK l.length (fun k => [(6, .int .i64 k), (1, .slice (l.map Mem.enc) .no), (0, .str name), (4, .ptr 0 0)]) (fun _ => ⟨[.cells zeroV], []⟩) (fun k => getG name l = getG name (l.drop k)) ⟨rfl, rfl, rfl, rfl, trivial⟩ rfl rfl fun k hk hp => ?_
  by_cases h1 : k < l.length
  · have d1 : decide ((k : Int) < (l.length : Int)) = true := by simp [h1]
    have x1 := map_get' (f := Mem.enc) h1
    repeat' first
      | refine .seq ?_ | refine .rg ?_ | refine .rd ?_ | refine .block ?_ | refine .scope ?_ | refine .skip ?_ | refine .label ?_ | refine .exit ?_ | refine .ret ?_
      | refine .ct ?_ | refine .cf ?_ | refine .cy ?_ | refine .cn ?_ | (refine .cond rfl ?_ ?_ <;> intro hc)
      | refine A.nil_seq ?_ | refine .nl ?_ | refine .dd ?_ | refine .ys ?_ | refine .no ?_ | (refine A.guard rfl ?_ ?_ <;> intro hc)
      | refine .lb ?_ | refine .ln ?_ | refine .ls ?_ | refine .pv ?_ | refine .ix ?_ | refine .pt ?_ | refine .pf ?_ | refine .bx ?_ | refine .al ?_ | refine .st ?_ | refine .ad ?_ | refine .sb ?_ | refine .mf ?_ | refine .cl ?_ | refine .cw ?_ | refine .ck ?_ | fail
    · refine FinR.ret1 rfl (Weak.eq ?_)
      rw [hp, getG_drop h1, if_pos hc]; rfl
    · exact ⟨h1, ⟨rfl, rfl, rfl, rfl, trivial⟩, by simp [belowS, AV.low], rfl, rfl, by rw [hp, getG_drop h1, if_neg (by simp [hc])]⟩
  · have d1 : decide ((k : Int) < (l.length : Int)) = false := by simp; omega
    repeat' first
      | refine .seq ?_ | refine .rg ?_ | refine .rd ?_ | refine .block ?_ | refine .scope ?_ | refine .skip ?_ | refine .label ?_ | refine .exit ?_ | refine .ret ?_
      | refine .ct ?_ | refine .cf ?_ | refine .cy ?_ | refine .cn ?_ | (refine .cond rfl ?_ ?_ <;> intro hc)
      | refine A.nil_seq ?_ | refine .nl ?_ | refine .dd ?_ | refine .ys ?_ | refine .no ?_ | (refine A.guard rfl ?_ ?_ <;> intro hc)
      | refine .lb ?_ | refine .ln ?_ | refine .ls ?_ | refine .pv ?_ | refine .ix ?_ | refine .pt ?_ | refine .pf ?_ | refine .bx ?_ | refine .al ?_ | refine .st ?_ | refine .ad ?_ | refine .sb ?_ | refine .mf ?_ | refine .cl ?_ | refine .cw ?_ | refine .ck ?_ | fail
    refine FinR.ret1 rfl ?_
    rw [hp, List.drop_eq_nil_of_le (by omega), getG]
    exact Weak.tup (WeakL.cons weak_flatV (WeakL.refl _))
theorem rInput9 (s : Sch) (ps : List Par) (m : List Mem) (hs : s.size ≤ 1048576) (hps : ps.length ≤ 2097152) (hpz : ∀ p ∈ ps, p.size ≤ 2097152) (hm : m.length ≤ 2097152)
    (ih : ∀ x ∈ m, ∀ t : Typ, t.name.length ≤ 2097152 → PFn Tryz.prog 27 [s.enc, t.enc, x.v.enc, .bool true] (.bool (fitsV s x.v t false))) :
    PFn Tryz.prog 50 [s.enc, .slice (ps.map Par.enc) .no, .slice (m.map Mem.enc) .no] (.bool (fitsM s ps m [] && needsB m ps)) := by
  refine AFn.plain rfl (by simp [AV.closed, AV.closedL, Sch.closed, Par.closedL, Mem.closedL]) (AFn.enter [6] Tryz.func50 rfl rfl rfl rfl rfl (by decide) ?_)
  repeat' first
    | refine .br ?_
    | refine .seq ?_ | refine .rg ?_ | refine .rd ?_ | refine .block ?_ | refine .scope ?_ | refine .skip ?_ | refine .label ?_ | refine .exit ?_ | refine .ret ?_
    | refine .ct ?_ | refine .cf ?_ | refine .cy ?_ | refine .cn ?_ | (refine .cond rfl ?_ ?_ <;> intro hc)
    | refine A.nil_seq ?_ | refine .nl ?_ | refine .dd ?_ | refine .ys ?_ | refine .no ?_ | (refine A.guard rfl ?_ ?_ <;> intro hc)
    | refine .lb ?_ | refine .ln ?_ | refine .ls ?_ | refine .pv ?_ | refine .ix ?_ | refine .pt ?_ | refine .pf ?_ | refine .bx ?_ | refine .al ?_ | refine .st ?_ | refine .ad ?_ | refine .sb ?_ | refine .mf ?_ | refine .cl ?_ | refine .cw ?_ | refine .ck ?_ | fail
  refine HCode.forK m.length (fun k => [(7, .int .i64 k), (1, .slice (ps.map Par.enc) .no), (2, .slice (m.map Mem.enc) .no), (3, .rptr s.enc)])
    (fun _ => ⟨[], []⟩) (fun k => fitsM s ps m [] = fitsM s ps (m.drop k) ((m.take k).map Mem.name)) ⟨rfl, rfl, rfl, rfl, trivial⟩ rfl rfl fun k hk hp => ?_
  by_cases h1 : k < m.length
  · have d1 : decide ((k : Int) < (m.length : Int)) = true := by simp [h1]
    have x1 := map_get' (f := Mem.enc) h1
    have hpar := rParam9 ps m[k].name hps
    have hd := fitsM_drop (s := s) (ps := ps) h1
    cases hpo : parO ps m[k].name with
    | none =>
      have e1 : parR ps m[k].name = (zeroP, false) := by rw [parR, hpo]
      rw [e1] at hpar
      rw [hpo] at hd
      repeat' first
        | refine .seq ?_ | refine .rg ?_ | refine .rd ?_ | refine .block ?_ | refine .scope ?_ | refine .skip ?_ | refine .label ?_ | refine .exit ?_ | refine .ret ?_
        | refine .ct ?_ | refine .cf ?_ | refine .cy ?_ | refine .cn ?_ | (refine .cond rfl ?_ ?_ <;> intro hc)
        | refine A.nil_seq ?_ | refine .nl ?_ | refine .dd ?_ | refine .ys ?_ | refine .no ?_ | (refine A.guard rfl ?_ ?_ <;> intro hc)
        | refine .lb ?_ | refine .ln ?_ | refine .ls ?_ | refine .pv ?_ | refine .ix ?_ | refine .pt ?_ | refine .pf ?_ | refine .bx ?_ | refine .al ?_ | refine .st ?_ | refine .ad ?_ | refine .sb ?_ | refine .mf ?_ | refine .cl ?_ | refine .cw ?_ | refine .ck ?_ | fail
      refine Fin.ret1 rfl (Weak.eq (congrArg AV.bool ?_))
      rw [hp, hd]; rfl
    | some p =>
      have e1 : parR ps m[k].name = (p, true) := by rw [parR, hpo]
      have hpm : p ∈ ps := List.mem_of_find?_eq_some hpo
      have hpl := p.lens
      have hpz' := hpz p hpm
      have hft := ih m[k] (List.getElem_mem h1) p.t (by omega)
      rw [e1] at hpar
      rw [hpo] at hd
      simp only at hd
      cases hfv : fitsV s m[k].v p.t false with
      | false =>
        rw [hfv] at hft hd
        repeat' first
          | refine .seq ?_ | refine .rg ?_ | refine .rd ?_ | refine .block ?_ | refine .scope ?_ | refine .skip ?_ | refine .label ?_ | refine .exit ?_ | refine .ret ?_
          | refine .ct ?_ | refine .cf ?_ | refine .cy ?_ | refine .cn ?_ | (refine .cond rfl ?_ ?_ <;> intro hc)
          | refine A.nil_seq ?_ | refine .nl ?_ | refine .dd ?_ | refine .ys ?_ | refine .no ?_ | (refine A.guard rfl ?_ ?_ <;> intro hc)
          | refine .lb ?_ | refine .ln ?_ | refine .ls ?_ | refine .pv ?_ | refine .ix ?_ | refine .pt ?_ | refine .pf ?_ | refine .bx ?_ | refine .al ?_ | refine .st ?_ | refine .ad ?_ | refine .sb ?_ | refine .mf ?_ | refine .cl ?_ | refine .cw ?_ | refine .ck ?_ | fail
        refine Fin.ret1 rfl (Weak.eq (congrArg AV.bool ?_))
        rw [hp, hd]; rfl
      | true =>
        rw [hfv, Bool.true_and] at hd
        rw [hfv] at hft
        repeat' first
          | refine .seq ?_ | refine .rg ?_ | refine .rd ?_ | refine .block ?_ | refine .scope ?_ | refine .skip ?_ | refine .label ?_ | refine .exit ?_ | refine .ret ?_
          | refine .ct ?_ | refine .cf ?_ | refine .cy ?_ | refine .cn ?_ | (refine .cond rfl ?_ ?_ <;> intro hc)
          | refine A.nil_seq ?_ | refine .nl ?_ | refine .dd ?_ | refine .ys ?_ | refine .no ?_ | (refine A.guard rfl ?_ ?_ <;> intro hc)
          | refine .lb ?_ | refine .ln ?_ | refine .ls ?_ | refine .pv ?_ | refine .ix ?_ | refine .pt ?_ | refine .pf ?_ | refine .bx ?_ | refine .al ?_ | refine .st ?_ | refine .ad ?_ | refine .sb ?_ | refine .mf ?_ | refine .cl ?_ | refine .cw ?_ | refine .ck ?_ | fail
        refine HCode.forK k (fun j => [(10, .int .i64 j), (7, .int .i64 k), (1, .slice (ps.map Par.enc) .no), (2, .slice (m.map Mem.enc) .no), (3, .rptr s.enc)])
          (fun _ => ⟨[.cells [.str p.name, .str p.t.name, .int .i64 p.t.lists, .int .i64 p.t.musts, .bool p.has, .int .i64 p.d.kind, .int .i64 p.d.n, .str p.d.s, .slice p.d.lv .no, .slice p.d.mv .no]], []⟩) (fun j => m[k].name ∉ (m.take j).map Mem.name) ⟨rfl, rfl, rfl, rfl, rfl, trivial⟩ rfl (by simp) fun j hj hq => ?_
        by_cases h2 : j < k
        · have d2 : decide ((j : Int) < (k : Int)) = true := by simp [h2]
          have hjm : j < m.length := by omega
          have x2 := map_get' (f := Mem.enc) hjm
          have hmt : (m.take (j + 1)).map Mem.name = (m.take j).map Mem.name ++ [m[j].name] := by rw [List.take_succ_eq_append_getElem hjm, List.map_append]; rfl
          by_cases ce : m[j].name = m[k].name
          · have e2 : (m[j].name == m[k].name) = true := by simpa using ce
            repeat' first
              | refine .seq ?_ | refine .rg ?_ | refine .rd ?_ | refine .block ?_ | refine .scope ?_ | refine .skip ?_ | refine .label ?_ | refine .exit ?_ | refine .ret ?_
              | refine .ct ?_ | refine .cf ?_ | refine .cy ?_ | refine .cn ?_ | (refine .cond rfl ?_ ?_ <;> intro hc)
              | refine A.nil_seq ?_ | refine .nl ?_ | refine .dd ?_ | refine .ys ?_ | refine .no ?_ | (refine A.guard rfl ?_ ?_ <;> intro hc)
              | refine .lb ?_ | refine .ln ?_ | refine .ls ?_ | refine .pv ?_ | refine .ix ?_ | refine .pt ?_ | refine .pf ?_ | refine .bx ?_ | refine .al ?_ | refine .st ?_ | refine .ad ?_ | refine .sb ?_ | refine .mf ?_ | refine .cl ?_ | refine .cw ?_ | refine .ck ?_ | fail
            refine Fin.ret1 rfl (Weak.eq (congrArg AV.bool ?_))
            have hin : m[k].name ∈ (m.take k).map Mem.name := by
              rw [← ce, List.mem_map]
              exact ⟨m[j], List.mem_take_iff_getElem.2 ⟨j, by omega, rfl⟩, rfl⟩
            rw [hp, hd, decide_eq_true hin]; rfl
          · have e2 : (m[j].name == m[k].name) = false := by simpa using ce
            repeat' first
              | refine .seq ?_ | refine .rg ?_ | refine .rd ?_ | refine .block ?_ | refine .scope ?_ | refine .skip ?_ | refine .label ?_ | refine .exit ?_ | refine .ret ?_
              | refine .ct ?_ | refine .cf ?_ | refine .cy ?_ | refine .cn ?_ | (refine .cond rfl ?_ ?_ <;> intro hc)
              | refine A.nil_seq ?_ | refine .nl ?_ | refine .dd ?_ | refine .ys ?_ | refine .no ?_ | (refine A.guard rfl ?_ ?_ <;> intro hc)
              | refine .lb ?_ | refine .ln ?_ | refine .ls ?_ | refine .pv ?_ | refine .ix ?_ | refine .pt ?_ | refine .pf ?_ | refine .bx ?_ | refine .al ?_ | refine .st ?_ | refine .ad ?_ | refine .sb ?_ | refine .mf ?_ | refine .cl ?_ | refine .cw ?_ | refine .ck ?_ | fail
            exact ⟨h2, ⟨rfl, rfl, rfl, rfl, rfl, trivial⟩, by simp [belowS, AV.low], by simp [belowB, belowT, Ob.low, AV.lowL, AV.low], rfl, by rw [hmt, List.mem_append, not_or]; exact ⟨hq, by simpa using fun e => ce e.symm⟩⟩
        · have d2 : decide ((j : Int) < (k : Int)) = false := by simp; omega
          obtain rfl : j = k := by omega
          repeat' first
            | refine .seq ?_ | refine .rg ?_ | refine .rd ?_ | refine .block ?_ | refine .scope ?_ | refine .skip ?_ | refine .label ?_ | refine .exit ?_ | refine .ret ?_
            | refine .ct ?_ | refine .cf ?_ | refine .cy ?_ | refine .cn ?_ | (refine .cond rfl ?_ ?_ <;> intro hc)
            | refine A.nil_seq ?_ | refine .nl ?_ | refine .dd ?_ | refine .ys ?_ | refine .no ?_ | (refine A.guard rfl ?_ ?_ <;> intro hc)
            | refine .lb ?_ | refine .ln ?_ | refine .ls ?_ | refine .pv ?_ | refine .ix ?_ | refine .pt ?_ | refine .pf ?_ | refine .bx ?_ | refine .al ?_ | refine .st ?_ | refine .ad ?_ | refine .sb ?_ | refine .mf ?_ | refine .cl ?_ | refine .cw ?_ | refine .ck ?_ | fail
          exact ⟨h1, ⟨rfl, rfl, rfl, rfl, trivial⟩, by simp [belowS, AV.low], rfl, rfl, by rw [hp, hd, decide_eq_false hq]; rfl⟩
  · have d1 : decide ((k : Int) < (m.length : Int)) = false := by simp; omega
    have hpe : fitsM s ps m [] = true := by rw [hp, List.drop_eq_nil_of_le (by omega), fitsM]
    rw [hpe, Bool.true_and]
    repeat' first
      | refine .seq ?_ | refine .rg ?_ | refine .rd ?_ | refine .block ?_ | refine .scope ?_ | refine .skip ?_ | refine .label ?_ | refine .exit ?_ | refine .ret ?_
      | refine .ct ?_ | refine .cf ?_ | refine .cy ?_ | refine .cn ?_ | (refine .cond rfl ?_ ?_ <;> intro hc)
      | refine A.nil_seq ?_ | refine .nl ?_ | refine .dd ?_ | refine .ys ?_ | refine .no ?_ | (refine A.guard rfl ?_ ?_ <;> intro hc)
      | refine .lb ?_ | refine .ln ?_ | refine .ls ?_ | refine .pv ?_ | refine .ix ?_ | refine .pt ?_ | refine .pf ?_ | refine .bx ?_ | refine .al ?_ | refine .st ?_ | refine .ad ?_ | refine .sb ?_ | refine .mf ?_ | refine .cl ?_ | refine .cw ?_ | refine .ck ?_ | fail
    refine HCode.forK ps.length (fun k => [(11, .int .i64 k), (1, .slice (ps.map Par.enc) .no), (2, .slice (m.map Mem.enc) .no)])
      (fun _ => ⟨[], []⟩) (fun k => needsB m ps = needsB m (ps.drop k)) ⟨rfl, rfl, rfl, trivial⟩ rfl rfl fun j hj hq => ?_
    by_cases h2 : j < ps.length
    · have d2 : decide ((j : Int) < (ps.length : Int)) = true := by simp [h2]
      have x2 := map_get' (f := Par.enc) h2
      have hg := rGetV ps[j].name m (by omega)
      rw [getG_snd] at hg
      have his := rIs ps[j].t (by have := hpz _ (List.getElem_mem h2); have := ps[j].lens; omega)
      have hd := needsB_drop (m := m) h2
      unfold reqB at hd
      repeat' first
        | refine .seq ?_ | refine .rg ?_ | refine .rd ?_ | refine .block ?_ | refine .scope ?_ | refine .skip ?_ | refine .label ?_ | refine .exit ?_ | refine .ret ?_
        | refine .ct ?_ | refine .cf ?_ | refine .cy ?_ | refine .cn ?_ | (refine .cond rfl ?_ ?_ <;> intro hc)
        | refine A.nil_seq ?_ | refine .nl ?_ | refine .dd ?_ | refine .ys ?_ | refine .no ?_ | (refine A.guard rfl ?_ ?_ <;> intro hc)
        | refine .lb ?_ | refine .ln ?_ | refine .ls ?_ | refine .pv ?_ | refine .ix ?_ | refine .pt ?_ | refine .pf ?_ | refine .bx ?_ | refine .al ?_ | refine .st ?_ | refine .ad ?_ | refine .sb ?_ | refine .mf ?_ | refine .cl ?_ | refine .cw ?_ | refine .ck ?_ | fail
      all_goals first
        | (refine Fin.ret1 rfl (Weak.eq (congrArg AV.bool ?_)); rw [hq, hd]; simp_all; done)
        | (exact ⟨h2, ⟨rfl, rfl, rfl, trivial⟩, by simp [belowS, AV.low], rfl, rfl, by rw [hq, hd]; simp_all⟩)
    · have d2 : decide ((j : Int) < (ps.length : Int)) = false := by simp; omega
      repeat' first
        | refine .seq ?_ | refine .rg ?_ | refine .rd ?_ | refine .block ?_ | refine .scope ?_ | refine .skip ?_ | refine .label ?_ | refine .exit ?_ | refine .ret ?_
        | refine .ct ?_ | refine .cf ?_ | refine .cy ?_ | refine .cn ?_ | (refine .cond rfl ?_ ?_ <;> intro hc)
        | refine A.nil_seq ?_ | refine .nl ?_ | refine .dd ?_ | refine .ys ?_ | refine .no ?_ | (refine A.guard rfl ?_ ?_ <;> intro hc)
        | refine .lb ?_ | refine .ln ?_ | refine .ls ?_ | refine .pv ?_ | refine .ix ?_ | refine .pt ?_ | refine .pf ?_ | refine .bx ?_ | refine .al ?_ | refine .st ?_ | refine .ad ?_ | refine .sb ?_ | refine .mf ?_ | refine .cl ?_ | refine .cw ?_ | refine .ck ?_ | fail
      refine Fin.ret1 rfl (Weak.eq (congrArg AV.bool ?_))
      rw [hq, List.drop_eq_nil_of_le (by omega), needsB]
theorem bareV_scal {s : Sch} {name : Str} {v : Val} (h : scalarB name = true) : bareV s name v = scalFit name v.kind v.n := by
  unfold bareV bareB findO
  rw [if_pos h]; rfl
end Go.Proofs.YtijlmchfepjjkaaGreatDoor
