/-
  Contracts and plain facts for a law, joined.
-/
import Derived.Test.YtegakkonlhmeaaaGreatDoorGSB3
import Derived.Test.YtegakkonlhmeaaaGreatDoorGSB2
set_option maxRecDepth 100000
set_option maxHeartbeats 16000000
set_option linter.unusedVariables false
set_option linter.unusedSimpArgs false
set_option linter.unusedSectionVars false
namespace Go.Proofs.YtegakkonlhmeaaaGreatDoor
open Go Go.Av
attribute [local irreducible] HCode AOps PFn AFn Av.Step TStep
theorem Dfn.size_pos (d : Dfn) : 1 ≤ d.size := by unfold Dfn.size; omega
theorem Par.size_pos (d : Par) : 1 ≤ d.size := by unfold Par.size; omega
theorem Fld.size_pos (d : Fld) : 1 ≤ d.size := by unfold Fld.size; omega
theorem Dirc.size_pos (d : Dirc) : 1 ≤ d.size := by unfold Dirc.size; omega
theorem Sch.len (s : Sch) : s.defs.length ≤ s.size := by
  have := sumSize_length Dfn.size_pos s.defs
  unfold Sch.size; omega
theorem Sch.dfn {s : Sch} {d : Dfn} (h : d ∈ s.defs) : d.size ≤ s.size := by
  have := sumSize_mem (size := Dfn.size) h
  unfold Sch.size; omega
theorem Dfn.lens (d : Dfn) : d.params.length ≤ d.size ∧ d.parts.length ≤ d.size ∧ d.faces.length ≤ d.size ∧ d.fields.length ≤ d.size ∧ d.name.length ≤ d.size := by
  have h1 := sumSize_length Par.size_pos d.params
  have h2 := sumSize_length Fld.size_pos d.fields
  have h3 := sumSize_length (size := fun x : Str => x.length + 1) (fun _ => by omega) d.parts
  have h4 := sumSize_length (size := fun x : Str => x.length + 1) (fun _ => by omega) d.faces
  unfold Dfn.size strsSize; omega
theorem Dfn.par {d : Dfn} {p : Par} (h : p ∈ d.params) : p.size ≤ d.size := by
  have := sumSize_mem (size := Par.size) h
  unfold Dfn.size; omega
theorem Par.lens (p : Par) : p.name.length ≤ p.size ∧ p.t.name.length ≤ p.size ∧ p.d.size ≤ p.size := by
  unfold Par.size Typ.size; omega
theorem dScalar (n : Str) : PFn Tryz.prog 50 [.str n] (.bool (scalarB n)) := by
  refine AFn.plain rfl rfl (AFn.enter [2] Tryz.func50 rfl rfl rfl rfl rfl (by decide) ?_)
  repeat' first | refine .seq ?_ | refine .rg ?_ | refine .rd ?_ | refine .block ?_ | refine .scope ?_ | refine .skip ?_ | refine .label ?_ | refine .exit ?_ | refine .ret ?_ | refine .ct ?_ | refine .cf ?_ | refine .cy ?_ | refine .cn ?_ | (refine .cond rfl ?_ ?_ <;> intro hc) | refine A.nil_seq ?_ | refine .nl ?_ | refine .dd ?_ | refine .ys ?_ | refine .no ?_ | (refine A.guard rfl ?_ ?_ <;> intro hc) | refine .lb ?_ | refine .ln ?_ | refine .ls ?_ | refine .pv ?_ | refine .ix ?_ | refine .pt ?_ | refine .pf ?_ | refine .bx ?_ | refine .al ?_ | refine .st ?_ | refine .ad ?_ | refine .sb ?_ | refine .mf ?_ | refine .cl ?_ | refine .cw ?_ | refine .ck ?_ | fail
  all_goals
    refine Fin.ret1 rfl (Weak.eq (congrArg AV.bool ?_))
    unfold scalarB sInt sString sBoolean sID
    simp_all
theorem weak_dfn {k : Int} {n : Str} {t1 t2 t3 t4 : Tk} : Weak (.agg [.int .i64 k, .str n, .slice [] t1, .slice [] t2, .slice [] t3, .slice [] t4]) (Dfn.enc ⟨k, n, [], [], [], []⟩) :=
  Weak.agg (WeakL.cons (Weak.refl _) (WeakL.cons (Weak.refl _) (WeakL.cons (Weak.no (WeakL.refl _)) (WeakL.cons (Weak.no (WeakL.refl _)) (WeakL.cons (Weak.no (WeakL.refl _)) (WeakL.cons (Weak.no (WeakL.refl _)) (WeakL.refl _)))))))
theorem find_drop {α : Type} {p : α → Bool} {l : List α} {k : Nat} (h : k < l.length) : (l.drop k).find? p = if p l[k] = true then some l[k] else (l.drop (k + 1)).find? p := by
  rw [List.drop_eq_getElem_cons h, List.find?_cons]
  cases p l[k] <;> rfl
theorem dFind (s : Sch) (name : Str) (hs : s.size ≤ 68719476736) : PFn Tryz.prog 20 [s.enc, .str name] (.tup [(findR s name).1.enc, .bool (findR s name).2]) := by
  have hsc := dScalar name
  have hl := s.len
  refine AFn.plain (by simp [AV.closed, AV.closedL, Dfn.closed]) (by simp [AV.closed, AV.closedL, Sch.closed]) (AFn.enterR [.cell 4 35, .tmp 5] Tryz.func20 rfl rfl rfl rfl rfl ?_)
  cases c : scalarB name with
  | true =>
    rw [c] at hsc
    repeat' first | refine .br ?_ | refine .seq ?_ | refine .rg ?_ | refine .rd ?_ | refine .block ?_ | refine .scope ?_ | refine .skip ?_ | refine .label ?_ | refine .exit ?_ | refine .ret ?_ | refine .ct ?_ | refine .cf ?_ | refine .cy ?_ | refine .cn ?_ | (refine .cond rfl ?_ ?_ <;> intro hc) | refine A.nil_seq ?_ | refine .nl ?_ | refine .dd ?_ | refine .ys ?_ | refine .no ?_ | (refine A.guard rfl ?_ ?_ <;> intro hc) | refine .lb ?_ | refine .ln ?_ | refine .ls ?_ | refine .pv ?_ | refine .ix ?_ | refine .pt ?_ | refine .pf ?_ | refine .bx ?_ | refine .al ?_ | refine .st ?_ | refine .ad ?_ | refine .sb ?_ | refine .mf ?_ | refine .cl ?_ | refine .cw ?_ | refine .ck ?_ | fail
    refine FinR.ret1 rfl ?_
    rw [findR, findO, if_pos c]
    exact Weak.tup (WeakL.cons weak_dfn (WeakL.refl _))
  | false =>
    rw [c] at hsc
    repeat' first | refine .br ?_ | refine .seq ?_ | refine .rg ?_ | refine .rd ?_ | refine .block ?_ | refine .scope ?_ | refine .skip ?_ | refine .label ?_ | refine .exit ?_ | refine .ret ?_ | refine .ct ?_ | refine .cf ?_ | refine .cy ?_ | refine .cn ?_ | (refine .cond rfl ?_ ?_ <;> intro hc) | refine A.nil_seq ?_ | refine .nl ?_ | refine .dd ?_ | refine .ys ?_ | refine .no ?_ | (refine A.guard rfl ?_ ?_ <;> intro hc) | refine .lb ?_ | refine .ln ?_ | refine .ls ?_ | refine .pv ?_ | refine .ix ?_ | refine .pt ?_ | refine .pf ?_ | refine .bx ?_ | refine .al ?_ | refine .st ?_ | refine .ad ?_ | refine .sb ?_ | refine .mf ?_ | refine .cl ?_ | refine .cw ?_ | refine .ck ?_ | fail
    refine HCode.forK s.defs.length (fun k => [(15, .int .i64 k), (14, .int .i64 s.defs.length), (13, .slice (s.defs.map Dfn.enc) .no), (1, .str name), (4, .ptr 0 0)])
      (fun _ => ⟨[.cells [.int .i64 0, .str [], .slice [] .nil, .slice [] .nil, .slice [] .nil, .slice [] .nil]], []⟩) (fun k => findO s name = (s.defs.drop k).find? (fun d => d.name == name))
      ⟨rfl, rfl, rfl, rfl, rfl, trivial⟩ rfl (by rw [findO, if_neg (by rw [c]; decide)]; rfl) fun k hk hp => ?_
    by_cases h1 : k < s.defs.length
    · have d1 : decide ((k : Int) < (s.defs.length : Int)) = true := by simp [h1]
      have x1 := map_get' (f := Dfn.enc) h1
      have hd := find_drop (p := fun d : Dfn => d.name == name) h1
      repeat' first | refine .lb ?_ | refine .seq ?_ | refine .rg ?_ | refine .rd ?_ | refine .block ?_ | refine .scope ?_ | refine .skip ?_ | refine .label ?_ | refine .exit ?_ | refine .ret ?_ | refine .ct ?_ | refine .cf ?_ | refine .cy ?_ | refine .cn ?_ | (refine .cond rfl ?_ ?_ <;> intro hc) | refine A.nil_seq ?_ | refine .nl ?_ | refine .dd ?_ | refine .ys ?_ | refine .no ?_ | (refine A.guard rfl ?_ ?_ <;> intro hc) | refine .lb ?_ | refine .ln ?_ | refine .ls ?_ | refine .pv ?_ | refine .ix ?_ | refine .pt ?_ | refine .pf ?_ | refine .bx ?_ | refine .al ?_ | refine .st ?_ | refine .ad ?_ | refine .sb ?_ | refine .mf ?_ | refine .cl ?_ | refine .cw ?_ | refine .ck ?_ | fail
      · refine FinR.ret1 rfl (Weak.eq ?_)
        rw [findR, hp, hd, if_pos hc]; rfl
      · exact ⟨h1, ⟨rfl, rfl, rfl, rfl, rfl, trivial⟩, by simp [belowS, AV.low], rfl, rfl, by rw [hp, hd, if_neg (by simp [hc])]⟩
    · have d1 : decide ((k : Int) < (s.defs.length : Int)) = false := by simp; omega
      repeat' first | refine .seq ?_ | refine .rg ?_ | refine .rd ?_ | refine .block ?_ | refine .scope ?_ | refine .skip ?_ | refine .label ?_ | refine .exit ?_ | refine .ret ?_ | refine .ct ?_ | refine .cf ?_ | refine .cy ?_ | refine .cn ?_ | (refine .cond rfl ?_ ?_ <;> intro hc) | refine A.nil_seq ?_ | refine .nl ?_ | refine .dd ?_ | refine .ys ?_ | refine .no ?_ | (refine A.guard rfl ?_ ?_ <;> intro hc) | refine .lb ?_ | refine .ln ?_ | refine .ls ?_ | refine .pv ?_ | refine .ix ?_ | refine .pt ?_ | refine .pf ?_ | refine .bx ?_ | refine .al ?_ | refine .st ?_ | refine .ad ?_ | refine .sb ?_ | refine .mf ?_ | refine .cl ?_ | refine .cw ?_ | refine .ck ?_ | fail
      refine FinR.ret1 rfl ?_
      rw [findR, hp, List.drop_eq_nil_of_le (by omega)]
      exact Weak.tup (WeakL.cons weak_dfn (WeakL.refl _))
theorem findR_in (s : Sch) (name : Str) : (findR s name).1 ∈ s.defs ∨ (findR s name).1 = ⟨0, name, [], [], [], []⟩ ∨ (findR s name).1 = zeroD := by
  unfold findR findO
  split
  · rename_i d hd
    split at hd
    · cases hd; exact .inr (.inl rfl)
    · exact .inl (List.mem_of_find?_eq_some hd)
  · exact .inr (.inr rfl)
theorem findR_size {s : Sch} {name : Str} (h : s.size ≤ 68719476736) : (findR s name).1.params.length ≤ 68719476736 ∧ (findR s name).1.parts.length ≤ 68719476736 ∧ (findR s name).1.faces.length ≤ 68719476736 ∧ (findR s name).1.fields.length ≤ 68719476736 ∧ ∀ p ∈ (findR s name).1.params, p.size ≤ 68719476736 := by
  rcases findR_in s name with h1 | h1 | h1
  · have h2 := Sch.dfn h1
    have h3 := Dfn.lens (findR s name).1
    exact ⟨by omega, by omega, by omega, by omega, fun p hp => by have := Dfn.par hp; omega⟩
  · rw [h1]; exact ⟨by simp, by simp, by simp, by simp, by simp⟩
  · rw [h1]; exact ⟨by simp [zeroD], by simp [zeroD], by simp [zeroD], by simp [zeroD], by simp [zeroD]⟩
theorem dKind (s : Sch) (name : Str) (ks : List Int) (hs : s.size ≤ 68719476736) (hk : ks.length ≤ 68719476736) : PFn Tryz.prog 51 [s.enc, .str name, .slice (ks.map (AV.int .i64)) .no] (.bool (kindB s name ks)) := by
  have hf := dFind s name hs
  have hc := sContainsInt ks (findR s name).1.kind (by omega)
  refine AFn.plain rfl (by simp [AV.closed, AV.closedL, Sch.closed, int_closedL]) (AFn.enter [6] Tryz.func51 rfl rfl rfl rfl rfl (by decide) ?_)
  unfold kindB
  repeat' first | refine .br ?_ | refine .seq ?_ | refine .rg ?_ | refine .rd ?_ | refine .block ?_ | refine .scope ?_ | refine .skip ?_ | refine .label ?_ | refine .exit ?_ | refine .ret ?_ | refine .ct ?_ | refine .cf ?_ | refine .cy ?_ | refine .cn ?_ | (refine .cond rfl ?_ ?_ <;> intro hc) | refine A.nil_seq ?_ | refine .nl ?_ | refine .dd ?_ | refine .ys ?_ | refine .no ?_ | (refine A.guard rfl ?_ ?_ <;> intro hc) | refine .lb ?_ | refine .ln ?_ | refine .ls ?_ | refine .pv ?_ | refine .ix ?_ | refine .pt ?_ | refine .pf ?_ | refine .bx ?_ | refine .al ?_ | refine .st ?_ | refine .ad ?_ | refine .sb ?_ | refine .mf ?_ | refine .cl ?_ | refine .cw ?_ | refine .ck ?_ | fail
  all_goals
    refine Fin.ret1 rfl (Weak.eq (congrArg AV.bool ?_))
    simp_all
theorem dLeaf (s : Sch) (name : Str) (hs : s.size ≤ 68719476736) : PFn Tryz.prog 30 [s.enc, .str name] (.bool (leafB s name)) := by
  have hk := dKind s name [0, 4] hs (by decide)
  refine AFn.plain rfl (by simp [AV.closed, AV.closedL, Sch.closed]) (AFn.enter [4] Tryz.func30 rfl rfl rfl rfl rfl (by decide) ?_)
  repeat' first | refine .br ?_ | refine .seq ?_ | refine .rg ?_ | refine .rd ?_ | refine .block ?_ | refine .scope ?_ | refine .skip ?_ | refine .label ?_ | refine .exit ?_ | refine .ret ?_ | refine .ct ?_ | refine .cf ?_ | refine .cy ?_ | refine .cn ?_ | (refine .cond rfl ?_ ?_ <;> intro hc) | refine A.nil_seq ?_ | refine .nl ?_ | refine .dd ?_ | refine .ys ?_ | refine .no ?_ | (refine A.guard rfl ?_ ?_ <;> intro hc) | refine .lb ?_ | refine .ln ?_ | refine .ls ?_ | refine .pv ?_ | refine .ix ?_ | refine .pt ?_ | refine .pf ?_ | refine .bx ?_ | refine .al ?_ | refine .st ?_ | refine .ad ?_ | refine .sb ?_ | refine .mf ?_ | refine .cl ?_ | refine .cw ?_ | refine .ck ?_ | fail
  exact Fin.ret1 rfl (Weak.refl _)
theorem dComposite (s : Sch) (name : Str) (hs : s.size ≤ 68719476736) : PFn Tryz.prog 31 [s.enc, .str name] (.bool (compB s name)) := by
  have hk := dKind s name [1, 2, 3] hs (by decide)
  refine AFn.plain rfl (by simp [AV.closed, AV.closedL, Sch.closed]) (AFn.enter [4] Tryz.func31 rfl rfl rfl rfl rfl (by decide) ?_)
  repeat' first | refine .br ?_ | refine .seq ?_ | refine .rg ?_ | refine .rd ?_ | refine .block ?_ | refine .scope ?_ | refine .skip ?_ | refine .label ?_ | refine .exit ?_ | refine .ret ?_ | refine .ct ?_ | refine .cf ?_ | refine .cy ?_ | refine .cn ?_ | (refine .cond rfl ?_ ?_ <;> intro hc) | refine A.nil_seq ?_ | refine .nl ?_ | refine .dd ?_ | refine .ys ?_ | refine .no ?_ | (refine A.guard rfl ?_ ?_ <;> intro hc) | refine .lb ?_ | refine .ln ?_ | refine .ls ?_ | refine .pv ?_ | refine .ix ?_ | refine .pt ?_ | refine .pf ?_ | refine .bx ?_ | refine .al ?_ | refine .st ?_ | refine .ad ?_ | refine .sb ?_ | refine .mf ?_ | refine .cl ?_ | refine .cw ?_ | refine .ck ?_ | fail
  exact Fin.ret1 rfl (Weak.refl _)
theorem dEntry (s : Sch) (name : Str) (hs : s.size ≤ 68719476736) : PFn Tryz.prog 21 [s.enc, .str name] (.bool (entryB s name)) := by
  have hk := dKind s name [0, 4, 5] hs (by decide)
  refine AFn.plain rfl (by simp [AV.closed, AV.closedL, Sch.closed]) (AFn.enter [4] Tryz.func21 rfl rfl rfl rfl rfl (by decide) ?_)
  repeat' first | refine .br ?_ | refine .seq ?_ | refine .rg ?_ | refine .rd ?_ | refine .block ?_ | refine .scope ?_ | refine .skip ?_ | refine .label ?_ | refine .exit ?_ | refine .ret ?_ | refine .ct ?_ | refine .cf ?_ | refine .cy ?_ | refine .cn ?_ | (refine .cond rfl ?_ ?_ <;> intro hc) | refine A.nil_seq ?_ | refine .nl ?_ | refine .dd ?_ | refine .ys ?_ | refine .no ?_ | (refine A.guard rfl ?_ ?_ <;> intro hc) | refine .lb ?_ | refine .ln ?_ | refine .ls ?_ | refine .pv ?_ | refine .ix ?_ | refine .pt ?_ | refine .pf ?_ | refine .bx ?_ | refine .al ?_ | refine .st ?_ | refine .ad ?_ | refine .sb ?_ | refine .mf ?_ | refine .cl ?_ | refine .cw ?_ | refine .ck ?_ | fail
  exact Fin.ret1 rfl (Weak.refl _)
theorem weak_zeroP {t1 t2 : Tk} : Weak (.agg [.str [], .str [], .int .i64 0, .int .i64 0, .bool false, .int .i64 0, .int .i64 0, .str [], .slice [] t1, .slice [] t2]) zeroP.enc := by
  unfold Par.enc zeroP
  rw [show (val0).lv = [] by rw [val0, lv_mk], show (val0).mv = [] by rw [val0, mv_mk]]
  exact Weak.agg (WeakL.cons (Weak.refl _) (WeakL.cons (Weak.refl _) (WeakL.cons (Weak.refl _) (WeakL.cons (Weak.refl _) (WeakL.cons (Weak.refl _) (WeakL.cons (Weak.refl _) (WeakL.cons (Weak.refl _) (WeakL.cons (Weak.refl _) (WeakL.cons (Weak.no (WeakL.refl _)) (WeakL.cons (Weak.no (WeakL.refl _)) (WeakL.refl _)))))))))))
theorem lParam1 (p : Par) (name : Str) : PFn Tryz.prog 205 [p.enc, .rptr (.str name)] (.bool (p.name == name)) := by
  refine AFn.plain rfl (by simp [AV.closed, AV.closedL, Par.closed]) (AFn.enter [3] Tryz.func205 rfl rfl rfl rfl rfl (by decide) ?_)
  repeat' first | refine .br ?_ | refine .seq ?_ | refine .rg ?_ | refine .rd ?_ | refine .block ?_ | refine .scope ?_ | refine .skip ?_ | refine .label ?_ | refine .exit ?_ | refine .ret ?_ | refine .ct ?_ | refine .cf ?_ | refine .cy ?_ | refine .cn ?_ | (refine .cond rfl ?_ ?_ <;> intro hc) | refine A.nil_seq ?_ | refine .nl ?_ | refine .dd ?_ | refine .ys ?_ | refine .no ?_ | (refine A.guard rfl ?_ ?_ <;> intro hc) | refine .lb ?_ | refine .ln ?_ | refine .ls ?_ | refine .pv ?_ | refine .ix ?_ | refine .pt ?_ | refine .pf ?_ | refine .bx ?_ | refine .al ?_ | refine .st ?_ | refine .ad ?_ | refine .sb ?_ | refine .mf ?_ | refine .cl ?_ | refine .cw ?_ | refine .ck ?_ | fail
  exact Fin.ret1 rfl (Weak.refl _)
theorem lParam (l : List Par) (name : Str) (hl : l.length ≤ 9223372036854775807) : PFn Tryz.prog 174 [.slice (l.map Par.enc) .no, .str name] (.tup [(parR l name).1.enc, .bool (parR l name).2]) := by
  have h := sIndexFPar l 205 [.rptr (.str name)] (fun p => p.name == name) hl rfl (fun x _ => lParam1 x name)
  refine AFn.plain (by simp [AV.closed, AV.closedL, Par.closed]) (by simp [AV.closed, AV.closedL, Par.closedL]) (AFn.enterR [.cell 4 50, .tmp 5] Tryz.func174 rfl rfl rfl rfl rfl ?_)
  rcases idxFrom_spec (fun p : Par => p.name == name) l 0 with ⟨h1, h2⟩ | ⟨j, hj, h1, h2⟩
  · rw [h1] at h
    repeat' first | refine .br ?_ | refine .seq ?_ | refine .rg ?_ | refine .rd ?_ | refine .block ?_ | refine .scope ?_ | refine .skip ?_ | refine .label ?_ | refine .exit ?_ | refine .ret ?_ | refine .ct ?_ | refine .cf ?_ | refine .cy ?_ | refine .cn ?_ | (refine .cond rfl ?_ ?_ <;> intro hc) | refine A.nil_seq ?_ | refine .nl ?_ | refine .dd ?_ | refine .ys ?_ | refine .no ?_ | (refine A.guard rfl ?_ ?_ <;> intro hc) | refine .lb ?_ | refine .ln ?_ | refine .ls ?_ | refine .pv ?_ | refine .ix ?_ | refine .pt ?_ | refine .pf ?_ | refine .bx ?_ | refine .al ?_ | refine .st ?_ | refine .ad ?_ | refine .sb ?_ | refine .mf ?_ | refine .cl ?_ | refine .cw ?_ | refine .ck ?_ | fail
    refine FinR.ret1 rfl ?_
    rw [parR, parO, h2]
    exact Weak.tup (WeakL.cons weak_zeroP (WeakL.refl _))
  · rw [h1] at h
    have d1 : decide (((0 + j : Nat) : Int) < 0) = false := decide_eq_false (by omega)
    have x1 : (l.map Par.enc)[0 + j]? = some l[j].enc := by rw [Nat.zero_add]; exact map_get' (f := Par.enc) hj
    repeat' first | refine .br ?_ | refine .seq ?_ | refine .rg ?_ | refine .rd ?_ | refine .block ?_ | refine .scope ?_ | refine .skip ?_ | refine .label ?_ | refine .exit ?_ | refine .ret ?_ | refine .ct ?_ | refine .cf ?_ | refine .cy ?_ | refine .cn ?_ | (refine .cond rfl ?_ ?_ <;> intro hc) | refine A.nil_seq ?_ | refine .nl ?_ | refine .dd ?_ | refine .ys ?_ | refine .no ?_ | (refine A.guard rfl ?_ ?_ <;> intro hc) | refine .lb ?_ | refine .ln ?_ | refine .ls ?_ | refine .pv ?_ | refine .ix ?_ | refine .pt ?_ | refine .pf ?_ | refine .bx ?_ | refine .al ?_ | refine .st ?_ | refine .ad ?_ | refine .sb ?_ | refine .mf ?_ | refine .cl ?_ | refine .cw ?_ | refine .ck ?_ | fail
    refine FinR.ret1 rfl (Weak.eq ?_)
    rw [parR, parO, h2]; rfl
theorem lRequired (p : Par) (hp : p.size ≤ 68719476736) : PFn Tryz.prog 203 [p.enc] (.bool (reqB p)) := by
  have h := wIs p.t (by have := p.lens; omega)
  refine AFn.plain rfl (by simp [AV.closed, AV.closedL, Par.closed]) (AFn.enter [2] Tryz.func203 rfl rfl rfl rfl rfl (by decide) ?_)
  unfold reqB
  repeat' first | refine .br ?_ | refine .seq ?_ | refine .rg ?_ | refine .rd ?_ | refine .block ?_ | refine .scope ?_ | refine .skip ?_ | refine .label ?_ | refine .exit ?_ | refine .ret ?_ | refine .ct ?_ | refine .cf ?_ | refine .cy ?_ | refine .cn ?_ | (refine .cond rfl ?_ ?_ <;> intro hc) | refine A.nil_seq ?_ | refine .nl ?_ | refine .dd ?_ | refine .ys ?_ | refine .no ?_ | (refine A.guard rfl ?_ ?_ <;> intro hc) | refine .lb ?_ | refine .ln ?_ | refine .ls ?_ | refine .pv ?_ | refine .ix ?_ | refine .pt ?_ | refine .pf ?_ | refine .bx ?_ | refine .al ?_ | refine .st ?_ | refine .ad ?_ | refine .sb ?_ | refine .mf ?_ | refine .cl ?_ | refine .cw ?_ | refine .ck ?_ | fail
  all_goals
    refine Fin.ret1 rfl (Weak.eq (congrArg AV.bool ?_))
    simp_all
theorem lInput1 (x m : Mem) : PFn Tryz.prog 202 [x.enc, .rptr m.enc] (.bool (x.name == m.name)) := by
  refine AFn.plain rfl (by simp [AV.closed, AV.closedL, Mem.closed]) (AFn.enter [3] Tryz.func202 rfl rfl rfl rfl rfl (by decide) ?_)
  repeat' first | refine .br ?_ | refine .seq ?_ | refine .rg ?_ | refine .rd ?_ | refine .block ?_ | refine .scope ?_ | refine .skip ?_ | refine .label ?_ | refine .exit ?_ | refine .ret ?_ | refine .ct ?_ | refine .cf ?_ | refine .cy ?_ | refine .cn ?_ | (refine .cond rfl ?_ ?_ <;> intro hc) | refine A.nil_seq ?_ | refine .nl ?_ | refine .dd ?_ | refine .ys ?_ | refine .no ?_ | (refine A.guard rfl ?_ ?_ <;> intro hc) | refine .lb ?_ | refine .ln ?_ | refine .ls ?_ | refine .pv ?_ | refine .ix ?_ | refine .pt ?_ | refine .pf ?_ | refine .bx ?_ | refine .al ?_ | refine .st ?_ | refine .ad ?_ | refine .sb ?_ | refine .mf ?_ | refine .cl ?_ | refine .cw ?_ | refine .ck ?_ | fail
  exact Fin.ret1 rfl (Weak.refl _)
theorem getG_snd (name : Str) : ∀ l : List Mem, (getG name l).2 = l.any fun x => x.name == name
  | [] => rfl
  | m :: l => by
    rw [getG, List.any_cons]
    cases m.name == name with
    | true => rfl
    | false => rw [if_neg (by decide), getG_snd name l]; rfl
theorem any_name (x : Str) (l : List Mem) : (l.any fun y => y.name == x) = decide (x ∈ l.map Mem.name) := by
  rw [Bool.eq_iff_iff, List.any_eq_true, decide_eq_true_eq, List.mem_map]
  constructor
  · rintro ⟨y, hy, e⟩; exact ⟨y, hy, by simpa using e⟩
  · rintro ⟨y, hy, e⟩; exact ⟨y, hy, by simp [e]⟩
theorem needsB_drop {m : List Mem} {ps : List Par} {k : Nat} (h : k < ps.length) : needsB m (ps.drop k) = (((m.any fun x => x.name == ps[k].name) || !reqB ps[k]) && needsB m (ps.drop (k + 1))) := by
  rw [List.drop_eq_getElem_cons h, needsB]
theorem lInput (s : Sch) (ps : List Par) (v : Val) (hs : s.size ≤ 68719476736) (hps : ps.length ≤ 68719476736) (hpz : ∀ p ∈ ps, p.size ≤ 68719476736) (hv : v.size ≤ 68719476736)
    (ih : ∀ x ∈ v.m, ∀ t : Typ, t.name.length ≤ 68719476736 → PFn Tryz.prog 53 [s.enc, t.enc, x.v.enc, .bool false] (.bool (fitsV s x.v t false))) :
    PFn Tryz.prog 171 [s.enc, .slice (ps.map Par.enc) .no, v.enc] (.bool (inputB s ps v)) := by
  have hml := v.m_len
  refine AFn.plain rfl (by simp [AV.closed, AV.closedL, Sch.closed, Par.closedL, Val.closed]) (AFn.enter [6] Tryz.func171 rfl rfl rfl rfl rfl (by decide) ?_)
  unfold inputB
  by_cases c7 : v.kind = 7
  · have e7 : (v.kind != 7) = false := by rw [c7]; rfl
    have e7' : (v.kind == 7) = true := by rw [c7]; rfl
    rw [e7', Bool.true_and]
    repeat' first | refine .br ?_ | refine .seq ?_ | refine .rg ?_ | refine .rd ?_ | refine .block ?_ | refine .scope ?_ | refine .skip ?_ | refine .label ?_ | refine .exit ?_ | refine .ret ?_ | refine .ct ?_ | refine .cf ?_ | refine .cy ?_ | refine .cn ?_ | (refine .cond rfl ?_ ?_ <;> intro hc) | refine A.nil_seq ?_ | refine .nl ?_ | refine .dd ?_ | refine .ys ?_ | refine .no ?_ | (refine A.guard rfl ?_ ?_ <;> intro hc) | refine .lb ?_ | refine .ln ?_ | refine .ls ?_ | refine .pv ?_ | refine .ix ?_ | refine .pt ?_ | refine .pf ?_ | refine .bx ?_ | refine .al ?_ | refine .st ?_ | refine .ad ?_ | refine .sb ?_ | refine .mf ?_ | refine .cl ?_ | refine .cw ?_ | refine .ck ?_ | fail
    refine HCode.forK v.m.length (fun k => [(21, .int .i64 k), (20, .int .i64 v.mv.length), (19, .slice v.mv .no), (1, .slice (ps.map Par.enc) .no), (3, .rptr s.enc), (5, .rptr v.enc)])
      (fun _ => ⟨[], []⟩) (fun k => fitsM s ps v.m [] = fitsM s ps (v.m.drop k) ((v.m.take k).map Mem.name)) ⟨rfl, rfl, rfl, rfl, rfl, rfl, trivial⟩ rfl rfl fun k hk hp => ?_
    by_cases h1 : k < v.m.length
    · have d1 : decide ((k : Int) < (v.mv.length : Int)) = true := by rw [v.mv_len]; simp [h1]
      have x1 := Val.mv_get h1
      have hpar := lParam ps v.m[k].name (by omega)
      have hd := fitsM_drop (s := s) (ps := ps) h1
      have htk : v.mv.take k = (v.m.take k).map Mem.enc := by rw [v.mv_eq, List.map_take]
      have hcf := sContainsFMem (v.m.take k) 202 [.rptr v.m[k].enc] (fun x => x.name == v.m[k].name) (by rw [List.length_take]; omega) (by simp [AV.closed, AV.closedL, Mem.closed]) (fun x _ => lInput1 x _)
      rw [← htk, any_name] at hcf
      have hkv : k ≤ v.mv.length := by rw [v.mv_len]; omega
      cases hpo : parO ps v.m[k].name with
      | none =>
        have e1 : parR ps v.m[k].name = (zeroP, false) := by rw [parR, hpo]
        rw [e1] at hpar
        rw [hpo] at hd
        repeat' first | refine A.allocv (d := 8) rfl rfl rfl rfl rfl ?_ | refine HCode.turn 8 rfl (Turn.freezeP rfl rfl rfl rfl) ?_ | refine .seq ?_ | refine .rg ?_ | refine .rd ?_ | refine .block ?_ | refine .scope ?_ | refine .skip ?_ | refine .label ?_ | refine .exit ?_ | refine .ret ?_ | refine .ct ?_ | refine .cf ?_ | refine .cy ?_ | refine .cn ?_ | (refine .cond rfl ?_ ?_ <;> intro hc) | refine A.nil_seq ?_ | refine .nl ?_ | refine .dd ?_ | refine .ys ?_ | refine .no ?_ | (refine A.guard rfl ?_ ?_ <;> intro hc) | refine .lb ?_ | refine .ln ?_ | refine .ls ?_ | refine .pv ?_ | refine .ix ?_ | refine .pt ?_ | refine .pf ?_ | refine .bx ?_ | refine .al ?_ | refine .st ?_ | refine .ad ?_ | refine .sb ?_ | refine .mf ?_ | refine .cl ?_ | refine .cw ?_ | refine .ck ?_ | refine A.vstore (agg := true) rfl rfl rfl rfl rfl rfl rfl rfl rfl rfl rfl ?_ | fail
        refine Fin.ret1 rfl (Weak.eq (congrArg AV.bool ?_))
        rw [hp, hd]; rfl
      | some p =>
        have e1 : parR ps v.m[k].name = (p, true) := by rw [parR, hpo]
        have hpm : p ∈ ps := List.mem_of_find?_eq_some hpo
        have hpl := p.lens
        have hpz' := hpz p hpm
        have hft := ih v.m[k] (List.getElem_mem h1) p.t (by omega)
        rw [e1] at hpar
        rw [hpo] at hd
        repeat' first | refine A.allocv (d := 8) rfl rfl rfl rfl rfl ?_ | refine HCode.turn 8 rfl (Turn.freezeP rfl rfl rfl rfl) ?_ | refine .seq ?_ | refine .rg ?_ | refine .rd ?_ | refine .block ?_ | refine .scope ?_ | refine .skip ?_ | refine .label ?_ | refine .exit ?_ | refine .ret ?_ | refine .ct ?_ | refine .cf ?_ | refine .cy ?_ | refine .cn ?_ | (refine .cond rfl ?_ ?_ <;> intro hc) | refine A.nil_seq ?_ | refine .nl ?_ | refine .dd ?_ | refine .ys ?_ | refine .no ?_ | (refine A.guard rfl ?_ ?_ <;> intro hc) | refine .lb ?_ | refine .ln ?_ | refine .ls ?_ | refine .pv ?_ | refine .ix ?_ | refine .pt ?_ | refine .pf ?_ | refine .bx ?_ | refine .al ?_ | refine .st ?_ | refine .ad ?_ | refine .sb ?_ | refine .mf ?_ | refine .cl ?_ | refine .cw ?_ | refine .ck ?_ | refine A.vstore (agg := true) rfl rfl rfl rfl rfl rfl rfl rfl rfl rfl rfl ?_ | refine A.slice 0 k rfl rfl rfl rfl rfl rfl rfl rfl (Nat.zero_le _) hkv (.inl rfl) ?_ | fail
        all_goals first | (refine Fin.ret1 rfl (Weak.eq (congrArg AV.bool ?_)); rw [hp, hd]; simp_all; done) | (exact ⟨h1, ⟨rfl, rfl, rfl, rfl, rfl, rfl, trivial⟩, by simp [belowS, AV.low], rfl, rfl, by rw [hp, hd]; simp_all⟩)
    · have d1 : decide ((k : Int) < (v.mv.length : Int)) = false := by rw [v.mv_len]; simp; omega
      have hpe : fitsM s ps v.m [] = true := by rw [hp, List.drop_eq_nil_of_le (by omega), fitsM]
      rw [hpe, Bool.true_and]
      repeat' first | refine .seq ?_ | refine .rg ?_ | refine .rd ?_ | refine .block ?_ | refine .scope ?_ | refine .skip ?_ | refine .label ?_ | refine .exit ?_ | refine .ret ?_ | refine .ct ?_ | refine .cf ?_ | refine .cy ?_ | refine .cn ?_ | (refine .cond rfl ?_ ?_ <;> intro hc) | refine A.nil_seq ?_ | refine .nl ?_ | refine .dd ?_ | refine .ys ?_ | refine .no ?_ | (refine A.guard rfl ?_ ?_ <;> intro hc) | refine .lb ?_ | refine .ln ?_ | refine .ls ?_ | refine .pv ?_ | refine .ix ?_ | refine .pt ?_ | refine .pf ?_ | refine .bx ?_ | refine .al ?_ | refine .st ?_ | refine .ad ?_ | refine .sb ?_ | refine .mf ?_ | refine .cl ?_ | refine .cw ?_ | refine .ck ?_ | fail
      refine HCode.forK ps.length (fun k => [(55, .int .i64 k), (54, .int .i64 ps.length), (53, .slice (ps.map Par.enc) .no), (5, .rptr v.enc)])
        (fun _ => ⟨[], []⟩) (fun k => needsB v.m ps = needsB v.m (ps.drop k)) ⟨rfl, rfl, rfl, rfl, trivial⟩ rfl rfl fun j hj hq => ?_
      by_cases h2 : j < ps.length
      · have d2 : decide ((j : Int) < (ps.length : Int)) = true := by simp [h2]
        have x2 := map_get' (f := Par.enc) h2
        have hg := get ps[j].name v.m (by omega)
        rw [← v.mv_eq, getG_snd] at hg
        have hrq := lRequired ps[j] (hpz _ (List.getElem_mem h2))
        have hd := needsB_drop (m := v.m) h2
        repeat' first | refine .seq ?_ | refine .rg ?_ | refine .rd ?_ | refine .block ?_ | refine .scope ?_ | refine .skip ?_ | refine .label ?_ | refine .exit ?_ | refine .ret ?_ | refine .ct ?_ | refine .cf ?_ | refine .cy ?_ | refine .cn ?_ | (refine .cond rfl ?_ ?_ <;> intro hc) | refine A.nil_seq ?_ | refine .nl ?_ | refine .dd ?_ | refine .ys ?_ | refine .no ?_ | (refine A.guard rfl ?_ ?_ <;> intro hc) | refine .lb ?_ | refine .ln ?_ | refine .ls ?_ | refine .pv ?_ | refine .ix ?_ | refine .pt ?_ | refine .pf ?_ | refine .bx ?_ | refine .al ?_ | refine .st ?_ | refine .ad ?_ | refine .sb ?_ | refine .mf ?_ | refine .cl ?_ | refine .cw ?_ | refine .ck ?_ | fail
        all_goals first | (refine Fin.ret1 rfl (Weak.eq (congrArg AV.bool ?_)); rw [hq, hd]; simp_all; done) | (exact ⟨h2, ⟨rfl, rfl, rfl, rfl, trivial⟩, by simp [belowS, AV.low], rfl, rfl, by rw [hq, hd]; simp_all⟩)
      · have d2 : decide ((j : Int) < (ps.length : Int)) = false := by simp; omega
        repeat' first | refine .seq ?_ | refine .rg ?_ | refine .rd ?_ | refine .block ?_ | refine .scope ?_ | refine .skip ?_ | refine .label ?_ | refine .exit ?_ | refine .ret ?_ | refine .ct ?_ | refine .cf ?_ | refine .cy ?_ | refine .cn ?_ | (refine .cond rfl ?_ ?_ <;> intro hc) | refine A.nil_seq ?_ | refine .nl ?_ | refine .dd ?_ | refine .ys ?_ | refine .no ?_ | (refine A.guard rfl ?_ ?_ <;> intro hc) | refine .lb ?_ | refine .ln ?_ | refine .ls ?_ | refine .pv ?_ | refine .ix ?_ | refine .pt ?_ | refine .pf ?_ | refine .bx ?_ | refine .al ?_ | refine .st ?_ | refine .ad ?_ | refine .sb ?_ | refine .mf ?_ | refine .cl ?_ | refine .cw ?_ | refine .ck ?_ | fail
        refine Fin.ret1 rfl (Weak.eq (congrArg AV.bool ?_))
        rw [hq, List.drop_eq_nil_of_le (by omega), needsB]
  · have e7 : (v.kind != 7) = true := by simp [c7]
    have e7' : (v.kind == 7) = false := by simp [c7]
    rw [e7', Bool.false_and]
    repeat' first | refine .br ?_ | refine .seq ?_ | refine .rg ?_ | refine .rd ?_ | refine .block ?_ | refine .scope ?_ | refine .skip ?_ | refine .label ?_ | refine .exit ?_ | refine .ret ?_ | refine .ct ?_ | refine .cf ?_ | refine .cy ?_ | refine .cn ?_ | (refine .cond rfl ?_ ?_ <;> intro hc) | refine A.nil_seq ?_ | refine .nl ?_ | refine .dd ?_ | refine .ys ?_ | refine .no ?_ | (refine A.guard rfl ?_ ?_ <;> intro hc) | refine .lb ?_ | refine .ln ?_ | refine .ls ?_ | refine .pv ?_ | refine .ix ?_ | refine .pt ?_ | refine .pf ?_ | refine .bx ?_ | refine .al ?_ | refine .st ?_ | refine .ad ?_ | refine .sb ?_ | refine .mf ?_ | refine .cl ?_ | refine .cw ?_ | refine .ck ?_ | fail
    exact Fin.ret1 rfl (Weak.refl _)
theorem sizeL_take (l : List Val) (k : Nat) : Val.sizeL (l.take k) ≤ Val.sizeL l := by
  induction l generalizing k with
  | nil => simp
  | cons x l ih =>
    cases k with
    | zero => simp [Val.sizeL]
    | succ k => simp only [List.take_succ_cons, Val.sizeL]; have := ih k; omega
theorem sizeM_take (l : List Mem) (k : Nat) : Val.sizeM (l.take k) ≤ Val.sizeM l := by
  induction l generalizing k with
  | nil => simp
  | cons x l ih =>
    cases k with
    | zero => simp [Val.sizeM]
    | succ k => cases x; simp only [List.take_succ_cons, Val.sizeM]; have := ih k; omega
theorem Val.size_parts (v : Val) : Val.sizeL v.l ≤ v.size ∧ Val.sizeM v.m ≤ v.size := by
  cases v; rw [Val.size]; simp only [Val.l, Val.m]; omega
end Go.Proofs.YtegakkonlhmeaaaGreatDoor
namespace Go.Av
open Go
section
variable [Globals]
variable {P : Program} {all : Array Oper} {draw : Bool} {K : AX → Slots → St → Prop} {rest : List Oper} {acc : List Tag} {s : Slots} {σ : St} {d : Option Tmp} {ty : TypeId} {pos : String} {af : Array Edge}
theorem A.callG {f : FuncId} {args : Array Operand} {tys : Array TypeId} {xs ys cls cls' : List AV} {z n n' : Nat} {T' : List Tok} (j : Nat) (ha : evsK s args.toList some = some (.slice xs (.own j z) :: cls))
    (hp : AFn P f (.slice xs (.own 0 z) :: cls') ⟨[], [.len n]⟩ (fun e σ1 => e = .ret (.slice ys (.own 0 z)) ∧ σ1 = ⟨[], [.len n']⟩)) (hj : σ.T[j]? = some (.len n)) (hx : AV.closedL xs = true) (hy : AV.closedL ys = true) (hc : AV.closedL cls' = true) (hw : WeakL cls cls')
    (hT' : setTK j (.len n') σ.T some = some T') (k : AOps P all draw K rest (.all :: acc) (putS d (.slice ys (.own j z)) s) ⟨σ.B, T'⟩) : AOps P all draw K (⟨d, .call ⟨.value (.func f), args, tys⟩, ty, pos, af, none⟩ :: rest) acc s σ := by
  have hjl : j < σ.T.length := (List.getElem?_eq_some_iff.1 hj).1
  have hemb : emb σ.T.length [j] 0 = j := rfl
  refine A.callR (nB := σ.B.length) (nT := σ.T.length) (B0 := []) (T0 := [.len n]) (B1 := []) (T1 := [.len n']) (v0 := .slice ys (.own 0 z)) [] [j] ha hp rfl rfl ⟨List.nodup_nil, by simp⟩ ⟨by simp, by simpa using hjl⟩ rfl rfl (fun k i ob h => by simp at h) (fun k i t h ht => ?_) rfl rfl
    ?_ ?_ ?_ (B' := σ.B) (T' := T') ?_ ?_ k
  · cases k with
    | zero => simp at h ht; subst h; subst ht; exact hj
    | succ k => simp at h
  · simp only [AV.lowL, AV.low, AV.lowL_of_closed _ _ _ hx, AV.lowL_of_closed _ _ _ hc]; rfl
  · rw [AV.renL, AV.ren, AV.renL_closed _ _ _ hx, AV.renL_closed _ _ _ hc]
    exact WeakL.cons (Weak.refl _) hw
  · rw [AV.ren, AV.renL_closed _ _ _ hy]; rfl
  · rw [merge_nil]; simp
  · obtain ⟨_, hTe⟩ := setTK_spec _ _ _ _ _ hT'
    rw [← Option.some.inj hTe]
    simp [merge, upd, Tok.ren]
end
end Go.Av
namespace Go.Proofs.YtegakkonlhmeaaaGreatDoor
open Go Go.Av
attribute [local irreducible] HCode AOps PFn AFn Av.Step TStep
theorem varsV_eq (v : Val) (acc : List Str) : varsV v acc = if v.kind = 8 then addNew acc v.s else if v.kind = 6 then varsL v.l acc else if v.kind = 7 then varsM v.m acc else acc := by
  cases v; rw [varsV]; rfl
theorem addNew_len (acc : List Str) (x : Str) : (addNew acc x).length ≤ acc.length + 1 := by
  unfold addNew; split <;> simp
mutual
theorem varsV_len : ∀ (v : Val) (acc : List Str), (varsV v acc).length ≤ acc.length + v.size
  | .mk k n str l m, acc => by
    have h1 := varsL_len l acc
    have h2 := varsM_len m acc
    have h3 := addNew_len acc str
    rw [varsV, Val.size]
    split
    · omega
    · split
      · omega
      · split <;> omega
theorem varsL_len : ∀ (l : List Val) (acc : List Str), (varsL l acc).length ≤ acc.length + Val.sizeL l
  | [], acc => by rw [varsL]; omega
  | v :: l, acc => by
    have h1 := varsV_len v acc
    have h2 := varsL_len l (varsV v acc)
    rw [varsL, Val.sizeL]; omega
theorem varsM_len : ∀ (m : List Mem) (acc : List Str), (varsM m acc).length ≤ acc.length + Val.sizeM m
  | [], acc => by rw [varsM]; omega
  | .mk _ v :: m, acc => by
    have h1 := varsV_len v acc
    have h2 := varsM_len m (varsV v acc)
    rw [varsM, Val.sizeM]; omega
end
theorem varsL_app : ∀ (a b : List Val) (acc : List Str), varsL (a ++ b) acc = varsL b (varsL a acc)
  | [], b, acc => by rw [varsL]; rfl
  | x :: a, b, acc => by rw [List.cons_append, varsL, varsL, varsL_app a b]
theorem varsM_app : ∀ (a b : List Mem) (acc : List Str), varsM (a ++ b) acc = varsM b (varsM a acc)
  | [], b, acc => by rw [varsM]; rfl
  | .mk _ _ :: a, b, acc => by rw [List.cons_append, varsM, varsM, varsM_app a b]
theorem varsL_take {l : List Val} {k : Nat} {acc : List Str} (h : k < l.length) : varsL (l.take (k + 1)) acc = varsV l[k] (varsL (l.take k) acc) := by
  rw [List.take_succ_eq_append_getElem h, varsL_app, varsL, varsL]
theorem varsM_take {l : List Mem} {k : Nat} {acc : List Str} (h : k < l.length) : varsM (l.take (k + 1)) acc = varsV l[k].v (varsM (l.take k) acc) := by
  rw [List.take_succ_eq_append_getElem h, varsM_app]
  cases l[k]; rw [varsM, varsM]; rfl
theorem sizeL_succ {l : List Val} {k : Nat} (h : k < l.length) : Val.sizeL (l.take (k + 1)) = Val.sizeL (l.take k) + l[k].size := by
  rw [Val.sizeL_eq, Val.sizeL_eq]
  induction l generalizing k with
  | nil => simp at h
  | cons x l ih =>
    cases k with
    | zero => simp [sumSize]
    | succ k => simp only [List.take_succ_cons, sumSize, List.getElem_cons_succ]; rw [ih (by simpa using h)]; omega
theorem sizeM_succ {l : List Mem} {k : Nat} (h : k < l.length) : Val.sizeM (l.take (k + 1)) = Val.sizeM (l.take k) + l[k].name.length + 2 + l[k].v.size := by
  induction l generalizing k with
  | nil => simp at h
  | cons x l ih =>
    cases k with
    | zero => cases x; simp [Val.sizeM, Mem.name, Mem.v]
    | succ k => cases x; simp only [List.take_succ_cons, Val.sizeM, List.getElem_cons_succ]; rw [ih (by simpa using h)]; omega
abbrev VarsC (v : Val) (xs : List Str) : Prop := AFn Tryz.prog 72 [.slice (xs.map AV.str) (.own 0 1), v.enc] ⟨[], [.len xs.length]⟩ (fun e σ => e = .ret (.slice ((varsV v xs).map AV.str) (.own 0 1)) ∧ σ = ⟨[], [.len (varsV v xs).length]⟩)
theorem varsBody (v : Val) (hv : v.size ≤ 68719476736) (ihL : ∀ x ∈ v.l, ∀ xs : List Str, xs.length + x.size ≤ 137438953472 → VarsC x xs) (ihM : ∀ x ∈ v.m, ∀ xs : List Str, xs.length + x.v.size ≤ 137438953472 → VarsC x.v xs) (xs : List Str) (hxs : xs.length + v.size ≤ 137438953472) :
    HCode Tryz.prog Tryz.f72.ntmps [] (bodyOf Tryz.f72) (fin [4] (fun e σ => e = .ret (.slice ((varsV v xs).map AV.str) (.own 0 1)) ∧ σ = ⟨[], [.len (varsV v xs).length]⟩))
      [(0, .slice (xs.map AV.str) (.own 0 1)), (1, v.enc)] ⟨[], [.len xs.length]⟩ := by
  have hct := sContainsStr xs v.s (by omega)
  have hwk : WeakL [.slice (xs.map AV.str) (.own 0 1), .str v.s] [.slice (xs.map AV.str) .no, .str v.s] := WeakL.cons (Weak.no (WeakL.refl _)) (WeakL.refl _)
  have hll := v.l_len
  have hml := v.m_len
  have hsp := v.size_parts
  rw [varsV_eq]
  by_cases k8 : v.kind = 8
  · have q8 : (v.kind == 8) = true := by simp [k8]
    rw [if_pos k8]
    unfold addNew
    by_cases c : v.s ∈ xs
    · rw [decide_eq_true c] at hct
      rw [if_pos c]
      repeat' first | refine .br ?_ | refine A.call rfl hct hwk ?_ | refine .seq ?_ | refine .rg ?_ | refine .rd ?_ | refine .block ?_ | refine .scope ?_ | refine .skip ?_ | refine .label ?_ | refine .exit ?_ | refine .ret ?_ | refine .ct ?_ | refine .cf ?_ | refine .cy ?_ | refine .cn ?_ | (refine .cond rfl ?_ ?_ <;> intro hc) | refine A.nil_seq ?_ | refine .nl ?_ | refine .dd ?_ | refine .ys ?_ | refine .no ?_ | (refine A.guard rfl ?_ ?_ <;> intro hc) | refine .lb ?_ | refine .ln ?_ | refine .ls ?_ | refine .pv ?_ | refine .ix ?_ | refine .pt ?_ | refine .pf ?_ | refine .bx ?_ | refine .al ?_ | refine .st ?_ | refine .ad ?_ | refine .sb ?_ | refine .mf ?_ | refine .cl ?_ | refine .cw ?_ | refine .ck ?_ | fail
      exact ⟨rfl, rfl⟩
    · rw [decide_eq_false c] at hct
      rw [if_neg c]
      repeat' first | refine .br ?_ | refine A.call rfl hct hwk ?_ | refine .seq ?_ | refine .rg ?_ | refine .rd ?_ | refine .block ?_ | refine .scope ?_ | refine .skip ?_ | refine .label ?_ | refine .exit ?_ | refine .ret ?_ | refine .ct ?_ | refine .cf ?_ | refine .cy ?_ | refine .cn ?_ | (refine .cond rfl ?_ ?_ <;> intro hc) | refine A.nil_seq ?_ | refine .nl ?_ | refine .dd ?_ | refine .ys ?_ | refine .no ?_ | (refine A.guard rfl ?_ ?_ <;> intro hc) | refine .lb ?_ | refine .ln ?_ | refine .ls ?_ | refine .pv ?_ | refine .ix ?_ | refine .pt ?_ | refine .pf ?_ | refine .bx ?_ | refine .al ?_ | refine .st ?_ | refine .ad ?_ | refine .sb ?_ | refine .mf ?_ | refine .cl ?_ | refine .cw ?_ | refine .ck ?_ | refine A.append (n := xs.length) rfl rfl rfl rfl rfl rfl rfl rfl (List.length_map ..) rfl (by dsimp only [List.length_cons, List.length_nil]; omega) (by dsimp only [List.length_cons, List.length_nil]; omega) rfl ?_ | fail
      exact ⟨by rw [List.map_append]; rfl, by rw [List.length_append]; rfl⟩
  · have q8 : (v.kind == 8) = false := by simp [k8]
    rw [if_neg k8]
    by_cases k6 : v.kind = 6
    · have q6 : (v.kind == 6) = true := by simp [k6]
      rw [if_pos k6]
      repeat' first | refine .br ?_ | refine .seq ?_ | refine .rg ?_ | refine .rd ?_ | refine .block ?_ | refine .scope ?_ | refine .skip ?_ | refine .label ?_ | refine .exit ?_ | refine .ret ?_ | refine .ct ?_ | refine .cf ?_ | refine .cy ?_ | refine .cn ?_ | (refine .cond rfl ?_ ?_ <;> intro hc) | refine A.nil_seq ?_ | refine .nl ?_ | refine .dd ?_ | refine .ys ?_ | refine .no ?_ | (refine A.guard rfl ?_ ?_ <;> intro hc) | refine .lb ?_ | refine .ln ?_ | refine .ls ?_ | refine .pv ?_ | refine .ix ?_ | refine .pt ?_ | refine .pf ?_ | refine .bx ?_ | refine .al ?_ | refine .st ?_ | refine .ad ?_ | refine .sb ?_ | refine .mf ?_ | refine .cl ?_ | refine .cw ?_ | refine .ck ?_ | fail
      refine HCode.forK v.l.length (fun k => [(28, .int .i64 k), (27, .int .i64 v.lv.length), (26, .slice v.lv .no), (0, .slice ((varsL (v.l.take k) xs).map AV.str) (.own 0 1))])
        (fun k => ⟨[], [.len (varsL (v.l.take k) xs).length]⟩) (fun _ => True) ⟨rfl, rfl, rfl, by rw [List.take_zero, varsL]; rfl, trivial⟩ (by rw [List.take_zero, varsL]) trivial fun k hk _ => ?_
      by_cases h1 : k < v.l.length
      · have d1 : decide ((k : Int) < (v.lv.length : Int)) = true := by rw [v.lv_len]; simp [h1]
        have x1 := Val.lv_get h1
        have hlen := varsL_len (v.l.take k) xs
        have hlt := sizeL_take v.l (k + 1)
        have hst := sizeL_succ h1
        have hcc := ihL v.l[k] (List.getElem_mem h1) (varsL (v.l.take k) xs) (by omega)
        rw [VarsC, ← varsL_take h1] at hcc
        repeat' first | refine .seq ?_ | refine .rg ?_ | refine .rd ?_ | refine .block ?_ | refine .scope ?_ | refine .skip ?_ | refine .label ?_ | refine .exit ?_ | refine .ret ?_ | refine .ct ?_ | refine .cf ?_ | refine .cy ?_ | refine .cn ?_ | (refine .cond rfl ?_ ?_ <;> intro hc) | refine A.nil_seq ?_ | refine .nl ?_ | refine .dd ?_ | refine .ys ?_ | refine .no ?_ | (refine A.guard rfl ?_ ?_ <;> intro hc) | refine .lb ?_ | refine .ln ?_ | refine .ls ?_ | refine .pv ?_ | refine .ix ?_ | refine .pt ?_ | refine .pf ?_ | refine .bx ?_ | refine .al ?_ | refine .st ?_ | refine .ad ?_ | refine .sb ?_ | refine .mf ?_ | refine .cl ?_ | refine .cw ?_ | refine .ck ?_ | refine A.callG 0 rfl hcc rfl (str_closedL _) (str_closedL _) (by simp [AV.closedL, Val.closed]) (WeakL.refl _) rfl ?_ | fail
        exact ⟨h1, ⟨rfl, rfl, rfl, rfl, trivial⟩, by simp [belowS, AV.low], rfl, rfl, trivial⟩
      · have d1 : decide ((k : Int) < (v.lv.length : Int)) = false := by rw [v.lv_len]; simp; omega
        obtain rfl : k = v.l.length := by omega
        rw [List.take_length]
        repeat' first | refine .seq ?_ | refine .rg ?_ | refine .rd ?_ | refine .block ?_ | refine .scope ?_ | refine .skip ?_ | refine .label ?_ | refine .exit ?_ | refine .ret ?_ | refine .ct ?_ | refine .cf ?_ | refine .cy ?_ | refine .cn ?_ | (refine .cond rfl ?_ ?_ <;> intro hc) | refine A.nil_seq ?_ | refine .nl ?_ | refine .dd ?_ | refine .ys ?_ | refine .no ?_ | (refine A.guard rfl ?_ ?_ <;> intro hc) | refine .lb ?_ | refine .ln ?_ | refine .ls ?_ | refine .pv ?_ | refine .ix ?_ | refine .pt ?_ | refine .pf ?_ | refine .bx ?_ | refine .al ?_ | refine .st ?_ | refine .ad ?_ | refine .sb ?_ | refine .mf ?_ | refine .cl ?_ | refine .cw ?_ | refine .ck ?_ | fail
        exact ⟨rfl, rfl⟩
    · have q6 : (v.kind == 6) = false := by simp [k6]
      rw [if_neg k6]
      by_cases k7 : v.kind = 7
      · have q7 : (v.kind == 7) = true := by simp [k7]
        rw [if_pos k7]
        repeat' first | refine .br ?_ | refine .seq ?_ | refine .rg ?_ | refine .rd ?_ | refine .block ?_ | refine .scope ?_ | refine .skip ?_ | refine .label ?_ | refine .exit ?_ | refine .ret ?_ | refine .ct ?_ | refine .cf ?_ | refine .cy ?_ | refine .cn ?_ | (refine .cond rfl ?_ ?_ <;> intro hc) | refine A.nil_seq ?_ | refine .nl ?_ | refine .dd ?_ | refine .ys ?_ | refine .no ?_ | (refine A.guard rfl ?_ ?_ <;> intro hc) | refine .lb ?_ | refine .ln ?_ | refine .ls ?_ | refine .pv ?_ | refine .ix ?_ | refine .pt ?_ | refine .pf ?_ | refine .bx ?_ | refine .al ?_ | refine .st ?_ | refine .ad ?_ | refine .sb ?_ | refine .mf ?_ | refine .cl ?_ | refine .cw ?_ | refine .ck ?_ | fail
        refine HCode.forK v.m.length (fun k => [(41, .int .i64 k), (40, .int .i64 v.mv.length), (39, .slice v.mv .no), (0, .slice ((varsM (v.m.take k) xs).map AV.str) (.own 0 1))])
          (fun k => ⟨[], [.len (varsM (v.m.take k) xs).length]⟩) (fun _ => True) ⟨rfl, rfl, rfl, by rw [List.take_zero, varsM]; rfl, trivial⟩ (by rw [List.take_zero, varsM]) trivial fun k hk _ => ?_
        by_cases h1 : k < v.m.length
        · have d1 : decide ((k : Int) < (v.mv.length : Int)) = true := by rw [v.mv_len]; simp [h1]
          have x1 := Val.mv_get h1
          have hlen := varsM_len (v.m.take k) xs
          have hlt := sizeM_take v.m (k + 1)
          have hst := sizeM_succ h1
          have hcc := ihM v.m[k] (List.getElem_mem h1) (varsM (v.m.take k) xs) (by omega)
          rw [VarsC, ← varsM_take h1] at hcc
          repeat' first | refine .seq ?_ | refine .rg ?_ | refine .rd ?_ | refine .block ?_ | refine .scope ?_ | refine .skip ?_ | refine .label ?_ | refine .exit ?_ | refine .ret ?_ | refine .ct ?_ | refine .cf ?_ | refine .cy ?_ | refine .cn ?_ | (refine .cond rfl ?_ ?_ <;> intro hc) | refine A.nil_seq ?_ | refine .nl ?_ | refine .dd ?_ | refine .ys ?_ | refine .no ?_ | (refine A.guard rfl ?_ ?_ <;> intro hc) | refine .lb ?_ | refine .ln ?_ | refine .ls ?_ | refine .pv ?_ | refine .ix ?_ | refine .pt ?_ | refine .pf ?_ | refine .bx ?_ | refine .al ?_ | refine .st ?_ | refine .ad ?_ | refine .sb ?_ | refine .mf ?_ | refine .cl ?_ | refine .cw ?_ | refine .ck ?_ | refine A.callG 0 rfl hcc rfl (str_closedL _) (str_closedL _) (by simp [AV.closedL, Val.closed]) (WeakL.refl _) rfl ?_ | fail
          exact ⟨h1, ⟨rfl, rfl, rfl, rfl, trivial⟩, by simp [belowS, AV.low], rfl, rfl, trivial⟩
        · have d1 : decide ((k : Int) < (v.mv.length : Int)) = false := by rw [v.mv_len]; simp; omega
          obtain rfl : k = v.m.length := by omega
          rw [List.take_length]
          repeat' first | refine .seq ?_ | refine .rg ?_ | refine .rd ?_ | refine .block ?_ | refine .scope ?_ | refine .skip ?_ | refine .label ?_ | refine .exit ?_ | refine .ret ?_ | refine .ct ?_ | refine .cf ?_ | refine .cy ?_ | refine .cn ?_ | (refine .cond rfl ?_ ?_ <;> intro hc) | refine A.nil_seq ?_ | refine .nl ?_ | refine .dd ?_ | refine .ys ?_ | refine .no ?_ | (refine A.guard rfl ?_ ?_ <;> intro hc) | refine .lb ?_ | refine .ln ?_ | refine .ls ?_ | refine .pv ?_ | refine .ix ?_ | refine .pt ?_ | refine .pf ?_ | refine .bx ?_ | refine .al ?_ | refine .st ?_ | refine .ad ?_ | refine .sb ?_ | refine .mf ?_ | refine .cl ?_ | refine .cw ?_ | refine .ck ?_ | fail
          exact ⟨rfl, rfl⟩
      · have q7 : (v.kind == 7) = false := by simp [k7]
        rw [if_neg k7]
        repeat' first | refine .br ?_ | refine .seq ?_ | refine .rg ?_ | refine .rd ?_ | refine .block ?_ | refine .scope ?_ | refine .skip ?_ | refine .label ?_ | refine .exit ?_ | refine .ret ?_ | refine .ct ?_ | refine .cf ?_ | refine .cy ?_ | refine .cn ?_ | (refine .cond rfl ?_ ?_ <;> intro hc) | refine A.nil_seq ?_ | refine .nl ?_ | refine .dd ?_ | refine .ys ?_ | refine .no ?_ | (refine A.guard rfl ?_ ?_ <;> intro hc) | refine .lb ?_ | refine .ln ?_ | refine .ls ?_ | refine .pv ?_ | refine .ix ?_ | refine .pt ?_ | refine .pf ?_ | refine .bx ?_ | refine .al ?_ | refine .st ?_ | refine .ad ?_ | refine .sb ?_ | refine .mf ?_ | refine .cl ?_ | refine .cw ?_ | refine .ck ?_ | fail
        exact ⟨rfl, rfl⟩
theorem vVarsC : ∀ N : Nat, N ≤ 68719476736 → ∀ v : Val, v.size ≤ N → ∀ xs : List Str, xs.length + v.size ≤ 137438953472 → VarsC v xs
  | 0, _, v, hv => absurd hv (by have := v.size_pos; omega)
  | N + 1, hN, v, hv => fun xs hxs => by
    have ih := vVarsC N (by omega)
    have hb := varsBody v (by omega) (fun x hx ys hy => ih x (by
      obtain ⟨k, hk, rfl⟩ := List.getElem_of_mem hx
      have := Val.size_l hk; omega) ys hy) (fun x hx ys hy => ih x.v (by
      obtain ⟨k, hk, rfl⟩ := List.getElem_of_mem hx
      have := Val.size_m hk; omega) ys hy) xs hxs
    exact AFn.enter [4] Tryz.func72 rfl rfl rfl rfl rfl (by decide) hb
theorem vVars (v : Val) (hv : v.size ≤ 68719476736) : PFn Tryz.prog 37 [v.enc] (.slice ((varsV v []).map AV.str) .no) := by
  have hn : PFn Tryz.prog 72 [.slice [] .nil, v.enc] (.slice ((varsV v []).map AV.str) .no) := by
    have hb := varsBody v hv (fun x hx ys hy => vVarsC 68719476736 (Nat.le_refl _) x (by
      obtain ⟨k, hk, rfl⟩ := List.getElem_of_mem hx
      have := Val.size_l hk; omega) ys hy) (fun x hx ys hy => vVarsC 68719476736 (Nat.le_refl _) x.v (by
      obtain ⟨k, hk, rfl⟩ := List.getElem_of_mem hx
      have := Val.size_m hk; omega) ys hy) [] (by simp only [List.length_nil]; omega)
    refine AFn.plain (by simp [AV.closed, str_closedL]) (by simp [AV.closed, AV.closedL, Val.closed]) (AFn.enter [4] Tryz.func72 rfl rfl rfl rfl rfl (by decide) ?_)
    refine HCode.adopt 0 false 1 rfl rfl rfl rfl rfl rfl ?_
    refine HCode.weaken (s := [(0, .slice [] (.own 0 1)), (1, v.enc)]) (hb.mono fun e s σ h => ?_) ⟨rfl, rfl, trivial⟩
    cases e with
    | normal => exact ⟨_, h.1, Weak.no (WeakL.refl _)⟩
    | ret => exact ⟨_, h.1, Weak.no (WeakL.refl _)⟩
    | pan x => exact absurd h.1 (by simp)
    | exit id => exact h
    | goto l => exact h
  refine AFn.plain (by simp [AV.closed, str_closedL]) (by simp [AV.closed, AV.closedL, Val.closed]) (AFn.enter [2] Tryz.func37 rfl rfl rfl rfl rfl (by decide) ?_)
  repeat' first | refine .br ?_ | refine .seq ?_ | refine .rg ?_ | refine .rd ?_ | refine .block ?_ | refine .scope ?_ | refine .skip ?_ | refine .label ?_ | refine .exit ?_ | refine .ret ?_ | refine .ct ?_ | refine .cf ?_ | refine .cy ?_ | refine .cn ?_ | (refine .cond rfl ?_ ?_ <;> intro hc) | refine A.nil_seq ?_ | refine .nl ?_ | refine .dd ?_ | refine .ys ?_ | refine .no ?_ | (refine A.guard rfl ?_ ?_ <;> intro hc) | refine .lb ?_ | refine .ln ?_ | refine .ls ?_ | refine .pv ?_ | refine .ix ?_ | refine .pt ?_ | refine .pf ?_ | refine .bx ?_ | refine .al ?_ | refine .st ?_ | refine .ad ?_ | refine .sb ?_ | refine .mf ?_ | refine .cl ?_ | refine .cw ?_ | refine .ck ?_ | fail
  exact Fin.ret1 rfl (Weak.refl _)
end Go.Proofs.YtegakkonlhmeaaaGreatDoor
namespace Go.Proofs.YtegakkonlhmeaaaGreatDoor
open Go Go.Av
mutual
def depV : Val → Nat
  | .mk k _ _ l m => if k = 6 then depL l + 1 else if k = 7 then depM m + 1 else 0
def depL : List Val → Nat
  | [] => 0
  | v :: l => max (depV v) (depL l)
def depM : List Mem → Nat
  | [] => 0
  | .mk _ v :: m => max (depV v) (depM m)
end
theorem depV_eq (v : Val) : depV v = if v.kind = 6 then depL v.l + 1 else if v.kind = 7 then depM v.m + 1 else 0 := by cases v; rw [depV]; rfl
mutual
theorem depV_le : ∀ v : Val, depV v < v.size
  | .mk k n s l m => by
    have h1 := depL_le l
    have h2 := depM_le m
    rw [depV, Val.size]
    split
    · omega
    · split <;> omega
theorem depL_le : ∀ l : List Val, depL l ≤ Val.sizeL l
  | [] => by rw [depL]; omega
  | v :: l => by
    have h1 := depV_le v
    have h2 := depL_le l
    rw [depL, Val.sizeL]; omega
theorem depM_le : ∀ m : List Mem, depM m ≤ Val.sizeM m
  | [] => by rw [depM]; omega
  | .mk n v :: m => by
    have h1 := depV_le v
    have h2 := depM_le m
    rw [depM, Val.sizeM]; omega
end
theorem depL_app : ∀ a b : List Val, depL (a ++ b) = max (depL a) (depL b)
  | [], b => by rw [List.nil_append, depL]; omega
  | v :: a, b => by rw [List.cons_append, depL, depL, depL_app a b]; omega
theorem depM_app : ∀ a b : List Mem, depM (a ++ b) = max (depM a) (depM b)
  | [], b => by rw [List.nil_append, depM]; omega
  | .mk n v :: a, b => by rw [List.cons_append, depM, depM, depM_app a b]; omega
theorem depL_take {l : List Val} {k : Nat} (h : k < l.length) : depL (l.take (k + 1)) = max (depL (l.take k)) (depV l[k]) := by
  rw [List.take_succ_eq_append_getElem h, depL_app, depL, depL]; omega
theorem depM_take {l : List Mem} {k : Nat} (h : k < l.length) : depM (l.take (k + 1)) = max (depM (l.take k)) (depV l[k].v) := by
  rw [List.take_succ_eq_append_getElem h, depM_app]
  congr 1
  cases hx : l[k]; rw [depM, depM]
  exact Nat.max_zero _
def plainV (v : Val) : Bool := allV nameB v && decide (depV v ≤ 16)
def valFix (v : Val) : Bool := plainV v && decide (varsV v [] = [])
def dfltOk (p : Par) : Bool := if p.has = true then valFix p.d else sameV p.d val0
def parOk (p : Par) : Bool := nameB p.name && (rightT p.t && dfltOk p)
def argsOk (m : List Mem) : Bool := m.all fun x => nameB x.name && valFix x.v
def dirOk (d : Dirc) : Bool := nameB d.name && argsOk d.args
def fldOk (f : Fld) : Bool := nameB f.name && (f.params.all parOk && (rightT f.t && f.dirs.all dirOk))
def sTrue : Str := [116, 114, 117, 101]
def sFalse : Str := [102, 97, 108, 115, 101]
def sNull : Str := [110, 117, 108, 108]
def partOk (s : Str) : Bool := (s != sTrue && (s != sFalse && s != sNull)) && nameB s
def dfnOk (d : Dfn) : Bool :=
  if d.kind = 1 ∨ d.kind = 2 then (decide (d.fields ≠ []) && decide (d.parts = [] ∧ d.params = [])) && (nameB d.name && (d.faces.all nameB && d.fields.all fldOk))
  else if d.kind = 3 then (decide (d.parts ≠ []) && decide (d.faces = [] ∧ d.fields = [] ∧ d.params = [])) && (nameB d.name && d.parts.all nameB)
  else if d.kind = 4 then (decide (d.parts ≠ []) && decide (d.faces = [] ∧ d.fields = [] ∧ d.params = [])) && (nameB d.name && d.parts.all partOk)
  else if d.kind = 5 then (decide (d.params ≠ []) && decide (d.faces = [] ∧ d.fields = [] ∧ d.parts = [])) && (nameB d.name && d.params.all parOk)
  else false
def sdlOk (s : Sch) : Bool := nameB s.query && ((s.mutation == [] || nameB s.mutation) && s.defs.all dfnOk)
def own2 (n : Str) : Bool := n.take 2 == [95, 95]
def onceB (l : List Str) : Bool := decide l.Nodup
def foreignB (l : List Str) : Bool := !l.any own2
def goodNames (l : List Str) : Bool := onceB l && foreignB l
def everyB (s : Sch) (f : Dfn → Bool) : Bool := !s.defs.any fun d => !f d
def dNames (s : Sch) : List Str := s.defs.map Dfn.name
def namedB (s : Sch) : Bool := sdlOk s && (onceB (dNames s) && (foreignB (dNames s) && !(dNames s).any fun n => kindB s n [0]))
def rootsB (s : Sch) : Bool := kindB s s.query [1] && (s.mutation == [] || (s.mutation != s.query && kindB s s.mutation [1]))
def sole1 (d : Dfn) : Bool := goodNames (d.fields.map Fld.name) && (goodNames (d.params.map Par.name) && (onceB d.parts && (onceB d.faces && !d.fields.any fun f => !goodNames (f.params.map Par.name))))
def soleB (s : Sch) : Bool := everyB s sole1
def entriesB (s : Sch) (l : List Par) : Bool := !l.any fun p => !entryB s p.t.name
def typed1 (s : Sch) (d : Dfn) : Bool := entriesB s d.params && !d.fields.any fun f => ((!leafB s f.t.name && !compB s f.t.name) || !entriesB s f.params)
def typedB (s : Sch) : Bool := everyB s (typed1 s)
def face2 (s : Sch) (d : Dfn) (n : Str) : Bool := !(findR s n).2 || ((findR s n).1.kind != 2 || (n == d.name || (findR s n).1.faces.any fun m => !decide (m ∈ d.faces)))
def faces1 (s : Sch) (d : Dfn) : Bool := !d.faces.any (face2 s d)
def facesB (s : Sch) : Bool := everyB s (faces1 s)
def possF (l : List Str) (d : Dfn) (name : Str) : List Str := if d.kind = 1 ∧ name ∈ d.faces then addNew l d.name else l
def possU (s : Sch) (l : List Str) (p : Str) : List Str := if kindB s p [1] = true then addNew l p else l
def possB (s : Sch) (name : Str) : List Str :=
  match findO s name with
  | none => []
  | some d => if d.kind = 1 then [name] else if d.kind = 2 then s.defs.foldl (fun l x => possF l x name) [] else if d.kind = 3 then d.parts.foldl (possU s) [] else []
def andNotI (m n : Int) : Int := IntKind.i64.wrap (((BitVec.ofInt IntKind.i64.bits m) &&& ~~~(BitVec.ofInt IntKind.i64.bits n)).toNat : Int)
def subT (a b : Typ) : Bool := rightT a && (rightT b && (a.name == b.name && (a.lists == b.lists && andNotI b.musts a.musts == 0)))
def subB (s : Sch) (a b : Typ) : Bool :=
  (rightT a && subT ⟨b.name, a.lists, a.musts⟩ b) && (a.name == b.name || ((findR s a.name).2 &&
    (((findR s a.name).1.kind == 1 && decide (a.name ∈ possB s b.name)) || ((findR s a.name).1.kind == 2 && (kindB s b.name [2] && decide (b.name ∈ (findR s a.name).1.faces))))))
def fldO (l : List Fld) (name : Str) : Option Fld := l.find? (fun f => f.name == name)
def takesB (f g : Fld) : Bool :=
  (g.params.all fun p => match parO f.params p.name with | none => false | some q => decide (q.t = p.t)) && (f.params.all fun q => !((parO g.params q.name).isNone && reqB q))
def hasB (s : Sch) (d : Dfn) (face : Str) : Bool := (findR s face).1.fields.all fun g => match fldO d.fields g.name with | none => false | some f => subB s f.t g.t && takesB f g
def kept1 (s : Sch) (d : Dfn) : Bool := !d.faces.any fun n => !hasB s d n
def keptB (s : Sch) : Bool := everyB s (kept1 s)
def parts1 (s : Sch) (d : Dfn) : Bool := d.kind != 3 || !d.parts.any fun n => !kindB s n [1]
def partsB (s : Sch) : Bool := everyB s (parts1 s)
def needP (s : Sch) (p : Par) : Bool := decide (p.t.lists = 0) && (isT p.t && kindB s p.t.name [5])
def needAdd (s : Sch) (l : List Str) (p : Par) : List Str := if needP s p = true then addNew l p.t.name else l
def needsP (s : Sch) (name : Str) : List Str := (findR s name).1.params.foldl (needAdd s) []
def closeF (next : Str → List Str) : Nat → Nat → List Str → List Str
  | 0, _, l => l
  | n + 1, i, l => match l[i]? with
    | none => l
    | some x => closeF next n (i + 1) ((next x).foldl addNew l)
def allTs (s : Sch) : List Str := s.defs.flatMap fun d => d.params.map fun p => p.t.name
def ringsB (s : Sch) (name : Str) : Bool := decide (name ∈ closeF (needsP s) (allTs s).length 0 (needsP s name))
def open1 (s : Sch) (d : Dfn) : Bool := d.kind != 5 || !ringsB s d.name
def openB (s : Sch) : Bool := everyB s (open1 s)
def rightB (s : Sch) (l : List Par) : Bool := !l.any fun p => p.has && !litR s p.t p.d
def dflts1 (s : Sch) (d : Dfn) : Bool := rightB s d.params && (!(d.params.any fun p => p.has && !leafB s p.t.name) && !d.fields.any fun f => !rightB s f.params)
def dfltsB (s : Sch) : Bool := everyB s (dflts1 s)
def ruleB (s : Sch) (n : Int) : Bool :=
  if n = 1 then namedB s else if n = 2 then rootsB s else if n = 3 then soleB s else if n = 4 then typedB s else if n = 5 then facesB s else if n = 6 then keptB s else if n = 7 then partsB s else if n = 8 then openB s else if n = 9 then dfltsB s else false
def checkF (s : Sch) : Nat → Int → Int
  | 0, _ => 0
  | k + 1, n => if ruleB s n = true then checkF s k (n + 1) else n
def checkI (s : Sch) : Int := checkF s 9 1
end Go.Proofs.YtegakkonlhmeaaaGreatDoor
