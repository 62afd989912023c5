/-
  The package literal: Param, Required, input, bare, fits, Right.
-/
import Derived.Test.YtijlmchfepjjkaaGreatDoorMVar
import Derived.Test.YtijlmchfepjjkaaGreatDoorMDefs
namespace Go.Proofs.YtijlmchfepjjkaaGreatDoor
open Go Go.Av
set_option maxRecDepth 100000
set_option maxHeartbeats 16000000
set_option linter.unusedVariables false
set_option linter.unusedSimpArgs false
attribute [local irreducible] HCode AOps PFn AFn Av.Step TStep

theorem weak_zeroP {t1 t2 : Tk} : Weak (.agg [.str [], .str [], .int .i64 0, .int .i64 0, .bool false, .int .i64 0, .int .i64 0, .str [], .slice [] t1, .slice [] t2]) zeroP.enc := by
  unfold Par.enc zeroP
  rw [show (val0).lv = [] by rw [val0, lv_mk], show (val0).mv = [] by rw [val0, mv_mk]]
  exact Weak.agg (WeakL.cons (Weak.refl _) (WeakL.cons (Weak.refl _) (WeakL.cons (Weak.refl _) (WeakL.cons (Weak.refl _) (WeakL.cons (Weak.refl _) (WeakL.cons (Weak.refl _) (WeakL.cons (Weak.refl _) (WeakL.cons (Weak.refl _) (WeakL.cons (Weak.no (WeakL.refl _)) (WeakL.cons (Weak.no (WeakL.refl _)) (WeakL.refl _)))))))))))
theorem lParam1 (p : Par) (name : Str) : PFn Tryz.prog 56 [p.enc, .rptr (.str name)] (.bool (p.name == name)) := by
  refine AFn.plain rfl (by simp [AV.closed, AV.closedL, Par.closed]) (AFn.enter [3] Tryz.func56 rfl rfl rfl rfl rfl (by decide) ?_)
  repeat' first
    | refine .br ?_
    | refine .seq ?_ | refine .rg ?_ | refine .rd ?_ | refine .block ?_ | refine .scope ?_ | refine .skip ?_ | refine .label ?_ | refine .exit ?_ | refine .ret ?_
    | refine .ct ?_ | refine .cf ?_ | refine .cy ?_ | refine .cn ?_ | (refine .cond rfl ?_ ?_ <;> intro hc)
    | refine A.nil_seq ?_ | refine .nl ?_ | refine .dd ?_ | refine .ys ?_ | refine .no ?_ | (refine A.guard rfl ?_ ?_ <;> intro hc)
    | refine .lb ?_ | refine .ln ?_ | refine .ls ?_ | refine .pv ?_ | refine .ix ?_ | refine .pt ?_ | refine .pf ?_ | refine .bx ?_ | refine .al ?_ | refine .st ?_ | refine .ad ?_ | refine .sb ?_ | refine .mf ?_ | refine .cl ?_ | refine .cw ?_ | refine .ck ?_ | fail
  exact Fin.ret1 rfl (Weak.refl _)
theorem lParam (l : List Par) (name : Str) (hl : l.length ≤ 9223372036854775807) : PFn Tryz.prog 31 [.slice (l.map Par.enc) .no, .str name] (.tup [(parR l name).1.enc, .bool (parR l name).2]) := by
  have h := sIndexFPar l 56 [.rptr (.str name)] (fun p => p.name == name) hl rfl (fun x _ => lParam1 x name)
  refine AFn.plain (by simp [AV.closed, AV.closedL, Par.closed]) (by simp [AV.closed, AV.closedL, Par.closedL]) (AFn.enterR [.cell 4 79, .tmp 5] Tryz.func31 rfl rfl rfl rfl rfl ?_)
  rcases idxFrom_spec (fun p : Par => p.name == name) l 0 with ⟨h1, h2⟩ | ⟨j, hj, h1, h2⟩
  · rw [h1] at h
    repeat' first
      | refine .br ?_
      | refine .seq ?_ | refine .rg ?_ | refine .rd ?_ | refine .block ?_ | refine .scope ?_ | refine .skip ?_ | refine .label ?_ | refine .exit ?_ | refine .ret ?_
      | refine .ct ?_ | refine .cf ?_ | refine .cy ?_ | refine .cn ?_ | (refine .cond rfl ?_ ?_ <;> intro hc)
      | refine A.nil_seq ?_ | refine .nl ?_ | refine .dd ?_ | refine .ys ?_ | refine .no ?_ | (refine A.guard rfl ?_ ?_ <;> intro hc)
      | refine .lb ?_ | refine .ln ?_ | refine .ls ?_ | refine .pv ?_ | refine .ix ?_ | refine .pt ?_ | refine .pf ?_ | refine .bx ?_ | refine .al ?_ | refine .st ?_ | refine .ad ?_ | refine .sb ?_ | refine .mf ?_ | refine .cl ?_ | refine .cw ?_ | refine .ck ?_ | fail
    refine FinR.ret1 rfl ?_
    rw [parR, parO, h2]
    exact Weak.tup (WeakL.cons weak_zeroP (WeakL.refl _))
  · rw [h1] at h
    have d1 : decide (((0 + j : Nat) : Int) < 0) = false := decide_eq_false (by omega)
    have x1 : (l.map Par.enc)[0 + j]? = some l[j].enc := by rw [Nat.zero_add]; exact map_get' (f := Par.enc) hj
    repeat' first
      | refine .br ?_
      | refine .seq ?_ | refine .rg ?_ | refine .rd ?_ | refine .block ?_ | refine .scope ?_ | refine .skip ?_ | refine .label ?_ | refine .exit ?_ | refine .ret ?_
      | refine .ct ?_ | refine .cf ?_ | refine .cy ?_ | refine .cn ?_ | (refine .cond rfl ?_ ?_ <;> intro hc)
      | refine A.nil_seq ?_ | refine .nl ?_ | refine .dd ?_ | refine .ys ?_ | refine .no ?_ | (refine A.guard rfl ?_ ?_ <;> intro hc)
      | refine .lb ?_ | refine .ln ?_ | refine .ls ?_ | refine .pv ?_ | refine .ix ?_ | refine .pt ?_ | refine .pf ?_ | refine .bx ?_ | refine .al ?_ | refine .st ?_ | refine .ad ?_ | refine .sb ?_ | refine .mf ?_ | refine .cl ?_ | refine .cw ?_ | refine .ck ?_ | fail
    refine FinR.ret1 rfl (Weak.eq ?_)
    rw [parR, parO, h2]; rfl
theorem lRequired (p : Par) (hp : p.size ≤ 2097152) : PFn Tryz.prog 104 [p.enc] (.bool (reqB p)) := by
  have h := wIs p.t (by have := p.lens; omega)
  refine AFn.plain rfl (by simp [AV.closed, AV.closedL, Par.closed]) (AFn.enter [2] Tryz.func104 rfl rfl rfl rfl rfl (by decide) ?_)
  unfold reqB
  repeat' first
    | refine .br ?_
    | refine .seq ?_ | refine .rg ?_ | refine .rd ?_ | refine .block ?_ | refine .scope ?_ | refine .skip ?_ | refine .label ?_ | refine .exit ?_ | refine .ret ?_
    | refine .ct ?_ | refine .cf ?_ | refine .cy ?_ | refine .cn ?_ | (refine .cond rfl ?_ ?_ <;> intro hc)
    | refine A.nil_seq ?_ | refine .nl ?_ | refine .dd ?_ | refine .ys ?_ | refine .no ?_ | (refine A.guard rfl ?_ ?_ <;> intro hc)
    | refine .lb ?_ | refine .ln ?_ | refine .ls ?_ | refine .pv ?_ | refine .ix ?_ | refine .pt ?_ | refine .pf ?_ | refine .bx ?_ | refine .al ?_ | refine .st ?_ | refine .ad ?_ | refine .sb ?_ | refine .mf ?_ | refine .cl ?_ | refine .cw ?_ | refine .ck ?_ | fail
  all_goals
    refine Fin.ret1 rfl (Weak.eq (congrArg AV.bool ?_))
    simp_all
theorem lInput1 (x m : Mem) : PFn Tryz.prog 103 [x.enc, .rptr m.enc] (.bool (x.name == m.name)) := by
  refine AFn.plain rfl (by simp [AV.closed, AV.closedL, Mem.closed]) (AFn.enter [3] Tryz.func103 rfl rfl rfl rfl rfl (by decide) ?_)
  repeat' first
    | refine .br ?_
    | refine .seq ?_ | refine .rg ?_ | refine .rd ?_ | refine .block ?_ | refine .scope ?_ | refine .skip ?_ | refine .label ?_ | refine .exit ?_ | refine .ret ?_
    | refine .ct ?_ | refine .cf ?_ | refine .cy ?_ | refine .cn ?_ | (refine .cond rfl ?_ ?_ <;> intro hc)
    | refine A.nil_seq ?_ | refine .nl ?_ | refine .dd ?_ | refine .ys ?_ | refine .no ?_ | (refine A.guard rfl ?_ ?_ <;> intro hc)
    | refine .lb ?_ | refine .ln ?_ | refine .ls ?_ | refine .pv ?_ | refine .ix ?_ | refine .pt ?_ | refine .pf ?_ | refine .bx ?_ | refine .al ?_ | refine .st ?_ | refine .ad ?_ | refine .sb ?_ | refine .mf ?_ | refine .cl ?_ | refine .cw ?_ | refine .ck ?_ | fail
  exact Fin.ret1 rfl (Weak.refl _)
theorem getG_snd (name : Str) : ∀ l : List Mem, (getG name l).2 = l.any fun x => x.name == name
  | [] => rfl
  | m :: l => by
    rw [getG, List.any_cons]
    cases m.name == name with
    | true => rfl
    | false => rw [if_neg (by decide), getG_snd name l]; rfl
theorem parR_in {l : List Par} {name : Str} : (parR l name).1 ∈ l ∨ (parR l name).1 = zeroP := by
  unfold parR parO
  split
  · rename_i p hp; exact .inl (List.mem_of_find?_eq_some hp)
  · exact .inr rfl
theorem any_name (x : Str) (l : List Mem) : (l.any fun y => y.name == x) = decide (x ∈ l.map Mem.name) := by
  rw [Bool.eq_iff_iff, List.any_eq_true, decide_eq_true_eq, List.mem_map]
  constructor
  · rintro ⟨y, hy, e⟩; exact ⟨y, hy, by simpa using e⟩
  · rintro ⟨y, hy, e⟩; exact ⟨y, hy, by simp [e]⟩
theorem needsB_drop {m : List Mem} {ps : List Par} {k : Nat} (h : k < ps.length) : needsB m (ps.drop k) = (((m.any fun x => x.name == ps[k].name) || !reqB ps[k]) && needsB m (ps.drop (k + 1))) := by
  rw [List.drop_eq_getElem_cons h, needsB]
theorem lInput (s : Sch) (ps : List Par) (v : Val) (hs : s.size ≤ 2097152) (hps : ps.length ≤ 2097152) (hpz : ∀ p ∈ ps, p.size ≤ 2097152) (hv : v.size ≤ 2097152)
    (ih : ∀ x ∈ v.m, ∀ t : Typ, t.name.length ≤ 2097152 → PFn Tryz.prog 52 [s.enc, t.enc, x.v.enc, .bool false] (.bool (fitsV s x.v t false))) :
    PFn Tryz.prog 91 [s.enc, .slice (ps.map Par.enc) .no, v.enc] (.bool (inputB s ps v)) := by
  have hml := v.m_len
  refine AFn.plain rfl (by simp [AV.closed, AV.closedL, Sch.closed, Par.closedL, Val.closed]) (AFn.enter [6] Tryz.func91 rfl rfl rfl rfl rfl (by decide) ?_)
  unfold inputB
  by_cases c7 : v.kind = 7
  · have e7 : (v.kind != 7) = false := by rw [c7]; rfl
    have e7' : (v.kind == 7) = true := by rw [c7]; rfl
    rw [e7', Bool.true_and]
    repeat' first
      | refine .br ?_
      | refine .seq ?_ | refine .rg ?_ | refine .rd ?_ | refine .block ?_ | refine .scope ?_ | refine .skip ?_ | refine .label ?_ | refine .exit ?_ | refine .ret ?_
      | refine .ct ?_ | refine .cf ?_ | refine .cy ?_ | refine .cn ?_ | (refine .cond rfl ?_ ?_ <;> intro hc)
      | refine A.nil_seq ?_ | refine .nl ?_ | refine .dd ?_ | refine .ys ?_ | refine .no ?_ | (refine A.guard rfl ?_ ?_ <;> intro hc)
      | refine .lb ?_ | refine .ln ?_ | refine .ls ?_ | refine .pv ?_ | refine .ix ?_ | refine .pt ?_ | refine .pf ?_ | refine .bx ?_ | refine .al ?_ | refine .st ?_ | refine .ad ?_ | refine .sb ?_ | refine .mf ?_ | refine .cl ?_ | refine .cw ?_ | refine .ck ?_ | fail
    refine HCode.forK v.m.length (fun k => [(21, .int .i64 k), (20, .int .i64 v.mv.length), (19, .slice v.mv .no), (1, .slice (ps.map Par.enc) .no), (3, .rptr s.enc), (5, .rptr v.enc)])
      (fun _ => ⟨[], []⟩) (fun k => fitsM s ps v.m [] = fitsM s ps (v.m.drop k) ((v.m.take k).map Mem.name)) ⟨rfl, rfl, rfl, rfl, rfl, rfl, trivial⟩ rfl rfl fun k hk hp => ?_
    by_cases h1 : k < v.m.length
    · have d1 : decide ((k : Int) < (v.mv.length : Int)) = true := by rw [v.mv_len]; simp [h1]
      have x1 := Val.mv_get h1
      have hpar := lParam ps v.m[k].name (by omega)
      have hd := fitsM_drop (s := s) (ps := ps) h1
      have htk : v.mv.take k = (v.m.take k).map Mem.enc := by rw [v.mv_eq, List.map_take]
      have hcf := sContainsFMem (v.m.take k) 103 [.rptr v.m[k].enc] (fun x => x.name == v.m[k].name) (by rw [List.length_take]; omega) (by simp [AV.closed, AV.closedL, Mem.closed]) (fun x _ => lInput1 x _)
      rw [← htk, any_name] at hcf
      have hkv : k ≤ v.mv.length := by rw [v.mv_len]; omega
      cases hpo : parO ps v.m[k].name with
      | none =>
        have e1 : parR ps v.m[k].name = (zeroP, false) := by rw [parR, hpo]
        rw [e1] at hpar
        rw [hpo] at hd
        repeat' first
          | refine A.allocv (d := 8) rfl rfl rfl rfl rfl ?_ | refine HCode.turn 8 rfl (Turn.freezeP rfl rfl rfl rfl) ?_
          | refine .seq ?_ | refine .rg ?_ | refine .rd ?_ | refine .block ?_ | refine .scope ?_ | refine .skip ?_ | refine .label ?_ | refine .exit ?_ | refine .ret ?_
          | refine .ct ?_ | refine .cf ?_ | refine .cy ?_ | refine .cn ?_ | (refine .cond rfl ?_ ?_ <;> intro hc)
          | refine A.nil_seq ?_ | refine .nl ?_ | refine .dd ?_ | refine .ys ?_ | refine .no ?_ | (refine A.guard rfl ?_ ?_ <;> intro hc)
          | refine .lb ?_ | refine .ln ?_ | refine .ls ?_ | refine .pv ?_ | refine .ix ?_ | refine .pt ?_ | refine .pf ?_ | refine .bx ?_ | refine .al ?_ | refine .st ?_ | refine .ad ?_ | refine .sb ?_ | refine .mf ?_ | refine .cl ?_ | refine .cw ?_ | refine .ck ?_
          | refine A.vstore (agg := true) rfl rfl rfl rfl rfl rfl rfl rfl rfl rfl rfl ?_ | fail
        refine Fin.ret1 rfl (Weak.eq (congrArg AV.bool ?_))
        rw [hp, hd]; rfl
      | some p =>
        have e1 : parR ps v.m[k].name = (p, true) := by rw [parR, hpo]
        have hpm : p ∈ ps := List.mem_of_find?_eq_some hpo
        have hpl := p.lens
        have hpz' := hpz p hpm
        have hft := ih v.m[k] (List.getElem_mem h1) p.t (by omega)
        rw [e1] at hpar
        rw [hpo] at hd
        repeat' first
          | refine A.allocv (d := 8) rfl rfl rfl rfl rfl ?_ | refine HCode.turn 8 rfl (Turn.freezeP rfl rfl rfl rfl) ?_
          | refine .seq ?_ | refine .rg ?_ | refine .rd ?_ | refine .block ?_ | refine .scope ?_ | refine .skip ?_ | refine .label ?_ | refine .exit ?_ | refine .ret ?_
          | refine .ct ?_ | refine .cf ?_ | refine .cy ?_ | refine .cn ?_ | (refine .cond rfl ?_ ?_ <;> intro hc)
          | refine A.nil_seq ?_ | refine .nl ?_ | refine .dd ?_ | refine .ys ?_ | refine .no ?_ | (refine A.guard rfl ?_ ?_ <;> intro hc)
          | refine .lb ?_ | refine .ln ?_ | refine .ls ?_ | refine .pv ?_ | refine .ix ?_ | refine .pt ?_ | refine .pf ?_ | refine .bx ?_ | refine .al ?_ | refine .st ?_ | refine .ad ?_ | refine .sb ?_ | refine .mf ?_ | refine .cl ?_ | refine .cw ?_ | refine .ck ?_
          | refine A.vstore (agg := true) rfl rfl rfl rfl rfl rfl rfl rfl rfl rfl rfl ?_ | refine A.slice 0 k rfl rfl rfl rfl rfl rfl rfl rfl (Nat.zero_le _) hkv (.inl rfl) ?_ | fail
        all_goals first
          | (refine Fin.ret1 rfl (Weak.eq (congrArg AV.bool ?_)); rw [hp, hd]; simp_all; done)
          | (exact ⟨h1, ⟨rfl, rfl, rfl, rfl, rfl, rfl, trivial⟩, by simp [belowS, AV.low], rfl, rfl, by rw [hp, hd]; simp_all⟩)
    · have d1 : decide ((k : Int) < (v.mv.length : Int)) = false := by rw [v.mv_len]; simp; omega
      have hpe : fitsM s ps v.m [] = true := by rw [hp, List.drop_eq_nil_of_le (by omega), fitsM]
      rw [hpe, Bool.true_and]
      repeat' first
        | refine .seq ?_ | refine .rg ?_ | refine .rd ?_ | refine .block ?_ | refine .scope ?_ | refine .skip ?_ | refine .label ?_ | refine .exit ?_ | refine .ret ?_
        | refine .ct ?_ | refine .cf ?_ | refine .cy ?_ | refine .cn ?_ | (refine .cond rfl ?_ ?_ <;> intro hc)
        | refine A.nil_seq ?_ | refine .nl ?_ | refine .dd ?_ | refine .ys ?_ | refine .no ?_ | (refine A.guard rfl ?_ ?_ <;> intro hc)
        | refine .lb ?_ | refine .ln ?_ | refine .ls ?_ | refine .pv ?_ | refine .ix ?_ | refine .pt ?_ | refine .pf ?_ | refine .bx ?_ | refine .al ?_ | refine .st ?_ | refine .ad ?_ | refine .sb ?_ | refine .mf ?_ | refine .cl ?_ | refine .cw ?_ | refine .ck ?_ | fail
      refine HCode.forK ps.length (fun k => [(55, .int .i64 k), (54, .int .i64 ps.length), (53, .slice (ps.map Par.enc) .no), (5, .rptr v.enc)])
        (fun _ => ⟨[], []⟩) (fun k => needsB v.m ps = needsB v.m (ps.drop k)) ⟨rfl, rfl, rfl, rfl, trivial⟩ rfl rfl fun j hj hq => ?_
      by_cases h2 : j < ps.length
      · have d2 : decide ((j : Int) < (ps.length : Int)) = true := by simp [h2]
        have x2 := map_get' (f := Par.enc) h2
        have hg := get ps[j].name v.m (by omega)
        rw [← v.mv_eq, getG_snd] at hg
        have hrq := lRequired ps[j] (hpz _ (List.getElem_mem h2))
        have hd := needsB_drop (m := v.m) h2
        repeat' first
          | refine .seq ?_ | refine .rg ?_ | refine .rd ?_ | refine .block ?_ | refine .scope ?_ | refine .skip ?_ | refine .label ?_ | refine .exit ?_ | refine .ret ?_
          | refine .ct ?_ | refine .cf ?_ | refine .cy ?_ | refine .cn ?_ | (refine .cond rfl ?_ ?_ <;> intro hc)
          | refine A.nil_seq ?_ | refine .nl ?_ | refine .dd ?_ | refine .ys ?_ | refine .no ?_ | (refine A.guard rfl ?_ ?_ <;> intro hc)
          | refine .lb ?_ | refine .ln ?_ | refine .ls ?_ | refine .pv ?_ | refine .ix ?_ | refine .pt ?_ | refine .pf ?_ | refine .bx ?_ | refine .al ?_ | refine .st ?_ | refine .ad ?_ | refine .sb ?_ | refine .mf ?_ | refine .cl ?_ | refine .cw ?_ | refine .ck ?_ | fail
        all_goals first
          | (refine Fin.ret1 rfl (Weak.eq (congrArg AV.bool ?_)); rw [hq, hd]; simp_all; done)
          | (exact ⟨h2, ⟨rfl, rfl, rfl, rfl, trivial⟩, by simp [belowS, AV.low], rfl, rfl, by rw [hq, hd]; simp_all⟩)
      · have d2 : decide ((j : Int) < (ps.length : Int)) = false := by simp; omega
        repeat' first
          | refine .seq ?_ | refine .rg ?_ | refine .rd ?_ | refine .block ?_ | refine .scope ?_ | refine .skip ?_ | refine .label ?_ | refine .exit ?_ | refine .ret ?_
          | refine .ct ?_ | refine .cf ?_ | refine .cy ?_ | refine .cn ?_ | (refine .cond rfl ?_ ?_ <;> intro hc)
          | refine A.nil_seq ?_ | refine .nl ?_ | refine .dd ?_ | refine .ys ?_ | refine .no ?_ | (refine A.guard rfl ?_ ?_ <;> intro hc)
          | refine .lb ?_ | refine .ln ?_ | refine .ls ?_ | refine .pv ?_ | refine .ix ?_ | refine .pt ?_ | refine .pf ?_ | refine .bx ?_ | refine .al ?_ | refine .st ?_ | refine .ad ?_ | refine .sb ?_ | refine .mf ?_ | refine .cl ?_ | refine .cw ?_ | refine .ck ?_ | fail
        refine Fin.ret1 rfl (Weak.eq (congrArg AV.bool ?_))
        rw [hq, List.drop_eq_nil_of_le (by omega), needsB]
  · have e7 : (v.kind != 7) = true := by simp [c7]
    have e7' : (v.kind == 7) = false := by simp [c7]
    rw [e7', Bool.false_and]
    repeat' first
      | refine .br ?_
      | refine .seq ?_ | refine .rg ?_ | refine .rd ?_ | refine .block ?_ | refine .scope ?_ | refine .skip ?_ | refine .label ?_ | refine .exit ?_ | refine .ret ?_
      | refine .ct ?_ | refine .cf ?_ | refine .cy ?_ | refine .cn ?_ | (refine .cond rfl ?_ ?_ <;> intro hc)
      | refine A.nil_seq ?_ | refine .nl ?_ | refine .dd ?_ | refine .ys ?_ | refine .no ?_ | (refine A.guard rfl ?_ ?_ <;> intro hc)
      | refine .lb ?_ | refine .ln ?_ | refine .ls ?_ | refine .pv ?_ | refine .ix ?_ | refine .pt ?_ | refine .pf ?_ | refine .bx ?_ | refine .al ?_ | refine .st ?_ | refine .ad ?_ | refine .sb ?_ | refine .mf ?_ | refine .cl ?_ | refine .cw ?_ | refine .ck ?_ | fail
    exact Fin.ret1 rfl (Weak.refl _)
end Go.Proofs.YtijlmchfepjjkaaGreatDoor
