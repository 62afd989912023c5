/-
  The package literal: Param, Required, input, bare, fits, Right.
  The package coerce: input.
  The package coerce: list, member, members, input.
  Plain: what make does to a value that is no list.
-/
import Derived.Test.YtpidjkihngiaoaaGreatDoorGCoerceVars5
import Derived.Test.YtpidjkihngiaoaaGreatDoorGCoerceVars4
namespace Go.Proofs.YtpidjkihngiaoaaGreatDoor
open Go Go.Av
set_option maxRecDepth 100000
set_option maxHeartbeats 16000000
set_option linter.unusedVariables false
set_option linter.unusedSimpArgs false
attribute [local irreducible] HCode AOps PFn AFn Av.Step TStep

theorem weak_zeroP {t1 t2 : Tk} : Weak (.agg [.str [], .str [], .int .i64 0, .int .i64 0, .bool false, .int .i64 0, .int .i64 0, .str [], .slice [] t1, .slice [] t2]) zeroP.enc := by
  unfold Par.enc zeroP
  rw [show (val0).lv = [] by rw [val0, lv_mk], show (val0).mv = [] by rw [val0, mv_mk]]
  exact Weak.agg (WeakL.cons (Weak.refl _) (WeakL.cons (Weak.refl _) (WeakL.cons (Weak.refl _) (WeakL.cons (Weak.refl _) (WeakL.cons (Weak.refl _) (WeakL.cons (Weak.refl _) (WeakL.cons (Weak.refl _) (WeakL.cons (Weak.refl _) (WeakL.cons (Weak.no (WeakL.refl _)) (WeakL.cons (Weak.no (WeakL.refl _)) (WeakL.refl _)))))))))))
theorem lParam1 (p : Par) (name : Str) : PFn Tryz.prog 239 [p.enc, .rptr (.str name)] (.bool (p.name == name)) := by
  refine AFn.plain rfl (by simp [AV.closed, AV.closedL, Par.closed]) (AFn.enter [3] Tryz.func239 rfl rfl rfl rfl rfl (by decide) ?_)
  repeat' first
    | refine .br ?_
    | refine .seq ?_ | refine .rg ?_ | refine .rd ?_ | refine .block ?_ | refine .scope ?_ | refine .skip ?_ | refine .label ?_ | refine .exit ?_ | refine .ret ?_
    | refine .ct ?_ | refine .cf ?_ | refine .cy ?_ | refine .cn ?_ | (refine .cond rfl ?_ ?_ <;> intro hc)
    | refine A.nil_seq ?_ | refine .nl ?_ | refine .dd ?_ | refine .ys ?_ | refine .no ?_ | (refine A.guard rfl ?_ ?_ <;> intro hc)
    | refine .lb ?_ | refine .ln ?_ | refine .ls ?_ | refine .pv ?_ | refine .ix ?_ | refine .pt ?_ | refine .pf ?_ | refine .bx ?_ | refine .al ?_ | refine .st ?_ | refine .ad ?_ | refine .sb ?_ | refine .mf ?_ | refine .cl ?_ | refine .cw ?_ | refine .ck ?_ | fail
  exact Fin.ret1 rfl (Weak.refl _)
theorem lParam (l : List Par) (name : Str) (hl : l.length ≤ 9223372036854775807) : PFn Tryz.prog 212 [.slice (l.map Par.enc) .no, .str name] (.tup [(parR l name).1.enc, .bool (parR l name).2]) := by
  have h := sIndexFPar l 239 [.rptr (.str name)] (fun p => p.name == name) hl rfl (fun x _ => lParam1 x name)
  refine AFn.plain (by simp [AV.closed, AV.closedL, Par.closed]) (by simp [AV.closed, AV.closedL, Par.closedL]) (AFn.enterR [.cell 4 74, .tmp 5] Tryz.func212 rfl rfl rfl rfl rfl ?_)
  rcases idxFrom_spec (fun p : Par => p.name == name) l 0 with ⟨h1, h2⟩ | ⟨j, hj, h1, h2⟩
  · rw [h1] at h
    repeat' first
      | refine .br ?_
      | refine .seq ?_ | refine .rg ?_ | refine .rd ?_ | refine .block ?_ | refine .scope ?_ | refine .skip ?_ | refine .label ?_ | refine .exit ?_ | refine .ret ?_
      | refine .ct ?_ | refine .cf ?_ | refine .cy ?_ | refine .cn ?_ | (refine .cond rfl ?_ ?_ <;> intro hc)
      | refine A.nil_seq ?_ | refine .nl ?_ | refine .dd ?_ | refine .ys ?_ | refine .no ?_ | (refine A.guard rfl ?_ ?_ <;> intro hc)
      | refine .lb ?_ | refine .ln ?_ | refine .ls ?_ | refine .pv ?_ | refine .ix ?_ | refine .pt ?_ | refine .pf ?_ | refine .bx ?_ | refine .al ?_ | refine .st ?_ | refine .ad ?_ | refine .sb ?_ | refine .mf ?_ | refine .cl ?_ | refine .cw ?_ | refine .ck ?_ | fail
    refine FinR.ret1 rfl ?_
    rw [parR, parO, h2]
    exact Weak.tup (WeakL.cons weak_zeroP (WeakL.refl _))
  · rw [h1] at h
    have d1 : decide (((0 + j : Nat) : Int) < 0) = false := decide_eq_false (by omega)
    have x1 : (l.map Par.enc)[0 + j]? = some l[j].enc := by rw [Nat.zero_add]; exact map_get' (f := Par.enc) hj
    repeat' first
      | refine .br ?_
      | refine .seq ?_ | refine .rg ?_ | refine .rd ?_ | refine .block ?_ | refine .scope ?_ | refine .skip ?_ | refine .label ?_ | refine .exit ?_ | refine .ret ?_
      | refine .ct ?_ | refine .cf ?_ | refine .cy ?_ | refine .cn ?_ | (refine .cond rfl ?_ ?_ <;> intro hc)
      | refine A.nil_seq ?_ | refine .nl ?_ | refine .dd ?_ | refine .ys ?_ | refine .no ?_ | (refine A.guard rfl ?_ ?_ <;> intro hc)
      | refine .lb ?_ | refine .ln ?_ | refine .ls ?_ | refine .pv ?_ | refine .ix ?_ | refine .pt ?_ | refine .pf ?_ | refine .bx ?_ | refine .al ?_ | refine .st ?_ | refine .ad ?_ | refine .sb ?_ | refine .mf ?_ | refine .cl ?_ | refine .cw ?_ | refine .ck ?_ | fail
    refine FinR.ret1 rfl (Weak.eq ?_)
    rw [parR, parO, h2]; rfl
theorem lRequired (p : Par) (hp : p.size ≤ 2097152) : PFn Tryz.prog 238 [p.enc] (.bool (reqB p)) := by
  have h := wIs p.t (by have := p.lens; omega)
  refine AFn.plain rfl (by simp [AV.closed, AV.closedL, Par.closed]) (AFn.enter [2] Tryz.func238 rfl rfl rfl rfl rfl (by decide) ?_)
  unfold reqB
  repeat' first
    | refine .br ?_
    | refine .seq ?_ | refine .rg ?_ | refine .rd ?_ | refine .block ?_ | refine .scope ?_ | refine .skip ?_ | refine .label ?_ | refine .exit ?_ | refine .ret ?_
    | refine .ct ?_ | refine .cf ?_ | refine .cy ?_ | refine .cn ?_ | (refine .cond rfl ?_ ?_ <;> intro hc)
    | refine A.nil_seq ?_ | refine .nl ?_ | refine .dd ?_ | refine .ys ?_ | refine .no ?_ | (refine A.guard rfl ?_ ?_ <;> intro hc)
    | refine .lb ?_ | refine .ln ?_ | refine .ls ?_ | refine .pv ?_ | refine .ix ?_ | refine .pt ?_ | refine .pf ?_ | refine .bx ?_ | refine .al ?_ | refine .st ?_ | refine .ad ?_ | refine .sb ?_ | refine .mf ?_ | refine .cl ?_ | refine .cw ?_ | refine .ck ?_ | fail
  all_goals
    refine Fin.ret1 rfl (Weak.eq (congrArg AV.bool ?_))
    simp_all
theorem lInput1 (x m : Mem) : PFn Tryz.prog 237 [x.enc, .rptr m.enc] (.bool (x.name == m.name)) := by
  refine AFn.plain rfl (by simp [AV.closed, AV.closedL, Mem.closed]) (AFn.enter [3] Tryz.func237 rfl rfl rfl rfl rfl (by decide) ?_)
  repeat' first
    | refine .br ?_
    | refine .seq ?_ | refine .rg ?_ | refine .rd ?_ | refine .block ?_ | refine .scope ?_ | refine .skip ?_ | refine .label ?_ | refine .exit ?_ | refine .ret ?_
    | refine .ct ?_ | refine .cf ?_ | refine .cy ?_ | refine .cn ?_ | (refine .cond rfl ?_ ?_ <;> intro hc)
    | refine A.nil_seq ?_ | refine .nl ?_ | refine .dd ?_ | refine .ys ?_ | refine .no ?_ | (refine A.guard rfl ?_ ?_ <;> intro hc)
    | refine .lb ?_ | refine .ln ?_ | refine .ls ?_ | refine .pv ?_ | refine .ix ?_ | refine .pt ?_ | refine .pf ?_ | refine .bx ?_ | refine .al ?_ | refine .st ?_ | refine .ad ?_ | refine .sb ?_ | refine .mf ?_ | refine .cl ?_ | refine .cw ?_ | refine .ck ?_ | fail
  exact Fin.ret1 rfl (Weak.refl _)
theorem getG_snd (name : Str) : ∀ l : List Mem, (getG name l).2 = l.any fun x => x.name == name
  | [] => rfl
  | m :: l => by
    rw [getG, List.any_cons]
    cases m.name == name with
    | true => rfl
    | false => rw [if_neg (by decide), getG_snd name l]; rfl
theorem parR_in {l : List Par} {name : Str} : (parR l name).1 ∈ l ∨ (parR l name).1 = zeroP := by
  unfold parR parO
  split
  · rename_i p hp; exact .inl (List.mem_of_find?_eq_some hp)
  · exact .inr rfl
theorem any_name (x : Str) (l : List Mem) : (l.any fun y => y.name == x) = decide (x ∈ l.map Mem.name) := by
  rw [Bool.eq_iff_iff, List.any_eq_true, decide_eq_true_eq, List.mem_map]
  constructor
  · rintro ⟨y, hy, e⟩; exact ⟨y, hy, by simpa using e⟩
  · rintro ⟨y, hy, e⟩; exact ⟨y, hy, by simp [e]⟩
theorem needsB_drop {m : List Mem} {ps : List Par} {k : Nat} (h : k < ps.length) : needsB m (ps.drop k) = (((m.any fun x => x.name == ps[k].name) || !reqB ps[k]) && needsB m (ps.drop (k + 1))) := by
  rw [List.drop_eq_getElem_cons h, needsB]
theorem lInput (s : Sch) (ps : List Par) (v : Val) (hs : s.size ≤ 2097152) (hps : ps.length ≤ 2097152) (hpz : ∀ p ∈ ps, p.size ≤ 2097152) (hv : v.size ≤ 2097152)
    (ih : ∀ x ∈ v.m, ∀ t : Typ, t.name.length ≤ 2097152 → PFn Tryz.prog 74 [s.enc, t.enc, x.v.enc, .bool false] (.bool (fitsV s x.v t false))) :
    PFn Tryz.prog 209 [s.enc, .slice (ps.map Par.enc) .no, v.enc] (.bool (inputB s ps v)) := by
  have hml := v.m_len
  refine AFn.plain rfl (by simp [AV.closed, AV.closedL, Sch.closed, Par.closedL, Val.closed]) (AFn.enter [6] Tryz.func209 rfl rfl rfl rfl rfl (by decide) ?_)
  unfold inputB
  by_cases c7 : v.kind = 7
  · have e7 : (v.kind != 7) = false := by rw [c7]; rfl
    have e7' : (v.kind == 7) = true := by rw [c7]; rfl
    rw [e7', Bool.true_and]
    repeat' first
      | refine .br ?_
      | refine .seq ?_ | refine .rg ?_ | refine .rd ?_ | refine .block ?_ | refine .scope ?_ | refine .skip ?_ | refine .label ?_ | refine .exit ?_ | refine .ret ?_
      | refine .ct ?_ | refine .cf ?_ | refine .cy ?_ | refine .cn ?_ | (refine .cond rfl ?_ ?_ <;> intro hc)
      | refine A.nil_seq ?_ | refine .nl ?_ | refine .dd ?_ | refine .ys ?_ | refine .no ?_ | (refine A.guard rfl ?_ ?_ <;> intro hc)
      | refine .lb ?_ | refine .ln ?_ | refine .ls ?_ | refine .pv ?_ | refine .ix ?_ | refine .pt ?_ | refine .pf ?_ | refine .bx ?_ | refine .al ?_ | refine .st ?_ | refine .ad ?_ | refine .sb ?_ | refine .mf ?_ | refine .cl ?_ | refine .cw ?_ | refine .ck ?_ | fail
    refine HCode.forK v.m.length (fun k => [(21, .int .i64 k), (20, .int .i64 v.mv.length), (19, .slice v.mv .no), (1, .slice (ps.map Par.enc) .no), (3, .rptr s.enc), (5, .rptr v.enc)])
      (fun _ => ⟨[], []⟩) (fun k => fitsM s ps v.m [] = fitsM s ps (v.m.drop k) ((v.m.take k).map Mem.name)) ⟨rfl, rfl, rfl, rfl, rfl, rfl, trivial⟩ rfl rfl fun k hk hp => ?_
    by_cases h1 : k < v.m.length
    · have d1 : decide ((k : Int) < (v.mv.length : Int)) = true := by rw [v.mv_len]; simp [h1]
      have x1 := Val.mv_get h1
      have hpar := lParam ps v.m[k].name (by omega)
      have hd := fitsM_drop (s := s) (ps := ps) h1
      have htk : v.mv.take k = (v.m.take k).map Mem.enc := by rw [v.mv_eq, List.map_take]
      have hcf := sContainsFMem (v.m.take k) 237 [.rptr v.m[k].enc] (fun x => x.name == v.m[k].name) (by rw [List.length_take]; omega) (by simp [AV.closed, AV.closedL, Mem.closed]) (fun x _ => lInput1 x _)
      rw [← htk, any_name] at hcf
      have hkv : k ≤ v.mv.length := by rw [v.mv_len]; omega
      cases hpo : parO ps v.m[k].name with
      | none =>
        have e1 : parR ps v.m[k].name = (zeroP, false) := by rw [parR, hpo]
        rw [e1] at hpar
        rw [hpo] at hd
        repeat' first
          | refine A.allocv (d := 8) rfl rfl rfl rfl rfl ?_ | refine HCode.turn 8 rfl (Turn.freezeP rfl rfl rfl rfl) ?_
          | refine .seq ?_ | refine .rg ?_ | refine .rd ?_ | refine .block ?_ | refine .scope ?_ | refine .skip ?_ | refine .label ?_ | refine .exit ?_ | refine .ret ?_
          | refine .ct ?_ | refine .cf ?_ | refine .cy ?_ | refine .cn ?_ | (refine .cond rfl ?_ ?_ <;> intro hc)
          | refine A.nil_seq ?_ | refine .nl ?_ | refine .dd ?_ | refine .ys ?_ | refine .no ?_ | (refine A.guard rfl ?_ ?_ <;> intro hc)
          | refine .lb ?_ | refine .ln ?_ | refine .ls ?_ | refine .pv ?_ | refine .ix ?_ | refine .pt ?_ | refine .pf ?_ | refine .bx ?_ | refine .al ?_ | refine .st ?_ | refine .ad ?_ | refine .sb ?_ | refine .mf ?_ | refine .cl ?_ | refine .cw ?_ | refine .ck ?_
          | refine A.vstore (agg := true) rfl rfl rfl rfl rfl rfl rfl rfl rfl rfl rfl ?_ | fail
        refine Fin.ret1 rfl (Weak.eq (congrArg AV.bool ?_))
        rw [hp, hd]; rfl
      | some p =>
        have e1 : parR ps v.m[k].name = (p, true) := by rw [parR, hpo]
        have hpm : p ∈ ps := List.mem_of_find?_eq_some hpo
        have hpl := p.lens
        have hpz' := hpz p hpm
        have hft := ih v.m[k] (List.getElem_mem h1) p.t (by omega)
        rw [e1] at hpar
        rw [hpo] at hd
        repeat' first
          | refine A.allocv (d := 8) rfl rfl rfl rfl rfl ?_ | refine HCode.turn 8 rfl (Turn.freezeP rfl rfl rfl rfl) ?_
          | refine .seq ?_ | refine .rg ?_ | refine .rd ?_ | refine .block ?_ | refine .scope ?_ | refine .skip ?_ | refine .label ?_ | refine .exit ?_ | refine .ret ?_
          | refine .ct ?_ | refine .cf ?_ | refine .cy ?_ | refine .cn ?_ | (refine .cond rfl ?_ ?_ <;> intro hc)
          | refine A.nil_seq ?_ | refine .nl ?_ | refine .dd ?_ | refine .ys ?_ | refine .no ?_ | (refine A.guard rfl ?_ ?_ <;> intro hc)
          | refine .lb ?_ | refine .ln ?_ | refine .ls ?_ | refine .pv ?_ | refine .ix ?_ | refine .pt ?_ | refine .pf ?_ | refine .bx ?_ | refine .al ?_ | refine .st ?_ | refine .ad ?_ | refine .sb ?_ | refine .mf ?_ | refine .cl ?_ | refine .cw ?_ | refine .ck ?_
          | refine A.vstore (agg := true) rfl rfl rfl rfl rfl rfl rfl rfl rfl rfl rfl ?_ | refine A.slice 0 k rfl rfl rfl rfl rfl rfl rfl rfl (Nat.zero_le _) hkv (.inl rfl) ?_ | fail
        all_goals first
          | (refine Fin.ret1 rfl (Weak.eq (congrArg AV.bool ?_)); rw [hp, hd]; simp_all; done)
          | (exact ⟨h1, ⟨rfl, rfl, rfl, rfl, rfl, rfl, trivial⟩, by simp [belowS, AV.low], rfl, rfl, by rw [hp, hd]; simp_all⟩)
    · have d1 : decide ((k : Int) < (v.mv.length : Int)) = false := by rw [v.mv_len]; simp; omega
      have hpe : fitsM s ps v.m [] = true := by rw [hp, List.drop_eq_nil_of_le (by omega), fitsM]
      rw [hpe, Bool.true_and]
      repeat' first
        | refine .seq ?_ | refine .rg ?_ | refine .rd ?_ | refine .block ?_ | refine .scope ?_ | refine .skip ?_ | refine .label ?_ | refine .exit ?_ | refine .ret ?_
        | refine .ct ?_ | refine .cf ?_ | refine .cy ?_ | refine .cn ?_ | (refine .cond rfl ?_ ?_ <;> intro hc)
        | refine A.nil_seq ?_ | refine .nl ?_ | refine .dd ?_ | refine .ys ?_ | refine .no ?_ | (refine A.guard rfl ?_ ?_ <;> intro hc)
        | refine .lb ?_ | refine .ln ?_ | refine .ls ?_ | refine .pv ?_ | refine .ix ?_ | refine .pt ?_ | refine .pf ?_ | refine .bx ?_ | refine .al ?_ | refine .st ?_ | refine .ad ?_ | refine .sb ?_ | refine .mf ?_ | refine .cl ?_ | refine .cw ?_ | refine .ck ?_ | fail
      refine HCode.forK ps.length (fun k => [(55, .int .i64 k), (54, .int .i64 ps.length), (53, .slice (ps.map Par.enc) .no), (5, .rptr v.enc)])
        (fun _ => ⟨[], []⟩) (fun k => needsB v.m ps = needsB v.m (ps.drop k)) ⟨rfl, rfl, rfl, rfl, trivial⟩ rfl rfl fun j hj hq => ?_
      by_cases h2 : j < ps.length
      · have d2 : decide ((j : Int) < (ps.length : Int)) = true := by simp [h2]
        have x2 := map_get' (f := Par.enc) h2
        have hg := get ps[j].name v.m (by omega)
        rw [← v.mv_eq, getG_snd] at hg
        have hrq := lRequired ps[j] (hpz _ (List.getElem_mem h2))
        have hd := needsB_drop (m := v.m) h2
        repeat' first
          | refine .seq ?_ | refine .rg ?_ | refine .rd ?_ | refine .block ?_ | refine .scope ?_ | refine .skip ?_ | refine .label ?_ | refine .exit ?_ | refine .ret ?_
          | refine .ct ?_ | refine .cf ?_ | refine .cy ?_ | refine .cn ?_ | (refine .cond rfl ?_ ?_ <;> intro hc)
          | refine A.nil_seq ?_ | refine .nl ?_ | refine .dd ?_ | refine .ys ?_ | refine .no ?_ | (refine A.guard rfl ?_ ?_ <;> intro hc)
          | refine .lb ?_ | refine .ln ?_ | refine .ls ?_ | refine .pv ?_ | refine .ix ?_ | refine .pt ?_ | refine .pf ?_ | refine .bx ?_ | refine .al ?_ | refine .st ?_ | refine .ad ?_ | refine .sb ?_ | refine .mf ?_ | refine .cl ?_ | refine .cw ?_ | refine .ck ?_ | fail
        all_goals first
          | (refine Fin.ret1 rfl (Weak.eq (congrArg AV.bool ?_)); rw [hq, hd]; simp_all; done)
          | (exact ⟨h2, ⟨rfl, rfl, rfl, rfl, trivial⟩, by simp [belowS, AV.low], rfl, rfl, by rw [hq, hd]; simp_all⟩)
      · have d2 : decide ((j : Int) < (ps.length : Int)) = false := by simp; omega
        repeat' first
          | refine .seq ?_ | refine .rg ?_ | refine .rd ?_ | refine .block ?_ | refine .scope ?_ | refine .skip ?_ | refine .label ?_ | refine .exit ?_ | refine .ret ?_
          | refine .ct ?_ | refine .cf ?_ | refine .cy ?_ | refine .cn ?_ | (refine .cond rfl ?_ ?_ <;> intro hc)
          | refine A.nil_seq ?_ | refine .nl ?_ | refine .dd ?_ | refine .ys ?_ | refine .no ?_ | (refine A.guard rfl ?_ ?_ <;> intro hc)
          | refine .lb ?_ | refine .ln ?_ | refine .ls ?_ | refine .pv ?_ | refine .ix ?_ | refine .pt ?_ | refine .pf ?_ | refine .bx ?_ | refine .al ?_ | refine .st ?_ | refine .ad ?_ | refine .sb ?_ | refine .mf ?_ | refine .cl ?_ | refine .cw ?_ | refine .ck ?_ | fail
        refine Fin.ret1 rfl (Weak.eq (congrArg AV.bool ?_))
        rw [hq, List.drop_eq_nil_of_le (by omega), needsB]
  · have e7 : (v.kind != 7) = true := by simp [c7]
    have e7' : (v.kind == 7) = false := by simp [c7]
    rw [e7', Bool.false_and]
    repeat' first
      | refine .br ?_
      | refine .seq ?_ | refine .rg ?_ | refine .rd ?_ | refine .block ?_ | refine .scope ?_ | refine .skip ?_ | refine .label ?_ | refine .exit ?_ | refine .ret ?_
      | refine .ct ?_ | refine .cf ?_ | refine .cy ?_ | refine .cn ?_ | (refine .cond rfl ?_ ?_ <;> intro hc)
      | refine A.nil_seq ?_ | refine .nl ?_ | refine .dd ?_ | refine .ys ?_ | refine .no ?_ | (refine A.guard rfl ?_ ?_ <;> intro hc)
      | refine .lb ?_ | refine .ln ?_ | refine .ls ?_ | refine .pv ?_ | refine .ix ?_ | refine .pt ?_ | refine .pf ?_ | refine .bx ?_ | refine .al ?_ | refine .st ?_ | refine .ad ?_ | refine .sb ?_ | refine .mf ?_ | refine .cl ?_ | refine .cw ?_ | refine .ck ?_ | fail
    exact Fin.ret1 rfl (Weak.refl _)
end Go.Proofs.YtpidjkihngiaoaaGreatDoor
namespace Go.Proofs.YtpidjkihngiaoaaGreatDoor
open Go Go.Av
set_option maxRecDepth 100000
set_option maxHeartbeats 16000000
set_option linter.unusedVariables false
set_option linter.unusedSimpArgs false
attribute [local irreducible] HCode AOps PFn AFn Av.Step TStep

def strangeP (wr : Bool) (env m : List Mem) (ps : List Par) (x : Mem) : Bool := (parO ps x.name).isNone && (match envO m x.name with | some y => thereB wr env y | none => false)
theorem strange_eq (s : Sch) (wr : Bool) (env : List Mem) (dfl : Par → VE) (m : List Mem) (ps : List Par) : strange wr env (mkM s wr env dfl m) ps = m.any (strangeP wr env m ps) := by
  unfold strange strangeP
  have key : ∀ l : List Mem, (mkM s wr env dfl l).any (fun f => (parO ps f.1).isNone && (match firstF (mkM s wr env dfl m) f.1 with | some g => thereB wr env g.2.1 | none => false)) = l.any (fun x => (parO ps x.name).isNone && (match envO m x.name with | some y => thereB wr env y | none => false)) := by
    intro l
    induction l with
    | nil => rw [mkM]; rfl
    | cons x l ih =>
      obtain ⟨n, v⟩ := x
      rw [mkM, List.any_cons, List.any_cons, ih]
      congr 1
      show ((parO ps n).isNone && _) = ((parO ps n).isNone && _)
      congr 1
      show (match firstF (mkM s wr env dfl m) n with | some g => thereB wr env g.2.1 | none => false) = (match envO m n with | some y => thereB wr env y | none => false)
      rw [firstF_mkM]
      unfold envO
      cases m.find? (fun x => x.name == n) <;> rfl
  exact key m
theorem envO_mem {m : List Mem} {x : Mem} (h : x ∈ m) : ∃ y, envO m x.name = some y := by
  unfold envO
  cases e : m.find? (fun z => z.name == x.name) with
  | none => have := List.find?_eq_none.1 e x h; simp at this
  | some z => exact ⟨z.v, rfl⟩
theorem weak_inputC {l : List Mem} {t1 t2 : Tk} : Weak (.agg [.int .i64 7, .int .i64 0, .str [], .slice [] t1, .slice (l.map Mem.enc) t2]) (Val.mk 7 0 [] [] l).enc := by
  unfold Val.enc
  rw [Val.mv_eq, lv_mk]
  exact Weak.agg (WeakL.cons (Weak.refl _) (WeakL.cons (Weak.refl _) (WeakL.cons (Weak.refl _) (WeakL.cons (Weak.no (WeakL.refl _)) (WeakL.cons (Weak.no (WeakL.refl _)) (WeakL.refl _))))))
theorem cInput (s : Sch) (wr within : Bool) (env : List Mem) (d : Dfn) (v : Val) (r : List Mem × Int) (he : env.length ≤ 2097152) (hv : v.size ≤ 2097152) (hps : d.params.length ≤ 2097152)
    (hM : PFn Tryz.prog 58 [mkE s wr true env, .slice (d.params.map Par.enc) .no, .slice v.mv .no] (.tup [.slice (r.1.map Mem.enc) .no, .int .i64 r.2])) :
    PFn Tryz.prog 147 [mkE s wr within env, d.enc, v.enc] (VE.enc (if v.kind = 7 then (if v.m.any (strangeP wr env v.m d.params) = true then (val0, 6) else if r.2 ≠ 0 then (val0, r.2) else (.mk 7 0 [] [] r.1, 0)) else (val0, 7))) := by
  have hml := v.m_len
  refine AFn.plain (VE.closed _) (by simp [AV.closed, AV.closedL, mkE_closed, Dfn.closed, Val.closed]) (AFn.enterR [.cell 6 30, .tmp 7] Tryz.func147 rfl rfl rfl rfl rfl ?_)
  by_cases k7 : v.kind = 7
  · have q7 : (v.kind != 7) = false := by simp [k7]
    rw [if_pos k7]
    repeat' first
      | refine AOps.br (d := 4) ?_ | refine AOps.br (d := 5) ?_
      | refine .seq ?_ | refine .rg ?_ | refine .rd ?_ | refine .block ?_ | refine .scope ?_ | refine .skip ?_ | refine .label ?_ | refine .exit ?_ | refine .ret ?_
      | refine .ct ?_ | refine .cf ?_ | refine .cy ?_ | refine .cn ?_ | (refine .cond rfl ?_ ?_ <;> intro hc)
      | refine A.nil_seq ?_ | refine .nl ?_ | refine .dd ?_ | refine .ys ?_ | refine .no ?_ | (refine A.guard rfl ?_ ?_ <;> intro hc)
      | refine .lb ?_ | refine .ln ?_ | refine .ls ?_ | refine .pv ?_ | refine .ix ?_ | refine .pt ?_ | refine .pf ?_ | refine .bx ?_ | refine .al ?_ | refine .st ?_ | refine .ad ?_ | refine .sb ?_ | refine .mf ?_ | refine .cl ?_ | refine .cw ?_ | refine .ck ?_ | fail
    refine HCode.forK v.m.length (fun k => [(23, .int .i64 k), (22, .int .i64 v.mv.length), (21, .slice v.mv .no), (3, .ptr 0 0), (4, .rptr d.enc), (5, .rptr v.enc), (6, .ptr 1 0)])
      (fun _ => ⟨[.cells [.slice (s.defs.map Dfn.enc) .no, .str s.query, .str s.mutation, .bool wr, .bool within, .slice (env.map Mem.enc) .no], .cells zeroV], []⟩) (fun k => (v.m.take k).any (strangeP wr env v.m d.params) = false)
      ⟨rfl, rfl, rfl, rfl, rfl, rfl, rfl, trivial⟩ rfl (by rw [List.take_zero]; rfl) fun k hk hj => ?_
    by_cases h1 : k < v.m.length
    · have d1 : decide ((k : Int) < (v.mv.length : Int)) = true := by rw [v.mv_len]; simp [h1]
      have x1 := Val.mv_get h1
      have hmem := List.getElem_mem h1
      have hpar := lParam d.params v.m[k].name (by omega)
      have hg := get v.m[k].name v.m (by omega)
      rw [envO_getG, ← v.mv_eq] at hg
      obtain ⟨y, hy⟩ := envO_mem hmem
      rw [hy] at hg
      have hth := cThere s wr within env y (by omega)
      have hst : strangeP wr env v.m d.params v.m[k] = ((parO d.params v.m[k].name).isNone && thereB wr env y) := by unfold strangeP; rw [hy]
      have htk : (v.m.take (k + 1)).any (strangeP wr env v.m d.params) = strangeP wr env v.m d.params v.m[k] := by
        rw [List.take_succ_eq_append_getElem h1, List.any_append, hj]; simp
      cases hpo : parO d.params v.m[k].name with
      | none =>
        have e1 : parR d.params v.m[k].name = (zeroP, false) := by rw [parR, hpo]
        rw [e1] at hpar
        rw [hpo] at hst
        cases c : thereB wr env y with
        | true =>
          rw [c] at hth hst
          have hany : v.m.any (strangeP wr env v.m d.params) = true := List.any_eq_true.2 ⟨_, hmem, hst⟩
          rw [if_pos hany]
          repeat' first
            | refine .seq ?_ | refine .rg ?_ | refine .rd ?_ | refine .block ?_ | refine .scope ?_ | refine .skip ?_ | refine .label ?_ | refine .exit ?_ | refine .ret ?_
            | refine .ct ?_ | refine .cf ?_ | refine .cy ?_ | refine .cn ?_ | (refine .cond rfl ?_ ?_ <;> intro hc)
            | refine A.nil_seq ?_ | refine .nl ?_ | refine .dd ?_ | refine .ys ?_ | refine .no ?_ | (refine A.guard rfl ?_ ?_ <;> intro hc)
            | refine .lb ?_ | refine .ln ?_ | refine .ls ?_ | refine .pv ?_ | refine .ix ?_ | refine .pt ?_ | refine .pf ?_ | refine .bx ?_ | refine .al ?_ | refine .st ?_ | refine .ad ?_ | refine .sb ?_ | refine .mf ?_ | refine .cl ?_ | refine .cw ?_ | refine .ck ?_ | fail
          exact FinR.ret1 rfl weak_ve0
        | false =>
          rw [c] at hth hst
          repeat' first
            | refine .seq ?_ | refine .rg ?_ | refine .rd ?_ | refine .block ?_ | refine .scope ?_ | refine .skip ?_ | refine .label ?_ | refine .exit ?_ | refine .ret ?_
            | refine .ct ?_ | refine .cf ?_ | refine .cy ?_ | refine .cn ?_ | (refine .cond rfl ?_ ?_ <;> intro hc)
            | refine A.nil_seq ?_ | refine .nl ?_ | refine .dd ?_ | refine .ys ?_ | refine .no ?_ | (refine A.guard rfl ?_ ?_ <;> intro hc)
            | refine .lb ?_ | refine .ln ?_ | refine .ls ?_ | refine .pv ?_ | refine .ix ?_ | refine .pt ?_ | refine .pf ?_ | refine .bx ?_ | refine .al ?_ | refine .st ?_ | refine .ad ?_ | refine .sb ?_ | refine .mf ?_ | refine .cl ?_ | refine .cw ?_ | refine .ck ?_ | fail
          exact ⟨h1, ⟨rfl, rfl, rfl, rfl, rfl, rfl, rfl, trivial⟩, by simp [belowS, AV.low, AV.low_of_closed, mkE_closed], by simp [belowB, belowT, Ob.low, Tok.low, AV.lowL, AV.low, zeroV], rfl, htk.trans hst⟩
      | some p =>
        have e1 : parR d.params v.m[k].name = (p, true) := by rw [parR, hpo]
        rw [e1] at hpar
        rw [hpo] at hst
        repeat' first
          | refine .seq ?_ | refine .rg ?_ | refine .rd ?_ | refine .block ?_ | refine .scope ?_ | refine .skip ?_ | refine .label ?_ | refine .exit ?_ | refine .ret ?_
          | refine .ct ?_ | refine .cf ?_ | refine .cy ?_ | refine .cn ?_ | (refine .cond rfl ?_ ?_ <;> intro hc)
          | refine A.nil_seq ?_ | refine .nl ?_ | refine .dd ?_ | refine .ys ?_ | refine .no ?_ | (refine A.guard rfl ?_ ?_ <;> intro hc)
          | refine .lb ?_ | refine .ln ?_ | refine .ls ?_ | refine .pv ?_ | refine .ix ?_ | refine .pt ?_ | refine .pf ?_ | refine .bx ?_ | refine .al ?_ | refine .st ?_ | refine .ad ?_ | refine .sb ?_ | refine .mf ?_ | refine .cl ?_ | refine .cw ?_ | refine .ck ?_ | fail
        exact ⟨h1, ⟨rfl, rfl, rfl, rfl, rfl, rfl, rfl, trivial⟩, by simp [belowS, AV.low, AV.low_of_closed, mkE_closed], by simp [belowB, belowT, Ob.low, Tok.low, AV.lowL, AV.low, zeroV], rfl, htk.trans hst⟩
    · have d1 : decide ((k : Int) < (v.mv.length : Int)) = false := by rw [v.mv_len]; simp; omega
      obtain rfl : k = v.m.length := by omega
      rw [List.take_length] at hj
      rw [if_neg (by rw [hj]; decide)]
      obtain ⟨rl, re⟩ := r
      simp only at hM ⊢
      by_cases er : re = 0
      · subst er
        rw [if_neg (by simp)]
        repeat' first
          | refine .seq ?_ | refine .rg ?_ | refine .rd ?_ | refine .block ?_ | refine .scope ?_ | refine .skip ?_ | refine .label ?_ | refine .exit ?_ | refine .ret ?_
          | refine .ct ?_ | refine .cf ?_ | refine .cy ?_ | refine .cn ?_ | (refine .cond rfl ?_ ?_ <;> intro hc)
          | refine A.nil_seq ?_ | refine .nl ?_ | refine .dd ?_ | refine .ys ?_ | refine .no ?_ | (refine A.guard rfl ?_ ?_ <;> intro hc)
          | refine .lb ?_ | refine .ln ?_ | refine .ls ?_ | refine .pv ?_ | refine .ix ?_ | refine .pt ?_ | refine .pf ?_ | refine .bx ?_ | refine .al ?_ | refine .st ?_ | refine .ad ?_ | refine .sb ?_ | refine .mf ?_ | refine .cl ?_ | refine .cw ?_ | refine .ck ?_ | fail
        exact FinR.ret1 rfl (Weak.tup (WeakL.cons weak_inputC (WeakL.refl _)))
      · have er' : (re != 0) = true := by simpa using er
        rw [if_pos er]
        repeat' first
          | refine .seq ?_ | refine .rg ?_ | refine .rd ?_ | refine .block ?_ | refine .scope ?_ | refine .skip ?_ | refine .label ?_ | refine .exit ?_ | refine .ret ?_
          | refine .ct ?_ | refine .cf ?_ | refine .cy ?_ | refine .cn ?_ | (refine .cond rfl ?_ ?_ <;> intro hc)
          | refine A.nil_seq ?_ | refine .nl ?_ | refine .dd ?_ | refine .ys ?_ | refine .no ?_ | (refine A.guard rfl ?_ ?_ <;> intro hc)
          | refine .lb ?_ | refine .ln ?_ | refine .ls ?_ | refine .pv ?_ | refine .ix ?_ | refine .pt ?_ | refine .pf ?_ | refine .bx ?_ | refine .al ?_ | refine .st ?_ | refine .ad ?_ | refine .sb ?_ | refine .mf ?_ | refine .cl ?_ | refine .cw ?_ | refine .ck ?_ | fail
        exact FinR.ret1 rfl weak_ve0
  · have q7 : (v.kind != 7) = true := by simp [k7]
    rw [if_neg k7]
    repeat' first
      | refine .br ?_
      | refine .seq ?_ | refine .rg ?_ | refine .rd ?_ | refine .block ?_ | refine .scope ?_ | refine .skip ?_ | refine .label ?_ | refine .exit ?_ | refine .ret ?_
      | refine .ct ?_ | refine .cf ?_ | refine .cy ?_ | refine .cn ?_ | (refine .cond rfl ?_ ?_ <;> intro hc)
      | refine A.nil_seq ?_ | refine .nl ?_ | refine .dd ?_ | refine .ys ?_ | refine .no ?_ | (refine A.guard rfl ?_ ?_ <;> intro hc)
      | refine .lb ?_ | refine .ln ?_ | refine .ls ?_ | refine .pv ?_ | refine .ix ?_ | refine .pt ?_ | refine .pf ?_ | refine .bx ?_ | refine .al ?_ | refine .st ?_ | refine .ad ?_ | refine .sb ?_ | refine .mf ?_ | refine .cl ?_ | refine .cw ?_ | refine .ck ?_ | fail
    exact FinR.ret1 rfl weak_ve0
end Go.Proofs.YtpidjkihngiaoaaGreatDoor
namespace Go.Proofs.YtpidjkihngiaoaaGreatDoor
open Go Go.Av
set_option maxRecDepth 100000
set_option maxHeartbeats 16000000
set_option linter.unusedVariables false
set_option linter.unusedSimpArgs false
attribute [local irreducible] HCode AOps PFn AFn Av.Step TStep

/-- One after another, till one fails. -/
def seqV (odd : Val → Bool) (F : Val → Val × Int) : List Val → List Val × Int
  | [] => ([], 0)
  | x :: l => if odd x = true then ([], 7) else if (F x).2 ≠ 0 then ([], (F x).2) else if (seqV odd F l).2 ≠ 0 then ([], (seqV odd F l).2) else ((F x).1 :: (seqV odd F l).1, 0)
theorem mkL_seq (s : Sch) (wr : Bool) (env : List Mem) (dfl : Par → VE) (t : Typ) : ∀ l : List Val, mkL s wr env dfl l t = seqV (fun x => oddItem wr t x.kind) (fun x => mkV s wr env dfl x t) l
  | [] => by rw [mkL, seqV]
  | v :: l => by rw [mkL, seqV, mkL_seq s wr env dfl t l]
/-- The results of the first k, and what comes behind. -/
def seqJ (odd : Val → Bool) (F : Val → Val × Int) (l : List Val) (k : Nat) : Prop :=
  seqV odd F l = if (seqV odd F (l.drop k)).2 ≠ 0 then ([], (seqV odd F (l.drop k)).2) else ((l.take k).map (fun x => (F x).1) ++ (seqV odd F (l.drop k)).1, 0)
theorem seqV_err (odd : Val → Bool) (F : Val → Val × Int) : ∀ l, (seqV odd F l).2 ≠ 0 → (seqV odd F l).1 = []
  | [], _ => rfl
  | x :: l, h => by
    rw [seqV] at h ⊢
    split at h
    · rw [if_pos (by assumption)]
    · rw [if_neg (by assumption)]
      split at h
      · rw [if_pos (by assumption)]
      · rw [if_neg (by assumption)]
        split at h
        · rw [if_pos (by assumption)]
        · exact absurd rfl h
theorem seqJ_zero (odd : Val → Bool) (F : Val → Val × Int) (l : List Val) : seqJ odd F l 0 := by
  unfold seqJ
  rw [List.drop_zero, List.take_zero, List.map_nil, List.nil_append]
  by_cases h : (seqV odd F l).2 ≠ 0
  · rw [if_pos h, ← seqV_err odd F l h]
  · rw [if_neg h]
    have h' : (seqV odd F l).2 = 0 := by simpa using h
    rw [← h']
section
variable {odd : Val → Bool} {F : Val → Val × Int} {l : List Val} {k : Nat} (h : k < l.length) (hj : seqJ odd F l k)
include h hj
theorem seqJ_odd (ho : odd l[k] = true) : seqV odd F l = ([], 7) := by
  unfold seqJ at hj
  rw [hj, List.drop_eq_getElem_cons h, seqV, if_pos ho]; rfl
theorem seqJ_err (ho : odd l[k] = false) (he : (F l[k]).2 ≠ 0) : seqV odd F l = ([], (F l[k]).2) := by
  unfold seqJ at hj
  have e : seqV odd F (l.drop k) = ([], (F l[k]).2) := by rw [List.drop_eq_getElem_cons h, seqV, if_neg (by rw [ho]; decide), if_pos he]
  rw [hj, e, if_pos he]
theorem seqJ_next (ho : odd l[k] = false) (he : (F l[k]).2 = 0) : seqJ odd F l (k + 1) := by
  unfold seqJ at hj ⊢
  have e : seqV odd F (l.drop k) = if (seqV odd F (l.drop (k + 1))).2 ≠ 0 then ([], (seqV odd F (l.drop (k + 1))).2) else ((F l[k]).1 :: (seqV odd F (l.drop (k + 1))).1, 0) := by
    rw [List.drop_eq_getElem_cons h, seqV, if_neg (by rw [ho]; decide), if_neg (by rw [he]; simp)]
  rw [hj, e, List.take_succ_eq_append_getElem h, List.map_append]
  generalize seqV odd F (l.drop (k + 1)) = q
  obtain ⟨q1, q2⟩ := q
  by_cases c : q2 = 0
  · subst c; simp
  · simp [c]
end
theorem seqJ_end {odd : Val → Bool} {F : Val → Val × Int} {l : List Val} (hj : seqJ odd F l l.length) : seqV odd F l = (l.map (fun x => (F x).1), 0) := by
  unfold seqJ at hj
  rw [List.drop_length, List.take_length, seqV, if_neg (by simp), List.append_nil] at hj
  exact hj
def listMk (odd : Val → Bool) (F : Val → Val × Int) (l : List Val) : Val × Int := if (seqV odd F l).2 ≠ 0 then (val0, (seqV odd F l).2) else (.mk 6 0 [] (seqV odd F l).1 [], 0)
theorem weak_ofListC {l : List Val} {n : Int} {str : Str} {t1 t2 : Tk} : Weak (.agg [.int .i64 6, .int .i64 n, .str str, .slice (l.map Val.enc) t1, .slice [] t2]) (Val.mk 6 n str l []).enc := by
  unfold Val.enc
  rw [Val.lv_eq, mv_mk]
  exact Weak.agg (WeakL.cons (Weak.refl _) (WeakL.cons (Weak.refl _) (WeakL.cons (Weak.refl _) (WeakL.cons (Weak.no (WeakL.refl _)) (WeakL.cons (Weak.no (WeakL.refl _)) (WeakL.refl _))))))
theorem Val.fits' (v : Val) : Av.fits true 5 v.enc = true := rfl
theorem Val.fitsAllF (l : List Val) : Av.fitsAll true 5 (l.map Val.enc) = true := fitsAll_map Val.fits' l
theorem lowL_appC {a n : Nat} : ∀ (xs ys : List AV), AV.lowL a n (xs ++ ys) = (AV.lowL a n xs && AV.lowL a n ys)
  | [], ys => by simp [AV.lowL]
  | x :: xs, ys => by rw [List.cons_append, AV.lowL, AV.lowL, lowL_appC xs ys, Bool.and_assoc]
theorem lowL_takeC (a n k : Nat) (l : List Val) (F : Val → Val × Int) : AV.lowL a n (List.take k (List.map (Val.enc ∘ fun x => (F x).1) l)) = true := by
  rw [← List.map_map, ← List.map_take]
  exact Val.lowL' a n _
theorem oddItem_no {wr : Bool} {t : Typ} {k : Int} (h : oddItem wr t k = false) : decide (0 < t.lists) = false ∨ (decide (0 < t.lists) = true ∧ (k != 6) = false) ∨ (decide (0 < t.lists) = true ∧ (k != 6) = true ∧ (k != 0) = false) ∨ (decide (0 < t.lists) = true ∧ (k != 6) = true ∧ (k != 0) = true ∧ wr = true ∧ (k == 8) = true) := by
  unfold oddItem at h
  cases a1 : decide (0 < t.lists) <;> cases a2 : (k != 6) <;> cases a3 : (k != 0) <;> cases wr <;> cases a4 : (k == 8) <;> rw [a1, a2, a3, a4] at h <;> simp_all
/-- list of a list. -/
theorem cListL (s : Sch) (wr within : Bool) (env : List Mem) (t : Typ) (v : Val) (F : Val → Val × Int) (h6 : v.kind = 6) (hv : v.size ≤ 2097152)
    (hF : ∀ x ∈ v.l, PFn Tryz.prog 93 [mkE s wr within env, t.enc, x.enc] (VE.enc (F x))) :
    PFn Tryz.prog 144 [mkE s wr within env, t.enc, v.enc] (VE.enc (listMk (fun x => oddItem wr t x.kind) F v.l)) := by
  have q6 : (v.kind == 6) = true := by simp [h6]
  have q6' : (v.kind != 6) = false := by simp [h6]
  have hll := v.l_len
  refine AFn.plain (VE.closed _) (by simp [AV.closed, AV.closedL, mkE_closed, Typ.closed, Val.closed]) (AFn.enterR [.cell 6 30, .tmp 7] Tryz.func144 rfl rfl rfl rfl rfl ?_)
  repeat' first
    | refine .br ?_
    | refine .seq ?_ | refine .rg ?_ | refine .rd ?_ | refine .block ?_ | refine .scope ?_ | refine .skip ?_ | refine .label ?_ | refine .exit ?_ | refine .ret ?_
    | refine .ct ?_ | refine .cf ?_ | refine .cy ?_ | refine .cn ?_ | (refine .cond rfl ?_ ?_ <;> intro hc)
    | refine A.nil_seq ?_ | refine .nl ?_ | refine .dd ?_ | refine .ys ?_ | refine .no ?_ | (refine A.guard rfl ?_ ?_ <;> intro hc)
    | refine .lb ?_ | refine .ln ?_ | refine .ls ?_ | refine .pv ?_ | refine .ix ?_ | refine .pt ?_ | refine .pf ?_ | refine .bx ?_ | refine .al ?_ | refine .st ?_ | refine .ad ?_ | refine .sb ?_ | refine .mf ?_ | refine .cl ?_ | refine .cw ?_ | refine .ck ?_ | fail
  refine HCode.adoptB 1 3 true 5 rfl rfl rfl rfl rfl rfl rfl rfl ?_
  refine HCode.forK v.l.length (fun k => [(24, .int .i64 k), (23, .int .i64 v.lv.length), (22, .slice v.lv .no), (3, .rptr (mkE s wr within env)), (4, .rptr t.enc), (5, .rptr v.enc), (6, .ptr 0 0), (9, .ptr 1 0)])
    (fun k => ⟨[.cells zeroV, .cells [.int .i64 6, .int .i64 0, .str [], .slice (((v.l.take k).map (fun x => (F x).1)).map Val.enc) (.own 0 5), .slice [] .nil]], [.len k]⟩) (seqJ (fun x => oddItem wr t x.kind) F v.l)
    ⟨rfl, rfl, rfl, rfl, rfl, rfl, rfl, rfl, trivial⟩ rfl (seqJ_zero _ _ _) fun k hk hj => ?_
  by_cases h1 : k < v.l.length
  · have d1 : decide ((k : Int) < (v.lv.length : Int)) = true := by rw [v.lv_len]; simp [h1]
    have x1 := Val.lv_get h1
    have hc := hF v.l[k] (List.getElem_mem h1)
    have jo := seqJ_odd h1 hj
    have je := seqJ_err h1 hj
    have jn := seqJ_next h1 hj
    have hlen : ((v.l.take k).map (fun x => (F x).1)).length = k := by rw [List.length_map, List.length_take]; omega
    have hlen' : (((v.l.take k).map (fun x => (F x).1)).map Val.enc).length = k := by rw [List.length_map, hlen]
    have htk : (v.l.take (k + 1)).map (fun x => (F x).1) = (v.l.take k).map (fun x => (F x).1) ++ [(F v.l[k]).1] := by rw [List.take_succ_eq_append_getElem h1, List.map_append]; rfl
    cases o : oddItem wr t v.l[k].kind with
    | true =>
      have js := jo o
      unfold oddItem at o
      simp only [Bool.and_eq_true, decide_eq_true_eq, Bool.not_eq_true'] at o
      obtain ⟨o1, o2, o3, o4⟩ := o
      have e1 : decide (0 < t.lists) = true := decide_eq_true o1
      cases wr with
      | true =>
        have o4' : (v.l[k].kind == 8) = false := by simpa using o4
        have o4'' : (!(v.l[k].kind == 8)) = true := by rw [o4']; rfl
        repeat' first
          | refine .seq ?_ | refine .rg ?_ | refine .rd ?_ | refine .block ?_ | refine .scope ?_ | refine .skip ?_ | refine .label ?_ | refine .exit ?_ | refine .ret ?_
          | refine .ct ?_ | refine .cf ?_ | refine .cy ?_ | refine .cn ?_ | (refine .cond rfl ?_ ?_ <;> intro hc)
          | refine A.nil_seq ?_ | refine .nl ?_ | refine .dd ?_ | refine .ys ?_ | refine .no ?_ | (refine A.guard rfl ?_ ?_ <;> intro hc)
          | refine .lb ?_ | refine .ln ?_ | refine .ls ?_ | refine .pv ?_ | refine .ix ?_ | refine .pt ?_ | refine .pf ?_ | refine .bx ?_ | refine .al ?_ | refine .st ?_ | refine .ad ?_ | refine .sb ?_ | refine .mf ?_ | refine .cl ?_ | refine .cw ?_ | refine .ck ?_ | fail
        refine FinR.ret1 rfl ?_
        unfold listMk
        rw [js]
        exact weak_ve0
      | false =>
        repeat' first
          | refine .seq ?_ | refine .rg ?_ | refine .rd ?_ | refine .block ?_ | refine .scope ?_ | refine .skip ?_ | refine .label ?_ | refine .exit ?_ | refine .ret ?_
          | refine .ct ?_ | refine .cf ?_ | refine .cy ?_ | refine .cn ?_ | (refine .cond rfl ?_ ?_ <;> intro hc)
          | refine A.nil_seq ?_ | refine .nl ?_ | refine .dd ?_ | refine .ys ?_ | refine .no ?_ | (refine A.guard rfl ?_ ?_ <;> intro hc)
          | refine .lb ?_ | refine .ln ?_ | refine .ls ?_ | refine .pv ?_ | refine .ix ?_ | refine .pt ?_ | refine .pf ?_ | refine .bx ?_ | refine .al ?_ | refine .st ?_ | refine .ad ?_ | refine .sb ?_ | refine .mf ?_ | refine .cl ?_ | refine .cw ?_ | refine .ck ?_ | fail
        refine FinR.ret1 rfl ?_
        unfold listMk
        rw [js]
        exact weak_ve0
    | false =>
      by_cases er : (F v.l[k]).2 = 0
      · have jn' := jn o er
        generalize hr : F v.l[k] = r at hc er htk
        obtain ⟨rv, re⟩ := r
        simp only at er htk
        subst er
        unfold VE.enc at hc
        simp only at hc
        rcases oddItem_no o with a1 | ⟨a1, a2⟩ | ⟨a1, a2, a3⟩ | ⟨a1, a2, a3, rfl, a4⟩
        all_goals
            try (have a4' : (!(v.l[k].kind == 8)) = false := by (rw [a4]; rfl))
            (repeat' first
               | refine .seq ?_ | refine .rg ?_ | refine .rd ?_ | refine .block ?_ | refine .scope ?_ | refine .skip ?_ | refine .label ?_ | refine .exit ?_ | refine .ret ?_
               | refine .ct ?_ | refine .cf ?_ | refine .cy ?_ | refine .cn ?_ | (refine .cond rfl ?_ ?_ <;> intro hc)
               | refine A.nil_seq ?_ | refine .nl ?_ | refine .dd ?_ | refine .ys ?_ | refine .no ?_ | (refine A.guard rfl ?_ ?_ <;> intro hc)
               | refine .lb ?_ | refine .ln ?_ | refine .ls ?_ | refine .pv ?_ | refine .ix ?_ | refine .pt ?_ | refine .pf ?_ | refine .bx ?_ | refine .al ?_ | refine .st ?_ | refine .ad ?_ | refine .sb ?_ | refine .mf ?_ | refine .cl ?_ | refine .cw ?_ | refine .ck ?_
               | refine A.append (n := k) rfl rfl rfl rfl rfl rfl rfl rfl hlen' rfl (by dsimp only [List.length_cons, List.length_nil]; omega) (by dsimp only [List.length_cons, List.length_nil]; omega) rfl ?_ | fail
             exact ⟨h1, ⟨rfl, rfl, rfl, rfl, rfl, rfl, rfl, rfl, trivial⟩, by simp [belowS, AV.low, AV.low_of_closed, mkE_closed], by simp [belowB, belowT, Ob.low, Tok.low, AV.lowL, AV.low, zeroV, lowL_appC, lowL_takeC], by rw [htk, List.map_append]; rfl, jn'⟩)
      · have js := je o er
        have er' : ((F v.l[k]).2 != 0) = true := by simpa using er
        have hlm : listMk (fun x => oddItem wr t x.kind) F v.l = (val0, (F v.l[k]).2) := by unfold listMk; rw [js]; simp only; rw [if_pos er]
        rw [hlm]
        generalize F v.l[k] = r at hc er er'
        obtain ⟨rv, re⟩ := r
        simp only at er er'
        unfold VE.enc at hc
        simp only at hc
        rcases oddItem_no o with a1 | ⟨a1, a2⟩ | ⟨a1, a2, a3⟩ | ⟨a1, a2, a3, rfl, a4⟩
        all_goals
            try (have a4' : (!(v.l[k].kind == 8)) = false := by (rw [a4]; rfl))
            (repeat' first
               | refine .seq ?_ | refine .rg ?_ | refine .rd ?_ | refine .block ?_ | refine .scope ?_ | refine .skip ?_ | refine .label ?_ | refine .exit ?_ | refine .ret ?_
               | refine .ct ?_ | refine .cf ?_ | refine .cy ?_ | refine .cn ?_ | (refine .cond rfl ?_ ?_ <;> intro hc)
               | refine A.nil_seq ?_ | refine .nl ?_ | refine .dd ?_ | refine .ys ?_ | refine .no ?_ | (refine A.guard rfl ?_ ?_ <;> intro hc)
               | refine .lb ?_ | refine .ln ?_ | refine .ls ?_ | refine .pv ?_ | refine .ix ?_ | refine .pt ?_ | refine .pf ?_ | refine .bx ?_ | refine .al ?_ | refine .st ?_ | refine .ad ?_ | refine .sb ?_ | refine .mf ?_ | refine .cl ?_ | refine .cw ?_ | refine .ck ?_ | fail
             exact FinR.ret1 rfl weak_ve0)
  · have d1 : decide ((k : Int) < (v.lv.length : Int)) = false := by rw [v.lv_len]; simp; omega
    obtain rfl : k = v.l.length := by omega
    have js := seqJ_end hj
    have hlm : listMk (fun x => oddItem wr t x.kind) F v.l = (.mk 6 0 [] (v.l.map fun x => (F x).1) [], 0) := by unfold listMk; rw [js]; rfl
    rw [hlm]
    repeat' first
      | refine .seq ?_ | refine .rg ?_ | refine .rd ?_ | refine .block ?_ | refine .scope ?_ | refine .skip ?_ | refine .label ?_ | refine .exit ?_ | refine .ret ?_
      | refine .ct ?_ | refine .cf ?_ | refine .cy ?_ | refine .cn ?_ | (refine .cond rfl ?_ ?_ <;> intro hc)
      | refine A.nil_seq ?_ | refine .nl ?_ | refine .dd ?_ | refine .ys ?_ | refine .no ?_ | (refine A.guard rfl ?_ ?_ <;> intro hc)
      | refine .lb ?_ | refine .ln ?_ | refine .ls ?_ | refine .pv ?_ | refine .ix ?_ | refine .pt ?_ | refine .pf ?_ | refine .bx ?_ | refine .al ?_ | refine .st ?_ | refine .ad ?_ | refine .sb ?_ | refine .mf ?_ | refine .cl ?_ | refine .cw ?_ | refine .ck ?_ | fail
    refine FinR.ret1 rfl ?_
    rw [List.take_length]
    exact Weak.tup (WeakL.cons weak_ofListC (WeakL.refl _))
/-- list of what is no list. -/
theorem cListO (s : Sch) (wr within : Bool) (env : List Mem) (t : Typ) (v : Val) (r : Val × Int) (h6 : v.kind ≠ 6)
    (hF : PFn Tryz.prog 93 [mkE s wr within env, t.enc, v.enc] (VE.enc r)) :
    PFn Tryz.prog 144 [mkE s wr within env, t.enc, v.enc] (VE.enc (if r.2 ≠ 0 then (val0, r.2) else (.mk 6 0 [] [r.1] [], 0))) := by
  have q6 : (v.kind == 6) = false := by simp [h6]
  have q6' : (v.kind != 6) = true := by simp [h6]
  obtain ⟨rv, re⟩ := r
  unfold VE.enc at hF
  simp only at hF ⊢
  refine AFn.plain (VE.closed _) (by simp [AV.closed, AV.closedL, mkE_closed, Typ.closed, Val.closed]) (AFn.enterR [.cell 6 30, .tmp 7] Tryz.func144 rfl rfl rfl rfl rfl ?_)
  by_cases er : re = 0
  · subst er
    rw [if_neg (by simp)]
    repeat' first
      | refine .br ?_
      | refine .seq ?_ | refine .rg ?_ | refine .rd ?_ | refine .block ?_ | refine .scope ?_ | refine .skip ?_ | refine .label ?_ | refine .exit ?_ | refine .ret ?_
      | refine .ct ?_ | refine .cf ?_ | refine .cy ?_ | refine .cn ?_ | (refine .cond rfl ?_ ?_ <;> intro hc)
      | refine A.nil_seq ?_ | refine .nl ?_ | refine .dd ?_ | refine .ys ?_ | refine .no ?_ | (refine A.guard rfl ?_ ?_ <;> intro hc)
      | refine .lb ?_ | refine .ln ?_ | refine .ls ?_ | refine .pv ?_ | refine .ix ?_ | refine .pt ?_ | refine .pf ?_ | refine .bx ?_ | refine .al ?_ | refine .st ?_ | refine .ad ?_ | refine .sb ?_ | refine .mf ?_ | refine .cl ?_ | refine .cw ?_ | refine .ck ?_ | fail
    refine HCode.adoptB 1 3 true 5 rfl rfl rfl rfl rfl rfl rfl rfl ?_
    refine HCode.forK 1 (fun k => [(24, .int .i64 k), (23, .int .i64 1), (22, .slice [v.enc] .full), (3, .rptr (mkE s wr within env)), (4, .rptr t.enc), (5, .rptr v.enc), (6, .ptr 0 0), (9, .ptr 1 0)])
      (fun k => ⟨[.cells zeroV, .cells [.int .i64 6, .int .i64 0, .str [], .slice ((List.replicate k rv).map Val.enc) (.own 0 5), .slice [] .nil]], [.len k]⟩) (fun _ => True)
      ⟨rfl, rfl, rfl, rfl, rfl, rfl, rfl, rfl, trivial⟩ rfl trivial fun k hk _ => ?_
    by_cases h1 : k < 1
    · obtain rfl : k = 0 := by omega
      have x1 : [v.enc][0]? = some v.enc := rfl
      repeat' first
        | refine .seq ?_ | refine .rg ?_ | refine .rd ?_ | refine .block ?_ | refine .scope ?_ | refine .skip ?_ | refine .label ?_ | refine .exit ?_ | refine .ret ?_
        | refine .ct ?_ | refine .cf ?_ | refine .cy ?_ | refine .cn ?_ | (refine .cond rfl ?_ ?_ <;> intro hc)
        | refine A.nil_seq ?_ | refine .nl ?_ | refine .dd ?_ | refine .ys ?_ | refine .no ?_ | (refine A.guard rfl ?_ ?_ <;> intro hc)
        | refine .lb ?_ | refine .ln ?_ | refine .ls ?_ | refine .pv ?_ | refine .ix ?_ | refine .pt ?_ | refine .pf ?_ | refine .bx ?_ | refine .al ?_ | refine .st ?_ | refine .ad ?_ | refine .sb ?_ | refine .mf ?_ | refine .cl ?_ | refine .cw ?_ | refine .ck ?_
        | refine A.append (n := 0) rfl rfl rfl rfl rfl rfl rfl rfl rfl rfl (by dsimp only [List.length_cons, List.length_nil]; omega) (by dsimp only [List.length_cons, List.length_nil]; omega) rfl ?_ | fail
      exact ⟨h1, ⟨rfl, rfl, rfl, rfl, rfl, rfl, rfl, rfl, trivial⟩, by simp [belowS, AV.low, AV.lowL, AV.low_of_closed, mkE_closed], by simp [belowB, belowT, Ob.low, Tok.low, AV.lowL, AV.low, zeroV], rfl, trivial⟩
    · obtain rfl : k = 1 := by omega
      repeat' first
        | refine .seq ?_ | refine .rg ?_ | refine .rd ?_ | refine .block ?_ | refine .scope ?_ | refine .skip ?_ | refine .label ?_ | refine .exit ?_ | refine .ret ?_
        | refine .ct ?_ | refine .cf ?_ | refine .cy ?_ | refine .cn ?_ | (refine .cond rfl ?_ ?_ <;> intro hc)
        | refine A.nil_seq ?_ | refine .nl ?_ | refine .dd ?_ | refine .ys ?_ | refine .no ?_ | (refine A.guard rfl ?_ ?_ <;> intro hc)
        | refine .lb ?_ | refine .ln ?_ | refine .ls ?_ | refine .pv ?_ | refine .ix ?_ | refine .pt ?_ | refine .pf ?_ | refine .bx ?_ | refine .al ?_ | refine .st ?_ | refine .ad ?_ | refine .sb ?_ | refine .mf ?_ | refine .cl ?_ | refine .cw ?_ | refine .ck ?_ | fail
      exact FinR.ret1 rfl (Weak.tup (WeakL.cons weak_ofListC (WeakL.refl _)))
  · have er' : (re != 0) = true := by simpa using er
    rw [if_pos er]
    repeat' first
      | refine .br ?_
      | refine .seq ?_ | refine .rg ?_ | refine .rd ?_ | refine .block ?_ | refine .scope ?_ | refine .skip ?_ | refine .label ?_ | refine .exit ?_ | refine .ret ?_
      | refine .ct ?_ | refine .cf ?_ | refine .cy ?_ | refine .cn ?_ | (refine .cond rfl ?_ ?_ <;> intro hc)
      | refine A.nil_seq ?_ | refine .nl ?_ | refine .dd ?_ | refine .ys ?_ | refine .no ?_ | (refine A.guard rfl ?_ ?_ <;> intro hc)
      | refine .lb ?_ | refine .ln ?_ | refine .ls ?_ | refine .pv ?_ | refine .ix ?_ | refine .pt ?_ | refine .pf ?_ | refine .bx ?_ | refine .al ?_ | refine .st ?_ | refine .ad ?_ | refine .sb ?_ | refine .mf ?_ | refine .cl ?_ | refine .cw ?_ | refine .ck ?_ | fail
    refine HCode.forK 1 (fun k => [(24, .int .i64 k), (23, .int .i64 1), (22, .slice [v.enc] .full), (3, .rptr (mkE s wr within env)), (4, .rptr t.enc), (5, .rptr v.enc), (6, .ptr 0 0), (9, .ptr 1 0)])
      (fun k => ⟨[.cells zeroV, .cells [.int .i64 6, .int .i64 0, .str [], .slice [] .nil, .slice [] .nil]], []⟩) (fun k => k = 0)
      ⟨rfl, rfl, rfl, rfl, rfl, rfl, rfl, rfl, trivial⟩ rfl rfl fun k hk hk0 => ?_
    subst hk0
    have x1 : [v.enc][0]? = some v.enc := rfl
    repeat' first
      | refine .seq ?_ | refine .rg ?_ | refine .rd ?_ | refine .block ?_ | refine .scope ?_ | refine .skip ?_ | refine .label ?_ | refine .exit ?_ | refine .ret ?_
      | refine .ct ?_ | refine .cf ?_ | refine .cy ?_ | refine .cn ?_ | (refine .cond rfl ?_ ?_ <;> intro hc)
      | refine A.nil_seq ?_ | refine .nl ?_ | refine .dd ?_ | refine .ys ?_ | refine .no ?_ | (refine A.guard rfl ?_ ?_ <;> intro hc)
      | refine .lb ?_ | refine .ln ?_ | refine .ls ?_ | refine .pv ?_ | refine .ix ?_ | refine .pt ?_ | refine .pf ?_ | refine .bx ?_ | refine .al ?_ | refine .st ?_ | refine .ad ?_ | refine .sb ?_ | refine .mf ?_ | refine .cl ?_ | refine .cw ?_ | refine .ck ?_ | fail
    exact FinR.ret1 rfl weak_ve0
end Go.Proofs.YtpidjkihngiaoaaGreatDoor
namespace Go.Proofs.YtpidjkihngiaoaaGreatDoor
open Go Go.Av
set_option maxRecDepth 100000
set_option maxHeartbeats 16000000
set_option linter.unusedVariables false
set_option linter.unusedSimpArgs false

theorem scalMk_err {n : Str} {v : Val} (h : (scalMk n v).2 ≠ 0) : (scalMk n v).1 = val0 := by
  unfold scalMk at h ⊢
  split
  · rfl
  · rename_i c1
    rw [if_neg c1] at h
    split
    · rename_i c2
      rw [if_pos c2] at h; exact absurd rfl h
    · rename_i c2
      rw [if_neg c2] at h
      split
      · rename_i c3
        rw [if_pos c3] at h; exact absurd rfl h
      · rfl
theorem enumMk_err {wr : Bool} {d : Dfn} {k : Int} {str : Str} (h : (enumMk wr d k str).2 ≠ 0) : (enumMk wr d k str).1 = val0 := by
  unfold enumMk at h ⊢
  by_cases c : k = (if wr = true then 5 else 4) ∧ str ∈ d.parts
  · rw [if_pos c] at h; exact absurd rfl h
  · rw [if_neg c]
theorem inputMk_err {s : Sch} {wr : Bool} {env : List Mem} {dfl : Par → VE} {fs : List MF} {d : Dfn} (h : (inputMk s wr env dfl fs d).2 ≠ 0) : (inputMk s wr env dfl fs d).1 = val0 := by
  unfold inputMk at h ⊢
  by_cases c : strange wr env fs d.params = true
  · rw [if_pos c]
  · rw [if_neg c] at h ⊢
    dsimp only at h ⊢
    by_cases q : (memsMk s wr true env dfl fs d.params).2 ≠ 0
    · rw [if_pos q]
    · rw [if_neg q] at h; exact absurd rfl h
theorem baseMk_err (s : Sch) (wr : Bool) (env : List Mem) (dfl : Par → VE) (name : Str) (v : Val) (fs : List MF) (h : (baseMk s wr env dfl name v fs).2 ≠ 0) : (baseMk s wr env dfl name v fs).1 = val0 := by
  unfold baseMk at h ⊢
  cases hf : findO s name with
  | none => rfl
  | some d =>
    rw [hf] at h
    dsimp only at h ⊢
    by_cases k0 : d.kind = 0
    · rw [if_pos k0] at h ⊢; exact scalMk_err h
    · rw [if_neg k0] at h ⊢
      by_cases k4 : d.kind = 4
      · rw [if_pos k4] at h ⊢; exact enumMk_err h
      · rw [if_neg k4] at h ⊢
        by_cases k5 : d.kind = 5
        · rw [if_pos k5] at h ⊢
          by_cases k7 : v.kind = 7
          · rw [if_pos k7] at h ⊢; exact inputMk_err h
          · rw [if_neg k7]
        · rw [if_neg k5]
theorem mkV_eq (s : Sch) (wr : Bool) (env : List Mem) (dfl : Par → VE) (v : Val) (t : Typ) : mkV s wr env dfl v t =
    if wr = true ∧ v.kind = 8 then (match envO env v.s with
      | some x => if x.kind = 0 ∧ isT t = true then (val0, 9) else (x, 0)
      | none => if isT t = true then (val0, 9) else (val0, 0))
    else if v.kind = 0 then (if isT t = true then (val0, 9) else (v, 0))
    else if rightT t = true ∧ t.lists ≠ 0 then
      (if v.kind = 6 then (if (mkL s wr env dfl v.l (itemT t)).2 ≠ 0 then (val0, (mkL s wr env dfl v.l (itemT t)).2) else (.mk 6 0 [] (mkL s wr env dfl v.l (itemT t)).1 [], 0))
      else wrapR t.lists.toNat (baseMk s wr env dfl t.name v (mkM s wr env dfl v.m)))
    else baseMk s wr env dfl t.name v (mkM s wr env dfl v.m) := by
  cases v
  rw [mkV]
  rfl
theorem wrapN_succ : ∀ (n : Nat) (v : Val), wrapN (n + 1) v = .mk 6 0 [] [wrapN n v] []
  | _, _ => rfl
theorem mkV_down {s : Sch} {wr : Bool} {env : List Mem} {dfl : Par → VE} {v : Val} {t : Typ} (h8 : ¬ (wr = true ∧ v.kind = 8)) (h0 : v.kind ≠ 0) (h6 : v.kind ≠ 6) (hr : rightT t = true) (hl : t.lists ≠ 0) (hri : rightT (itemT t) = true) :
    mkV s wr env dfl v t = if (mkV s wr env dfl v (itemT t)).2 ≠ 0 then (val0, (mkV s wr env dfl v (itemT t)).2) else (.mk 6 0 [] [(mkV s wr env dfl v (itemT t)).1] [], 0) := by
  have hl0 := (rightT_iff.1 hr).2.1
  have hn : t.lists.toNat = (itemT t).lists.toNat + 1 := by show t.lists.toNat = (t.lists - 1).toNat + 1; omega
  have e : mkV s wr env dfl v (itemT t) = wrapR (itemT t).lists.toNat (baseMk s wr env dfl t.name v (mkM s wr env dfl v.m)) := by
    rw [mkV_eq, if_neg h8, if_neg h0, if_neg h6]
    by_cases c : (itemT t).lists ≠ 0
    · rw [if_pos ⟨hri, c⟩]; rfl
    · rw [if_neg (fun x => c x.2)]
      have hz : (itemT t).lists.toNat = 0 := by have : (itemT t).lists = 0 := by simpa using c
                                                rw [this]; rfl
      rw [hz]
      show baseMk s wr env dfl t.name v _ = _
      generalize baseMk s wr env dfl t.name v (mkM s wr env dfl v.m) = b
      obtain ⟨b1, b2⟩ := b
      unfold wrapR
      by_cases hb : b2 = 0
      · subst hb; rfl
      · simp [hb]
  rw [e, mkV_eq, if_neg h8, if_neg h0, if_neg h6, if_pos ⟨hr, hl⟩, hn]
  have hbe := baseMk_err s wr env dfl t.name v (mkM s wr env dfl v.m)
  generalize baseMk s wr env dfl t.name v (mkM s wr env dfl v.m) = b at hbe
  obtain ⟨b1, b2⟩ := b
  simp only at hbe
  unfold wrapR
  by_cases hb : b2 = 0
  · subst hb; rfl
  · have := hbe hb
    subst this
    simp [hb]
end Go.Proofs.YtpidjkihngiaoaaGreatDoor
