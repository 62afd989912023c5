/-
  The reference's coerce: made (one step).
  The reference's coerce: made, Literal, Input, the whole.
-/
import Derived.Test.YtpidjkihngiaoaaGreatDoorGCoerceVars13
namespace Go.Proofs.YtpidjkihngiaoaaGreatDoor
open Go Go.Av
set_option maxRecDepth 100000
set_option maxHeartbeats 16000000
set_option linter.unusedVariables false
set_option linter.unusedSimpArgs false
attribute [local irreducible] HCode AOps PFn AFn Av.Step TStep

/-- What the reference makes of a value that may stand alone, or not. -/
def madeA (s : Sch) (lit : Bool) (env : List Mem) (dfl : Par → VE) (alone : Bool) (v : Val) (t : Typ) : VE := if (!alone && oddItem lit t v.kind) = true then (val0, 7) else mkV s lit env dfl v t
theorem seqV_mk (odd : Val → Bool) (F : Val → Val × Int) : ∀ l, seqV odd F l = seqV (fun _ => false) (fun x => if odd x = true then (val0, 7) else F x) l
  | [] => rfl
  | x :: l => by
    rw [seqV, seqV, ← seqV_mk odd F l]
    by_cases o : odd x = true
    · simp [o]
    · simp [o]
theorem good_zero {v : Val} (h : allV good v = true) (k : v.kind = 0) : v = val0 := by
  rw [allV_eq, if_neg (by omega), if_neg (by omega)] at h
  obtain ⟨kk, n, str, l, m⟩ := v
  unfold singleB at h
  simp only [Val.kind, Val.l, Val.m, Val.n, Val.s] at h k
  subst k
  rw [Bool.and_eq_true, Bool.and_eq_true] at h
  obtain ⟨⟨h1, h2⟩, h3⟩ := h
  obtain rfl := List.length_eq_zero_iff.1 (of_decide_eq_true h1)
  obtain rfl := List.length_eq_zero_iff.1 (of_decide_eq_true h2)
  change (n == 0 && str == []) = true at h3
  rw [Bool.and_eq_true, beq_iff_eq, beq_iff_eq] at h3
  obtain ⟨rfl, rfl⟩ := h3
  rfl
theorem rMadeVar (s : Sch) (hs : s.size ≤ 1048576) (alone : Bool) (env : List Mem) (dfl : Par → VE) (v : Val) (t : Typ) (k8 : v.kind = 8) (he : env.length ≤ 2097152) (ht : t.name.length ≤ 2097152) :
    PFn Tryz.prog 55 [s.enc, t.enc, v.enc, .bool alone, .bool true, .slice (env.map Mem.enc) .no] (VE.enc (madeA s true env dfl alone v t)) := by
  have hg := rGetV v.s env (by omega)
  have hi := rIs t (by omega)
  rw [envO_getG] at hg
  have ho8 : (!alone && oddItem true t v.kind) = false := by rw [k8]; unfold oddItem; simp
  unfold madeA
  rw [if_neg (by rw [ho8]; decide), mkV_eq, if_pos ⟨rfl, k8⟩]
  have q8 : (v.kind == 8) = true := by simp [k8]
  refine AFn.plain (VE.closed _) (by simp [AV.closed, AV.closedL, Sch.closed, Typ.closed, Val.closed, Mem.closedL]) (AFn.enterR [.cell 12 30, .tmp 13] Tryz.func55 rfl rfl rfl rfl rfl ?_)
  cases ho : envO env v.s with
  | none =>
    rw [ho] at hg
    cases c : isT t <;> rw [c] at hi
    all_goals
      repeat' first
        | refine AOps.br (d := 6) ?_ | refine AOps.br (d := 7) ?_
        | refine .seq ?_ | refine .rg ?_ | refine .rd ?_ | refine .block ?_ | refine .scope ?_ | refine .skip ?_ | refine .label ?_ | refine .exit ?_ | refine .ret ?_
        | refine .ct ?_ | refine .cf ?_ | refine .cy ?_ | refine .cn ?_ | (refine .cond rfl ?_ ?_ <;> intro hc)
        | refine A.nil_seq ?_ | refine .nl ?_ | refine .dd ?_ | refine .ys ?_ | refine .no ?_ | (refine A.guard rfl ?_ ?_ <;> intro hc)
        | refine .lb ?_ | refine .ln ?_ | refine .ls ?_ | refine .pv ?_ | refine .ix ?_ | refine .pt ?_ | refine .pf ?_ | refine .bx ?_ | refine .al ?_ | refine .st ?_ | refine .ad ?_ | refine .sb ?_ | refine .mf ?_ | refine .cl ?_ | refine .cw ?_ | refine .ck ?_ | fail
      exact FinR.ret1 rfl weak_ve0
  | some x =>
    rw [ho] at hg
    dsimp only
    by_cases x0 : x.kind = 0
    · have qx : (x.kind == 0) = true := by simp [x0]
      cases c : isT t with
      | true =>
        rw [c] at hi
        rw [if_pos (show x.kind = 0 ∧ true = true from ⟨x0, rfl⟩)]
        repeat' first
          | refine AOps.br (d := 6) ?_ | refine AOps.br (d := 7) ?_
          | refine .seq ?_ | refine .rg ?_ | refine .rd ?_ | refine .block ?_ | refine .scope ?_ | refine .skip ?_ | refine .label ?_ | refine .exit ?_ | refine .ret ?_
          | refine .ct ?_ | refine .cf ?_ | refine .cy ?_ | refine .cn ?_ | (refine .cond rfl ?_ ?_ <;> intro hc)
          | refine A.nil_seq ?_ | refine .nl ?_ | refine .dd ?_ | refine .ys ?_ | refine .no ?_ | (refine A.guard rfl ?_ ?_ <;> intro hc)
          | refine .lb ?_ | refine .ln ?_ | refine .ls ?_ | refine .pv ?_ | refine .ix ?_ | refine .pt ?_ | refine .pf ?_ | refine .bx ?_ | refine .al ?_ | refine .st ?_ | refine .ad ?_ | refine .sb ?_ | refine .mf ?_ | refine .cl ?_ | refine .cw ?_ | refine .ck ?_ | fail
        exact FinR.ret1 rfl weak_ve0
      | false =>
        rw [c] at hi
        rw [if_neg (show ¬ (x.kind = 0 ∧ false = true) by simp)]
        repeat' first
          | refine AOps.br (d := 6) ?_ | refine AOps.br (d := 7) ?_
          | refine .seq ?_ | refine .rg ?_ | refine .rd ?_ | refine .block ?_ | refine .scope ?_ | refine .skip ?_ | refine .label ?_ | refine .exit ?_ | refine .ret ?_
          | refine .ct ?_ | refine .cf ?_ | refine .cy ?_ | refine .cn ?_ | (refine .cond rfl ?_ ?_ <;> intro hc)
          | refine A.nil_seq ?_ | refine .nl ?_ | refine .dd ?_ | refine .ys ?_ | refine .no ?_ | (refine A.guard rfl ?_ ?_ <;> intro hc)
          | refine .lb ?_ | refine .ln ?_ | refine .ls ?_ | refine .pv ?_ | refine .ix ?_ | refine .pt ?_ | refine .pf ?_ | refine .bx ?_ | refine .al ?_ | refine .st ?_ | refine .ad ?_ | refine .sb ?_ | refine .mf ?_ | refine .cl ?_ | refine .cw ?_ | refine .ck ?_ | fail
        exact FinR.ret1 rfl (Weak.refl _)
    · have qx : (x.kind == 0) = false := by simp [x0]
      rw [if_neg (fun h => x0 h.1)]
      repeat' first
        | refine AOps.br (d := 6) ?_ | refine AOps.br (d := 7) ?_
        | refine .seq ?_ | refine .rg ?_ | refine .rd ?_ | refine .block ?_ | refine .scope ?_ | refine .skip ?_ | refine .label ?_ | refine .exit ?_ | refine .ret ?_
        | refine .ct ?_ | refine .cf ?_ | refine .cy ?_ | refine .cn ?_ | (refine .cond rfl ?_ ?_ <;> intro hc)
        | refine A.nil_seq ?_ | refine .nl ?_ | refine .dd ?_ | refine .ys ?_ | refine .no ?_ | (refine A.guard rfl ?_ ?_ <;> intro hc)
        | refine .lb ?_ | refine .ln ?_ | refine .ls ?_ | refine .pv ?_ | refine .ix ?_ | refine .pt ?_ | refine .pf ?_ | refine .bx ?_ | refine .al ?_ | refine .st ?_ | refine .ad ?_ | refine .sb ?_ | refine .mf ?_ | refine .cl ?_ | refine .cw ?_ | refine .ck ?_ | fail
      exact FinR.ret1 rfl (Weak.refl _)
/-- .. of a list. -/
theorem rMadeList (s : Sch) (lit alone : Bool) (env : List Mem) (v : Val) (t : Typ) (F : Val → Val × Int) (hr : rightT t = true) (hl : t.lists ≠ 0) (k6 : v.kind = 6) (hv : v.size ≤ 1048576) (ht : t.name.length ≤ 2097152)
    (hF : ∀ x ∈ v.l, PFn Tryz.prog 55 [s.enc, (itemT t).enc, x.enc, .bool false, .bool lit, .slice (env.map Mem.enc) .no] (VE.enc (F x))) :
    PFn Tryz.prog 55 [s.enc, t.enc, v.enc, .bool alone, .bool lit, .slice (env.map Mem.enc) .no] (VE.enc (listMk (fun _ => false) F v.l)) := by
  have hit := rItem t (by omega)
  unfold itemR at hit
  rw [if_pos ⟨hr, hl⟩] at hit
  have q8 : (v.kind == 8) = false := by simp [k6]
  have q0 : (v.kind == 0) = false := by simp [k6]
  have q6 : (v.kind != 6) = false := by simp [k6]
  have hll := v.l_len
  refine AFn.plain (VE.closed _) (by simp [AV.closed, AV.closedL, Sch.closed, Typ.closed, Val.closed, Mem.closedL]) (AFn.enterR [.cell 12 30, .tmp 13] Tryz.func55 rfl rfl rfl rfl rfl ?_)
  cases lit with
  | false =>
    repeat' first
      | refine .br ?_ | refine A.allocv (d := 17) rfl rfl rfl rfl rfl ?_ | refine HCode.turn 17 rfl (Turn.freezeP rfl rfl rfl rfl) ?_
      | refine .seq ?_ | refine .rg ?_ | refine .rd ?_ | refine .block ?_ | refine .scope ?_ | refine .skip ?_ | refine .label ?_ | refine .exit ?_ | refine .ret ?_
      | refine .ct ?_ | refine .cf ?_ | refine .cy ?_ | refine .cn ?_ | (refine .cond rfl ?_ ?_ <;> intro hc)
      | refine A.nil_seq ?_ | refine .nl ?_ | refine .dd ?_ | refine .ys ?_ | refine .no ?_ | (refine A.guard rfl ?_ ?_ <;> intro hc)
      | refine .lb ?_ | refine .ln ?_ | refine .ls ?_ | refine .pv ?_ | refine .ix ?_ | refine .pt ?_ | refine .pf ?_ | refine .bx ?_ | refine .al ?_ | refine .st ?_ | refine .ad ?_ | refine .sb ?_ | refine .mf ?_ | refine .cl ?_ | refine .cw ?_ | refine .ck ?_
      | refine A.vstore (agg := true) rfl rfl rfl rfl rfl rfl rfl rfl rfl rfl rfl ?_ | fail
    refine HCode.adoptB 2 3 true 5 rfl rfl rfl rfl rfl rfl rfl rfl ?_
    refine HCode.forK v.l.length (fun k => [(22, .int .i64 k), (4, .bool false), (5, .slice (env.map Mem.enc) .no), (6, .rptr s.enc), (8, .rptr v.enc), (12, .ptr 0 0), (14, .ptr 1 0), (17, .rptr (itemT t).enc), (21, .ptr 2 0)])
      (fun k => ⟨[.cells zeroV, .cells zeroV, .cells [.int .i64 6, .int .i64 0, .str [], .slice (((v.l.take k).map (fun x => (F x).1)).map Val.enc) (.own 1 5), .slice [] .nil]], [.len 2, .len k]⟩) (seqJ (fun _ => false) F v.l)
      ⟨rfl, rfl, rfl, rfl, rfl, rfl, rfl, rfl, rfl, trivial⟩ rfl (seqJ_zero _ _ _) fun k hk hj => ?_
    by_cases h1 : k < v.l.length
    · have d1 : decide ((k : Int) < (v.lv.length : Int)) = true := by rw [v.lv_len]; simp [h1]
      have x1 := Val.lv_get h1
      have hc := hF v.l[k] (List.getElem_mem h1)
      have je := seqJ_err h1 hj rfl
      have jn := seqJ_next h1 hj rfl
      have hlen : ((v.l.take k).map (fun x => (F x).1)).length = k := by rw [List.length_map, List.length_take]; omega
      have hlen' : (((v.l.take k).map (fun x => (F x).1)).map Val.enc).length = k := by rw [List.length_map, hlen]
      have htk : (v.l.take (k + 1)).map (fun x => (F x).1) = (v.l.take k).map (fun x => (F x).1) ++ [(F v.l[k]).1] := by rw [List.take_succ_eq_append_getElem h1, List.map_append]; rfl
      by_cases er : (F v.l[k]).2 = 0
      · have jn' := jn er
        generalize hr : F v.l[k] = r at hc er htk
        obtain ⟨rv, re⟩ := r
        simp only at er htk
        subst er
        unfold VE.enc at hc
        simp only at hc
        repeat' first
          | refine .seq ?_ | refine .rg ?_ | refine .rd ?_ | refine .block ?_ | refine .scope ?_ | refine .skip ?_ | refine .label ?_ | refine .exit ?_ | refine .ret ?_
          | refine .ct ?_ | refine .cf ?_ | refine .cy ?_ | refine .cn ?_ | (refine .cond rfl ?_ ?_ <;> intro hc)
          | refine A.nil_seq ?_ | refine .nl ?_ | refine .dd ?_ | refine .ys ?_ | refine .no ?_ | (refine A.guard rfl ?_ ?_ <;> intro hc)
          | refine .lb ?_ | refine .ln ?_ | refine .ls ?_ | refine .pv ?_ | refine .ix ?_ | refine .pt ?_ | refine .pf ?_ | refine .bx ?_ | refine .al ?_ | refine .st ?_ | refine .ad ?_ | refine .sb ?_ | refine .mf ?_ | refine .cl ?_ | refine .cw ?_ | refine .ck ?_
          | refine A.append (n := k) rfl rfl rfl rfl rfl rfl rfl rfl hlen' rfl (by dsimp only [List.length_cons, List.length_nil]; omega) (by dsimp only [List.length_cons, List.length_nil]; omega) rfl ?_ | fail
        exact ⟨h1, ⟨rfl, rfl, rfl, rfl, rfl, rfl, rfl, rfl, rfl, trivial⟩, by simp [belowS, AV.low], by simp [belowB, belowT, Ob.low, Tok.low, AV.lowL, AV.low, zeroV, lowL_appC, lowL_takeC], by rw [htk, List.map_append]; rfl, jn'⟩
      · have js := je er
        have er' : ((F v.l[k]).2 != 0) = true := by simpa using er
        have hlm : listMk (fun _ => false) F v.l = (val0, (F v.l[k]).2) := by unfold listMk; rw [js]; simp only; rw [if_pos er]
        rw [hlm]
        generalize F v.l[k] = r at hc er er'
        obtain ⟨rv, re⟩ := r
        simp only at er er'
        unfold VE.enc at hc
        simp only at hc
        repeat' first
          | refine .seq ?_ | refine .rg ?_ | refine .rd ?_ | refine .block ?_ | refine .scope ?_ | refine .skip ?_ | refine .label ?_ | refine .exit ?_ | refine .ret ?_
          | refine .ct ?_ | refine .cf ?_ | refine .cy ?_ | refine .cn ?_ | (refine .cond rfl ?_ ?_ <;> intro hc)
          | refine A.nil_seq ?_ | refine .nl ?_ | refine .dd ?_ | refine .ys ?_ | refine .no ?_ | (refine A.guard rfl ?_ ?_ <;> intro hc)
          | refine .lb ?_ | refine .ln ?_ | refine .ls ?_ | refine .pv ?_ | refine .ix ?_ | refine .pt ?_ | refine .pf ?_ | refine .bx ?_ | refine .al ?_ | refine .st ?_ | refine .ad ?_ | refine .sb ?_ | refine .mf ?_ | refine .cl ?_ | refine .cw ?_ | refine .ck ?_ | fail
        exact FinR.ret1 rfl weak_ve0
    · have d1 : decide ((k : Int) < (v.lv.length : Int)) = false := by rw [v.lv_len]; simp; omega
      obtain rfl : k = v.l.length := by omega
      have js := seqJ_end hj
      have hlm : listMk (fun _ => false) F v.l = (.mk 6 0 [] (v.l.map fun x => (F x).1) [], 0) := by unfold listMk; rw [js]; rfl
      rw [hlm]
      repeat' first
        | refine .seq ?_ | refine .rg ?_ | refine .rd ?_ | refine .block ?_ | refine .scope ?_ | refine .skip ?_ | refine .label ?_ | refine .exit ?_ | refine .ret ?_
        | refine .ct ?_ | refine .cf ?_ | refine .cy ?_ | refine .cn ?_ | (refine .cond rfl ?_ ?_ <;> intro hc)
        | refine A.nil_seq ?_ | refine .nl ?_ | refine .dd ?_ | refine .ys ?_ | refine .no ?_ | (refine A.guard rfl ?_ ?_ <;> intro hc)
        | refine .lb ?_ | refine .ln ?_ | refine .ls ?_ | refine .pv ?_ | refine .ix ?_ | refine .pt ?_ | refine .pf ?_ | refine .bx ?_ | refine .al ?_ | refine .st ?_ | refine .ad ?_ | refine .sb ?_ | refine .mf ?_ | refine .cl ?_ | refine .cw ?_ | refine .ck ?_ | fail
      refine FinR.ret1 rfl ?_
      rw [List.take_length]
      exact Weak.tup (WeakL.cons weak_ofListC (WeakL.refl _))
  | true =>
    repeat' first
      | refine .br ?_ | refine A.allocv (d := 17) rfl rfl rfl rfl rfl ?_ | refine HCode.turn 17 rfl (Turn.freezeP rfl rfl rfl rfl) ?_
      | refine .seq ?_ | refine .rg ?_ | refine .rd ?_ | refine .block ?_ | refine .scope ?_ | refine .skip ?_ | refine .label ?_ | refine .exit ?_ | refine .ret ?_
      | refine .ct ?_ | refine .cf ?_ | refine .cy ?_ | refine .cn ?_ | (refine .cond rfl ?_ ?_ <;> intro hc)
      | refine A.nil_seq ?_ | refine .nl ?_ | refine .dd ?_ | refine .ys ?_ | refine .no ?_ | (refine A.guard rfl ?_ ?_ <;> intro hc)
      | refine .lb ?_ | refine .ln ?_ | refine .ls ?_ | refine .pv ?_ | refine .ix ?_ | refine .pt ?_ | refine .pf ?_ | refine .bx ?_ | refine .al ?_ | refine .st ?_ | refine .ad ?_ | refine .sb ?_ | refine .mf ?_ | refine .cl ?_ | refine .cw ?_ | refine .ck ?_
      | refine A.vstore (agg := true) rfl rfl rfl rfl rfl rfl rfl rfl rfl rfl rfl ?_ | fail
    refine HCode.adoptB 2 3 true 5 rfl rfl rfl rfl rfl rfl rfl rfl ?_
    refine HCode.forK v.l.length (fun k => [(22, .int .i64 k), (4, .bool true), (5, .slice (env.map Mem.enc) .no), (6, .rptr s.enc), (8, .rptr v.enc), (12, .ptr 0 0), (14, .ptr 1 0), (17, .rptr (itemT t).enc), (21, .ptr 2 0)])
      (fun k => ⟨[.cells zeroV, .cells zeroV, .cells [.int .i64 6, .int .i64 0, .str [], .slice (((v.l.take k).map (fun x => (F x).1)).map Val.enc) (.own 1 5), .slice [] .nil]], [.len 2, .len k]⟩) (seqJ (fun _ => false) F v.l)
      ⟨rfl, rfl, rfl, rfl, rfl, rfl, rfl, rfl, rfl, trivial⟩ rfl (seqJ_zero _ _ _) fun k hk hj => ?_
    by_cases h1 : k < v.l.length
    · have d1 : decide ((k : Int) < (v.lv.length : Int)) = true := by rw [v.lv_len]; simp [h1]
      have x1 := Val.lv_get h1
      have hc := hF v.l[k] (List.getElem_mem h1)
      have je := seqJ_err h1 hj rfl
      have jn := seqJ_next h1 hj rfl
      have hlen : ((v.l.take k).map (fun x => (F x).1)).length = k := by rw [List.length_map, List.length_take]; omega
      have hlen' : (((v.l.take k).map (fun x => (F x).1)).map Val.enc).length = k := by rw [List.length_map, hlen]
      have htk : (v.l.take (k + 1)).map (fun x => (F x).1) = (v.l.take k).map (fun x => (F x).1) ++ [(F v.l[k]).1] := by rw [List.take_succ_eq_append_getElem h1, List.map_append]; rfl
      by_cases er : (F v.l[k]).2 = 0
      · have jn' := jn er
        generalize hr : F v.l[k] = r at hc er htk
        obtain ⟨rv, re⟩ := r
        simp only at er htk
        subst er
        unfold VE.enc at hc
        simp only at hc
        repeat' first
          | refine .seq ?_ | refine .rg ?_ | refine .rd ?_ | refine .block ?_ | refine .scope ?_ | refine .skip ?_ | refine .label ?_ | refine .exit ?_ | refine .ret ?_
          | refine .ct ?_ | refine .cf ?_ | refine .cy ?_ | refine .cn ?_ | (refine .cond rfl ?_ ?_ <;> intro hc)
          | refine A.nil_seq ?_ | refine .nl ?_ | refine .dd ?_ | refine .ys ?_ | refine .no ?_ | (refine A.guard rfl ?_ ?_ <;> intro hc)
          | refine .lb ?_ | refine .ln ?_ | refine .ls ?_ | refine .pv ?_ | refine .ix ?_ | refine .pt ?_ | refine .pf ?_ | refine .bx ?_ | refine .al ?_ | refine .st ?_ | refine .ad ?_ | refine .sb ?_ | refine .mf ?_ | refine .cl ?_ | refine .cw ?_ | refine .ck ?_
          | refine A.append (n := k) rfl rfl rfl rfl rfl rfl rfl rfl hlen' rfl (by dsimp only [List.length_cons, List.length_nil]; omega) (by dsimp only [List.length_cons, List.length_nil]; omega) rfl ?_ | fail
        exact ⟨h1, ⟨rfl, rfl, rfl, rfl, rfl, rfl, rfl, rfl, rfl, trivial⟩, by simp [belowS, AV.low], by simp [belowB, belowT, Ob.low, Tok.low, AV.lowL, AV.low, zeroV, lowL_appC, lowL_takeC], by rw [htk, List.map_append]; rfl, jn'⟩
      · have js := je er
        have er' : ((F v.l[k]).2 != 0) = true := by simpa using er
        have hlm : listMk (fun _ => false) F v.l = (val0, (F v.l[k]).2) := by unfold listMk; rw [js]; simp only; rw [if_pos er]
        rw [hlm]
        generalize F v.l[k] = r at hc er er'
        obtain ⟨rv, re⟩ := r
        simp only at er er'
        unfold VE.enc at hc
        simp only at hc
        repeat' first
          | refine .seq ?_ | refine .rg ?_ | refine .rd ?_ | refine .block ?_ | refine .scope ?_ | refine .skip ?_ | refine .label ?_ | refine .exit ?_ | refine .ret ?_
          | refine .ct ?_ | refine .cf ?_ | refine .cy ?_ | refine .cn ?_ | (refine .cond rfl ?_ ?_ <;> intro hc)
          | refine A.nil_seq ?_ | refine .nl ?_ | refine .dd ?_ | refine .ys ?_ | refine .no ?_ | (refine A.guard rfl ?_ ?_ <;> intro hc)
          | refine .lb ?_ | refine .ln ?_ | refine .ls ?_ | refine .pv ?_ | refine .ix ?_ | refine .pt ?_ | refine .pf ?_ | refine .bx ?_ | refine .al ?_ | refine .st ?_ | refine .ad ?_ | refine .sb ?_ | refine .mf ?_ | refine .cl ?_ | refine .cw ?_ | refine .ck ?_ | fail
        exact FinR.ret1 rfl weak_ve0
    · have d1 : decide ((k : Int) < (v.lv.length : Int)) = false := by rw [v.lv_len]; simp; omega
      obtain rfl : k = v.l.length := by omega
      have js := seqJ_end hj
      have hlm : listMk (fun _ => false) F v.l = (.mk 6 0 [] (v.l.map fun x => (F x).1) [], 0) := by unfold listMk; rw [js]; rfl
      rw [hlm]
      repeat' first
        | refine .seq ?_ | refine .rg ?_ | refine .rd ?_ | refine .block ?_ | refine .scope ?_ | refine .skip ?_ | refine .label ?_ | refine .exit ?_ | refine .ret ?_
        | refine .ct ?_ | refine .cf ?_ | refine .cy ?_ | refine .cn ?_ | (refine .cond rfl ?_ ?_ <;> intro hc)
        | refine A.nil_seq ?_ | refine .nl ?_ | refine .dd ?_ | refine .ys ?_ | refine .no ?_ | (refine A.guard rfl ?_ ?_ <;> intro hc)
        | refine .lb ?_ | refine .ln ?_ | refine .ls ?_ | refine .pv ?_ | refine .ix ?_ | refine .pt ?_ | refine .pf ?_ | refine .bx ?_ | refine .al ?_ | refine .st ?_ | refine .ad ?_ | refine .sb ?_ | refine .mf ?_ | refine .cl ?_ | refine .cw ?_ | refine .ck ?_ | fail
      refine FinR.ret1 rfl ?_
      rw [List.take_length]
      exact Weak.tup (WeakL.cons weak_ofListC (WeakL.refl _))
/-- .. of what is no list, where a list is asked for. -/
theorem rMadeOne (s : Sch) (lit alone : Bool) (env : List Mem) (v : Val) (t : Typ) (r : Val × Int) (hr : rightT t = true) (hl : t.lists ≠ 0) (h8 : ¬ (lit = true ∧ v.kind = 8)) (k0 : v.kind ≠ 0) (k6 : v.kind ≠ 6) (ht : t.name.length ≤ 2097152)
    (hF : alone = true → PFn Tryz.prog 55 [s.enc, (itemT t).enc, v.enc, .bool true, .bool lit, .slice (env.map Mem.enc) .no] (VE.enc r)) :
    PFn Tryz.prog 55 [s.enc, t.enc, v.enc, .bool alone, .bool lit, .slice (env.map Mem.enc) .no] (VE.enc (if alone = false then (val0, 7) else if r.2 ≠ 0 then (val0, r.2) else (.mk 6 0 [] [r.1] [], 0))) := by
  have hit := rItem t (by omega)
  unfold itemR at hit
  rw [if_pos ⟨hr, hl⟩] at hit
  have q0 : (v.kind == 0) = false := by simp [k0]
  have q6 : (v.kind != 6) = true := by simp [k6]
  have hw : lit = false ∨ (lit = true ∧ (v.kind == 8) = false) := by
    cases lit with
    | false => exact .inl rfl
    | true => exact .inr ⟨rfl, by simpa using h8⟩
  refine AFn.plain (VE.closed _) (by simp [AV.closed, AV.closedL, Sch.closed, Typ.closed, Val.closed, Mem.closedL]) (AFn.enterR [.cell 12 30, .tmp 13] Tryz.func55 rfl rfl rfl rfl rfl ?_)
  cases alone with
  | false =>
    rw [if_pos rfl]
    rcases hw with rfl | ⟨rfl, q8⟩
    all_goals
      repeat' first
        | refine .br ?_
        | refine .seq ?_ | refine .rg ?_ | refine .rd ?_ | refine .block ?_ | refine .scope ?_ | refine .skip ?_ | refine .label ?_ | refine .exit ?_ | refine .ret ?_
        | refine .ct ?_ | refine .cf ?_ | refine .cy ?_ | refine .cn ?_ | (refine .cond rfl ?_ ?_ <;> intro hc)
        | refine A.nil_seq ?_ | refine .nl ?_ | refine .dd ?_ | refine .ys ?_ | refine .no ?_ | (refine A.guard rfl ?_ ?_ <;> intro hc)
        | refine .lb ?_ | refine .ln ?_ | refine .ls ?_ | refine .pv ?_ | refine .ix ?_ | refine .pt ?_ | refine .pf ?_ | refine .bx ?_ | refine .al ?_ | refine .st ?_ | refine .ad ?_ | refine .sb ?_ | refine .mf ?_ | refine .cl ?_ | refine .cw ?_ | refine .ck ?_ | fail
      exact FinR.ret1 rfl weak_ve0
  | true =>
    rw [if_neg (by decide)]
    have hf := hF rfl
    obtain ⟨rv, re⟩ := r
    unfold VE.enc at hf
    simp only at hf ⊢
    by_cases er : re = 0
    · subst er
      rw [if_neg (by simp)]
      rcases hw with rfl | ⟨rfl, q8⟩
      all_goals
        repeat' first
          | refine .br ?_
          | refine .seq ?_ | refine .rg ?_ | refine .rd ?_ | refine .block ?_ | refine .scope ?_ | refine .skip ?_ | refine .label ?_ | refine .exit ?_ | refine .ret ?_
          | refine .ct ?_ | refine .cf ?_ | refine .cy ?_ | refine .cn ?_ | (refine .cond rfl ?_ ?_ <;> intro hc)
          | refine A.nil_seq ?_ | refine .nl ?_ | refine .dd ?_ | refine .ys ?_ | refine .no ?_ | (refine A.guard rfl ?_ ?_ <;> intro hc)
          | refine .lb ?_ | refine .ln ?_ | refine .ls ?_ | refine .pv ?_ | refine .ix ?_ | refine .pt ?_ | refine .pf ?_ | refine .bx ?_ | refine .al ?_ | refine .st ?_ | refine .ad ?_ | refine .sb ?_ | refine .mf ?_ | refine .cl ?_ | refine .cw ?_ | refine .ck ?_ | fail
        exact FinR.ret1 rfl (Weak.tup (WeakL.cons (weak_ofListC (l := [rv])) (WeakL.refl _)))
    · have er' : (re != 0) = true := by simpa using er
      rw [if_pos er]
      rcases hw with rfl | ⟨rfl, q8⟩
      all_goals
        repeat' first
          | refine .br ?_
          | refine .seq ?_ | refine .rg ?_ | refine .rd ?_ | refine .block ?_ | refine .scope ?_ | refine .skip ?_ | refine .label ?_ | refine .exit ?_ | refine .ret ?_
          | refine .ct ?_ | refine .cf ?_ | refine .cy ?_ | refine .cn ?_ | (refine .cond rfl ?_ ?_ <;> intro hc)
          | refine A.nil_seq ?_ | refine .nl ?_ | refine .dd ?_ | refine .ys ?_ | refine .no ?_ | (refine A.guard rfl ?_ ?_ <;> intro hc)
          | refine .lb ?_ | refine .ln ?_ | refine .ls ?_ | refine .pv ?_ | refine .ix ?_ | refine .pt ?_ | refine .pf ?_ | refine .bx ?_ | refine .al ?_ | refine .st ?_ | refine .ad ?_ | refine .sb ?_ | refine .mf ?_ | refine .cl ?_ | refine .cw ?_ | refine .ck ?_ | fail
        exact FinR.ret1 rfl weak_ve0
/-- .. of what no list is asked for; a null. -/
theorem rMadeBase (s : Sch) (hs : s.size ≤ 1048576) (lit alone : Bool) (env : List Mem) (dfl : Par → VE) (v : Val) (t : Typ) (h8 : ¬ (lit = true ∧ v.kind = 8)) (hr : rightT t = true) (hl : v.kind = 0 ∨ t.lists = 0) (hg : allV good v = true) (ht : t.name.length ≤ 2097152) (h0 : -9223372036854775808 ≤ v.n) (h1 : v.n ≤ 9223372036854775807)
    (hin : ∀ d, findO s t.name = some d → d.kind = 5 → v.kind = 7 → PFn Tryz.prog 104 [s.enc, .slice (d.params.map Par.enc) .no, .slice v.mv .no, .bool lit, .slice (env.map Mem.enc) .no] (VE.enc (inputMk s lit env dfl (mkM s lit env dfl v.m) d))) :
    PFn Tryz.prog 55 [s.enc, t.enc, v.enc, .bool alone, .bool lit, .slice (env.map Mem.enc) .no] (VE.enc (mkV s lit env dfl v t)) := by
  have hi := rIs t (by omega)
  have hit := rItem t (by omega)
  have hf := rFind9 s t.name hs
  have hw : lit = false ∨ (lit = true ∧ (v.kind == 8) = false) := by
    cases lit with
    | false => exact .inl rfl
    | true => exact .inr ⟨rfl, by simpa using h8⟩
  refine AFn.plain (VE.closed _) (by simp [AV.closed, AV.closedL, Sch.closed, Typ.closed, Val.closed, Mem.closedL]) (AFn.enterR [.cell 12 30, .tmp 13] Tryz.func55 rfl rfl rfl rfl rfl ?_)
  by_cases k0 : v.kind = 0
  · have q0 : (v.kind == 0) = true := by simp [k0]
    rw [mkV_eq, if_neg h8, if_pos k0, good_zero hg k0]
    cases c : isT t <;> rw [c] at hi
    all_goals
      rcases hw with rfl | ⟨rfl, q8⟩
      all_goals
        repeat' first
          | refine .br ?_
          | refine .seq ?_ | refine .rg ?_ | refine .rd ?_ | refine .block ?_ | refine .scope ?_ | refine .skip ?_ | refine .label ?_ | refine .exit ?_ | refine .ret ?_
          | refine .ct ?_ | refine .cf ?_ | refine .cy ?_ | refine .cn ?_ | (refine .cond rfl ?_ ?_ <;> intro hc)
          | refine A.nil_seq ?_ | refine .nl ?_ | refine .dd ?_ | refine .ys ?_ | refine .no ?_ | (refine A.guard rfl ?_ ?_ <;> intro hc)
          | refine .lb ?_ | refine .ln ?_ | refine .ls ?_ | refine .pv ?_ | refine .ix ?_ | refine .pt ?_ | refine .pf ?_ | refine .bx ?_ | refine .al ?_ | refine .st ?_ | refine .ad ?_ | refine .sb ?_ | refine .mf ?_ | refine .cl ?_ | refine .cw ?_ | refine .ck ?_ | fail
        exact FinR.ret1 rfl weak_ve0
  · have q0 : (v.kind == 0) = false := by simp [k0]
    have hl0 := hl.resolve_left k0
    unfold itemR at hit
    rw [if_neg (fun h => h.2 hl0)] at hit
    rw [mkV_eq, if_neg h8, if_neg k0, if_neg (fun h => h.2 hl0)]
    unfold baseMk
    unfold findR at hf
    have hne : (t.name == []) = false := by
      have := (rightT_iff.1 hr).1
      rw [beq_eq_false_iff_ne]
      intro e; rw [e] at this; exact absurd this (by decide)
    cases hfo : findO s t.name with
    | none =>
      rw [hfo] at hf
      rcases hw with rfl | ⟨rfl, q8⟩
      all_goals
        repeat' first
          | refine .br ?_
          | refine .seq ?_ | refine .rg ?_ | refine .rd ?_ | refine .block ?_ | refine .scope ?_ | refine .skip ?_ | refine .label ?_ | refine .exit ?_ | refine .ret ?_
          | refine .ct ?_ | refine .cf ?_ | refine .cy ?_ | refine .cn ?_ | (refine .cond rfl ?_ ?_ <;> intro hc)
          | refine A.nil_seq ?_ | refine .nl ?_ | refine .dd ?_ | refine .ys ?_ | refine .no ?_ | (refine A.guard rfl ?_ ?_ <;> intro hc)
          | refine .lb ?_ | refine .ln ?_ | refine .ls ?_ | refine .pv ?_ | refine .ix ?_ | refine .pt ?_ | refine .pf ?_ | refine .bx ?_ | refine .al ?_ | refine .st ?_ | refine .ad ?_ | refine .sb ?_ | refine .mf ?_ | refine .cl ?_ | refine .cw ?_ | refine .ck ?_ | fail
        exact FinR.ret1 rfl weak_ve0
    | some d =>
      rw [hfo] at hf
      dsimp only at hf ⊢
      have hdn : d.name = t.name := by
        unfold findO at hfo
        split at hfo
        · cases hfo; rfl
        · simpa using List.find?_some hfo
      by_cases d0 : d.kind = 0
      · have e0 : (d.kind == 0) = true := by simp [d0]
        have en : (d.name == []) = false := by rw [hdn]; exact hne
        rw [if_pos d0]
        have hsc := rScalar23 t.name v h0 h1
        generalize scalMk t.name v = r at hsc
        obtain ⟨rv, re⟩ := r
        unfold VE.enc at hsc
        simp only at hsc
        rcases hw with rfl | ⟨rfl, q8⟩
        all_goals
          repeat' first
            | refine .br ?_
            | refine .seq ?_ | refine .rg ?_ | refine .rd ?_ | refine .block ?_ | refine .scope ?_ | refine .skip ?_ | refine .label ?_ | refine .exit ?_ | refine .ret ?_
            | refine .ct ?_ | refine .cf ?_ | refine .cy ?_ | refine .cn ?_ | (refine .cond rfl ?_ ?_ <;> intro hc)
            | refine A.nil_seq ?_ | refine .nl ?_ | refine .dd ?_ | refine .ys ?_ | refine .no ?_ | (refine A.guard rfl ?_ ?_ <;> intro hc)
            | refine .lb ?_ | refine .ln ?_ | refine .ls ?_ | refine .pv ?_ | refine .ix ?_ | refine .pt ?_ | refine .pf ?_ | refine .bx ?_ | refine .al ?_ | refine .st ?_ | refine .ad ?_ | refine .sb ?_ | refine .mf ?_ | refine .cl ?_ | refine .cw ?_ | refine .ck ?_ | fail
          exact FinR.ret1 rfl (Weak.refl _)
      · have e0 : (d.kind == 0) = false := by simp [d0]
        rw [if_neg d0]
        by_cases d4 : d.kind = 4
        · have e4 : (d.kind == 4) = true := by simp [d4]
          rw [if_pos d4]
          have hdl : d.parts.length ≤ 9223372036854775807 := by
            have := (findR_size (name := t.name) (show s.size ≤ 2097152 by omega)).2.1
            unfold findR at this
            rw [hfo] at this
            simp only at this
            omega
          have hhas := rHas d.parts v.s hdl
          have htx := rText v.s
          unfold enumMk
          by_cases hm : v.s ∈ d.parts
          · rw [decide_eq_true hm] at hhas
            rcases hw with rfl | ⟨rfl, q8⟩
            · by_cases k4 : v.kind = 4
              · have q4 : (v.kind != 4) = false := by simp [k4]
                rw [if_pos ⟨by rw [if_neg (by decide)]; exact k4, hm⟩]
                repeat' first
                  | refine .br ?_
                  | refine .seq ?_ | refine .rg ?_ | refine .rd ?_ | refine .block ?_ | refine .scope ?_ | refine .skip ?_ | refine .label ?_ | refine .exit ?_ | refine .ret ?_
                  | refine .ct ?_ | refine .cf ?_ | refine .cy ?_ | refine .cn ?_ | (refine .cond rfl ?_ ?_ <;> intro hc)
                  | refine A.nil_seq ?_ | refine .nl ?_ | refine .dd ?_ | refine .ys ?_ | refine .no ?_ | (refine A.guard rfl ?_ ?_ <;> intro hc)
                  | refine .lb ?_ | refine .ln ?_ | refine .ls ?_ | refine .pv ?_ | refine .ix ?_ | refine .pt ?_ | refine .pf ?_ | refine .bx ?_ | refine .al ?_ | refine .st ?_ | refine .ad ?_ | refine .sb ?_ | refine .mf ?_ | refine .cl ?_ | refine .cw ?_ | refine .ck ?_ | fail
                exact FinR.ret1 rfl (Weak.refl _)
              · have q4 : (v.kind != 4) = true := by simp [k4]
                rw [if_neg (fun h => k4 (by have := h.1; rwa [if_neg (by decide)] at this))]
                repeat' first
                  | refine .br ?_
                  | refine .seq ?_ | refine .rg ?_ | refine .rd ?_ | refine .block ?_ | refine .scope ?_ | refine .skip ?_ | refine .label ?_ | refine .exit ?_ | refine .ret ?_
                  | refine .ct ?_ | refine .cf ?_ | refine .cy ?_ | refine .cn ?_ | (refine .cond rfl ?_ ?_ <;> intro hc)
                  | refine A.nil_seq ?_ | refine .nl ?_ | refine .dd ?_ | refine .ys ?_ | refine .no ?_ | (refine A.guard rfl ?_ ?_ <;> intro hc)
                  | refine .lb ?_ | refine .ln ?_ | refine .ls ?_ | refine .pv ?_ | refine .ix ?_ | refine .pt ?_ | refine .pf ?_ | refine .bx ?_ | refine .al ?_ | refine .st ?_ | refine .ad ?_ | refine .sb ?_ | refine .mf ?_ | refine .cl ?_ | refine .cw ?_ | refine .ck ?_ | fail
                exact FinR.ret1 rfl weak_ve0
            · by_cases k5 : v.kind = 5
              · have q5 : (v.kind != 5) = false := by simp [k5]
                rw [if_pos ⟨by rw [if_pos rfl]; exact k5, hm⟩]
                repeat' first
                  | refine .br ?_
                  | refine .seq ?_ | refine .rg ?_ | refine .rd ?_ | refine .block ?_ | refine .scope ?_ | refine .skip ?_ | refine .label ?_ | refine .exit ?_ | refine .ret ?_
                  | refine .ct ?_ | refine .cf ?_ | refine .cy ?_ | refine .cn ?_ | (refine .cond rfl ?_ ?_ <;> intro hc)
                  | refine A.nil_seq ?_ | refine .nl ?_ | refine .dd ?_ | refine .ys ?_ | refine .no ?_ | (refine A.guard rfl ?_ ?_ <;> intro hc)
                  | refine .lb ?_ | refine .ln ?_ | refine .ls ?_ | refine .pv ?_ | refine .ix ?_ | refine .pt ?_ | refine .pf ?_ | refine .bx ?_ | refine .al ?_ | refine .st ?_ | refine .ad ?_ | refine .sb ?_ | refine .mf ?_ | refine .cl ?_ | refine .cw ?_ | refine .ck ?_ | fail
                exact FinR.ret1 rfl (Weak.refl _)
              · have q5 : (v.kind != 5) = true := by simp [k5]
                rw [if_neg (fun h => k5 (by have := h.1; rwa [if_pos rfl] at this))]
                repeat' first
                  | refine .br ?_
                  | refine .seq ?_ | refine .rg ?_ | refine .rd ?_ | refine .block ?_ | refine .scope ?_ | refine .skip ?_ | refine .label ?_ | refine .exit ?_ | refine .ret ?_
                  | refine .ct ?_ | refine .cf ?_ | refine .cy ?_ | refine .cn ?_ | (refine .cond rfl ?_ ?_ <;> intro hc)
                  | refine A.nil_seq ?_ | refine .nl ?_ | refine .dd ?_ | refine .ys ?_ | refine .no ?_ | (refine A.guard rfl ?_ ?_ <;> intro hc)
                  | refine .lb ?_ | refine .ln ?_ | refine .ls ?_ | refine .pv ?_ | refine .ix ?_ | refine .pt ?_ | refine .pf ?_ | refine .bx ?_ | refine .al ?_ | refine .st ?_ | refine .ad ?_ | refine .sb ?_ | refine .mf ?_ | refine .cl ?_ | refine .cw ?_ | refine .ck ?_ | fail
                exact FinR.ret1 rfl weak_ve0
          · rw [decide_eq_false hm] at hhas
            rw [if_neg (fun h => hm h.2)]
            rcases hw with rfl | ⟨rfl, q8⟩
            · cases q4 : (v.kind != 4)
              all_goals
                repeat' first
                  | refine .br ?_
                  | refine .seq ?_ | refine .rg ?_ | refine .rd ?_ | refine .block ?_ | refine .scope ?_ | refine .skip ?_ | refine .label ?_ | refine .exit ?_ | refine .ret ?_
                  | refine .ct ?_ | refine .cf ?_ | refine .cy ?_ | refine .cn ?_ | (refine .cond rfl ?_ ?_ <;> intro hc)
                  | refine A.nil_seq ?_ | refine .nl ?_ | refine .dd ?_ | refine .ys ?_ | refine .no ?_ | (refine A.guard rfl ?_ ?_ <;> intro hc)
                  | refine .lb ?_ | refine .ln ?_ | refine .ls ?_ | refine .pv ?_ | refine .ix ?_ | refine .pt ?_ | refine .pf ?_ | refine .bx ?_ | refine .al ?_ | refine .st ?_ | refine .ad ?_ | refine .sb ?_ | refine .mf ?_ | refine .cl ?_ | refine .cw ?_ | refine .ck ?_ | fail
                exact FinR.ret1 rfl weak_ve0
            · cases q5 : (v.kind != 5)
              all_goals
                repeat' first
                  | refine .br ?_
                  | refine .seq ?_ | refine .rg ?_ | refine .rd ?_ | refine .block ?_ | refine .scope ?_ | refine .skip ?_ | refine .label ?_ | refine .exit ?_ | refine .ret ?_
                  | refine .ct ?_ | refine .cf ?_ | refine .cy ?_ | refine .cn ?_ | (refine .cond rfl ?_ ?_ <;> intro hc)
                  | refine A.nil_seq ?_ | refine .nl ?_ | refine .dd ?_ | refine .ys ?_ | refine .no ?_ | (refine A.guard rfl ?_ ?_ <;> intro hc)
                  | refine .lb ?_ | refine .ln ?_ | refine .ls ?_ | refine .pv ?_ | refine .ix ?_ | refine .pt ?_ | refine .pf ?_ | refine .bx ?_ | refine .al ?_ | refine .st ?_ | refine .ad ?_ | refine .sb ?_ | refine .mf ?_ | refine .cl ?_ | refine .cw ?_ | refine .ck ?_ | fail
                exact FinR.ret1 rfl weak_ve0
        · have e4 : (d.kind == 4) = false := by simp [d4]
          rw [if_neg d4]
          by_cases d5 : d.kind = 5
          · have e5 : (d.kind == 5) = true := by simp [d5]
            rw [if_pos d5]
            by_cases k7 : v.kind = 7
            · have q7 : (v.kind != 7) = false := by simp [k7]
              rw [if_pos k7]
              have hinp := hin d hfo d5 k7
              generalize inputMk s lit env dfl (mkM s lit env dfl v.m) d = r at hinp
              obtain ⟨rv, re⟩ := r
              unfold VE.enc at hinp
              simp only at hinp
              rcases hw with rfl | ⟨rfl, q8⟩
              all_goals
                repeat' first
                  | refine .br ?_
                  | refine .seq ?_ | refine .rg ?_ | refine .rd ?_ | refine .block ?_ | refine .scope ?_ | refine .skip ?_ | refine .label ?_ | refine .exit ?_ | refine .ret ?_
                  | refine .ct ?_ | refine .cf ?_ | refine .cy ?_ | refine .cn ?_ | (refine .cond rfl ?_ ?_ <;> intro hc)
                  | refine A.nil_seq ?_ | refine .nl ?_ | refine .dd ?_ | refine .ys ?_ | refine .no ?_ | (refine A.guard rfl ?_ ?_ <;> intro hc)
                  | refine .lb ?_ | refine .ln ?_ | refine .ls ?_ | refine .pv ?_ | refine .ix ?_ | refine .pt ?_ | refine .pf ?_ | refine .bx ?_ | refine .al ?_ | refine .st ?_ | refine .ad ?_ | refine .sb ?_ | refine .mf ?_ | refine .cl ?_ | refine .cw ?_ | refine .ck ?_ | fail
                exact FinR.ret1 rfl (Weak.refl _)
            · have q7 : (v.kind != 7) = true := by simp [k7]
              rw [if_neg k7]
              rcases hw with rfl | ⟨rfl, q8⟩
              all_goals
                repeat' first
                  | refine .br ?_
                  | refine .seq ?_ | refine .rg ?_ | refine .rd ?_ | refine .block ?_ | refine .scope ?_ | refine .skip ?_ | refine .label ?_ | refine .exit ?_ | refine .ret ?_
                  | refine .ct ?_ | refine .cf ?_ | refine .cy ?_ | refine .cn ?_ | (refine .cond rfl ?_ ?_ <;> intro hc)
                  | refine A.nil_seq ?_ | refine .nl ?_ | refine .dd ?_ | refine .ys ?_ | refine .no ?_ | (refine A.guard rfl ?_ ?_ <;> intro hc)
                  | refine .lb ?_ | refine .ln ?_ | refine .ls ?_ | refine .pv ?_ | refine .ix ?_ | refine .pt ?_ | refine .pf ?_ | refine .bx ?_ | refine .al ?_ | refine .st ?_ | refine .ad ?_ | refine .sb ?_ | refine .mf ?_ | refine .cl ?_ | refine .cw ?_ | refine .ck ?_ | fail
                exact FinR.ret1 rfl weak_ve0
          · have e5 : (d.kind == 5) = false := by simp [d5]
            rw [if_neg d5]
            rcases hw with rfl | ⟨rfl, q8⟩
            all_goals
              repeat' first
                | refine .br ?_
                | refine .seq ?_ | refine .rg ?_ | refine .rd ?_ | refine .block ?_ | refine .scope ?_ | refine .skip ?_ | refine .label ?_ | refine .exit ?_ | refine .ret ?_
                | refine .ct ?_ | refine .cf ?_ | refine .cy ?_ | refine .cn ?_ | (refine .cond rfl ?_ ?_ <;> intro hc)
                | refine A.nil_seq ?_ | refine .nl ?_ | refine .dd ?_ | refine .ys ?_ | refine .no ?_ | (refine A.guard rfl ?_ ?_ <;> intro hc)
                | refine .lb ?_ | refine .ln ?_ | refine .ls ?_ | refine .pv ?_ | refine .ix ?_ | refine .pt ?_ | refine .pf ?_ | refine .bx ?_ | refine .al ?_ | refine .st ?_ | refine .ad ?_ | refine .sb ?_ | refine .mf ?_ | refine .cl ?_ | refine .cw ?_ | refine .ck ?_ | fail
              exact FinR.ret1 rfl weak_ve0
end Go.Proofs.YtpidjkihngiaoaaGreatDoor
namespace Go.Proofs.YtpidjkihngiaoaaGreatDoor
open Go Go.Av
set_option maxRecDepth 100000
set_option maxHeartbeats 16000000
set_option linter.unusedVariables false
set_option linter.unusedSimpArgs false
attribute [local irreducible] HCode AOps PFn AFn Av.Step TStep

theorem rGoodVal (v : Val) (hv : v.size ≤ 1048576) : PFn Tryz.prog 54 [v.enc] (.bool (allV good v)) := rGoodValue 1048576 (Nat.le_refl _) v hv
theorem rLiteral (s : Sch) (env : List Mem) (dfl : Par → VE) (v : Val) (t : Typ) (hv : v.size ≤ 1048576) (ht : t.name.length ≤ 2097152)
    (hm : rightT t = true → allV good v = true → PFn Tryz.prog 55 [s.enc, t.enc, v.enc, .bool true, .bool true, .slice (List.map Mem.enc env) .no] (VE.enc (mkV s true env dfl v t))) :
    PFn Tryz.prog 106 [s.enc, t.enc, v.enc, .slice (env.map Mem.enc) .no] (VE.enc (askV s true env dfl t v)) := by
  have hr := rRightType t (by omega)
  have hg := rGoodVal v hv
  refine AFn.plain (VE.closed _) (by simp [AV.closed, AV.closedL, Sch.closed, Typ.closed, Val.closed, Mem.closedL]) (AFn.enterR [.cell 8 30, .tmp 9] Tryz.func106 rfl rfl rfl rfl rfl ?_)
  unfold askV
  cases c1 : rightT t with
  | false =>
    rw [c1] at hr
    rw [if_neg (by simp)]
    repeat' first
      | refine .br ?_
      | refine .seq ?_ | refine .rg ?_ | refine .rd ?_ | refine .block ?_ | refine .scope ?_ | refine .skip ?_ | refine .label ?_ | refine .exit ?_ | refine .ret ?_
      | refine .ct ?_ | refine .cf ?_ | refine .cy ?_ | refine .cn ?_ | (refine .cond rfl ?_ ?_ <;> intro hc)
      | refine A.nil_seq ?_ | refine .nl ?_ | refine .dd ?_ | refine .ys ?_ | refine .no ?_ | (refine A.guard rfl ?_ ?_ <;> intro hc)
      | refine .lb ?_ | refine .ln ?_ | refine .ls ?_ | refine .pv ?_ | refine .ix ?_ | refine .pt ?_ | refine .pf ?_ | refine .bx ?_ | refine .al ?_ | refine .st ?_ | refine .ad ?_ | refine .sb ?_ | refine .mf ?_ | refine .cl ?_ | refine .cw ?_ | refine .ck ?_ | fail
    exact FinR.ret1 rfl weak_ve0
  | true =>
    rw [c1] at hr
    cases c2 : allV good v with
    | false =>
      rw [c2] at hg
      rw [if_neg (by simp)]
      repeat' first
        | refine .br ?_
        | refine .seq ?_ | refine .rg ?_ | refine .rd ?_ | refine .block ?_ | refine .scope ?_ | refine .skip ?_ | refine .label ?_ | refine .exit ?_ | refine .ret ?_
        | refine .ct ?_ | refine .cf ?_ | refine .cy ?_ | refine .cn ?_ | (refine .cond rfl ?_ ?_ <;> intro hc)
        | refine A.nil_seq ?_ | refine .nl ?_ | refine .dd ?_ | refine .ys ?_ | refine .no ?_ | (refine A.guard rfl ?_ ?_ <;> intro hc)
        | refine .lb ?_ | refine .ln ?_ | refine .ls ?_ | refine .pv ?_ | refine .ix ?_ | refine .pt ?_ | refine .pf ?_ | refine .bx ?_ | refine .al ?_ | refine .st ?_ | refine .ad ?_ | refine .sb ?_ | refine .mf ?_ | refine .cl ?_ | refine .cw ?_ | refine .ck ?_ | fail
      exact FinR.ret1 rfl weak_ve0
    | true =>
      rw [c2] at hg
      rw [if_pos ⟨rfl, rfl⟩]
      have hk := hm c1 c2
      generalize mkV s true env dfl v t = r at hk
      obtain ⟨rv, re⟩ := r
      unfold VE.enc at hk
      simp only at hk
      repeat' first
        | refine .br ?_
        | refine .seq ?_ | refine .rg ?_ | refine .rd ?_ | refine .block ?_ | refine .scope ?_ | refine .skip ?_ | refine .label ?_ | refine .exit ?_ | refine .ret ?_
        | refine .ct ?_ | refine .cf ?_ | refine .cy ?_ | refine .cn ?_ | (refine .cond rfl ?_ ?_ <;> intro hc)
        | refine A.nil_seq ?_ | refine .nl ?_ | refine .dd ?_ | refine .ys ?_ | refine .no ?_ | (refine A.guard rfl ?_ ?_ <;> intro hc)
        | refine .lb ?_ | refine .ln ?_ | refine .ls ?_ | refine .pv ?_ | refine .ix ?_ | refine .pt ?_ | refine .pf ?_ | refine .bx ?_ | refine .al ?_ | refine .st ?_ | refine .ad ?_ | refine .sb ?_ | refine .mf ?_ | refine .cl ?_ | refine .cw ?_ | refine .ck ?_ | fail
      exact FinR.ret1 rfl (Weak.refl _)
theorem rInput (s : Sch)  (dfl : Par → VE) (v : Val) (t : Typ) (hv : v.size ≤ 1048576) (ht : t.name.length ≤ 2097152)
    (hm : rightT t = true → allV good v = true → PFn Tryz.prog 55 [s.enc, t.enc, v.enc, .bool true, .bool false, .slice (List.map Mem.enc []) .no] (VE.enc (mkV s false [] dfl v t))) :
    PFn Tryz.prog 20 [s.enc, t.enc, v.enc] (VE.enc (askV s false [] dfl t v)) := by
  have hr := rRightType t (by omega)
  have hg := rGoodVal v hv
  refine AFn.plain (VE.closed _) (by simp [AV.closed, AV.closedL, Sch.closed, Typ.closed, Val.closed, Mem.closedL]) (AFn.enterR [.cell 6 30, .tmp 7] Tryz.func20 rfl rfl rfl rfl rfl ?_)
  unfold askV
  cases c1 : rightT t with
  | false =>
    rw [c1] at hr
    rw [if_neg (by simp)]
    repeat' first
      | refine .br ?_
      | refine .seq ?_ | refine .rg ?_ | refine .rd ?_ | refine .block ?_ | refine .scope ?_ | refine .skip ?_ | refine .label ?_ | refine .exit ?_ | refine .ret ?_
      | refine .ct ?_ | refine .cf ?_ | refine .cy ?_ | refine .cn ?_ | (refine .cond rfl ?_ ?_ <;> intro hc)
      | refine A.nil_seq ?_ | refine .nl ?_ | refine .dd ?_ | refine .ys ?_ | refine .no ?_ | (refine A.guard rfl ?_ ?_ <;> intro hc)
      | refine .lb ?_ | refine .ln ?_ | refine .ls ?_ | refine .pv ?_ | refine .ix ?_ | refine .pt ?_ | refine .pf ?_ | refine .bx ?_ | refine .al ?_ | refine .st ?_ | refine .ad ?_ | refine .sb ?_ | refine .mf ?_ | refine .cl ?_ | refine .cw ?_ | refine .ck ?_ | fail
    exact FinR.ret1 rfl weak_ve0
  | true =>
    rw [c1] at hr
    cases c2 : allV good v with
    | false =>
      rw [c2] at hg
      rw [if_neg (by simp)]
      repeat' first
        | refine .br ?_
        | refine .seq ?_ | refine .rg ?_ | refine .rd ?_ | refine .block ?_ | refine .scope ?_ | refine .skip ?_ | refine .label ?_ | refine .exit ?_ | refine .ret ?_
        | refine .ct ?_ | refine .cf ?_ | refine .cy ?_ | refine .cn ?_ | (refine .cond rfl ?_ ?_ <;> intro hc)
        | refine A.nil_seq ?_ | refine .nl ?_ | refine .dd ?_ | refine .ys ?_ | refine .no ?_ | (refine A.guard rfl ?_ ?_ <;> intro hc)
        | refine .lb ?_ | refine .ln ?_ | refine .ls ?_ | refine .pv ?_ | refine .ix ?_ | refine .pt ?_ | refine .pf ?_ | refine .bx ?_ | refine .al ?_ | refine .st ?_ | refine .ad ?_ | refine .sb ?_ | refine .mf ?_ | refine .cl ?_ | refine .cw ?_ | refine .ck ?_ | fail
      exact FinR.ret1 rfl weak_ve0
    | true =>
      rw [c2] at hg
      rw [if_pos ⟨rfl, rfl⟩]
      have hk := hm c1 c2
      generalize mkV s false [] dfl v t = r at hk
      obtain ⟨rv, re⟩ := r
      unfold VE.enc at hk
      simp only at hk
      repeat' first
        | refine .br ?_
        | refine .seq ?_ | refine .rg ?_ | refine .rd ?_ | refine .block ?_ | refine .scope ?_ | refine .skip ?_ | refine .label ?_ | refine .exit ?_ | refine .ret ?_
        | refine .ct ?_ | refine .cf ?_ | refine .cy ?_ | refine .cn ?_ | (refine .cond rfl ?_ ?_ <;> intro hc)
        | refine A.nil_seq ?_ | refine .nl ?_ | refine .dd ?_ | refine .ys ?_ | refine .no ?_ | (refine A.guard rfl ?_ ?_ <;> intro hc)
        | refine .lb ?_ | refine .ln ?_ | refine .ls ?_ | refine .pv ?_ | refine .ix ?_ | refine .pt ?_ | refine .pf ?_ | refine .bx ?_ | refine .al ?_ | refine .st ?_ | refine .ad ?_ | refine .sb ?_ | refine .mf ?_ | refine .cl ?_ | refine .cw ?_ | refine .ck ?_
        | refine A.call rfl hk (WeakL.cons (Weak.refl _) (WeakL.cons (Weak.refl _) (WeakL.cons (Weak.refl _) (WeakL.cons (Weak.refl _) (WeakL.cons (Weak.refl _) (WeakL.cons (Weak.no (WeakL.refl _)) (WeakL.refl _))))))) ?_ | fail
      exact FinR.ret1 rfl (Weak.refl _)
/-- What a leaf's default comes to. -/
def HDr (s : Sch) (dfl : Par → VE) : Prop := ∀ d ∈ s.defs, ∀ p ∈ d.params, leafB s p.t.name = true → PFn Tryz.prog 106 [s.enc, p.t.enc, p.d.enc, .slice [] .no] (VE.enc (dfl p))
theorem rMadeBody (s : Sch) (hs : s.size ≤ 1048576) (lit : Bool) (env : List Mem) (hle : lit = false → env = []) (dfl : Par → VE) (he : env.length ≤ 2097152) (v : Val) (t : Typ) (alone : Bool) (hv : v.size ≤ 1048576) (hok : v.ok) (hgd : allV good v = true) (hr : rightT t = true) (ht : t.name.length ≤ 2097152) (hc : leafB s t.name = true ∨ HDr s dfl)
    (ihA : ∀ x : Val, x.size < v.size → x.ok → allV good x = true → ∀ t : Typ, rightT t = true → t.name.length ≤ 2097152 → (leafB s t.name = true ∨ HDr s dfl) → ∀ alone : Bool, PFn Tryz.prog 55 [s.enc, t.enc, x.enc, .bool alone, .bool lit, .slice (env.map Mem.enc) .no] (VE.enc (madeA s lit env dfl alone x t)))
    (down : t.lists ≠ 0 → PFn Tryz.prog 55 [s.enc, (itemT t).enc, v.enc, .bool true, .bool lit, .slice (env.map Mem.enc) .no] (VE.enc (madeA s lit env dfl true v (itemT t)))) :
    PFn Tryz.prog 55 [s.enc, t.enc, v.enc, .bool alone, .bool lit, .slice (env.map Mem.enc) .no] (VE.enc (madeA s lit env dfl alone v t)) := by
  obtain ⟨⟨r0, r1⟩, okl, okm⟩ := Val.ok_parts hok
  have hl0 := (rightT_iff.1 hr).2.1
  by_cases h8 : lit = true ∧ v.kind = 8
  · obtain ⟨rfl, k8⟩ := h8
    exact rMadeVar s hs alone env dfl v t k8 he ht
  · by_cases hb : v.kind = 0 ∨ t.lists = 0
    · have ho : (!alone && oddItem lit t v.kind) = false := by
        unfold oddItem
        rcases hb with hb | hb
        · rw [hb]; simp
        · rw [hb]; simp
      unfold madeA
      rw [if_neg (by rw [ho]; decide)]
      refine rMadeBase s hs lit alone env dfl v t h8 hr hb hgd ht r0 r1 (fun d hfo d5 k7 => ?_)
      have hHD : HDr s dfl := hc.elim (fun h => by rw [leaf_not5 hfo d5] at h; cases h) id
      have hd := findO_in hfo d5
      have hds := Sch.dfn hd
      have hdl := d.lens
      have hml := v.m_len
      have hpn : ∀ p ∈ d.params, p.t.name.length ≤ 2097152 := fun p hp => by have := Dfn.par hp; have := p.lens; omega
      have hgm : ∀ x ∈ v.m, allV good x.v = true := fun x hx => by
        rw [allV_eq, if_neg (by omega), if_pos k7, Bool.and_eq_true] at hgd
        have aux : ∀ l : List Mem, allM good l = true → ∀ x ∈ l, allV good x.v = true := fun l => by
          induction l with
          | nil => intro _ x hx; simp at hx
          | cons y l ih =>
            intro h x hx
            obtain ⟨n, w⟩ := y
            rw [allM, Bool.and_eq_true, Bool.and_eq_true] at h
            rcases List.mem_cons.1 hx with rfl | hx
            · exact h.1.2
            · exact ih h.2 x hx
        exact aux _ hgd.1 x hx
      have hO := rObject s hs lit env v.m d.params (memMk s lit true env dfl (mkM s lit env dfl v.m)) he (by omega) (by omega) (fun p hp => by
        have hpd := Dfn.par hp
        have hpl := p.lens
        have hmade : ∀ x ∈ v.m, rightT p.t = true → allV good x.v = true → PFn Tryz.prog 55 [s.enc, p.t.enc, x.v.enc, .bool true, .bool lit, .slice (env.map Mem.enc) .no] (VE.enc (mkV s lit env dfl x.v p.t)) := fun x hx h1 h2 => by
          obtain ⟨k, hk, rfl⟩ := List.getElem_of_mem hx
          exact ihA _ (Val.size_m hk) (okm _ hx) h2 p.t h1 (hpn p hp) (.inr hHD) true
        exact rGiven s lit true (p.has && leafB s p.t.name) env v.m dfl dfl p he (by omega) (hpn p hp) rfl
          (fun hl x hx => by
            subst hl
            obtain ⟨k, hk, rfl⟩ := List.getElem_of_mem hx
            have := Val.size_m hk
            exact rLiteral s env dfl _ p.t (by omega) (hpn p hp) (hmade _ hx))
          (fun hl x hx => by
            have hee := hle hl
            subst hl
            subst hee
            obtain ⟨k, hk, rfl⟩ := List.getElem_of_mem hx
            have := Val.size_m hk
            exact rInput s dfl _ p.t (by omega) (hpn p hp) (hmade _ hx))
          (fun _ hl => hl.elim (fun h => by cases h) (fun h => hHD d hd p hp h)))
      rw [← memsMk_F] at hO
      unfold inputMk
      rw [strange_eq, v.mv_eq]
      exact hO
    · have k0 : v.kind ≠ 0 := fun h => hb (.inl h)
      have hl : t.lists ≠ 0 := fun h => hb (.inr h)
      have hri := rightT_item hr hl
      by_cases k6 : v.kind = 6
      · have hgl : ∀ x ∈ v.l, allV good x = true := fun x hx => by
          rw [allV_eq, if_pos k6, Bool.and_eq_true] at hgd
          have aux : ∀ l : List Val, allL good l = true → ∀ x ∈ l, allV good x = true := fun l => by
            induction l with
            | nil => intro _ x hx; simp at hx
            | cons y l ih =>
              intro h x hx
              rw [allL, Bool.and_eq_true] at h
              rcases List.mem_cons.1 hx with rfl | hx
              · exact h.1
              · exact ih h.2 x hx
          exact aux _ hgd.1 x hx
        have h := rMadeList s lit alone env v t (fun x => madeA s lit env dfl false x (itemT t)) hr hl k6 hv ht (fun x hx => by
          obtain ⟨k, hk, rfl⟩ := List.getElem_of_mem hx
          exact ihA _ (Val.size_l hk) (okl _ hx) (hgl _ hx) (itemT t) hri ht hc false)
        have ho : (!alone && oddItem lit t v.kind) = false := by unfold oddItem; rw [k6]; simp
        have e : madeA s lit env dfl alone v t = listMk (fun _ => false) (fun x => madeA s lit env dfl false x (itemT t)) v.l := by
          unfold madeA listMk
          rw [if_neg (by rw [ho]; decide), mkV_eq, if_neg h8, if_neg k0, if_pos ⟨hr, hl⟩, if_pos k6, mkL_seq, seqV_mk]
          simp only [Bool.not_false, Bool.true_and]
        rw [e]
        exact h
      · have h := rMadeOne s lit alone env v t (mkV s lit env dfl v (itemT t)) hr hl h8 k0 k6 ht (fun _ => by
          have hd := down hl
          unfold madeA at hd
          rw [if_neg (by simp)] at hd
          exact hd)
        have e : madeA s lit env dfl alone v t = if alone = false then (val0, 7) else if (mkV s lit env dfl v (itemT t)).2 ≠ 0 then (val0, (mkV s lit env dfl v (itemT t)).2) else (.mk 6 0 [] [(mkV s lit env dfl v (itemT t)).1] [], 0) := by
          unfold madeA
          have ho : oddItem lit t v.kind = true := by
            unfold oddItem
            have h1 : decide (0 < t.lists) = true := decide_eq_true (by omega)
            have h2 : (v.kind != 6) = true := by simp [k6]
            have h3 : (v.kind != 0) = true := by simp [k0]
            have h4 : (!(lit && v.kind == 8)) = true := by
              rw [Bool.not_eq_true', Bool.and_eq_false_iff]
              by_cases c : lit = true
              · exact .inr (by simpa using fun h => h8 ⟨c, h⟩)
              · exact .inl (by simpa using c)
            rw [h1, h2, h3, h4]; rfl
          rw [ho, mkV_down h8 k0 k6 hr hl hri]
          cases alone <;> rfl
        rw [e]
        exact h
theorem rMade (s : Sch) (hs : s.size ≤ 1048576) (lit : Bool) (env : List Mem) (hle : lit = false → env = []) (dfl : Par → VE) (he : env.length ≤ 2097152) : ∀ N : Nat, N ≤ 1048576 → ∀ v : Val, v.size ≤ N → v.ok → allV good v = true → ∀ (j : Nat) (t : Typ), t.lists.toNat = j → rightT t = true → t.name.length ≤ 2097152 → (leafB s t.name = true ∨ HDr s dfl) → ∀ alone : Bool,
    PFn Tryz.prog 55 [s.enc, t.enc, v.enc, .bool alone, .bool lit, .slice (env.map Mem.enc) .no] (VE.enc (madeA s lit env dfl alone v t))
  | 0, _, v, hv => absurd hv (by have := v.size_pos; omega)
  | N + 1, hN, v, hv => by
    have ih := rMade s hs lit env hle dfl he N (by omega)
    intro hok hg j
    induction j with
    | zero =>
      intro t hj hr ht hc alone
      exact rMadeBody s hs lit env hle dfl he v t alone (by omega) hok hg hr ht hc (fun x hx ho hgx u hru hu hcu w => ih x (by omega) ho hgx _ u rfl hru hu hcu w) (fun h0 => absurd (rightT_iff.1 hr).2.1 (by omega))
    | succ j ihj =>
      intro t hj hr ht hc alone
      exact rMadeBody s hs lit env hle dfl he v t alone (by omega) hok hg hr ht hc (fun x hx ho hgx u hru hu hcu w => ih x (by omega) ho hgx _ u rfl hru hu hcu w) (fun hl => ihj (itemT t) (by show (t.lists - 1).toNat = j; omega) (rightT_item hr hl) ht hc true)
theorem hdr_leaf (s : Sch) (hs : s.size ≤ 1048576) (hok : s.okD) : HDr s (dflLeaf s) := fun d hd p hp hl => by
  have h1 := Sch.dfn hd
  have h2 := Dfn.par hp
  have h3 := p.lens
  have h := rLiteral s [] junkD p.d p.t (by omega) (by omega) (fun hr hg => rMade s hs true [] (fun h => by cases h) junkD (by decide) 1048576 (Nat.le_refl _) p.d (by omega) (hok d hd p hp) hg _ p.t rfl hr (by omega) (.inl hl) true)
  exact h
/-- Literal, Input of the reference. -/
theorem rLiteralAll (s : Sch) (hs : s.size ≤ 1048576) (hok : s.okD) (env : List Mem) (he : env.length ≤ 2097152) (v : Val) (t : Typ) (hv : v.size ≤ 1048576) (hvo : v.ok) (ht : t.name.length ≤ 2097152) :
    PFn Tryz.prog 106 [s.enc, t.enc, v.enc, .slice (env.map Mem.enc) .no] (VE.enc (askV s true env (dflLeaf s) t v)) :=
  rLiteral s env (dflLeaf s) v t hv ht (fun hr hg => rMade s hs true env (fun h => by cases h) (dflLeaf s) he 1048576 (Nat.le_refl _) v hv hvo hg _ t rfl hr ht (.inr (hdr_leaf s hs hok)) true)
theorem rInputAll (s : Sch) (hs : s.size ≤ 1048576) (hok : s.okD) (v : Val) (t : Typ) (hv : v.size ≤ 1048576) (hvo : v.ok) (ht : t.name.length ≤ 2097152) :
    PFn Tryz.prog 20 [s.enc, t.enc, v.enc] (VE.enc (askV s false [] (dflLeaf s) t v)) :=
  rInput s (dflLeaf s) v t hv ht (fun hr hg => rMade s hs false [] (fun _ => rfl) (dflLeaf s) (by decide) 1048576 (Nat.le_refl _) v hv hvo hg _ t rfl hr ht (.inr (hdr_leaf s hs hok)) true)
end Go.Proofs.YtpidjkihngiaoaaGreatDoor
