/-
  Contracts and plain facts for a law, joined.
-/
import Derived.Test.YtegakkonlhmeaaaGreatDoorGSCA4
import Derived.Test.YtegakkonlhmeaaaGreatDoorGSCA5
set_option maxRecDepth 100000
set_option maxHeartbeats 16000000
set_option linter.unusedVariables false
set_option linter.unusedSimpArgs false
set_option linter.unusedSectionVars false
namespace Go.Proofs.YtegakkonlhmeaaaGreatDoor
open Go Go.Av
attribute [local irreducible] HCode AOps PFn AFn Av.Step TStep
def seqV (odd : Val → Bool) (F : Val → Val × Int) : List Val → List Val × Int
  | [] => ([], 0)
  | x :: l => if odd x = true then ([], 7) else if (F x).2 ≠ 0 then ([], (F x).2) else if (seqV odd F l).2 ≠ 0 then ([], (seqV odd F l).2) else ((F x).1 :: (seqV odd F l).1, 0)
theorem mkL_seq (s : Sch) (wr : Bool) (env : List Mem) (dfl : Par → VE) (t : Typ) : ∀ l : List Val, mkL s wr env dfl l t = seqV (fun x => oddItem wr t x.kind) (fun x => mkV s wr env dfl x t) l
  | [] => by rw [mkL, seqV]
  | v :: l => by rw [mkL, seqV, mkL_seq s wr env dfl t l]
def seqJ (odd : Val → Bool) (F : Val → Val × Int) (l : List Val) (k : Nat) : Prop :=
  seqV odd F l = if (seqV odd F (l.drop k)).2 ≠ 0 then ([], (seqV odd F (l.drop k)).2) else ((l.take k).map (fun x => (F x).1) ++ (seqV odd F (l.drop k)).1, 0)
theorem seqV_err (odd : Val → Bool) (F : Val → Val × Int) : ∀ l, (seqV odd F l).2 ≠ 0 → (seqV odd F l).1 = []
  | [], _ => rfl
  | x :: l, h => by
    rw [seqV] at h ⊢
    split at h
    · rw [if_pos (by assumption)]
    · rw [if_neg (by assumption)]
      split at h
      · rw [if_pos (by assumption)]
      · rw [if_neg (by assumption)]
        split at h
        · rw [if_pos (by assumption)]
        · exact absurd rfl h
theorem seqJ_zero (odd : Val → Bool) (F : Val → Val × Int) (l : List Val) : seqJ odd F l 0 := by
  unfold seqJ
  rw [List.drop_zero, List.take_zero, List.map_nil, List.nil_append]
  by_cases h : (seqV odd F l).2 ≠ 0
  · rw [if_pos h, ← seqV_err odd F l h]
  · rw [if_neg h]
    have h' : (seqV odd F l).2 = 0 := by simpa using h
    rw [← h']
section
variable {odd : Val → Bool} {F : Val → Val × Int} {l : List Val} {k : Nat} (h : k < l.length) (hj : seqJ odd F l k)
include h hj
theorem seqJ_odd (ho : odd l[k] = true) : seqV odd F l = ([], 7) := by
  unfold seqJ at hj
  rw [hj, List.drop_eq_getElem_cons h, seqV, if_pos ho]; rfl
theorem seqJ_err (ho : odd l[k] = false) (he : (F l[k]).2 ≠ 0) : seqV odd F l = ([], (F l[k]).2) := by
  unfold seqJ at hj
  have e : seqV odd F (l.drop k) = ([], (F l[k]).2) := by rw [List.drop_eq_getElem_cons h, seqV, if_neg (by rw [ho]; decide), if_pos he]
  rw [hj, e, if_pos he]
theorem seqJ_next (ho : odd l[k] = false) (he : (F l[k]).2 = 0) : seqJ odd F l (k + 1) := by
  unfold seqJ at hj ⊢
  have e : seqV odd F (l.drop k) = if (seqV odd F (l.drop (k + 1))).2 ≠ 0 then ([], (seqV odd F (l.drop (k + 1))).2) else ((F l[k]).1 :: (seqV odd F (l.drop (k + 1))).1, 0) := by
    rw [List.drop_eq_getElem_cons h, seqV, if_neg (by rw [ho]; decide), if_neg (by rw [he]; simp)]
  rw [hj, e, List.take_succ_eq_append_getElem h, List.map_append]
  generalize seqV odd F (l.drop (k + 1)) = q
  obtain ⟨q1, q2⟩ := q
  by_cases c : q2 = 0
  · subst c; simp
  · simp [c]
end
theorem seqJ_end {odd : Val → Bool} {F : Val → Val × Int} {l : List Val} (hj : seqJ odd F l l.length) : seqV odd F l = (l.map (fun x => (F x).1), 0) := by
  unfold seqJ at hj
  rw [List.drop_length, List.take_length, seqV, if_neg (by simp), List.append_nil] at hj
  exact hj
def listMk (odd : Val → Bool) (F : Val → Val × Int) (l : List Val) : Val × Int := if (seqV odd F l).2 ≠ 0 then (val0, (seqV odd F l).2) else (.mk 6 0 [] (seqV odd F l).1 [], 0)
theorem weak_ofListC {l : List Val} {n : Int} {str : Str} {t1 t2 : Tk} : Weak (.agg [.int .i64 6, .int .i64 n, .str str, .slice (l.map Val.enc) t1, .slice [] t2]) (Val.mk 6 n str l []).enc := by
  unfold Val.enc
  rw [Val.lv_eq, mv_mk]
  exact Weak.agg (WeakL.cons (Weak.refl _) (WeakL.cons (Weak.refl _) (WeakL.cons (Weak.refl _) (WeakL.cons (Weak.no (WeakL.refl _)) (WeakL.cons (Weak.no (WeakL.refl _)) (WeakL.refl _))))))
theorem lowL_appC {a n : Nat} : ∀ (xs ys : List AV), AV.lowL a n (xs ++ ys) = (AV.lowL a n xs && AV.lowL a n ys)
  | [], ys => by simp [AV.lowL]
  | x :: xs, ys => by rw [List.cons_append, AV.lowL, AV.lowL, lowL_appC xs ys, Bool.and_assoc]
theorem lowL_takeC (a n k : Nat) (l : List Val) (F : Val → Val × Int) : AV.lowL a n (List.take k (List.map (Val.enc ∘ fun x => (F x).1) l)) = true := by
  rw [← List.map_map, ← List.map_take]
  exact Val.lowL' a n _
theorem oddItem_no {wr : Bool} {t : Typ} {k : Int} (h : oddItem wr t k = false) : decide (0 < t.lists) = false ∨ (decide (0 < t.lists) = true ∧ (k != 6) = false) ∨ (decide (0 < t.lists) = true ∧ (k != 6) = true ∧ (k != 0) = false) ∨ (decide (0 < t.lists) = true ∧ (k != 6) = true ∧ (k != 0) = true ∧ wr = true ∧ (k == 8) = true) := by
  unfold oddItem at h
  cases a1 : decide (0 < t.lists) <;> cases a2 : (k != 6) <;> cases a3 : (k != 0) <;> cases wr <;> cases a4 : (k == 8) <;> rw [a1, a2, a3, a4] at h <;> simp_all
theorem cListL (s : Sch) (wr within : Bool) (env : List Mem) (t : Typ) (v : Val) (F : Val → Val × Int) (h6 : v.kind = 6) (hv : v.size ≤ 68719476736)
    (hF : ∀ x ∈ v.l, PFn Tryz.prog 112 [mkE s wr within env, t.enc, x.enc] (VE.enc (F x))) :
    PFn Tryz.prog 175 [mkE s wr within env, t.enc, v.enc] (VE.enc (listMk (fun x => oddItem wr t x.kind) F v.l)) := by
  have q6 : (v.kind == 6) = true := by simp [h6]
  have q6' : (v.kind != 6) = false := by simp [h6]
  have hll := v.l_len
  refine AFn.plain (VE.closed _) (by simp [AV.closed, AV.closedL, mkE_closed, Typ.closed, Val.closed]) (AFn.enterR [.cell 6 48, .tmp 7] Tryz.func175 rfl rfl rfl rfl rfl ?_)
  repeat' first | refine .br ?_ | refine .seq ?_ | refine .rg ?_ | refine .rd ?_ | refine .block ?_ | refine .scope ?_ | refine .skip ?_ | refine .label ?_ | refine .exit ?_ | refine .ret ?_ | refine .ct ?_ | refine .cf ?_ | refine .cy ?_ | refine .cn ?_ | (refine .cond rfl ?_ ?_ <;> intro hc) | refine A.nil_seq ?_ | refine .nl ?_ | refine .dd ?_ | refine .ys ?_ | refine .no ?_ | (refine A.guard rfl ?_ ?_ <;> intro hc) | refine .lb ?_ | refine .ln ?_ | refine .ls ?_ | refine .pv ?_ | refine .ix ?_ | refine .pt ?_ | refine .pf ?_ | refine .bx ?_ | refine .al ?_ | refine .st ?_ | refine .ad ?_ | refine .sb ?_ | refine .mf ?_ | refine .cl ?_ | refine .cw ?_ | refine .ck ?_ | fail
  refine HCode.adoptB 1 3 true 5 rfl rfl rfl rfl rfl rfl rfl rfl ?_
  refine HCode.forK v.l.length (fun k => [(24, .int .i64 k), (23, .int .i64 v.lv.length), (22, .slice v.lv .no), (3, .rptr (mkE s wr within env)), (4, .rptr t.enc), (5, .rptr v.enc), (6, .ptr 0 0), (9, .ptr 1 0)])
    (fun k => ⟨[.cells zeroV, .cells [.int .i64 6, .int .i64 0, .str [], .slice (((v.l.take k).map (fun x => (F x).1)).map Val.enc) (.own 0 5), .slice [] .nil]], [.len k]⟩) (seqJ (fun x => oddItem wr t x.kind) F v.l)
    ⟨rfl, rfl, rfl, rfl, rfl, rfl, rfl, rfl, trivial⟩ rfl (seqJ_zero _ _ _) fun k hk hj => ?_
  by_cases h1 : k < v.l.length
  · have d1 : decide ((k : Int) < (v.lv.length : Int)) = true := by rw [v.lv_len]; simp [h1]
    have x1 := Val.lv_get h1
    have hc := hF v.l[k] (List.getElem_mem h1)
    have jo := seqJ_odd h1 hj
    have je := seqJ_err h1 hj
    have jn := seqJ_next h1 hj
    have hlen : ((v.l.take k).map (fun x => (F x).1)).length = k := by rw [List.length_map, List.length_take]; omega
    have hlen' : (((v.l.take k).map (fun x => (F x).1)).map Val.enc).length = k := by rw [List.length_map, hlen]
    have htk : (v.l.take (k + 1)).map (fun x => (F x).1) = (v.l.take k).map (fun x => (F x).1) ++ [(F v.l[k]).1] := by rw [List.take_succ_eq_append_getElem h1, List.map_append]; rfl
    cases o : oddItem wr t v.l[k].kind with
    | true =>
      have js := jo o
      unfold oddItem at o
      simp only [Bool.and_eq_true, decide_eq_true_eq, Bool.not_eq_true'] at o
      obtain ⟨o1, o2, o3, o4⟩ := o
      have e1 : decide (0 < t.lists) = true := decide_eq_true o1
      cases wr with
      | true =>
        have o4' : (v.l[k].kind == 8) = false := by simpa using o4
        have o4'' : (!(v.l[k].kind == 8)) = true := by rw [o4']; rfl
        repeat' first | refine .seq ?_ | refine .rg ?_ | refine .rd ?_ | refine .block ?_ | refine .scope ?_ | refine .skip ?_ | refine .label ?_ | refine .exit ?_ | refine .ret ?_ | refine .ct ?_ | refine .cf ?_ | refine .cy ?_ | refine .cn ?_ | (refine .cond rfl ?_ ?_ <;> intro hc) | refine A.nil_seq ?_ | refine .nl ?_ | refine .dd ?_ | refine .ys ?_ | refine .no ?_ | (refine A.guard rfl ?_ ?_ <;> intro hc) | refine .lb ?_ | refine .ln ?_ | refine .ls ?_ | refine .pv ?_ | refine .ix ?_ | refine .pt ?_ | refine .pf ?_ | refine .bx ?_ | refine .al ?_ | refine .st ?_ | refine .ad ?_ | refine .sb ?_ | refine .mf ?_ | refine .cl ?_ | refine .cw ?_ | refine .ck ?_ | fail
        refine FinR.ret1 rfl ?_
        unfold listMk
        rw [js]
        exact weak_ve0
      | false =>
        repeat' first | refine .seq ?_ | refine .rg ?_ | refine .rd ?_ | refine .block ?_ | refine .scope ?_ | refine .skip ?_ | refine .label ?_ | refine .exit ?_ | refine .ret ?_ | refine .ct ?_ | refine .cf ?_ | refine .cy ?_ | refine .cn ?_ | (refine .cond rfl ?_ ?_ <;> intro hc) | refine A.nil_seq ?_ | refine .nl ?_ | refine .dd ?_ | refine .ys ?_ | refine .no ?_ | (refine A.guard rfl ?_ ?_ <;> intro hc) | refine .lb ?_ | refine .ln ?_ | refine .ls ?_ | refine .pv ?_ | refine .ix ?_ | refine .pt ?_ | refine .pf ?_ | refine .bx ?_ | refine .al ?_ | refine .st ?_ | refine .ad ?_ | refine .sb ?_ | refine .mf ?_ | refine .cl ?_ | refine .cw ?_ | refine .ck ?_ | fail
        refine FinR.ret1 rfl ?_
        unfold listMk
        rw [js]
        exact weak_ve0
    | false =>
      by_cases er : (F v.l[k]).2 = 0
      · have jn' := jn o er
        generalize hr : F v.l[k] = r at hc er htk
        obtain ⟨rv, re⟩ := r
        simp only at er htk
        subst er
        unfold VE.enc at hc
        simp only at hc
        rcases oddItem_no o with a1 | ⟨a1, a2⟩ | ⟨a1, a2, a3⟩ | ⟨a1, a2, a3, rfl, a4⟩
        all_goals
            try (have a4' : (!(v.l[k].kind == 8)) = false := by (rw [a4]; rfl))
            (repeat' first | refine .seq ?_ | refine .rg ?_ | refine .rd ?_ | refine .block ?_ | refine .scope ?_ | refine .skip ?_ | refine .label ?_ | refine .exit ?_ | refine .ret ?_ | refine .ct ?_ | refine .cf ?_ | refine .cy ?_ | refine .cn ?_ | (refine .cond rfl ?_ ?_ <;> intro hc) | refine A.nil_seq ?_ | refine .nl ?_ | refine .dd ?_ | refine .ys ?_ | refine .no ?_ | (refine A.guard rfl ?_ ?_ <;> intro hc) | refine .lb ?_ | refine .ln ?_ | refine .ls ?_ | refine .pv ?_ | refine .ix ?_ | refine .pt ?_ | refine .pf ?_ | refine .bx ?_ | refine .al ?_ | refine .st ?_ | refine .ad ?_ | refine .sb ?_ | refine .mf ?_ | refine .cl ?_ | refine .cw ?_ | refine .ck ?_ | refine A.append (n := k) rfl rfl rfl rfl rfl rfl rfl rfl hlen' rfl (by dsimp only [List.length_cons, List.length_nil]; omega) (by dsimp only [List.length_cons, List.length_nil]; omega) rfl ?_ | fail
             exact ⟨h1, ⟨rfl, rfl, rfl, rfl, rfl, rfl, rfl, rfl, trivial⟩, by simp [belowS, AV.low, AV.low_of_closed, mkE_closed], by simp [belowB, belowT, Ob.low, Tok.low, AV.lowL, AV.low, zeroV, lowL_appC, lowL_takeC], by rw [htk, List.map_append]; rfl, jn'⟩)
      · have js := je o er
        have er' : ((F v.l[k]).2 != 0) = true := by simpa using er
        have hlm : listMk (fun x => oddItem wr t x.kind) F v.l = (val0, (F v.l[k]).2) := by unfold listMk; rw [js]; simp only; rw [if_pos er]
        rw [hlm]
        generalize F v.l[k] = r at hc er er'
        obtain ⟨rv, re⟩ := r
        simp only at er er'
        unfold VE.enc at hc
        simp only at hc
        rcases oddItem_no o with a1 | ⟨a1, a2⟩ | ⟨a1, a2, a3⟩ | ⟨a1, a2, a3, rfl, a4⟩
        all_goals
            try (have a4' : (!(v.l[k].kind == 8)) = false := by (rw [a4]; rfl))
            (repeat' first | refine .seq ?_ | refine .rg ?_ | refine .rd ?_ | refine .block ?_ | refine .scope ?_ | refine .skip ?_ | refine .label ?_ | refine .exit ?_ | refine .ret ?_ | refine .ct ?_ | refine .cf ?_ | refine .cy ?_ | refine .cn ?_ | (refine .cond rfl ?_ ?_ <;> intro hc) | refine A.nil_seq ?_ | refine .nl ?_ | refine .dd ?_ | refine .ys ?_ | refine .no ?_ | (refine A.guard rfl ?_ ?_ <;> intro hc) | refine .lb ?_ | refine .ln ?_ | refine .ls ?_ | refine .pv ?_ | refine .ix ?_ | refine .pt ?_ | refine .pf ?_ | refine .bx ?_ | refine .al ?_ | refine .st ?_ | refine .ad ?_ | refine .sb ?_ | refine .mf ?_ | refine .cl ?_ | refine .cw ?_ | refine .ck ?_ | fail
             exact FinR.ret1 rfl weak_ve0)
  · have d1 : decide ((k : Int) < (v.lv.length : Int)) = false := by rw [v.lv_len]; simp; omega
    obtain rfl : k = v.l.length := by omega
    have js := seqJ_end hj
    have hlm : listMk (fun x => oddItem wr t x.kind) F v.l = (.mk 6 0 [] (v.l.map fun x => (F x).1) [], 0) := by unfold listMk; rw [js]; rfl
    rw [hlm]
    repeat' first | refine .seq ?_ | refine .rg ?_ | refine .rd ?_ | refine .block ?_ | refine .scope ?_ | refine .skip ?_ | refine .label ?_ | refine .exit ?_ | refine .ret ?_ | refine .ct ?_ | refine .cf ?_ | refine .cy ?_ | refine .cn ?_ | (refine .cond rfl ?_ ?_ <;> intro hc) | refine A.nil_seq ?_ | refine .nl ?_ | refine .dd ?_ | refine .ys ?_ | refine .no ?_ | (refine A.guard rfl ?_ ?_ <;> intro hc) | refine .lb ?_ | refine .ln ?_ | refine .ls ?_ | refine .pv ?_ | refine .ix ?_ | refine .pt ?_ | refine .pf ?_ | refine .bx ?_ | refine .al ?_ | refine .st ?_ | refine .ad ?_ | refine .sb ?_ | refine .mf ?_ | refine .cl ?_ | refine .cw ?_ | refine .ck ?_ | fail
    refine FinR.ret1 rfl ?_
    rw [List.take_length]
    exact Weak.tup (WeakL.cons weak_ofListC (WeakL.refl _))
theorem cListO (s : Sch) (wr within : Bool) (env : List Mem) (t : Typ) (v : Val) (r : Val × Int) (h6 : v.kind ≠ 6)
    (hF : PFn Tryz.prog 112 [mkE s wr within env, t.enc, v.enc] (VE.enc r)) :
    PFn Tryz.prog 175 [mkE s wr within env, t.enc, v.enc] (VE.enc (if r.2 ≠ 0 then (val0, r.2) else (.mk 6 0 [] [r.1] [], 0))) := by
  have q6 : (v.kind == 6) = false := by simp [h6]
  have q6' : (v.kind != 6) = true := by simp [h6]
  obtain ⟨rv, re⟩ := r
  unfold VE.enc at hF
  simp only at hF ⊢
  refine AFn.plain (VE.closed _) (by simp [AV.closed, AV.closedL, mkE_closed, Typ.closed, Val.closed]) (AFn.enterR [.cell 6 48, .tmp 7] Tryz.func175 rfl rfl rfl rfl rfl ?_)
  by_cases er : re = 0
  · subst er
    rw [if_neg (by simp)]
    repeat' first | refine .br ?_ | refine .seq ?_ | refine .rg ?_ | refine .rd ?_ | refine .block ?_ | refine .scope ?_ | refine .skip ?_ | refine .label ?_ | refine .exit ?_ | refine .ret ?_ | refine .ct ?_ | refine .cf ?_ | refine .cy ?_ | refine .cn ?_ | (refine .cond rfl ?_ ?_ <;> intro hc) | refine A.nil_seq ?_ | refine .nl ?_ | refine .dd ?_ | refine .ys ?_ | refine .no ?_ | (refine A.guard rfl ?_ ?_ <;> intro hc) | refine .lb ?_ | refine .ln ?_ | refine .ls ?_ | refine .pv ?_ | refine .ix ?_ | refine .pt ?_ | refine .pf ?_ | refine .bx ?_ | refine .al ?_ | refine .st ?_ | refine .ad ?_ | refine .sb ?_ | refine .mf ?_ | refine .cl ?_ | refine .cw ?_ | refine .ck ?_ | fail
    refine HCode.adoptB 1 3 true 5 rfl rfl rfl rfl rfl rfl rfl rfl ?_
    refine HCode.forK 1 (fun k => [(24, .int .i64 k), (23, .int .i64 1), (22, .slice [v.enc] .full), (3, .rptr (mkE s wr within env)), (4, .rptr t.enc), (5, .rptr v.enc), (6, .ptr 0 0), (9, .ptr 1 0)])
      (fun k => ⟨[.cells zeroV, .cells [.int .i64 6, .int .i64 0, .str [], .slice ((List.replicate k rv).map Val.enc) (.own 0 5), .slice [] .nil]], [.len k]⟩) (fun _ => True)
      ⟨rfl, rfl, rfl, rfl, rfl, rfl, rfl, rfl, trivial⟩ rfl trivial fun k hk _ => ?_
    by_cases h1 : k < 1
    · obtain rfl : k = 0 := by omega
      have x1 : [v.enc][0]? = some v.enc := rfl
      repeat' first | refine .seq ?_ | refine .rg ?_ | refine .rd ?_ | refine .block ?_ | refine .scope ?_ | refine .skip ?_ | refine .label ?_ | refine .exit ?_ | refine .ret ?_ | refine .ct ?_ | refine .cf ?_ | refine .cy ?_ | refine .cn ?_ | (refine .cond rfl ?_ ?_ <;> intro hc) | refine A.nil_seq ?_ | refine .nl ?_ | refine .dd ?_ | refine .ys ?_ | refine .no ?_ | (refine A.guard rfl ?_ ?_ <;> intro hc) | refine .lb ?_ | refine .ln ?_ | refine .ls ?_ | refine .pv ?_ | refine .ix ?_ | refine .pt ?_ | refine .pf ?_ | refine .bx ?_ | refine .al ?_ | refine .st ?_ | refine .ad ?_ | refine .sb ?_ | refine .mf ?_ | refine .cl ?_ | refine .cw ?_ | refine .ck ?_ | refine A.append (n := 0) rfl rfl rfl rfl rfl rfl rfl rfl rfl rfl (by dsimp only [List.length_cons, List.length_nil]; omega) (by dsimp only [List.length_cons, List.length_nil]; omega) rfl ?_ | fail
      exact ⟨h1, ⟨rfl, rfl, rfl, rfl, rfl, rfl, rfl, rfl, trivial⟩, by simp [belowS, AV.low, AV.lowL, AV.low_of_closed, mkE_closed], by simp [belowB, belowT, Ob.low, Tok.low, AV.lowL, AV.low, zeroV], rfl, trivial⟩
    · obtain rfl : k = 1 := by omega
      repeat' first | refine .seq ?_ | refine .rg ?_ | refine .rd ?_ | refine .block ?_ | refine .scope ?_ | refine .skip ?_ | refine .label ?_ | refine .exit ?_ | refine .ret ?_ | refine .ct ?_ | refine .cf ?_ | refine .cy ?_ | refine .cn ?_ | (refine .cond rfl ?_ ?_ <;> intro hc) | refine A.nil_seq ?_ | refine .nl ?_ | refine .dd ?_ | refine .ys ?_ | refine .no ?_ | (refine A.guard rfl ?_ ?_ <;> intro hc) | refine .lb ?_ | refine .ln ?_ | refine .ls ?_ | refine .pv ?_ | refine .ix ?_ | refine .pt ?_ | refine .pf ?_ | refine .bx ?_ | refine .al ?_ | refine .st ?_ | refine .ad ?_ | refine .sb ?_ | refine .mf ?_ | refine .cl ?_ | refine .cw ?_ | refine .ck ?_ | fail
      exact FinR.ret1 rfl (Weak.tup (WeakL.cons weak_ofListC (WeakL.refl _)))
  · have er' : (re != 0) = true := by simpa using er
    rw [if_pos er]
    repeat' first | refine .br ?_ | refine .seq ?_ | refine .rg ?_ | refine .rd ?_ | refine .block ?_ | refine .scope ?_ | refine .skip ?_ | refine .label ?_ | refine .exit ?_ | refine .ret ?_ | refine .ct ?_ | refine .cf ?_ | refine .cy ?_ | refine .cn ?_ | (refine .cond rfl ?_ ?_ <;> intro hc) | refine A.nil_seq ?_ | refine .nl ?_ | refine .dd ?_ | refine .ys ?_ | refine .no ?_ | (refine A.guard rfl ?_ ?_ <;> intro hc) | refine .lb ?_ | refine .ln ?_ | refine .ls ?_ | refine .pv ?_ | refine .ix ?_ | refine .pt ?_ | refine .pf ?_ | refine .bx ?_ | refine .al ?_ | refine .st ?_ | refine .ad ?_ | refine .sb ?_ | refine .mf ?_ | refine .cl ?_ | refine .cw ?_ | refine .ck ?_ | fail
    refine HCode.forK 1 (fun k => [(24, .int .i64 k), (23, .int .i64 1), (22, .slice [v.enc] .full), (3, .rptr (mkE s wr within env)), (4, .rptr t.enc), (5, .rptr v.enc), (6, .ptr 0 0), (9, .ptr 1 0)])
      (fun k => ⟨[.cells zeroV, .cells [.int .i64 6, .int .i64 0, .str [], .slice [] .nil, .slice [] .nil]], []⟩) (fun k => k = 0)
      ⟨rfl, rfl, rfl, rfl, rfl, rfl, rfl, rfl, trivial⟩ rfl rfl fun k hk hk0 => ?_
    subst hk0
    have x1 : [v.enc][0]? = some v.enc := rfl
    repeat' first | refine .seq ?_ | refine .rg ?_ | refine .rd ?_ | refine .block ?_ | refine .scope ?_ | refine .skip ?_ | refine .label ?_ | refine .exit ?_ | refine .ret ?_ | refine .ct ?_ | refine .cf ?_ | refine .cy ?_ | refine .cn ?_ | (refine .cond rfl ?_ ?_ <;> intro hc) | refine A.nil_seq ?_ | refine .nl ?_ | refine .dd ?_ | refine .ys ?_ | refine .no ?_ | (refine A.guard rfl ?_ ?_ <;> intro hc) | refine .lb ?_ | refine .ln ?_ | refine .ls ?_ | refine .pv ?_ | refine .ix ?_ | refine .pt ?_ | refine .pf ?_ | refine .bx ?_ | refine .al ?_ | refine .st ?_ | refine .ad ?_ | refine .sb ?_ | refine .mf ?_ | refine .cl ?_ | refine .cw ?_ | refine .ck ?_ | fail
    exact FinR.ret1 rfl weak_ve0
end Go.Proofs.YtegakkonlhmeaaaGreatDoor
namespace Go.Proofs.YtegakkonlhmeaaaGreatDoor
open Go Go.Av
theorem scalMk_err {n : Str} {v : Val} (h : (scalMk n v).2 ≠ 0) : (scalMk n v).1 = val0 := by
  unfold scalMk at h ⊢
  split
  · rfl
  · rename_i c1
    rw [if_neg c1] at h
    split
    · rename_i c2
      rw [if_pos c2] at h; exact absurd rfl h
    · rename_i c2
      rw [if_neg c2] at h
      split
      · rename_i c3
        rw [if_pos c3] at h; exact absurd rfl h
      · rfl
theorem enumMk_err {wr : Bool} {d : Dfn} {k : Int} {str : Str} (h : (enumMk wr d k str).2 ≠ 0) : (enumMk wr d k str).1 = val0 := by
  unfold enumMk at h ⊢
  by_cases c : k = (if wr = true then 5 else 4) ∧ str ∈ d.parts
  · rw [if_pos c] at h; exact absurd rfl h
  · rw [if_neg c]
theorem inputMk_err {s : Sch} {wr : Bool} {env : List Mem} {dfl : Par → VE} {fs : List MF} {d : Dfn} (h : (inputMk s wr env dfl fs d).2 ≠ 0) : (inputMk s wr env dfl fs d).1 = val0 := by
  unfold inputMk at h ⊢
  by_cases c : strange wr env fs d.params = true
  · rw [if_pos c]
  · rw [if_neg c] at h ⊢
    dsimp only at h ⊢
    by_cases q : (memsMk s wr true env dfl fs d.params).2 ≠ 0
    · rw [if_pos q]
    · rw [if_neg q] at h; exact absurd rfl h
theorem baseMk_err (s : Sch) (wr : Bool) (env : List Mem) (dfl : Par → VE) (name : Str) (v : Val) (fs : List MF) (h : (baseMk s wr env dfl name v fs).2 ≠ 0) : (baseMk s wr env dfl name v fs).1 = val0 := by
  unfold baseMk at h ⊢
  cases hf : findO s name with
  | none => rfl
  | some d =>
    rw [hf] at h
    dsimp only at h ⊢
    by_cases k0 : d.kind = 0
    · rw [if_pos k0] at h ⊢; exact scalMk_err h
    · rw [if_neg k0] at h ⊢
      by_cases k4 : d.kind = 4
      · rw [if_pos k4] at h ⊢; exact enumMk_err h
      · rw [if_neg k4] at h ⊢
        by_cases k5 : d.kind = 5
        · rw [if_pos k5] at h ⊢
          by_cases k7 : v.kind = 7
          · rw [if_pos k7] at h ⊢; exact inputMk_err h
          · rw [if_neg k7]
        · rw [if_neg k5]
theorem mkV_eq (s : Sch) (wr : Bool) (env : List Mem) (dfl : Par → VE) (v : Val) (t : Typ) : mkV s wr env dfl v t =
    if wr = true ∧ v.kind = 8 then (match envO env v.s with
      | some x => if x.kind = 0 ∧ isT t = true then (val0, 9) else (x, 0)
      | none => if isT t = true then (val0, 9) else (val0, 0))
    else if v.kind = 0 then (if isT t = true then (val0, 9) else (v, 0))
    else if rightT t = true ∧ t.lists ≠ 0 then
      (if v.kind = 6 then (if (mkL s wr env dfl v.l (itemT t)).2 ≠ 0 then (val0, (mkL s wr env dfl v.l (itemT t)).2) else (.mk 6 0 [] (mkL s wr env dfl v.l (itemT t)).1 [], 0))
      else wrapR t.lists.toNat (baseMk s wr env dfl t.name v (mkM s wr env dfl v.m)))
    else baseMk s wr env dfl t.name v (mkM s wr env dfl v.m) := by
  cases v
  rw [mkV]
  rfl
theorem wrapN_succ : ∀ (n : Nat) (v : Val), wrapN (n + 1) v = .mk 6 0 [] [wrapN n v] []
  | _, _ => rfl
theorem mkV_down {s : Sch} {wr : Bool} {env : List Mem} {dfl : Par → VE} {v : Val} {t : Typ} (h8 : ¬ (wr = true ∧ v.kind = 8)) (h0 : v.kind ≠ 0) (h6 : v.kind ≠ 6) (hr : rightT t = true) (hl : t.lists ≠ 0) (hri : rightT (itemT t) = true) :
    mkV s wr env dfl v t = if (mkV s wr env dfl v (itemT t)).2 ≠ 0 then (val0, (mkV s wr env dfl v (itemT t)).2) else (.mk 6 0 [] [(mkV s wr env dfl v (itemT t)).1] [], 0) := by
  have hl0 := (rightT_iff.1 hr).2.1
  have hn : t.lists.toNat = (itemT t).lists.toNat + 1 := by show t.lists.toNat = (t.lists - 1).toNat + 1; omega
  have e : mkV s wr env dfl v (itemT t) = wrapR (itemT t).lists.toNat (baseMk s wr env dfl t.name v (mkM s wr env dfl v.m)) := by
    rw [mkV_eq, if_neg h8, if_neg h0, if_neg h6]
    by_cases c : (itemT t).lists ≠ 0
    · rw [if_pos ⟨hri, c⟩]; rfl
    · rw [if_neg (fun x => c x.2)]
      have hz : (itemT t).lists.toNat = 0 := by have : (itemT t).lists = 0 := by simpa using c
                                                rw [this]; rfl
      rw [hz]
      show baseMk s wr env dfl t.name v _ = _
      generalize baseMk s wr env dfl t.name v (mkM s wr env dfl v.m) = b
      obtain ⟨b1, b2⟩ := b
      unfold wrapR
      by_cases hb : b2 = 0
      · subst hb; rfl
      · simp [hb]
  rw [e, mkV_eq, if_neg h8, if_neg h0, if_neg h6, if_pos ⟨hr, hl⟩, hn]
  have hbe := baseMk_err s wr env dfl t.name v (mkM s wr env dfl v.m)
  generalize baseMk s wr env dfl t.name v (mkM s wr env dfl v.m) = b at hbe
  obtain ⟨b1, b2⟩ := b
  simp only at hbe
  unfold wrapR
  by_cases hb : b2 = 0
  · subst hb; rfl
  · have := hbe hb
    subst this
    simp [hb]
end Go.Proofs.YtegakkonlhmeaaaGreatDoor
namespace Go.Proofs.YtegakkonlhmeaaaGreatDoor
open Go Go.Av
attribute [local irreducible] HCode AOps PFn AFn Av.Step TStep
theorem cMakeVar (s : Sch) (within : Bool) (env : List Mem) (dfl : Par → VE) (v : Val) (t : Typ) (k8 : v.kind = 8) (he : env.length ≤ 68719476736) (ht : t.name.length ≤ 68719476736) :
    PFn Tryz.prog 112 [mkE s true within env, t.enc, v.enc] (VE.enc (mkV s true env dfl v t)) := by
  have hg := get v.s env (by omega)
  have hi := wIs t (by omega)
  rw [envO_getG] at hg
  rw [mkV_eq, if_pos ⟨rfl, k8⟩]
  have q8 : (v.kind == 8) = true := by simp [k8]
  refine AFn.plain (VE.closed _) (by simp [AV.closed, AV.closedL, mkE_closed, Typ.closed, Val.closed]) (AFn.enterR [.cell 6 48, .tmp 7] Tryz.func112 rfl rfl rfl rfl rfl ?_)
  cases ho : envO env v.s with
  | none =>
    rw [ho] at hg
    cases c : isT t with
    | true =>
      rw [c] at hi
      rw [if_pos rfl]
      repeat' first | refine AOps.br (d := 3) ?_ | refine AOps.br (d := 4) ?_ | refine .seq ?_ | refine .rg ?_ | refine .rd ?_ | refine .block ?_ | refine .scope ?_ | refine .skip ?_ | refine .label ?_ | refine .exit ?_ | refine .ret ?_ | refine .ct ?_ | refine .cf ?_ | refine .cy ?_ | refine .cn ?_ | (refine .cond rfl ?_ ?_ <;> intro hc) | refine A.nil_seq ?_ | refine .nl ?_ | refine .dd ?_ | refine .ys ?_ | refine .no ?_ | (refine A.guard rfl ?_ ?_ <;> intro hc) | refine .lb ?_ | refine .ln ?_ | refine .ls ?_ | refine .pv ?_ | refine .ix ?_ | refine .pt ?_ | refine .pf ?_ | refine .bx ?_ | refine .al ?_ | refine .st ?_ | refine .ad ?_ | refine .sb ?_ | refine .mf ?_ | refine .cl ?_ | refine .cw ?_ | refine .ck ?_ | fail
      exact FinR.ret1 rfl weak_ve0
    | false =>
      rw [c] at hi
      rw [if_neg (by decide)]
      repeat' first | refine AOps.br (d := 3) ?_ | refine AOps.br (d := 4) ?_ | refine .seq ?_ | refine .rg ?_ | refine .rd ?_ | refine .block ?_ | refine .scope ?_ | refine .skip ?_ | refine .label ?_ | refine .exit ?_ | refine .ret ?_ | refine .ct ?_ | refine .cf ?_ | refine .cy ?_ | refine .cn ?_ | (refine .cond rfl ?_ ?_ <;> intro hc) | refine A.nil_seq ?_ | refine .nl ?_ | refine .dd ?_ | refine .ys ?_ | refine .no ?_ | (refine A.guard rfl ?_ ?_ <;> intro hc) | refine .lb ?_ | refine .ln ?_ | refine .ls ?_ | refine .pv ?_ | refine .ix ?_ | refine .pt ?_ | refine .pf ?_ | refine .bx ?_ | refine .al ?_ | refine .st ?_ | refine .ad ?_ | refine .sb ?_ | refine .mf ?_ | refine .cl ?_ | refine .cw ?_ | refine .ck ?_ | fail
      exact FinR.ret1 rfl (Weak.refl _)
  | some x =>
    rw [ho] at hg
    dsimp only
    by_cases x0 : x.kind = 0
    · have qx : (x.kind == 0) = true := by simp [x0]
      cases c : isT t with
      | true =>
        rw [c] at hi
        rw [if_pos (show x.kind = 0 ∧ true = true from ⟨x0, rfl⟩)]
        repeat' first | refine AOps.br (d := 3) ?_ | refine AOps.br (d := 4) ?_ | refine .seq ?_ | refine .rg ?_ | refine .rd ?_ | refine .block ?_ | refine .scope ?_ | refine .skip ?_ | refine .label ?_ | refine .exit ?_ | refine .ret ?_ | refine .ct ?_ | refine .cf ?_ | refine .cy ?_ | refine .cn ?_ | (refine .cond rfl ?_ ?_ <;> intro hc) | refine A.nil_seq ?_ | refine .nl ?_ | refine .dd ?_ | refine .ys ?_ | refine .no ?_ | (refine A.guard rfl ?_ ?_ <;> intro hc) | refine .lb ?_ | refine .ln ?_ | refine .ls ?_ | refine .pv ?_ | refine .ix ?_ | refine .pt ?_ | refine .pf ?_ | refine .bx ?_ | refine .al ?_ | refine .st ?_ | refine .ad ?_ | refine .sb ?_ | refine .mf ?_ | refine .cl ?_ | refine .cw ?_ | refine .ck ?_ | fail
        exact FinR.ret1 rfl weak_ve0
      | false =>
        rw [c] at hi
        rw [if_neg (show ¬ (x.kind = 0 ∧ false = true) by simp)]
        repeat' first | refine AOps.br (d := 3) ?_ | refine AOps.br (d := 4) ?_ | refine .seq ?_ | refine .rg ?_ | refine .rd ?_ | refine .block ?_ | refine .scope ?_ | refine .skip ?_ | refine .label ?_ | refine .exit ?_ | refine .ret ?_ | refine .ct ?_ | refine .cf ?_ | refine .cy ?_ | refine .cn ?_ | (refine .cond rfl ?_ ?_ <;> intro hc) | refine A.nil_seq ?_ | refine .nl ?_ | refine .dd ?_ | refine .ys ?_ | refine .no ?_ | (refine A.guard rfl ?_ ?_ <;> intro hc) | refine .lb ?_ | refine .ln ?_ | refine .ls ?_ | refine .pv ?_ | refine .ix ?_ | refine .pt ?_ | refine .pf ?_ | refine .bx ?_ | refine .al ?_ | refine .st ?_ | refine .ad ?_ | refine .sb ?_ | refine .mf ?_ | refine .cl ?_ | refine .cw ?_ | refine .ck ?_ | fail
        exact FinR.ret1 rfl (Weak.refl _)
    · have qx : (x.kind == 0) = false := by simp [x0]
      rw [if_neg (fun h => x0 h.1)]
      repeat' first | refine AOps.br (d := 3) ?_ | refine AOps.br (d := 4) ?_ | refine .seq ?_ | refine .rg ?_ | refine .rd ?_ | refine .block ?_ | refine .scope ?_ | refine .skip ?_ | refine .label ?_ | refine .exit ?_ | refine .ret ?_ | refine .ct ?_ | refine .cf ?_ | refine .cy ?_ | refine .cn ?_ | (refine .cond rfl ?_ ?_ <;> intro hc) | refine A.nil_seq ?_ | refine .nl ?_ | refine .dd ?_ | refine .ys ?_ | refine .no ?_ | (refine A.guard rfl ?_ ?_ <;> intro hc) | refine .lb ?_ | refine .ln ?_ | refine .ls ?_ | refine .pv ?_ | refine .ix ?_ | refine .pt ?_ | refine .pf ?_ | refine .bx ?_ | refine .al ?_ | refine .st ?_ | refine .ad ?_ | refine .sb ?_ | refine .mf ?_ | refine .cl ?_ | refine .cw ?_ | refine .ck ?_ | fail
      exact FinR.ret1 rfl (Weak.refl _)
theorem cMakeStep (s : Sch) (hs : s.size ≤ 68719476736) (wr within : Bool) (env : List Mem) (dfl : Par → VE) (v : Val) (t : Typ) (h8 : ¬ (wr = true ∧ v.kind = 8)) (hv : v.size ≤ 68719476736) (ht : t.name.length ≤ 68719476736) (h0 : -9223372036854775808 ≤ v.n) (h1 : v.n ≤ 9223372036854775807)
    (hlist : rightT t = true ∧ t.lists ≠ 0 → v.kind ≠ 0 → PFn Tryz.prog 175 [mkE s wr within env, (itemT t).enc, v.enc] (VE.enc (mkV s wr env dfl v t)))
    (hin : ∀ d, findO s t.name = some d → d.kind = 5 → PFn Tryz.prog 178 [mkE s wr within env, d.enc, v.enc] (VE.enc (if v.kind = 7 then inputMk s wr env dfl (mkM s wr env dfl v.m) d else (val0, 7)))) :
    PFn Tryz.prog 112 [mkE s wr within env, t.enc, v.enc] (VE.enc (mkV s wr env dfl v t)) := by
  have hi := wIs t (by omega)
  have hit := wItem t (by omega)
  have hf := dFind s t.name hs
  refine AFn.plain (VE.closed _) (by simp [AV.closed, AV.closedL, mkE_closed, Typ.closed, Val.closed]) (AFn.enterR [.cell 6 48, .tmp 7] Tryz.func112 rfl rfl rfl rfl rfl ?_)
  have hw : wr = false ∨ (wr = true ∧ (v.kind == 8) = false) := by
    cases wr with
    | false => exact .inl rfl
    | true => exact .inr ⟨rfl, by simpa using h8⟩
  by_cases k0 : v.kind = 0
  · have q0 : (v.kind == 0) = true := by simp [k0]
    rw [mkV_eq, if_neg h8, if_pos k0]
    cases c : isT t with
    | true =>
      rw [c] at hi
      rw [if_pos rfl]
      rcases hw with rfl | ⟨rfl, q8⟩
      all_goals
        repeat' first | refine .br ?_ | refine .seq ?_ | refine .rg ?_ | refine .rd ?_ | refine .block ?_ | refine .scope ?_ | refine .skip ?_ | refine .label ?_ | refine .exit ?_ | refine .ret ?_ | refine .ct ?_ | refine .cf ?_ | refine .cy ?_ | refine .cn ?_ | (refine .cond rfl ?_ ?_ <;> intro hc) | refine A.nil_seq ?_ | refine .nl ?_ | refine .dd ?_ | refine .ys ?_ | refine .no ?_ | (refine A.guard rfl ?_ ?_ <;> intro hc) | refine .lb ?_ | refine .ln ?_ | refine .ls ?_ | refine .pv ?_ | refine .ix ?_ | refine .pt ?_ | refine .pf ?_ | refine .bx ?_ | refine .al ?_ | refine .st ?_ | refine .ad ?_ | refine .sb ?_ | refine .mf ?_ | refine .cl ?_ | refine .cw ?_ | refine .ck ?_ | fail
        exact FinR.ret1 rfl weak_ve0
    | false =>
      rw [c] at hi
      rw [if_neg (by decide)]
      rcases hw with rfl | ⟨rfl, q8⟩
      all_goals
        repeat' first | refine .br ?_ | refine .seq ?_ | refine .rg ?_ | refine .rd ?_ | refine .block ?_ | refine .scope ?_ | refine .skip ?_ | refine .label ?_ | refine .exit ?_ | refine .ret ?_ | refine .ct ?_ | refine .cf ?_ | refine .cy ?_ | refine .cn ?_ | (refine .cond rfl ?_ ?_ <;> intro hc) | refine A.nil_seq ?_ | refine .nl ?_ | refine .dd ?_ | refine .ys ?_ | refine .no ?_ | (refine A.guard rfl ?_ ?_ <;> intro hc) | refine .lb ?_ | refine .ln ?_ | refine .ls ?_ | refine .pv ?_ | refine .ix ?_ | refine .pt ?_ | refine .pf ?_ | refine .bx ?_ | refine .al ?_ | refine .st ?_ | refine .ad ?_ | refine .sb ?_ | refine .mf ?_ | refine .cl ?_ | refine .cw ?_ | refine .ck ?_ | fail
        exact FinR.ret1 rfl (Weak.refl _)
  · have q0 : (v.kind == 0) = false := by simp [k0]
    unfold itemR at hit
    by_cases ci : rightT t = true ∧ t.lists ≠ 0
    · rw [if_pos ci] at hit
      have hl := hlist ci k0
      generalize mkV s wr env dfl v t = r at hl
      obtain ⟨rv, re⟩ := r
      unfold VE.enc at hl
      simp only at hl
      rcases hw with rfl | ⟨rfl, q8⟩
      all_goals
        repeat' first | refine .br ?_ | refine .seq ?_ | refine .rg ?_ | refine .rd ?_ | refine .block ?_ | refine .scope ?_ | refine .skip ?_ | refine .label ?_ | refine .exit ?_ | refine .ret ?_ | refine .ct ?_ | refine .cf ?_ | refine .cy ?_ | refine .cn ?_ | (refine .cond rfl ?_ ?_ <;> intro hc) | refine A.nil_seq ?_ | refine .nl ?_ | refine .dd ?_ | refine .ys ?_ | refine .no ?_ | (refine A.guard rfl ?_ ?_ <;> intro hc) | refine .lb ?_ | refine .ln ?_ | refine .ls ?_ | refine .pv ?_ | refine .ix ?_ | refine .pt ?_ | refine .pf ?_ | refine .bx ?_ | refine .al ?_ | refine .st ?_ | refine .ad ?_ | refine .sb ?_ | refine .mf ?_ | refine .cl ?_ | refine .cw ?_ | refine .ck ?_ | fail
        exact FinR.ret1 rfl (Weak.refl _)
    · rw [if_neg ci] at hit
      rw [mkV_eq, if_neg h8, if_neg k0, if_neg ci]
      unfold baseMk
      unfold findR at hf
      cases hfo : findO s t.name with
      | none =>
        rw [hfo] at hf
        rcases hw with rfl | ⟨rfl, q8⟩
        all_goals
          repeat' first | refine .br ?_ | refine .seq ?_ | refine .rg ?_ | refine .rd ?_ | refine .block ?_ | refine .scope ?_ | refine .skip ?_ | refine .label ?_ | refine .exit ?_ | refine .ret ?_ | refine .ct ?_ | refine .cf ?_ | refine .cy ?_ | refine .cn ?_ | (refine .cond rfl ?_ ?_ <;> intro hc) | refine A.nil_seq ?_ | refine .nl ?_ | refine .dd ?_ | refine .ys ?_ | refine .no ?_ | (refine A.guard rfl ?_ ?_ <;> intro hc) | refine .lb ?_ | refine .ln ?_ | refine .ls ?_ | refine .pv ?_ | refine .ix ?_ | refine .pt ?_ | refine .pf ?_ | refine .bx ?_ | refine .al ?_ | refine .st ?_ | refine .ad ?_ | refine .sb ?_ | refine .mf ?_ | refine .cl ?_ | refine .cw ?_ | refine .ck ?_ | fail
          exact FinR.ret1 rfl weak_ve0
      | some d =>
        rw [hfo] at hf
        dsimp only at hf ⊢
        by_cases d0 : d.kind = 0
        · have e0 : (d.kind == 0) = true := by simp [d0]
          rw [if_pos d0]
          have hsc := cScalar t.name v h0 h1
          generalize scalMk t.name v = r at hsc
          obtain ⟨rv, re⟩ := r
          unfold VE.enc at hsc
          simp only at hsc
          rcases hw with rfl | ⟨rfl, q8⟩
          all_goals
            repeat' first | refine .br ?_ | refine .seq ?_ | refine .rg ?_ | refine .rd ?_ | refine .block ?_ | refine .scope ?_ | refine .skip ?_ | refine .label ?_ | refine .exit ?_ | refine .ret ?_ | refine .ct ?_ | refine .cf ?_ | refine .cy ?_ | refine .cn ?_ | (refine .cond rfl ?_ ?_ <;> intro hc) | refine A.nil_seq ?_ | refine .nl ?_ | refine .dd ?_ | refine .ys ?_ | refine .no ?_ | (refine A.guard rfl ?_ ?_ <;> intro hc) | refine .lb ?_ | refine .ln ?_ | refine .ls ?_ | refine .pv ?_ | refine .ix ?_ | refine .pt ?_ | refine .pf ?_ | refine .bx ?_ | refine .al ?_ | refine .st ?_ | refine .ad ?_ | refine .sb ?_ | refine .mf ?_ | refine .cl ?_ | refine .cw ?_ | refine .ck ?_ | fail
            exact FinR.ret1 rfl (Weak.refl _)
        · have e0 : (d.kind == 0) = false := by simp [d0]
          rw [if_neg d0]
          by_cases d4 : d.kind = 4
          · have e4 : (d.kind == 4) = true := by simp [d4]
            rw [if_pos d4]
            have hdl : d.parts.length ≤ 9223372036854775807 := by
              have := (findR_size (name := t.name) hs).2.1
              unfold findR at this
              rw [hfo] at this
              simp only at this
              omega
            have hen := cEnum s wr within env d v hdl
            generalize enumMk wr d v.kind v.s = r at hen
            obtain ⟨rv, re⟩ := r
            unfold VE.enc at hen
            simp only at hen
            rcases hw with rfl | ⟨rfl, q8⟩
            all_goals
              repeat' first | refine .br ?_ | refine .seq ?_ | refine .rg ?_ | refine .rd ?_ | refine .block ?_ | refine .scope ?_ | refine .skip ?_ | refine .label ?_ | refine .exit ?_ | refine .ret ?_ | refine .ct ?_ | refine .cf ?_ | refine .cy ?_ | refine .cn ?_ | (refine .cond rfl ?_ ?_ <;> intro hc) | refine A.nil_seq ?_ | refine .nl ?_ | refine .dd ?_ | refine .ys ?_ | refine .no ?_ | (refine A.guard rfl ?_ ?_ <;> intro hc) | refine .lb ?_ | refine .ln ?_ | refine .ls ?_ | refine .pv ?_ | refine .ix ?_ | refine .pt ?_ | refine .pf ?_ | refine .bx ?_ | refine .al ?_ | refine .st ?_ | refine .ad ?_ | refine .sb ?_ | refine .mf ?_ | refine .cl ?_ | refine .cw ?_ | refine .ck ?_ | fail
              exact FinR.ret1 rfl (Weak.refl _)
          · have e4 : (d.kind == 4) = false := by simp [d4]
            rw [if_neg d4]
            by_cases d5 : d.kind = 5
            · have e5 : (d.kind == 5) = true := by simp [d5]
              rw [if_pos d5]
              have hinp := hin d hfo d5
              generalize (if v.kind = 7 then inputMk s wr env dfl (mkM s wr env dfl v.m) d else (val0, 7)) = r at hinp
              obtain ⟨rv, re⟩ := r
              unfold VE.enc at hinp
              simp only at hinp
              rcases hw with rfl | ⟨rfl, q8⟩
              all_goals
                repeat' first | refine .br ?_ | refine .seq ?_ | refine .rg ?_ | refine .rd ?_ | refine .block ?_ | refine .scope ?_ | refine .skip ?_ | refine .label ?_ | refine .exit ?_ | refine .ret ?_ | refine .ct ?_ | refine .cf ?_ | refine .cy ?_ | refine .cn ?_ | (refine .cond rfl ?_ ?_ <;> intro hc) | refine A.nil_seq ?_ | refine .nl ?_ | refine .dd ?_ | refine .ys ?_ | refine .no ?_ | (refine A.guard rfl ?_ ?_ <;> intro hc) | refine .lb ?_ | refine .ln ?_ | refine .ls ?_ | refine .pv ?_ | refine .ix ?_ | refine .pt ?_ | refine .pf ?_ | refine .bx ?_ | refine .al ?_ | refine .st ?_ | refine .ad ?_ | refine .sb ?_ | refine .mf ?_ | refine .cl ?_ | refine .cw ?_ | refine .ck ?_ | fail
                exact FinR.ret1 rfl (Weak.refl _)
            · have e5 : (d.kind == 5) = false := by simp [d5]
              rw [if_neg d5]
              rcases hw with rfl | ⟨rfl, q8⟩
              all_goals
                repeat' first | refine .br ?_ | refine .seq ?_ | refine .rg ?_ | refine .rd ?_ | refine .block ?_ | refine .scope ?_ | refine .skip ?_ | refine .label ?_ | refine .exit ?_ | refine .ret ?_ | refine .ct ?_ | refine .cf ?_ | refine .cy ?_ | refine .cn ?_ | (refine .cond rfl ?_ ?_ <;> intro hc) | refine A.nil_seq ?_ | refine .nl ?_ | refine .dd ?_ | refine .ys ?_ | refine .no ?_ | (refine A.guard rfl ?_ ?_ <;> intro hc) | refine .lb ?_ | refine .ln ?_ | refine .ls ?_ | refine .pv ?_ | refine .ix ?_ | refine .pt ?_ | refine .pf ?_ | refine .bx ?_ | refine .al ?_ | refine .st ?_ | refine .ad ?_ | refine .sb ?_ | refine .mf ?_ | refine .cl ?_ | refine .cw ?_ | refine .ck ?_ | fail
                exact FinR.ret1 rfl weak_ve0
theorem cAsked (s : Sch) (wr within : Bool) (env : List Mem) (dfl : Par → VE) (v : Val) (t : Typ) (hv : v.size ≤ 68719476736) (ht : t.name.length ≤ 68719476736)
    (hm : rightT t = true → PFn Tryz.prog 112 [mkE s wr within env, t.enc, v.enc] (VE.enc (mkV s wr env dfl v t))) :
    PFn Tryz.prog 68 [mkE s wr within env, t.enc, v.enc] (VE.enc (askV s wr env dfl t v)) := by
  have hr := wRight t (by omega)
  have hg := vGood v hv
  refine AFn.plain (VE.closed _) (by simp [AV.closed, AV.closedL, mkE_closed, Typ.closed, Val.closed]) (AFn.enterR [.cell 6 48, .tmp 7] Tryz.func68 rfl rfl rfl rfl rfl ?_)
  unfold askV
  cases c1 : rightT t with
  | false =>
    rw [c1] at hr
    rw [if_neg (by simp)]
    repeat' first | refine .br ?_ | refine .seq ?_ | refine .rg ?_ | refine .rd ?_ | refine .block ?_ | refine .scope ?_ | refine .skip ?_ | refine .label ?_ | refine .exit ?_ | refine .ret ?_ | refine .ct ?_ | refine .cf ?_ | refine .cy ?_ | refine .cn ?_ | (refine .cond rfl ?_ ?_ <;> intro hc) | refine A.nil_seq ?_ | refine .nl ?_ | refine .dd ?_ | refine .ys ?_ | refine .no ?_ | (refine A.guard rfl ?_ ?_ <;> intro hc) | refine .lb ?_ | refine .ln ?_ | refine .ls ?_ | refine .pv ?_ | refine .ix ?_ | refine .pt ?_ | refine .pf ?_ | refine .bx ?_ | refine .al ?_ | refine .st ?_ | refine .ad ?_ | refine .sb ?_ | refine .mf ?_ | refine .cl ?_ | refine .cw ?_ | refine .ck ?_ | fail
    exact FinR.ret1 rfl weak_ve0
  | true =>
    rw [c1] at hr
    cases c2 : allV good v with
    | false =>
      rw [c2] at hg
      rw [if_neg (by simp)]
      repeat' first | refine .br ?_ | refine .seq ?_ | refine .rg ?_ | refine .rd ?_ | refine .block ?_ | refine .scope ?_ | refine .skip ?_ | refine .label ?_ | refine .exit ?_ | refine .ret ?_ | refine .ct ?_ | refine .cf ?_ | refine .cy ?_ | refine .cn ?_ | (refine .cond rfl ?_ ?_ <;> intro hc) | refine A.nil_seq ?_ | refine .nl ?_ | refine .dd ?_ | refine .ys ?_ | refine .no ?_ | (refine A.guard rfl ?_ ?_ <;> intro hc) | refine .lb ?_ | refine .ln ?_ | refine .ls ?_ | refine .pv ?_ | refine .ix ?_ | refine .pt ?_ | refine .pf ?_ | refine .bx ?_ | refine .al ?_ | refine .st ?_ | refine .ad ?_ | refine .sb ?_ | refine .mf ?_ | refine .cl ?_ | refine .cw ?_ | refine .ck ?_ | fail
      exact FinR.ret1 rfl weak_ve0
    | true =>
      rw [c2] at hg
      rw [if_pos ⟨rfl, rfl⟩]
      have hk := hm c1
      generalize mkV s wr env dfl v t = r at hk
      obtain ⟨rv, re⟩ := r
      unfold VE.enc at hk
      simp only at hk
      repeat' first | refine .br ?_ | refine .seq ?_ | refine .rg ?_ | refine .rd ?_ | refine .block ?_ | refine .scope ?_ | refine .skip ?_ | refine .label ?_ | refine .exit ?_ | refine .ret ?_ | refine .ct ?_ | refine .cf ?_ | refine .cy ?_ | refine .cn ?_ | (refine .cond rfl ?_ ?_ <;> intro hc) | refine A.nil_seq ?_ | refine .nl ?_ | refine .dd ?_ | refine .ys ?_ | refine .no ?_ | (refine A.guard rfl ?_ ?_ <;> intro hc) | refine .lb ?_ | refine .ln ?_ | refine .ls ?_ | refine .pv ?_ | refine .ix ?_ | refine .pt ?_ | refine .pf ?_ | refine .bx ?_ | refine .al ?_ | refine .st ?_ | refine .ad ?_ | refine .sb ?_ | refine .mf ?_ | refine .cl ?_ | refine .cw ?_ | refine .ck ?_ | fail
      exact FinR.ret1 rfl (Weak.refl _)
theorem Val.ok_parts {v : Val} (h : v.ok) : (-9223372036854775808 ≤ v.n ∧ v.n ≤ 9223372036854775807) ∧ (∀ x ∈ v.l, x.ok) ∧ ∀ x ∈ v.m, x.v.ok := by
  cases v
  rw [Val.ok] at h
  obtain ⟨h1, h2, h3, h4⟩ := h
  unfold Lit.wf IntKind.min IntKind.max at h2
  rw [Bool.and_eq_true, decide_eq_true_eq, decide_eq_true_eq] at h2
  refine ⟨⟨h2.1, h2.2⟩, fun x hx => ?_, fun x hx => ?_⟩
  · have aux : ∀ l : List Val, Val.okL l → ∀ x ∈ l, x.ok := fun l => by
      induction l with
      | nil => intro _ x hx; simp at hx
      | cons y l ih =>
        intro h x hx
        rw [Val.okL] at h
        rcases List.mem_cons.1 hx with rfl | hx
        · exact h.1
        · exact ih h.2 x hx
    exact aux _ h3 x hx
  · have aux : ∀ l : List Mem, Val.okM l → ∀ x ∈ l, x.v.ok := fun l => by
      induction l with
      | nil => intro _ x hx; simp at hx
      | cons y l ih =>
        intro h x hx
        obtain ⟨n, v⟩ := y
        rw [Val.okM] at h
        rcases List.mem_cons.1 hx with rfl | hx
        · exact h.1
        · exact ih h.2 x hx
    exact aux _ h4 x hx
def HD (s : Sch) (dfl : Par → VE) : Prop := ∀ d ∈ s.defs, ∀ p ∈ d.params, leafB s p.t.name = true → PFn Tryz.prog 68 [mkE s true false [], p.t.enc, p.d.enc] (VE.enc (dfl p))
theorem findO_in {s : Sch} {name : Str} {d : Dfn} (h : findO s name = some d) (hk : d.kind = 5) : d ∈ s.defs := by
  unfold findO at h
  split at h
  · cases h; exact absurd hk (show (0 : Int) ≠ 5 by decide)
  · exact List.mem_of_find?_eq_some h
theorem leaf_not5 {s : Sch} {name : Str} {d : Dfn} (h : findO s name = some d) (hk : d.kind = 5) : leafB s name = false := by
  unfold leafB kindB findR
  rw [h]
  simp only [Bool.true_and, decide_eq_false_iff_not]
  rw [hk]; decide
theorem cMakeBody (s : Sch) (hs : s.size ≤ 68719476736) (wr : Bool) (env : List Mem) (dfl : Par → VE) (he : env.length ≤ 68719476736) (v : Val) (t : Typ) (within : Bool) (hv : v.size ≤ 68719476736) (hok : v.ok) (ht : t.name.length ≤ 68719476736) (hc : leafB s t.name = true ∨ HD s dfl)
    (ihA : ∀ x : Val, x.size < v.size → x.ok → ∀ t : Typ, t.name.length ≤ 68719476736 → (leafB s t.name = true ∨ HD s dfl) → ∀ within : Bool, PFn Tryz.prog 112 [mkE s wr within env, t.enc, x.enc] (VE.enc (mkV s wr env dfl x t)))
    (down : rightT t = true ∧ t.lists ≠ 0 → PFn Tryz.prog 112 [mkE s wr within env, (itemT t).enc, v.enc] (VE.enc (mkV s wr env dfl v (itemT t)))) :
    PFn Tryz.prog 112 [mkE s wr within env, t.enc, v.enc] (VE.enc (mkV s wr env dfl v t)) := by
  obtain ⟨⟨r0, r1⟩, okl, okm⟩ := Val.ok_parts hok
  by_cases h8 : wr = true ∧ v.kind = 8
  · obtain ⟨rfl, k8⟩ := h8
    exact cMakeVar s within env dfl v t k8 he ht
  · refine cMakeStep s hs wr within env dfl v t h8 hv ht r0 r1 (fun ci k0 => ?_) (fun d hfo d5 => ?_)
    · by_cases k6 : v.kind = 6
      · have h := cListL s wr within env (itemT t) v (fun x => mkV s wr env dfl x (itemT t)) k6 hv (fun x hx => by
          obtain ⟨k, hk, rfl⟩ := List.getElem_of_mem hx
          exact ihA _ (Val.size_l hk) (okl _ hx) (itemT t) ht hc within)
        rw [mkV_eq, if_neg h8, if_neg k0, if_pos ci, if_pos k6, mkL_seq]
        exact h
      · rw [mkV_down h8 k0 k6 ci.1 ci.2 (rightT_item ci.1 ci.2)]
        exact cListO s wr within env (itemT t) v _ k6 (down ci)
    · have hHD : HD s dfl := hc.elim (fun h => by rw [leaf_not5 hfo d5] at h; cases h) id
      have hd := findO_in hfo d5
      have hds := Sch.dfn hd
      have hdl := d.lens
      have hml := v.m_len
      have hpn : ∀ p ∈ d.params, p.t.name.length ≤ 68719476736 := fun p hp => by have := Dfn.par hp; have := p.lens; omega
      have hM := cMembers s wr true env v.m d.params (memMk s wr true env dfl (mkM s wr env dfl v.m)) (by omega) (fun p hp => cMember s hs wr true env v.m dfl dfl p he (by omega) (hpn p hp)
        (fun x hx => by
          obtain ⟨k, hk, rfl⟩ := List.getElem_of_mem hx
          have hz := Val.size_m hk
          exact cAsked s wr true env dfl _ p.t (by omega) (hpn p hp) (fun _ => ihA _ hz (okm _ hx) p.t (hpn p hp) (.inr hHD) true))
        (fun _ hl => hl.elim (fun h => by cases h) (fun h => hHD d hd p hp h)))
      rw [← memsMk_F] at hM
      have h := cInput s wr within env d v _ he hv (by omega) (by rw [v.mv_eq]; exact hM)
      unfold inputMk
      rw [strange_eq]
      exact h
theorem cMake (s : Sch) (hs : s.size ≤ 68719476736) (wr : Bool) (env : List Mem) (dfl : Par → VE) (he : env.length ≤ 68719476736) : ∀ N : Nat, N ≤ 68719476736 → ∀ v : Val, v.size ≤ N → v.ok → ∀ (j : Nat) (t : Typ), t.lists.toNat = j → t.name.length ≤ 68719476736 → (leafB s t.name = true ∨ HD s dfl) → ∀ within : Bool,
    PFn Tryz.prog 112 [mkE s wr within env, t.enc, v.enc] (VE.enc (mkV s wr env dfl v t))
  | 0, _, v, hv => absurd hv (by have := v.size_pos; omega)
  | N + 1, hN, v, hv => by
    have ih := cMake s hs wr env dfl he N (by omega)
    intro hok j
    induction j with
    | zero =>
      intro t hj ht hc within
      exact cMakeBody s hs wr env dfl he v t within (by omega) hok ht hc (fun x hx ho u hu hcu w => ih x (by omega) ho _ u rfl hu hcu w) (fun ⟨c, h0⟩ => absurd (rightT_iff.1 c).2.1 (by omega))
    | succ j ihj =>
      intro t hj ht hc within
      exact cMakeBody s hs wr env dfl he v t within (by omega) hok ht hc (fun x hx ho u hu hcu w => ih x (by omega) ho _ u rfl hu hcu w) (fun _ => ihj (itemT t) (by show (t.lists - 1).toNat = j; omega) ht hc within)
def Sch.okD (s : Sch) : Prop := ∀ d ∈ s.defs, ∀ p ∈ d.params, p.d.ok
theorem hd_leaf (s : Sch) (hs : s.size ≤ 68719476736) (hok : s.okD) : HD s (dflLeaf s) := fun d hd p hp hl => by
  have h1 := Sch.dfn hd
  have h2 := Dfn.par hp
  have h3 := p.lens
  exact cAsked s true false [] junkD p.d p.t (by omega) (by omega) (fun _ => cMake s hs true [] junkD (by decide) 68719476736 (Nat.le_refl _) p.d (by omega) (hok d hd p hp) _ p.t rfl (by omega) (.inl hl) false)
theorem cAskedAll (s : Sch) (hs : s.size ≤ 68719476736) (hok : s.okD) (wr within : Bool) (env : List Mem) (he : env.length ≤ 68719476736) (v : Val) (t : Typ) (hv : v.size ≤ 68719476736) (hvo : v.ok) (ht : t.name.length ≤ 68719476736) :
    PFn Tryz.prog 68 [mkE s wr within env, t.enc, v.enc] (VE.enc (askV s wr env (dflLeaf s) t v)) :=
  cAsked s wr within env (dflLeaf s) v t hv ht (fun _ => cMake s hs wr env (dflLeaf s) he 68719476736 (Nat.le_refl _) v hv hvo _ t rfl ht (.inr (hd_leaf s hs hok)) within)
theorem weak_mkE (s : Sch) (wr : Bool) (t : Tk) : Weak (.agg [.slice (s.defs.map Dfn.enc) .no, .str s.query, .str s.mutation, .bool wr, .bool false, .slice [] t]) (mkE s wr false []) :=
  Weak.agg (WeakL.cons (Weak.refl _) (WeakL.cons (Weak.refl _) (WeakL.cons (Weak.refl _) (WeakL.cons (Weak.refl _) (WeakL.cons (Weak.refl _) (WeakL.cons (Weak.no (WeakL.refl _)) (WeakL.refl _)))))))
theorem coeInput (s : Sch) (hs : s.size ≤ 68719476736) (hok : s.okD) (t : Typ) (v : Val) (hv : v.size ≤ 68719476736) (hvo : v.ok) (ht : t.name.length ≤ 68719476736) :
    PFn Tryz.prog 34 [s.enc, t.enc, v.enc] (VE.enc (inV s t v)) := by
  have ha := cAskedAll s hs hok false false [] (by decide) v t hv hvo ht
  refine AFn.plain (VE.closed _) (by simp [AV.closed, AV.closedL, Sch.closed, Typ.closed, Val.closed]) (AFn.enterR [.cell 6 48, .tmp 7] Tryz.func34 rfl rfl rfl rfl rfl ?_)
  unfold inV
  generalize askV s false [] (dflLeaf s) t v = r at ha
  obtain ⟨rv, re⟩ := r
  unfold VE.enc at ha
  simp only at ha
  repeat' first | refine .br ?_ | refine .seq ?_ | refine .rg ?_ | refine .rd ?_ | refine .block ?_ | refine .scope ?_ | refine .skip ?_ | refine .label ?_ | refine .exit ?_ | refine .ret ?_ | refine .ct ?_ | refine .cf ?_ | refine .cy ?_ | refine .cn ?_ | (refine .cond rfl ?_ ?_ <;> intro hc) | refine A.nil_seq ?_ | refine .nl ?_ | refine .dd ?_ | refine .ys ?_ | refine .no ?_ | (refine A.guard rfl ?_ ?_ <;> intro hc) | refine .lb ?_ | refine .ln ?_ | refine .ls ?_ | refine .pv ?_ | refine .ix ?_ | refine .pt ?_ | refine .pf ?_ | refine .bx ?_ | refine .al ?_ | refine .st ?_ | refine .ad ?_ | refine .sb ?_ | refine .mf ?_ | refine .cl ?_ | refine .cw ?_ | refine .ck ?_ | refine A.call rfl ha (WeakL.cons (weak_mkE s false _) (WeakL.refl _)) ?_ | fail
  exact FinR.ret1 rfl (Weak.refl _)
end Go.Proofs.YtegakkonlhmeaaaGreatDoor
