/-
  The laws LiteralLists, LiteralNames.
-/
import Derived.Test.YtijlmchfepjjkaaDoorMLawLit2
import Derived.Test.YtijlmchfepjjkaaDoorMRefA
import Derived.Test.YtijlmchfepjjkaaDoorMVars
namespace Go.Proofs.YtijlmchfepjjkaaDoor
open Go Go.Av
set_option maxRecDepth 100000
set_option maxHeartbeats 16000000
set_option linter.unusedVariables false
set_option linter.unusedSimpArgs false
attribute [local irreducible] HCode AOps PFn AFn Av.Step TStep

theorem weak_ofList {l : List Val} {n : Int} {str : Str} {t1 t2 : Tk} : Weak (.agg [.int .i64 6, .int .i64 n, .str str, .slice (l.map Val.enc) t1, .slice [] t2]) (Val.mk 6 n str l []).enc := by
  unfold Val.enc
  rw [Val.lv_eq, mv_mk]
  exact Weak.agg (WeakL.cons (Weak.refl _) (WeakL.cons (Weak.refl _) (WeakL.cons (Weak.refl _) (WeakL.cons (Weak.no (WeakL.refl _)) (WeakL.cons (Weak.no (WeakL.refl _)) (WeakL.refl _))))))
def itemOk (s : Sch) (t : Typ) (x : Val) : Bool := litR s t x && (decide (t.lists = 0) || (x.kind == 6 || x.kind == 8 || x.kind == 0))
theorem reads_vals (n : Nat) : ReadN Tryd.prog n 25 false (fun l => .slice (l.map Val.enc) .no) (fun l => sumSize Val.size l + 1) (fun l => ∀ x ∈ l, x.ok) := (reads_all n).2.1
theorem literalLists (s : Sch) (t : Typ) (l : List Val) (h : s.size + t.size + (sumSize Val.size l + 1) ≤ 1048576) : PFn Tryd.prog 7 [s.enc, t.enc, .slice (l.map Val.enc) .no] (.bool true) := by
  have hts : t.size = t.name.length + 4 := rfl
  have zv : (Val.mk 6 0 [] l []).size = sumSize Val.size l + 6 := by rw [Val.size, Val.sizeL_eq, Val.sizeM]; simp
  have hl := light10 s (.mk 6 0 [] l []) (by omega) (by omega)
  have hw := awake10
  have hli := wList t (by omega)
  have hll := sumSize_length Val.size_pos l
  have hwk : ∀ x : AV, WeakL [s.enc, x, .agg [.int .i64 6, .int .i64 0, .str [], .slice (l.map Val.enc) .no, .slice [] .nil]] [s.enc, x, (Val.mk 6 0 [] l []).enc] := fun x => WeakL.cons (Weak.refl _) (WeakL.cons (Weak.refl _) (WeakL.cons weak_ofList (WeakL.refl _)))
  have hwk2 : WeakL [s.enc, .agg [.int .i64 6, .int .i64 0, .str [], .slice (l.map Val.enc) .no, .slice [] .nil]] [s.enc, (Val.mk 6 0 [] l []).enc] := WeakL.cons (Weak.refl _) (WeakL.cons weak_ofList (WeakL.refl _))
  refine AFn.plain rfl (by simp [AV.closed, AV.closedL, Sch.closed, Val.closedL', Typ.closed]) (AFn.enter [6] Tryd.func7 rfl rfl rfl rfl rfl (by decide) ?_)
  unfold listR at hli
  cases c1 : lightB s (.mk 6 0 [] l []) with
  | false =>
    rw [c1] at hl
    repeat' first
      | refine .br ?_
      | refine .seq ?_ | refine .rg ?_ | refine .rd ?_ | refine .block ?_ | refine .scope ?_ | refine .skip ?_ | refine .label ?_ | refine .exit ?_ | refine .ret ?_
      | refine .ct ?_ | refine .cf ?_ | refine .cy ?_ | refine .cn ?_ | (refine .cond rfl ?_ ?_ <;> intro hc)
      | refine A.nil_seq ?_ | refine .nl ?_ | refine .dd ?_ | refine .ys ?_ | refine .no ?_ | (refine A.guard rfl ?_ ?_ <;> intro hc)
      | refine .lb ?_ | refine .ln ?_ | refine .ls ?_ | refine .pv ?_ | refine .ix ?_ | refine .pt ?_ | refine .pf ?_ | refine .bx ?_ | refine .al ?_ | refine .st ?_ | refine .ad ?_ | refine .sb ?_ | refine .mf ?_ | refine .cl ?_ | refine .cw ?_ | refine .ck ?_
      | refine A.call rfl hl hwk2 ?_ | fail
    exact Fin.ret1 rfl (Weak.refl _)
  | true =>
    rw [c1] at hl
    by_cases c2 : rightT t = true ∧ t.lists ≠ 4
    · rw [if_pos c2] at hli
      obtain ⟨p1, p2⟩ := lit_lists s t l 0 [] c2.1 c2.2
      have q1 := lRight s (listT t) (.mk 6 0 [] l []) (by omega) (by show t.name.length ≤ _; omega) (by omega)
      have q2 := lRight s t (.mk 6 0 [] l []) (by omega) (by omega) (by omega)
      rw [p1] at q1
      have hl0 := (rightT_iff.1 c2.1).2.1
      repeat' first
        | refine .br ?_
        | refine .seq ?_ | refine .rg ?_ | refine .rd ?_ | refine .block ?_ | refine .scope ?_ | refine .skip ?_ | refine .label ?_ | refine .exit ?_ | refine .ret ?_
        | refine .ct ?_ | refine .cf ?_ | refine .cy ?_ | refine .cn ?_ | (refine .cond rfl ?_ ?_ <;> intro hc)
        | refine A.nil_seq ?_ | refine .nl ?_ | refine .dd ?_ | refine .ys ?_ | refine .no ?_ | (refine A.guard rfl ?_ ?_ <;> intro hc)
        | refine .lb ?_ | refine .ln ?_ | refine .ls ?_ | refine .pv ?_ | refine .ix ?_ | refine .pt ?_ | refine .pf ?_ | refine .bx ?_ | refine .al ?_ | refine .st ?_ | refine .ad ?_ | refine .sb ?_ | refine .mf ?_ | refine .cl ?_ | refine .cw ?_ | refine .ck ?_
        | refine A.call rfl hl hwk2 ?_ | fail
      refine HCode.forK l.length (fun k => [(11, .int .i64 k), (10, .bool ((l.take k).all (itemOk s t))), (2, .slice (l.map Val.enc) .no), (3, .rptr s.enc), (4, .rptr t.enc), (7, .ptr 0 0), (8, .ptr 1 0)])
        (fun _ => ⟨[.cells [.int .i64 6, .int .i64 0, .str [], .slice (l.map Val.enc) .no, .slice [] .nil], .cells [.str t.name, .int .i64 (t.lists + 1), .int .i64 (t.musts * 2)]], []⟩) (fun _ => True)
        ⟨rfl, rfl, rfl, rfl, rfl, rfl, rfl, trivial⟩ rfl trivial fun k hk _ => ?_
      by_cases h1 : k < l.length
      · have d1 : decide ((k : Int) < (l.length : Int)) = true := by simp [h1]
        have x1 := map_get' (f := Val.enc) h1
        have hmem := sumSize_mem (size := Val.size) (List.getElem_mem h1)
        have qk := lRight s t l[k] (by omega) (by omega) (by omega)
        have htk : (l.take (k + 1)).all (itemOk s t) = ((l.take k).all (itemOk s t) && itemOk s t l[k]) := by rw [List.take_succ_eq_append_getElem h1, List.all_append]; simp
        unfold itemOk at htk ⊢
        generalize (l.take k).all (fun x => litR s t x && (decide (t.lists = 0) || (x.kind == 6 || x.kind == 8 || x.kind == 0))) = w0 at htk
        generalize litR s t l[k] = w1 at htk qk
        have e0 : (t.lists == 0) = decide (t.lists = 0) := by rw [Bool.eq_iff_iff]; simp
        cases w0 <;> cases w1 <;> simp only [Bool.false_and, Bool.true_and] at htk
        all_goals
          repeat' first
            | refine .seq ?_ | refine .rg ?_ | refine .rd ?_ | refine .block ?_ | refine .scope ?_ | refine .skip ?_ | refine .label ?_ | refine .exit ?_ | refine .ret ?_
            | refine .ct ?_ | refine .cf ?_ | refine .cy ?_ | refine .cn ?_ | (refine .cond rfl ?_ ?_ <;> intro hc)
            | refine A.nil_seq ?_ | refine .nl ?_ | refine .dd ?_ | refine .ys ?_ | refine .no ?_ | (refine A.guard rfl ?_ ?_ <;> intro hc)
            | refine .lb ?_ | refine .ln ?_ | refine .ls ?_ | refine .pv ?_ | refine .ix ?_ | refine .pt ?_ | refine .pf ?_ | refine .bx ?_ | refine .al ?_ | refine .st ?_ | refine .ad ?_ | refine .sb ?_ | refine .mf ?_ | refine .cl ?_ | refine .cw ?_ | refine .ck ?_ | fail
          all_goals exact ⟨h1, ⟨rfl, by rw [htk]; first | rfl | (refine congrArg AV.bool ?_; simp_all), rfl, rfl, rfl, rfl, rfl, trivial⟩, by simp [belowS, AV.low], by simp [belowB, belowT, Ob.low, AV.lowL, AV.low], rfl, trivial⟩
      · have d1 : decide ((k : Int) < (l.length : Int)) = false := by simp; omega
        obtain rfl : k = l.length := by omega
        rw [List.take_length]
        have e1 : (l.all (itemOk s t) == l.all (itemOk s t)) = true := by simp
        by_cases c0 : t.lists = 0
        · have e2 : decide (0 < t.lists) = false := decide_eq_false (by omega)
          rw [p2 c0] at q2
          repeat' first
            | refine .seq ?_ | refine .rg ?_ | refine .rd ?_ | refine .block ?_ | refine .scope ?_ | refine .skip ?_ | refine .label ?_ | refine .exit ?_ | refine .ret ?_
            | refine .ct ?_ | refine .cf ?_ | refine .cy ?_ | refine .cn ?_ | (refine .cond rfl ?_ ?_ <;> intro hc)
            | refine A.nil_seq ?_ | refine .nl ?_ | refine .dd ?_ | refine .ys ?_ | refine .no ?_ | (refine A.guard rfl ?_ ?_ <;> intro hc)
            | refine .lb ?_ | refine .ln ?_ | refine .ls ?_ | refine .pv ?_ | refine .ix ?_ | refine .pt ?_ | refine .pf ?_ | refine .bx ?_ | refine .al ?_ | refine .st ?_ | refine .ad ?_ | refine .sb ?_ | refine .mf ?_ | refine .cl ?_ | refine .cw ?_ | refine .ck ?_
            | refine A.call rfl q1 (hwk _) ?_ | refine A.call rfl q2 (hwk _) ?_ | fail
          exact Fin.ret1 rfl (Weak.refl _)
        · have e2 : decide (0 < t.lists) = true := decide_eq_true (by omega)
          repeat' first
            | refine .seq ?_ | refine .rg ?_ | refine .rd ?_ | refine .block ?_ | refine .scope ?_ | refine .skip ?_ | refine .label ?_ | refine .exit ?_ | refine .ret ?_
            | refine .ct ?_ | refine .cf ?_ | refine .cy ?_ | refine .cn ?_ | (refine .cond rfl ?_ ?_ <;> intro hc)
            | refine A.nil_seq ?_ | refine .nl ?_ | refine .dd ?_ | refine .ys ?_ | refine .no ?_ | (refine A.guard rfl ?_ ?_ <;> intro hc)
            | refine .lb ?_ | refine .ln ?_ | refine .ls ?_ | refine .pv ?_ | refine .ix ?_ | refine .pt ?_ | refine .pf ?_ | refine .bx ?_ | refine .al ?_ | refine .st ?_ | refine .ad ?_ | refine .sb ?_ | refine .mf ?_ | refine .cl ?_ | refine .cw ?_ | refine .ck ?_
            | refine A.call rfl q1 (hwk _) ?_ | refine A.call rfl q2 (hwk _) ?_ | fail
          exact Fin.ret1 rfl (Weak.refl _)
    · rw [if_neg c2] at hli
      repeat' first
        | refine .br ?_
        | refine .seq ?_ | refine .rg ?_ | refine .rd ?_ | refine .block ?_ | refine .scope ?_ | refine .skip ?_ | refine .label ?_ | refine .exit ?_ | refine .ret ?_
        | refine .ct ?_ | refine .cf ?_ | refine .cy ?_ | refine .cn ?_ | (refine .cond rfl ?_ ?_ <;> intro hc)
        | refine A.nil_seq ?_ | refine .nl ?_ | refine .dd ?_ | refine .ys ?_ | refine .no ?_ | (refine A.guard rfl ?_ ?_ <;> intro hc)
        | refine .lb ?_ | refine .ln ?_ | refine .ls ?_ | refine .pv ?_ | refine .ix ?_ | refine .pt ?_ | refine .pf ?_ | refine .bx ?_ | refine .al ?_ | refine .st ?_ | refine .ad ?_ | refine .sb ?_ | refine .mf ?_ | refine .cl ?_ | refine .cw ?_ | refine .ck ?_
        | refine A.call rfl hl hwk2 ?_ | fail
      exact Fin.ret1 rfl (Weak.refl _)
theorem foldl_take {l : List Spt} {k : Nat} (h : k < l.length) : ((l.take (k + 1)).map Spt.var).foldl addNew [] = addNew (((l.take k).map Spt.var).foldl addNew []) l[k].var := by
  rw [List.take_succ_eq_append_getElem h, List.map_append, List.foldl_append]; rfl
theorem foldl_len : ∀ (l : List Str) (acc : List Str), (l.foldl addNew acc).length ≤ acc.length + l.length
  | [], acc => by simp
  | x :: l, acc => by
    have h1 := foldl_len l (addNew acc x)
    have h2 := addNew_len acc x
    simp only [List.foldl_cons, List.length_cons]; omega
theorem literalNames (s : Sch) (t : Typ) (v : Val) (h : s.size + t.size + v.size ≤ 2097152) : PFn Tryd.prog 10 [s.enc, t.enc, v.enc] (.bool true) := by
  have hts : t.size = t.name.length + 4 := rfl
  have hl := light10 s v (by omega) (by omega)
  have hw := awake10
  have q1 := lRight s t v (by omega) (by omega) (by omega)
  refine AFn.plain rfl (by simp [AV.closed, AV.closedL, Sch.closed, Val.closed, Typ.closed]) (AFn.enter [6] Tryd.func10 rfl rfl rfl rfl rfl (by decide) ?_)
  cases c1 : lightB s v with
  | false =>
    rw [c1] at hl
    repeat' first
      | refine .br ?_
      | refine .seq ?_ | refine .rg ?_ | refine .rd ?_ | refine .block ?_ | refine .scope ?_ | refine .skip ?_ | refine .label ?_ | refine .exit ?_ | refine .ret ?_
      | refine .ct ?_ | refine .cf ?_ | refine .cy ?_ | refine .cn ?_ | (refine .cond rfl ?_ ?_ <;> intro hc)
      | refine A.nil_seq ?_ | refine .nl ?_ | refine .dd ?_ | refine .ys ?_ | refine .no ?_ | (refine A.guard rfl ?_ ?_ <;> intro hc)
      | refine .lb ?_ | refine .ln ?_ | refine .ls ?_ | refine .pv ?_ | refine .ix ?_ | refine .pt ?_ | refine .pf ?_ | refine .bx ?_ | refine .al ?_ | refine .st ?_ | refine .ad ?_ | refine .sb ?_ | refine .mf ?_ | refine .cl ?_ | refine .cw ?_ | refine .ck ?_ | fail
    exact Fin.ret1 rfl (Weak.refl _)
  | true =>
    rw [c1] at hl
    cases c2 : litR s t v with
    | false =>
      rw [c2] at q1
      repeat' first
        | refine .br ?_
        | refine .seq ?_ | refine .rg ?_ | refine .rd ?_ | refine .block ?_ | refine .scope ?_ | refine .skip ?_ | refine .label ?_ | refine .exit ?_ | refine .ret ?_
        | refine .ct ?_ | refine .cf ?_ | refine .cy ?_ | refine .cn ?_ | (refine .cond rfl ?_ ?_ <;> intro hc)
        | refine A.nil_seq ?_ | refine .nl ?_ | refine .dd ?_ | refine .ys ?_ | refine .no ?_ | (refine A.guard rfl ?_ ?_ <;> intro hc)
        | refine .lb ?_ | refine .ln ?_ | refine .ls ?_ | refine .pv ?_ | refine .ix ?_ | refine .pt ?_ | refine .pf ?_ | refine .bx ?_ | refine .al ?_ | refine .st ?_ | refine .ad ?_ | refine .sb ?_ | refine .mf ?_ | refine .cl ?_ | refine .cw ?_ | refine .ck ?_ | fail
      exact Fin.ret1 rfl (Weak.refl _)
    | true =>
      rw [c2] at q1
      have hf : fitsV s v t false = true := by unfold litR at c2; rw [Bool.and_eq_true] at c2; exact c2.2
      have hvs := vars_spots s v t false false [] hf
      have hsp := lSpots s (by omega) 2097152 (Nat.le_refl _) v (by omega) _ t false rfl (by omega)
      have hva := vVars v (by omega)
      have hlen := spotsP_len s v t false
      rw [hvs] at hva
      generalize spotsP s v t false = sp at hsp hva hlen
      have hfl := foldl_len (sp.map Spt.var) []
      rw [List.length_map] at hfl
      simp only [List.length_nil] at hfl
      have hst := kSameTexts ((sp.map Spt.var).foldl addNew []) (by omega)
      repeat' first
        | refine .br ?_
        | refine .seq ?_ | refine .rg ?_ | refine .rd ?_ | refine .block ?_ | refine .scope ?_ | refine .skip ?_ | refine .label ?_ | refine .exit ?_ | refine .ret ?_
        | refine .ct ?_ | refine .cf ?_ | refine .cy ?_ | refine .cn ?_ | (refine .cond rfl ?_ ?_ <;> intro hc)
        | refine A.nil_seq ?_ | refine .nl ?_ | refine .dd ?_ | refine .ys ?_ | refine .no ?_ | (refine A.guard rfl ?_ ?_ <;> intro hc)
        | refine .lb ?_ | refine .ln ?_ | refine .ls ?_ | refine .pv ?_ | refine .ix ?_ | refine .pt ?_ | refine .pf ?_ | refine .bx ?_ | refine .al ?_ | refine .st ?_ | refine .ad ?_ | refine .sb ?_ | refine .mf ?_ | refine .cl ?_ | refine .cw ?_ | refine .ck ?_ | fail
      refine HCode.adopt 9 false 1 rfl rfl rfl rfl rfl rfl ?_
      refine HCode.forK sp.length (fun k => [(10, .int .i64 k), (9, .slice ((((sp.take k).map Spt.var).foldl addNew []).map AV.str) (.own 0 1)), (7, .slice (sp.map Spt.enc) .no), (8, .slice (((sp.map Spt.var).foldl addNew []).map AV.str) .no)])
        (fun k => ⟨[], [.len (((sp.take k).map Spt.var).foldl addNew []).length]⟩) (fun _ => True) ⟨rfl, rfl, rfl, rfl, trivial⟩ rfl trivial fun k hk _ => ?_
      by_cases h1 : k < sp.length
      · have d1 : decide ((k : Int) < (sp.length : Int)) = true := by simp [h1]
        have x1 := map_get' (f := Spt.enc) h1
        have htk := foldl_take h1
        have hfk := foldl_len ((sp.take k).map Spt.var) []
        rw [List.length_map, List.length_take] at hfk
        simp only [List.length_nil] at hfk
        generalize hacc : ((sp.take k).map Spt.var).foldl addNew [] = acc at htk hfk ⊢
        have hhs := rHas acc sp[k].var (by omega)
        by_cases c3 : sp[k].var ∈ acc
        · rw [decide_eq_true c3] at hhs
          rw [addNew, if_pos c3] at htk
          repeat' first
            | refine .seq ?_ | refine .rg ?_ | refine .rd ?_ | refine .block ?_ | refine .scope ?_ | refine .skip ?_ | refine .label ?_ | refine .exit ?_ | refine .ret ?_
            | refine .ct ?_ | refine .cf ?_ | refine .cy ?_ | refine .cn ?_ | (refine .cond rfl ?_ ?_ <;> intro hc)
            | refine A.nil_seq ?_ | refine .nl ?_ | refine .dd ?_ | refine .ys ?_ | refine .no ?_ | (refine A.guard rfl ?_ ?_ <;> intro hc)
            | refine .lb ?_ | refine .ln ?_ | refine .ls ?_ | refine .pv ?_ | refine .ix ?_ | refine .pt ?_ | refine .pf ?_ | refine .bx ?_ | refine .al ?_ | refine .st ?_ | refine .ad ?_ | refine .sb ?_ | refine .mf ?_ | refine .cl ?_ | refine .cw ?_ | refine .ck ?_ | fail
          exact ⟨h1, ⟨rfl, by rw [htk]; rfl, rfl, rfl, trivial⟩, by simp [-List.map_take, belowS, AV.low], rfl, by rw [htk]; rfl, trivial⟩
        · rw [decide_eq_false c3] at hhs
          rw [addNew, if_neg c3] at htk
          repeat' first
            | refine .seq ?_ | refine .rg ?_ | refine .rd ?_ | refine .block ?_ | refine .scope ?_ | refine .skip ?_ | refine .label ?_ | refine .exit ?_ | refine .ret ?_
            | refine .ct ?_ | refine .cf ?_ | refine .cy ?_ | refine .cn ?_ | (refine .cond rfl ?_ ?_ <;> intro hc)
            | refine A.nil_seq ?_ | refine .nl ?_ | refine .dd ?_ | refine .ys ?_ | refine .no ?_ | (refine A.guard rfl ?_ ?_ <;> intro hc)
            | refine .lb ?_ | refine .ln ?_ | refine .ls ?_ | refine .pv ?_ | refine .ix ?_ | refine .pt ?_ | refine .pf ?_ | refine .bx ?_ | refine .al ?_ | refine .st ?_ | refine .ad ?_ | refine .sb ?_ | refine .mf ?_ | refine .cl ?_ | refine .cw ?_ | refine .ck ?_
            | refine A.append (n := acc.length) rfl rfl rfl rfl rfl rfl rfl rfl (List.length_map ..) rfl (by dsimp only [List.length_cons, List.length_nil]; omega) (by dsimp only [List.length_cons, List.length_nil]; omega) rfl ?_ | fail
          exact ⟨h1, ⟨rfl, by rw [htk, List.map_append]; rfl, rfl, rfl, trivial⟩, by simp [-List.map_take, belowS, AV.low], rfl, by rw [htk, List.length_append]; rfl, trivial⟩
      · have d1 : decide ((k : Int) < (sp.length : Int)) = false := by simp; omega
        obtain rfl : k = sp.length := by omega
        rw [List.take_length]
        repeat' first
          | refine .seq ?_ | refine .rg ?_ | refine .rd ?_ | refine .block ?_ | refine .scope ?_ | refine .skip ?_ | refine .label ?_ | refine .exit ?_ | refine .ret ?_
          | refine .ct ?_ | refine .cf ?_ | refine .cy ?_ | refine .cn ?_ | (refine .cond rfl ?_ ?_ <;> intro hc)
          | refine A.nil_seq ?_ | refine .nl ?_ | refine .dd ?_ | refine .ys ?_ | refine .no ?_ | (refine A.guard rfl ?_ ?_ <;> intro hc)
          | refine .lb ?_ | refine .ln ?_ | refine .ls ?_ | refine .pv ?_ | refine .ix ?_ | refine .pt ?_ | refine .pf ?_ | refine .bx ?_ | refine .al ?_ | refine .st ?_ | refine .ad ?_ | refine .sb ?_ | refine .mf ?_ | refine .cl ?_ | refine .cw ?_ | refine .ck ?_ | fail
        exact Fin.ret1 rfl (Weak.refl _)
end Go.Proofs.YtijlmchfepjjkaaDoor
