/-
  Contracts and plain facts for a law, joined.
-/
import Derived.Test.YtegakkonlhmeaaaGreatDoorGSB5
import Derived.Test.YtegakkonlhmeaaaGreatDoorGSB8
import Derived.Test.YtegakkonlhmeaaaGreatDoorGSB13
import Derived.Test.YtegakkonlhmeaaaGreatDoorGSB7
set_option maxRecDepth 100000
set_option maxHeartbeats 16000000
set_option linter.unusedVariables false
set_option linter.unusedSimpArgs false
set_option linter.unusedSectionVars false
namespace Go.Proofs.YtegakkonlhmeaaaGreatDoor
open Go Go.Av
attribute [local irreducible] HCode AOps PFn AFn Av.Step TStep
theorem Fin.ret2B {t1 t2 : Nat} {s : Slots} {v1 v2 r : AV} (h1 : lk? s t1 = some v1) (h2 : lk? s t2 = some v2) (hw : Weak (.tup [v1, v2]) r) : ∃ v', AEnd.ret (resAV s [t1, t2]) = .ret v' ∧ Weak v' r :=
  ⟨_, rfl, by rw [show resAV s [t1, t2] = .tup [v1, v2] by unfold resAV; simp only [List.map_cons, List.map_nil, lk_of h1, lk_of h2]]; exact hw⟩
def textsR (l : List Mem) (ns : List Str) : List Str × Bool := match textsO l ns with
  | some xs => (xs, true)
  | none => ([], false)
def txt (l : List Mem) (n : Str) : Str := (getG n l).1.s
def okTxt (l : List Mem) (n : Str) : Bool := (getG n l).2 && ((getG n l).1.kind == 4 && (getG n l).1.s != [])
theorem textsF_spec (l : List Mem) : ∀ ns : List Str, textsF l ns = if ns.all (okTxt l) = true then some (ns.map (txt l)) else none
  | [] => rfl
  | n :: ns => by
    rw [textsF, textsF_spec l ns, List.all_cons, List.map_cons]
    have e : okTxt l n = true ↔ (getG n l).2 = true ∧ (getG n l).1.kind = 4 ∧ (getG n l).1.s ≠ [] := by
      unfold okTxt
      simp [bne_iff_ne]
    by_cases c : okTxt l n = true
    · rw [if_pos (e.1 c), c, Bool.true_and]
      split <;> rfl
    · rw [if_neg (fun x => c (e.2 x))]
      rw [if_neg (by rw [Bool.and_eq_true]; exact fun x => c x.1)]
theorem bTexts (l : List Mem) (ns : List Str) (hl : l.length ≤ 68719476736) (hn : ns ≠ []) (hnl : ns.length ≤ 4) : PFn Tryz.prog 109 [.slice (l.map Mem.enc) .no, .slice (ns.map AV.str) .no] (.tup [.slice ((textsR l ns).1.map AV.str) .no, .bool (textsR l ns).2]) := by
  have hlm : (l.map Mem.enc).length = l.length := List.length_map ..
  have hnm : (ns.map AV.str).length = ns.length := List.length_map ..
  refine AFn.plain (by simp [AV.closed, AV.closedL, str_closedL]) (by simp [AV.closed, AV.closedL, Mem.closedL, str_closedL]) (AFn.enter [4, 5] Tryz.func109 rfl rfl rfl rfl rfl (by decide) ?_)
  unfold textsR textsO
  by_cases c : l.length = ns.length
  case neg =>
    have e1 : ((l.length : Int) != (ns.length : Int)) = true := by rw [bne_iff_ne]; omega
    rw [if_neg c]
    repeat' first | refine .seq ?_ | refine .rg ?_ | refine .rd ?_ | refine .block ?_ | refine .scope ?_ | refine .skip ?_ | refine .label ?_ | refine .exit ?_ | refine .ret ?_ | refine .ct ?_ | refine .cf ?_ | refine .cy ?_ | refine .cn ?_ | (refine .cond rfl ?_ ?_ <;> intro hc) | refine A.nil_seq ?_ | refine .nl ?_ | refine .dd ?_ | refine .ys ?_ | refine .no ?_ | (refine A.guard rfl ?_ ?_ <;> intro hc) | refine .lb ?_ | refine .ln ?_ | refine .ls ?_ | refine .pv ?_ | refine .ix ?_ | refine .pt ?_ | refine .pf ?_ | refine .bx ?_ | refine .al ?_ | refine .st ?_ | refine .ad ?_ | refine .sb ?_ | refine .mf ?_ | refine .cl ?_ | refine .cw ?_ | refine .ck ?_ | fail
    exact Fin.ret2B rfl rfl (Weak.tup (WeakL.cons (Weak.no (WeakL.refl _)) (WeakL.refl _)))
  have e1 : ((l.length : Int) != (ns.length : Int)) = false := by rw [c]; simp
  rw [if_pos c, textsF_spec]
  repeat' first | refine .seq ?_ | refine .rg ?_ | refine .rd ?_ | refine .block ?_ | refine .scope ?_ | refine .skip ?_ | refine .label ?_ | refine .exit ?_ | refine .ret ?_ | refine .ct ?_ | refine .cf ?_ | refine .cy ?_ | refine .cn ?_ | (refine .cond rfl ?_ ?_ <;> intro hc) | refine A.nil_seq ?_ | refine .nl ?_ | refine .dd ?_ | refine .ys ?_ | refine .no ?_ | (refine A.guard rfl ?_ ?_ <;> intro hc) | refine .lb ?_ | refine .ln ?_ | refine .ls ?_ | refine .pv ?_ | refine .ix ?_ | refine .pt ?_ | refine .pf ?_ | refine .bx ?_ | refine .al ?_ | refine .st ?_ | refine .ad ?_ | refine .sb ?_ | refine .mf ?_ | refine .cl ?_ | refine .cw ?_ | refine .ck ?_ | fail
  refine HCode.adopt 6 false 1 rfl rfl rfl rfl rfl rfl ?_
  refine HCode.forK ns.length (fun k => [(18, .int .i64 k), (17, .int .i64 ns.length), (16, .slice (ns.map AV.str) .no), (0, .slice (l.map Mem.enc) .no), (1, .slice (ns.map AV.str) .no), (6, .slice (((ns.take k).map (txt l)).map AV.str) (.own 0 1))])
    (fun k => ⟨[], [.len k]⟩) (fun k => (ns.take k).all (okTxt l) = true) ⟨rfl, rfl, rfl, rfl, rfl, rfl, trivial⟩ rfl (by simp) fun k hk hj => ?_
  have htl : (((ns.take k).map (txt l)).map AV.str).length = k := by simp; omega
  by_cases h1 : k < ns.length
  · have d1 : decide ((k : Int) < (ns.length : Int)) = true := by simp [h1]
    have x1 := map_get' (f := AV.str) h1
    have hg := get ns[k] l (by omega)
    have hnx := all_next (p := okTxt l) h1 hj
    have hsp := all_stop (p := okTxt l) h1
    have d9 : ((([] : List AV).length : Int) == (ns.length : Int)) = false := by
      rw [beq_eq_false_iff_ne]
      have := List.length_pos_iff.2 hn
      simp only [List.length_nil]; omega
    have htx : txt l ns[k] = (getG ns[k] l).1.s := rfl
    unfold okTxt at hnx hsp
    cases a1 : (getG ns[k] l).2 <;> rw [a1] at hg hnx hsp
    · have ha : ns.all (okTxt l) = false := hsp rfl
      rw [ha]
      repeat' first | refine .seq ?_ | refine .rg ?_ | refine .rd ?_ | refine .block ?_ | refine .scope ?_ | refine .skip ?_ | refine .label ?_ | refine .exit ?_ | refine .ret ?_ | refine .ct ?_ | refine .cf ?_ | refine .cy ?_ | refine .cn ?_ | (refine .cond rfl ?_ ?_ <;> intro hc) | refine A.nil_seq ?_ | refine .nl ?_ | refine .dd ?_ | refine .ys ?_ | refine .no ?_ | (refine A.guard rfl ?_ ?_ <;> intro hc) | refine .lb ?_ | refine .ln ?_ | refine .ls ?_ | refine .pv ?_ | refine .ix ?_ | refine .pt ?_ | refine .pf ?_ | refine .bx ?_ | refine .al ?_ | refine .st ?_ | refine .ad ?_ | refine .sb ?_ | refine .mf ?_ | refine .cl ?_ | refine .cw ?_ | refine .ck ?_ | fail
      exact Fin.ret2B rfl rfl (Weak.tup (WeakL.cons (Weak.no (WeakL.refl _)) (WeakL.cons (Weak.eq (congrArg AV.bool d9)) (WeakL.refl _))))
    cases a2 : ((getG ns[k] l).1.kind == 4) <;> rw [a2] at hnx hsp
    · have ha : ns.all (okTxt l) = false := hsp rfl
      have a2' : ((getG ns[k] l).1.kind != 4) = true := by unfold bne; rw [a2]; rfl
      rw [ha]
      repeat' first | refine .seq ?_ | refine .rg ?_ | refine .rd ?_ | refine .block ?_ | refine .scope ?_ | refine .skip ?_ | refine .label ?_ | refine .exit ?_ | refine .ret ?_ | refine .ct ?_ | refine .cf ?_ | refine .cy ?_ | refine .cn ?_ | (refine .cond rfl ?_ ?_ <;> intro hc) | refine A.nil_seq ?_ | refine .nl ?_ | refine .dd ?_ | refine .ys ?_ | refine .no ?_ | (refine A.guard rfl ?_ ?_ <;> intro hc) | refine .lb ?_ | refine .ln ?_ | refine .ls ?_ | refine .pv ?_ | refine .ix ?_ | refine .pt ?_ | refine .pf ?_ | refine .bx ?_ | refine .al ?_ | refine .st ?_ | refine .ad ?_ | refine .sb ?_ | refine .mf ?_ | refine .cl ?_ | refine .cw ?_ | refine .ck ?_ | fail
      exact Fin.ret2B rfl rfl (Weak.tup (WeakL.cons (Weak.no (WeakL.refl _)) (WeakL.cons (Weak.eq (congrArg AV.bool d9)) (WeakL.refl _))))
    have a2' : ((getG ns[k] l).1.kind != 4) = false := by unfold bne; rw [a2]; rfl
    cases a3 : ((getG ns[k] l).1.s == [])
    · have a3' : ((getG ns[k] l).1.s != []) = true := by unfold bne; rw [a3]; rfl
      rw [a3'] at hnx
      have hj' := hnx rfl
      repeat' first | refine .seq ?_ | refine .rg ?_ | refine .rd ?_ | refine .block ?_ | refine .scope ?_ | refine .skip ?_ | refine .label ?_ | refine .exit ?_ | refine .ret ?_ | refine .ct ?_ | refine .cf ?_ | refine .cy ?_ | refine .cn ?_ | (refine .cond rfl ?_ ?_ <;> intro hc) | refine A.nil_seq ?_ | refine .nl ?_ | refine .dd ?_ | refine .ys ?_ | refine .no ?_ | (refine A.guard rfl ?_ ?_ <;> intro hc) | refine .lb ?_ | refine .ln ?_ | refine .ls ?_ | refine .pv ?_ | refine .ix ?_ | refine .pt ?_ | refine .pf ?_ | refine .bx ?_ | refine .al ?_ | refine .st ?_ | refine .ad ?_ | refine .sb ?_ | refine .mf ?_ | refine .cl ?_ | refine .cw ?_ | refine .ck ?_ | refine A.append (n := k) rfl rfl rfl rfl rfl rfl rfl rfl htl rfl (by dsimp only [List.length_cons, List.length_nil]; omega) (by dsimp only [List.length_cons, List.length_nil]; omega) rfl ?_ | fail
      exact ⟨h1, ⟨rfl, rfl, rfl, rfl, rfl, by rw [List.take_succ_eq_append_getElem h1, List.map_append, List.map_append]; rfl, trivial⟩, by simp [-List.map_take, -List.map_map, belowS, AV.low, AV.lowL], by simp [belowB, belowT, Ob.low, Tok.low], rfl, hj'⟩
    · have a3' : ((getG ns[k] l).1.s != []) = false := by unfold bne; rw [a3]; rfl
      rw [a3'] at hsp
      have ha : ns.all (okTxt l) = false := hsp rfl
      rw [ha]
      repeat' first | refine .seq ?_ | refine .rg ?_ | refine .rd ?_ | refine .block ?_ | refine .scope ?_ | refine .skip ?_ | refine .label ?_ | refine .exit ?_ | refine .ret ?_ | refine .ct ?_ | refine .cf ?_ | refine .cy ?_ | refine .cn ?_ | (refine .cond rfl ?_ ?_ <;> intro hc) | refine A.nil_seq ?_ | refine .nl ?_ | refine .dd ?_ | refine .ys ?_ | refine .no ?_ | (refine A.guard rfl ?_ ?_ <;> intro hc) | refine .lb ?_ | refine .ln ?_ | refine .ls ?_ | refine .pv ?_ | refine .ix ?_ | refine .pt ?_ | refine .pf ?_ | refine .bx ?_ | refine .al ?_ | refine .st ?_ | refine .ad ?_ | refine .sb ?_ | refine .mf ?_ | refine .cl ?_ | refine .cw ?_ | refine .ck ?_ | fail
      exact Fin.ret2B rfl rfl (Weak.tup (WeakL.cons (Weak.no (WeakL.refl _)) (WeakL.cons (Weak.eq (congrArg AV.bool d9)) (WeakL.refl _))))
  · have d1 : decide ((k : Int) < (ns.length : Int)) = false := by simp; omega
    obtain rfl : k = ns.length := by omega
    rw [List.take_length] at hj htl
    rw [List.take_length, hj]
    have d9 : (((ns.map (txt l)).length : Int) == (ns.length : Int)) = true := by rw [List.length_map]; simp
    repeat' first | refine .seq ?_ | refine .rg ?_ | refine .rd ?_ | refine .block ?_ | refine .scope ?_ | refine .skip ?_ | refine .label ?_ | refine .exit ?_ | refine .ret ?_ | refine .ct ?_ | refine .cf ?_ | refine .cy ?_ | refine .cn ?_ | (refine .cond rfl ?_ ?_ <;> intro hc) | refine A.nil_seq ?_ | refine .nl ?_ | refine .dd ?_ | refine .ys ?_ | refine .no ?_ | (refine A.guard rfl ?_ ?_ <;> intro hc) | refine .lb ?_ | refine .ln ?_ | refine .ls ?_ | refine .pv ?_ | refine .ix ?_ | refine .pt ?_ | refine .pf ?_ | refine .bx ?_ | refine .al ?_ | refine .st ?_ | refine .ad ?_ | refine .sb ?_ | refine .mf ?_ | refine .cl ?_ | refine .cw ?_ | refine .ck ?_ | fail
    refine Fin.ret2B rfl rfl (Weak.tup (WeakL.cons (Weak.no (WeakL.refl _)) (WeakL.cons (Weak.eq (congrArg AV.bool ?_)) (WeakL.refl _))))
    exact d9
theorem bGet (f : Fld) (table arg : Str) (hf : f.size ≤ 68719476736) : PFn Tryz.prog 110 [f.enc, .str table, .str arg] (.tup [(getB f table arg).1.enc, .bool (getB f table arg).2]) := by
  have hp := lParam f.params arg (by have := sumSize_length Par.size_pos f.params; have := f.sums; omega)
  refine AFn.plain (by simp [AV.closed, AV.closedL, Bnd.closed]) (by simp [AV.closed, AV.closedL, Fld.closed]) (AFn.enterR [.cell 6 57, .tmp 7] Tryz.func110 rfl rfl rfl rfl rfl ?_)
  unfold parR at hp
  unfold getB
  cases e : parO f.params arg with
  | none =>
    rw [e] at hp
    repeat' first | refine .br ?_ | refine .seq ?_ | refine .rg ?_ | refine .rd ?_ | refine .block ?_ | refine .scope ?_ | refine .skip ?_ | refine .label ?_ | refine .exit ?_ | refine .ret ?_ | refine .ct ?_ | refine .cf ?_ | refine .cy ?_ | refine .cn ?_ | (refine .cond rfl ?_ ?_ <;> intro hc) | refine A.nil_seq ?_ | refine .nl ?_ | refine .dd ?_ | refine .ys ?_ | refine .no ?_ | (refine A.guard rfl ?_ ?_ <;> intro hc) | refine .lb ?_ | refine .ln ?_ | refine .ls ?_ | refine .pv ?_ | refine .ix ?_ | refine .pt ?_ | refine .pf ?_ | refine .bx ?_ | refine .al ?_ | refine .st ?_ | refine .ad ?_ | refine .sb ?_ | refine .mf ?_ | refine .cl ?_ | refine .cw ?_ | refine .ck ?_ | fail
    exact FinR.ret1 rfl (Weak.refl _)
  | some p =>
    rw [e] at hp
    dsimp only at hp ⊢
    have i1 : (p.t.name != [73, 68]) = !decide (p.t.name = sID) := by unfold bne sID; rw [Bool.eq_iff_iff]; simp
    have i2 : (p.t.name != [83, 116, 114, 105, 110, 103]) = !decide (p.t.name = sString) := by unfold bne sString; rw [Bool.eq_iff_iff]; simp
    have i3 : (p.t.lists != f.t.lists) = !decide (p.t.lists = f.t.lists) := by unfold bne; rw [Bool.eq_iff_iff]; simp
    by_cases c1 : p.t.name = sID
    · rw [decide_eq_true c1] at i1
      by_cases c3 : p.t.lists = f.t.lists
      · rw [decide_eq_true c3] at i3
        rw [if_pos ⟨.inl c1, c3⟩]
        repeat' first | refine .br ?_ | refine .seq ?_ | refine .rg ?_ | refine .rd ?_ | refine .block ?_ | refine .scope ?_ | refine .skip ?_ | refine .label ?_ | refine .exit ?_ | refine .ret ?_ | refine .ct ?_ | refine .cf ?_ | refine .cy ?_ | refine .cn ?_ | (refine .cond rfl ?_ ?_ <;> intro hc) | refine A.nil_seq ?_ | refine .nl ?_ | refine .dd ?_ | refine .ys ?_ | refine .no ?_ | (refine A.guard rfl ?_ ?_ <;> intro hc) | refine .lb ?_ | refine .ln ?_ | refine .ls ?_ | refine .pv ?_ | refine .ix ?_ | refine .pt ?_ | refine .pf ?_ | refine .bx ?_ | refine .al ?_ | refine .st ?_ | refine .ad ?_ | refine .sb ?_ | refine .mf ?_ | refine .cl ?_ | refine .cw ?_ | refine .ck ?_ | fail
        exact FinR.ret1 rfl (Weak.refl _)
      · rw [decide_eq_false c3] at i3
        rw [if_neg (fun x => c3 x.2)]
        repeat' first | refine .br ?_ | refine .seq ?_ | refine .rg ?_ | refine .rd ?_ | refine .block ?_ | refine .scope ?_ | refine .skip ?_ | refine .label ?_ | refine .exit ?_ | refine .ret ?_ | refine .ct ?_ | refine .cf ?_ | refine .cy ?_ | refine .cn ?_ | (refine .cond rfl ?_ ?_ <;> intro hc) | refine A.nil_seq ?_ | refine .nl ?_ | refine .dd ?_ | refine .ys ?_ | refine .no ?_ | (refine A.guard rfl ?_ ?_ <;> intro hc) | refine .lb ?_ | refine .ln ?_ | refine .ls ?_ | refine .pv ?_ | refine .ix ?_ | refine .pt ?_ | refine .pf ?_ | refine .bx ?_ | refine .al ?_ | refine .st ?_ | refine .ad ?_ | refine .sb ?_ | refine .mf ?_ | refine .cl ?_ | refine .cw ?_ | refine .ck ?_ | fail
        exact FinR.ret1 rfl (Weak.refl _)
    · rw [decide_eq_false c1] at i1
      by_cases c2 : p.t.name = sString
      · rw [decide_eq_true c2] at i2
        by_cases c3 : p.t.lists = f.t.lists
        · rw [decide_eq_true c3] at i3
          rw [if_pos ⟨.inr c2, c3⟩]
          repeat' first | refine .br ?_ | refine .seq ?_ | refine .rg ?_ | refine .rd ?_ | refine .block ?_ | refine .scope ?_ | refine .skip ?_ | refine .label ?_ | refine .exit ?_ | refine .ret ?_ | refine .ct ?_ | refine .cf ?_ | refine .cy ?_ | refine .cn ?_ | (refine .cond rfl ?_ ?_ <;> intro hc) | refine A.nil_seq ?_ | refine .nl ?_ | refine .dd ?_ | refine .ys ?_ | refine .no ?_ | (refine A.guard rfl ?_ ?_ <;> intro hc) | refine .lb ?_ | refine .ln ?_ | refine .ls ?_ | refine .pv ?_ | refine .ix ?_ | refine .pt ?_ | refine .pf ?_ | refine .bx ?_ | refine .al ?_ | refine .st ?_ | refine .ad ?_ | refine .sb ?_ | refine .mf ?_ | refine .cl ?_ | refine .cw ?_ | refine .ck ?_ | fail
          exact FinR.ret1 rfl (Weak.refl _)
        · rw [decide_eq_false c3] at i3
          rw [if_neg (fun x => c3 x.2)]
          repeat' first | refine .br ?_ | refine .seq ?_ | refine .rg ?_ | refine .rd ?_ | refine .block ?_ | refine .scope ?_ | refine .skip ?_ | refine .label ?_ | refine .exit ?_ | refine .ret ?_ | refine .ct ?_ | refine .cf ?_ | refine .cy ?_ | refine .cn ?_ | (refine .cond rfl ?_ ?_ <;> intro hc) | refine A.nil_seq ?_ | refine .nl ?_ | refine .dd ?_ | refine .ys ?_ | refine .no ?_ | (refine A.guard rfl ?_ ?_ <;> intro hc) | refine .lb ?_ | refine .ln ?_ | refine .ls ?_ | refine .pv ?_ | refine .ix ?_ | refine .pt ?_ | refine .pf ?_ | refine .bx ?_ | refine .al ?_ | refine .st ?_ | refine .ad ?_ | refine .sb ?_ | refine .mf ?_ | refine .cl ?_ | refine .cw ?_ | refine .ck ?_ | fail
          exact FinR.ret1 rfl (Weak.refl _)
      · rw [decide_eq_false c2] at i2
        rw [if_neg (fun x => x.1.elim c1 c2)]
        repeat' first | refine .br ?_ | refine .seq ?_ | refine .rg ?_ | refine .rd ?_ | refine .block ?_ | refine .scope ?_ | refine .skip ?_ | refine .label ?_ | refine .exit ?_ | refine .ret ?_ | refine .ct ?_ | refine .cf ?_ | refine .cy ?_ | refine .cn ?_ | (refine .cond rfl ?_ ?_ <;> intro hc) | refine A.nil_seq ?_ | refine .nl ?_ | refine .dd ?_ | refine .ys ?_ | refine .no ?_ | (refine A.guard rfl ?_ ?_ <;> intro hc) | refine .lb ?_ | refine .ln ?_ | refine .ls ?_ | refine .pv ?_ | refine .ix ?_ | refine .pt ?_ | refine .pf ?_ | refine .bx ?_ | refine .al ?_ | refine .st ?_ | refine .ad ?_ | refine .sb ?_ | refine .mf ?_ | refine .cl ?_ | refine .cw ?_ | refine .ck ?_ | fail
        exact FinR.ret1 rfl (Weak.refl _)
theorem weak_fullS {x : AV} {xs : List AV} {t : Tk} : WeakL [x, .slice xs t] [x, .slice xs .no] := WeakL.cons (Weak.refl _) (WeakL.cons (Weak.no (WeakL.refl _)) (WeakL.refl _))
theorem bDo (l : List Mem) (hl : l.length ≤ 68719476736) : PFn Tryz.prog 111 [.slice (l.map Mem.enc) .no] (.tup [(doB l).1.enc, .bool (doB l).2]) := by
  have h3 := bTexts l [sCmd, sTable, sCol] hl (by simp) (by decide)
  have h2 := bTexts l [sCmd, sTable] hl (by simp) (by decide)
  refine AFn.plain (by simp [AV.closed, AV.closedL, Bnd.closed]) (by simp [AV.closed, AV.closedL, Mem.closedL]) (AFn.enterR [.cell 2 57, .tmp 3] Tryz.func111 rfl rfl rfl rfl rfl ?_)
  unfold textsR at h3 h2
  unfold doB
  cases e3 : textsO l [sCmd, sTable, sCol] with
  | some xs =>
    obtain ⟨a, b, c, rfl, _⟩ := textsO_three e3
    rw [e3] at h3
    dsimp only at h3
    have x0 : ([a, b, c].map AV.str)[0]? = some (AV.str a) := rfl
    have x1 : ([a, b, c].map AV.str)[1]? = some (AV.str b) := rfl
    have x2 : ([a, b, c].map AV.str)[2]? = some (AV.str c) := rfl
    repeat' first | refine .br ?_ | refine .seq ?_ | refine .rg ?_ | refine .rd ?_ | refine .block ?_ | refine .scope ?_ | refine .skip ?_ | refine .label ?_ | refine .exit ?_ | refine .ret ?_ | refine .ct ?_ | refine .cf ?_ | refine .cy ?_ | refine .cn ?_ | (refine .cond rfl ?_ ?_ <;> intro hc) | refine A.nil_seq ?_ | refine .nl ?_ | refine .dd ?_ | refine .ys ?_ | refine .no ?_ | (refine A.guard rfl ?_ ?_ <;> intro hc) | refine .lb ?_ | refine .ln ?_ | refine .ls ?_ | refine .pv ?_ | refine .ix ?_ | refine .pt ?_ | refine .pf ?_ | refine .bx ?_ | refine .al ?_ | refine .st ?_ | refine .ad ?_ | refine .sb ?_ | refine .mf ?_ | refine .cl ?_ | refine .cw ?_ | refine .ck ?_ | refine A.call rfl h3 weak_fullS ?_ | fail
    exact FinR.ret1 rfl (Weak.refl _)
  | none =>
    rw [e3] at h3
    dsimp only at h3
    cases e2 : textsO l [sCmd, sTable] with
    | some xs =>
      obtain ⟨a, b, rfl, _⟩ := textsO_two e2
      rw [e2] at h2
      dsimp only at h2
      have x0 : ([a, b].map AV.str)[0]? = some (AV.str a) := rfl
      have x1 : ([a, b].map AV.str)[1]? = some (AV.str b) := rfl
      have i1 : (a == [112, 117, 116]) = (a == sPut) := rfl
      have i2 : (a == [99, 117, 116]) = (a == sCut) := rfl
      have i3 : (a == [98, 117, 114, 110]) = (a == sBurn) := rfl
      dsimp only
      cases c1 : (a == sPut) <;> rw [c1] at i1
      · cases c2 : (a == sCut) <;> rw [c2] at i2
        · cases c3 : (a == sBurn) <;> rw [c3] at i3
          all_goals
            repeat' first | refine .br ?_ | refine .seq ?_ | refine .rg ?_ | refine .rd ?_ | refine .block ?_ | refine .scope ?_ | refine .skip ?_ | refine .label ?_ | refine .exit ?_ | refine .ret ?_ | refine .ct ?_ | refine .cf ?_ | refine .cy ?_ | refine .cn ?_ | (refine .cond rfl ?_ ?_ <;> intro hc) | refine A.nil_seq ?_ | refine .nl ?_ | refine .dd ?_ | refine .ys ?_ | refine .no ?_ | (refine A.guard rfl ?_ ?_ <;> intro hc) | refine .lb ?_ | refine .ln ?_ | refine .ls ?_ | refine .pv ?_ | refine .ix ?_ | refine .pt ?_ | refine .pf ?_ | refine .bx ?_ | refine .al ?_ | refine .st ?_ | refine .ad ?_ | refine .sb ?_ | refine .mf ?_ | refine .cl ?_ | refine .cw ?_ | refine .ck ?_ | refine A.call rfl h3 weak_fullS ?_ | refine A.call rfl h2 weak_fullS ?_ | fail
            exact FinR.ret1 rfl (Weak.tup (WeakL.cons (Weak.refl _) (WeakL.cons (Weak.eq (congrArg AV.bool i3)) (WeakL.refl _))))
        · repeat' first | refine .br ?_ | refine .seq ?_ | refine .rg ?_ | refine .rd ?_ | refine .block ?_ | refine .scope ?_ | refine .skip ?_ | refine .label ?_ | refine .exit ?_ | refine .ret ?_ | refine .ct ?_ | refine .cf ?_ | refine .cy ?_ | refine .cn ?_ | (refine .cond rfl ?_ ?_ <;> intro hc) | refine A.nil_seq ?_ | refine .nl ?_ | refine .dd ?_ | refine .ys ?_ | refine .no ?_ | (refine A.guard rfl ?_ ?_ <;> intro hc) | refine .lb ?_ | refine .ln ?_ | refine .ls ?_ | refine .pv ?_ | refine .ix ?_ | refine .pt ?_ | refine .pf ?_ | refine .bx ?_ | refine .al ?_ | refine .st ?_ | refine .ad ?_ | refine .sb ?_ | refine .mf ?_ | refine .cl ?_ | refine .cw ?_ | refine .ck ?_ | refine A.call rfl h3 weak_fullS ?_ | refine A.call rfl h2 weak_fullS ?_ | fail
          exact FinR.ret1 rfl (Weak.refl _)
      · repeat' first | refine .br ?_ | refine .seq ?_ | refine .rg ?_ | refine .rd ?_ | refine .block ?_ | refine .scope ?_ | refine .skip ?_ | refine .label ?_ | refine .exit ?_ | refine .ret ?_ | refine .ct ?_ | refine .cf ?_ | refine .cy ?_ | refine .cn ?_ | (refine .cond rfl ?_ ?_ <;> intro hc) | refine A.nil_seq ?_ | refine .nl ?_ | refine .dd ?_ | refine .ys ?_ | refine .no ?_ | (refine A.guard rfl ?_ ?_ <;> intro hc) | refine .lb ?_ | refine .ln ?_ | refine .ls ?_ | refine .pv ?_ | refine .ix ?_ | refine .pt ?_ | refine .pf ?_ | refine .bx ?_ | refine .al ?_ | refine .st ?_ | refine .ad ?_ | refine .sb ?_ | refine .mf ?_ | refine .cl ?_ | refine .cw ?_ | refine .ck ?_ | refine A.call rfl h3 weak_fullS ?_ | refine A.call rfl h2 weak_fullS ?_ | fail
        exact FinR.ret1 rfl (Weak.refl _)
    | none =>
      rw [e2] at h2
      dsimp only at h2
      repeat' first | refine .br ?_ | refine .seq ?_ | refine .rg ?_ | refine .rd ?_ | refine .block ?_ | refine .scope ?_ | refine .skip ?_ | refine .label ?_ | refine .exit ?_ | refine .ret ?_ | refine .ct ?_ | refine .cf ?_ | refine .cy ?_ | refine .cn ?_ | (refine .cond rfl ?_ ?_ <;> intro hc) | refine A.nil_seq ?_ | refine .nl ?_ | refine .dd ?_ | refine .ys ?_ | refine .no ?_ | (refine A.guard rfl ?_ ?_ <;> intro hc) | refine .lb ?_ | refine .ln ?_ | refine .ls ?_ | refine .pv ?_ | refine .ix ?_ | refine .pt ?_ | refine .pf ?_ | refine .bx ?_ | refine .al ?_ | refine .st ?_ | refine .ad ?_ | refine .sb ?_ | refine .mf ?_ | refine .cl ?_ | refine .cw ?_ | refine .ck ?_ | refine A.call rfl h3 weak_fullS ?_ | refine A.call rfl h2 weak_fullS ?_ | fail
      exact FinR.ret1 rfl (Weak.refl _)
theorem bSaid (f : Fld) (hf : f.size ≤ 68719476736) : PFn Tryz.prog 65 [f.enc] (.tup [(saidB f).1.enc, .bool (saidB f).2]) := by
  have hsm := f.sums
  have hdl := sumSize_length Dirc.size_pos f.dirs
  refine AFn.plain (by simp [AV.closed, AV.closedL, Bnd.closed]) (by simp [AV.closed, AV.closedL, Fld.closed]) (AFn.enterR [.cell 2 57, .tmp 3] Tryz.func65 rfl rfl rfl rfl rfl ?_)
  unfold saidB
  match hd : f.dirs with
  | [] =>
    have e1 : ((f.dirs.length : Int) == 0) = true := by rw [hd]; rfl
    repeat' first | refine .br ?_ | refine .seq ?_ | refine .rg ?_ | refine .rd ?_ | refine .block ?_ | refine .scope ?_ | refine .skip ?_ | refine .label ?_ | refine .exit ?_ | refine .ret ?_ | refine .ct ?_ | refine .cf ?_ | refine .cy ?_ | refine .cn ?_ | (refine .cond rfl ?_ ?_ <;> intro hc) | refine A.nil_seq ?_ | refine .nl ?_ | refine .dd ?_ | refine .ys ?_ | refine .no ?_ | (refine A.guard rfl ?_ ?_ <;> intro hc) | refine .lb ?_ | refine .ln ?_ | refine .ls ?_ | refine .pv ?_ | refine .ix ?_ | refine .pt ?_ | refine .pf ?_ | refine .bx ?_ | refine .al ?_ | refine .st ?_ | refine .ad ?_ | refine .sb ?_ | refine .mf ?_ | refine .cl ?_ | refine .cw ?_ | refine .ck ?_ | fail
    exact FinR.ret1 rfl (Weak.refl _)
  | d :: d2 :: ds =>
    have e1 : ((f.dirs.length : Int) == 0) = false := by rw [hd, beq_eq_false_iff_ne]; simp; omega
    have e2 : decide ((1 : Int) < (f.dirs.length : Int)) = true := by rw [hd]; simp; omega
    have x1 : (f.dirs.map Dirc.enc)[0]? = some d.enc := by rw [hd]; rfl
    repeat' first | refine .br ?_ | refine .seq ?_ | refine .rg ?_ | refine .rd ?_ | refine .block ?_ | refine .scope ?_ | refine .skip ?_ | refine .label ?_ | refine .exit ?_ | refine .ret ?_ | refine .ct ?_ | refine .cf ?_ | refine .cy ?_ | refine .cn ?_ | (refine .cond rfl ?_ ?_ <;> intro hc) | refine A.nil_seq ?_ | refine .nl ?_ | refine .dd ?_ | refine .ys ?_ | refine .no ?_ | (refine A.guard rfl ?_ ?_ <;> intro hc) | refine .lb ?_ | refine .ln ?_ | refine .ls ?_ | refine .pv ?_ | refine .ix ?_ | refine .pt ?_ | refine .pf ?_ | refine .bx ?_ | refine .al ?_ | refine .st ?_ | refine .ad ?_ | refine .sb ?_ | refine .mf ?_ | refine .cl ?_ | refine .cw ?_ | refine .ck ?_ | fail
    exact FinR.ret1 rfl (Weak.refl _)
  | [d] =>
    have e1 : ((f.dirs.length : Int) == 0) = false := by rw [hd]; rfl
    have e2 : decide ((1 : Int) < (f.dirs.length : Int)) = false := by rw [hd]; rfl
    have x1 : (f.dirs.map Dirc.enc)[0]? = some d.enc := by rw [hd]; rfl
    have hdz : d.size ≤ f.size := by have := sumSize_mem (size := Dirc.size) (l := f.dirs) (x := d) (by rw [hd]; simp); omega
    have hal : d.args.length ≤ d.size := by
      have := sumSize_length Mem.size_pos d.args
      unfold Dirc.size; omega
    have h1 := bTexts d.args [sName] (by omega) (by simp) (by decide)
    have h2 := bTexts d.args [sTable, sCol] (by omega) (by simp) (by decide)
    have h3 := bTexts d.args [sTable, sArg] (by omega) (by simp) (by decide)
    have h4 := bDo d.args (by omega)
    unfold textsR at h1 h2 h3
    have i1 : (d.name == [99, 111, 108]) = decide (d.name = sCol) := by unfold sCol; rw [Bool.eq_iff_iff]; simp
    have i2 : (d.name == [108, 105, 110, 107]) = decide (d.name = sLink) := by unfold sLink; rw [Bool.eq_iff_iff]; simp
    have i3 : (d.name == [103, 101, 116]) = decide (d.name = sGet) := by unfold sGet; rw [Bool.eq_iff_iff]; simp
    have i4 : (d.name == [100, 111]) = decide (d.name = sDo) := by unfold sDo; rw [Bool.eq_iff_iff]; simp
    dsimp only
    unfold dirB
    by_cases c1 : d.name = sCol
    · rw [decide_eq_true c1] at i1
      rw [if_pos c1]
      cases e : textsO d.args [sName] with
      | none =>
        rw [e] at h1
        repeat' first | refine .br ?_ | refine .seq ?_ | refine .rg ?_ | refine .rd ?_ | refine .block ?_ | refine .scope ?_ | refine .skip ?_ | refine .label ?_ | refine .exit ?_ | refine .ret ?_ | refine .ct ?_ | refine .cf ?_ | refine .cy ?_ | refine .cn ?_ | (refine .cond rfl ?_ ?_ <;> intro hc) | refine A.nil_seq ?_ | refine .nl ?_ | refine .dd ?_ | refine .ys ?_ | refine .no ?_ | (refine A.guard rfl ?_ ?_ <;> intro hc) | refine .lb ?_ | refine .ln ?_ | refine .ls ?_ | refine .pv ?_ | refine .ix ?_ | refine .pt ?_ | refine .pf ?_ | refine .bx ?_ | refine .al ?_ | refine .st ?_ | refine .ad ?_ | refine .sb ?_ | refine .mf ?_ | refine .cl ?_ | refine .cw ?_ | refine .ck ?_ | refine A.call rfl h1 weak_fullS ?_ | fail
        exact FinR.ret1 rfl (Weak.refl _)
      | some xs =>
        obtain ⟨a, rfl, _⟩ := textsO_one e
        rw [e] at h1
        dsimp only at h1
        have y0 : ([a].map AV.str)[0]? = some (AV.str a) := rfl
        repeat' first | refine .br ?_ | refine .seq ?_ | refine .rg ?_ | refine .rd ?_ | refine .block ?_ | refine .scope ?_ | refine .skip ?_ | refine .label ?_ | refine .exit ?_ | refine .ret ?_ | refine .ct ?_ | refine .cf ?_ | refine .cy ?_ | refine .cn ?_ | (refine .cond rfl ?_ ?_ <;> intro hc) | refine A.nil_seq ?_ | refine .nl ?_ | refine .dd ?_ | refine .ys ?_ | refine .no ?_ | (refine A.guard rfl ?_ ?_ <;> intro hc) | refine .lb ?_ | refine .ln ?_ | refine .ls ?_ | refine .pv ?_ | refine .ix ?_ | refine .pt ?_ | refine .pf ?_ | refine .bx ?_ | refine .al ?_ | refine .st ?_ | refine .ad ?_ | refine .sb ?_ | refine .mf ?_ | refine .cl ?_ | refine .cw ?_ | refine .ck ?_ | refine A.call rfl h1 weak_fullS ?_ | fail
        exact FinR.ret1 rfl (Weak.refl _)
    rw [decide_eq_false c1] at i1
    rw [if_neg c1]
    by_cases c2 : d.name = sLink
    · rw [decide_eq_true c2] at i2
      rw [if_pos c2]
      cases e : textsO d.args [sTable, sCol] with
      | none =>
        rw [e] at h2
        repeat' first | refine .br ?_ | refine .seq ?_ | refine .rg ?_ | refine .rd ?_ | refine .block ?_ | refine .scope ?_ | refine .skip ?_ | refine .label ?_ | refine .exit ?_ | refine .ret ?_ | refine .ct ?_ | refine .cf ?_ | refine .cy ?_ | refine .cn ?_ | (refine .cond rfl ?_ ?_ <;> intro hc) | refine A.nil_seq ?_ | refine .nl ?_ | refine .dd ?_ | refine .ys ?_ | refine .no ?_ | (refine A.guard rfl ?_ ?_ <;> intro hc) | refine .lb ?_ | refine .ln ?_ | refine .ls ?_ | refine .pv ?_ | refine .ix ?_ | refine .pt ?_ | refine .pf ?_ | refine .bx ?_ | refine .al ?_ | refine .st ?_ | refine .ad ?_ | refine .sb ?_ | refine .mf ?_ | refine .cl ?_ | refine .cw ?_ | refine .ck ?_ | refine A.call rfl h2 weak_fullS ?_ | fail
        exact FinR.ret1 rfl (Weak.refl _)
      | some xs =>
        obtain ⟨a, b, rfl, _⟩ := textsO_two e
        rw [e] at h2
        dsimp only at h2
        have y0 : ([a, b].map AV.str)[0]? = some (AV.str a) := rfl
        have y1 : ([a, b].map AV.str)[1]? = some (AV.str b) := rfl
        repeat' first | refine .br ?_ | refine .seq ?_ | refine .rg ?_ | refine .rd ?_ | refine .block ?_ | refine .scope ?_ | refine .skip ?_ | refine .label ?_ | refine .exit ?_ | refine .ret ?_ | refine .ct ?_ | refine .cf ?_ | refine .cy ?_ | refine .cn ?_ | (refine .cond rfl ?_ ?_ <;> intro hc) | refine A.nil_seq ?_ | refine .nl ?_ | refine .dd ?_ | refine .ys ?_ | refine .no ?_ | (refine A.guard rfl ?_ ?_ <;> intro hc) | refine .lb ?_ | refine .ln ?_ | refine .ls ?_ | refine .pv ?_ | refine .ix ?_ | refine .pt ?_ | refine .pf ?_ | refine .bx ?_ | refine .al ?_ | refine .st ?_ | refine .ad ?_ | refine .sb ?_ | refine .mf ?_ | refine .cl ?_ | refine .cw ?_ | refine .ck ?_ | refine A.call rfl h2 weak_fullS ?_ | fail
        exact FinR.ret1 rfl (Weak.refl _)
    rw [decide_eq_false c2] at i2
    rw [if_neg c2]
    by_cases c3 : d.name = sGet
    · rw [decide_eq_true c3] at i3
      rw [if_pos c3]
      cases e : textsO d.args [sTable, sArg] with
      | none =>
        rw [e] at h3
        repeat' first | refine .br ?_ | refine .seq ?_ | refine .rg ?_ | refine .rd ?_ | refine .block ?_ | refine .scope ?_ | refine .skip ?_ | refine .label ?_ | refine .exit ?_ | refine .ret ?_ | refine .ct ?_ | refine .cf ?_ | refine .cy ?_ | refine .cn ?_ | (refine .cond rfl ?_ ?_ <;> intro hc) | refine A.nil_seq ?_ | refine .nl ?_ | refine .dd ?_ | refine .ys ?_ | refine .no ?_ | (refine A.guard rfl ?_ ?_ <;> intro hc) | refine .lb ?_ | refine .ln ?_ | refine .ls ?_ | refine .pv ?_ | refine .ix ?_ | refine .pt ?_ | refine .pf ?_ | refine .bx ?_ | refine .al ?_ | refine .st ?_ | refine .ad ?_ | refine .sb ?_ | refine .mf ?_ | refine .cl ?_ | refine .cw ?_ | refine .ck ?_ | refine A.call rfl h3 weak_fullS ?_ | fail
        exact FinR.ret1 rfl (Weak.refl _)
      | some xs =>
        obtain ⟨a, b, rfl, _⟩ := textsO_two e
        rw [e] at h3
        have y0 : ([a, b].map AV.str)[0]? = some (AV.str a) := rfl
        have y1 : ([a, b].map AV.str)[1]? = some (AV.str b) := rfl
        have h5 := bGet f a b hf
        dsimp only at h3 ⊢
        repeat' first | refine .br ?_ | refine .seq ?_ | refine .rg ?_ | refine .rd ?_ | refine .block ?_ | refine .scope ?_ | refine .skip ?_ | refine .label ?_ | refine .exit ?_ | refine .ret ?_ | refine .ct ?_ | refine .cf ?_ | refine .cy ?_ | refine .cn ?_ | (refine .cond rfl ?_ ?_ <;> intro hc) | refine A.nil_seq ?_ | refine .nl ?_ | refine .dd ?_ | refine .ys ?_ | refine .no ?_ | (refine A.guard rfl ?_ ?_ <;> intro hc) | refine .lb ?_ | refine .ln ?_ | refine .ls ?_ | refine .pv ?_ | refine .ix ?_ | refine .pt ?_ | refine .pf ?_ | refine .bx ?_ | refine .al ?_ | refine .st ?_ | refine .ad ?_ | refine .sb ?_ | refine .mf ?_ | refine .cl ?_ | refine .cw ?_ | refine .ck ?_ | refine A.call rfl h3 weak_fullS ?_ | fail
        exact FinR.ret1 rfl (Weak.refl _)
    rw [decide_eq_false c3] at i3
    rw [if_neg c3]
    by_cases c4 : d.name = sDo
    · rw [decide_eq_true c4] at i4
      rw [if_pos c4]
      repeat' first | refine .br ?_ | refine .seq ?_ | refine .rg ?_ | refine .rd ?_ | refine .block ?_ | refine .scope ?_ | refine .skip ?_ | refine .label ?_ | refine .exit ?_ | refine .ret ?_ | refine .ct ?_ | refine .cf ?_ | refine .cy ?_ | refine .cn ?_ | (refine .cond rfl ?_ ?_ <;> intro hc) | refine A.nil_seq ?_ | refine .nl ?_ | refine .dd ?_ | refine .ys ?_ | refine .no ?_ | (refine A.guard rfl ?_ ?_ <;> intro hc) | refine .lb ?_ | refine .ln ?_ | refine .ls ?_ | refine .pv ?_ | refine .ix ?_ | refine .pt ?_ | refine .pf ?_ | refine .bx ?_ | refine .al ?_ | refine .st ?_ | refine .ad ?_ | refine .sb ?_ | refine .mf ?_ | refine .cl ?_ | refine .cw ?_ | refine .ck ?_ | fail
      exact FinR.ret1 rfl (Weak.refl _)
    · rw [decide_eq_false c4] at i4
      rw [if_neg c4]
      repeat' first | refine .br ?_ | refine .seq ?_ | refine .rg ?_ | refine .rd ?_ | refine .block ?_ | refine .scope ?_ | refine .skip ?_ | refine .label ?_ | refine .exit ?_ | refine .ret ?_ | refine .ct ?_ | refine .cf ?_ | refine .cy ?_ | refine .cn ?_ | (refine .cond rfl ?_ ?_ <;> intro hc) | refine A.nil_seq ?_ | refine .nl ?_ | refine .dd ?_ | refine .ys ?_ | refine .no ?_ | (refine A.guard rfl ?_ ?_ <;> intro hc) | refine .lb ?_ | refine .ln ?_ | refine .ls ?_ | refine .pv ?_ | refine .ix ?_ | refine .pt ?_ | refine .pf ?_ | refine .bx ?_ | refine .al ?_ | refine .st ?_ | refine .ad ?_ | refine .sb ?_ | refine .mf ?_ | refine .cl ?_ | refine .cw ?_ | refine .ck ?_ | fail
      exact FinR.ret1 rfl (Weak.refl _)
theorem bFits (s : Sch) (typ : Str) (f : Fld) (how : Int) (hs : s.size ≤ 1048640) : PFn Tryz.prog 66 [s.enc, .str typ, f.enc, .int .i64 how] (.bool (fitB s typ f how)) := by
  have h1 := dLeaf s f.t.name (by omega)
  have h2 := dComposite s f.t.name (by omega)
  have h3 := dPossible s f.t.name hs
  have h4 := sContainsStr (possB s f.t.name) s.mutation (by have := poss_len s f.t.name hs; omega)
  refine AFn.plain rfl (by simp [AV.closed, AV.closedL, Sch.closed, Fld.closed]) (AFn.enter [8] Tryz.func66 rfl rfl rfl rfl rfl (by decide) ?_)
  unfold fitB rowsB changesB
  generalize possB s f.t.name = ps at *
  cases b1 : (s.mutation != []) <;> cases b2 : (typ == s.mutation) <;> cases b3 : compB s f.t.name <;> rw [b3] at h2
  all_goals
    by_cases k0 : how = 0
    · subst k0
      repeat' first | refine .br ?_ | refine .seq ?_ | refine .rg ?_ | refine .rd ?_ | refine .block ?_ | refine .scope ?_ | refine .skip ?_ | refine .label ?_ | refine .exit ?_ | refine .ret ?_ | refine .ct ?_ | refine .cf ?_ | refine .cy ?_ | refine .cn ?_ | (refine .cond rfl ?_ ?_ <;> intro hc) | refine A.nil_seq ?_ | refine .nl ?_ | refine .dd ?_ | refine .ys ?_ | refine .no ?_ | (refine A.guard rfl ?_ ?_ <;> intro hc) | refine .lb ?_ | refine .ln ?_ | refine .ls ?_ | refine .pv ?_ | refine .ix ?_ | refine .pt ?_ | refine .pf ?_ | refine .bx ?_ | refine .al ?_ | refine .st ?_ | refine .ad ?_ | refine .sb ?_ | refine .mf ?_ | refine .cl ?_ | refine .cw ?_ | refine .ck ?_ | fail
      all_goals
        refine Fin.ret1 rfl (Weak.eq (congrArg AV.bool ?_))
        simp_all
    · have e0 : (how == 0) = false := by simp [k0]
      by_cases k3 : how = 3
      · subst k3
        repeat' first | refine .br ?_ | refine .seq ?_ | refine .rg ?_ | refine .rd ?_ | refine .block ?_ | refine .scope ?_ | refine .skip ?_ | refine .label ?_ | refine .exit ?_ | refine .ret ?_ | refine .ct ?_ | refine .cf ?_ | refine .cy ?_ | refine .cn ?_ | (refine .cond rfl ?_ ?_ <;> intro hc) | refine A.nil_seq ?_ | refine .nl ?_ | refine .dd ?_ | refine .ys ?_ | refine .no ?_ | (refine A.guard rfl ?_ ?_ <;> intro hc) | refine .lb ?_ | refine .ln ?_ | refine .ls ?_ | refine .pv ?_ | refine .ix ?_ | refine .pt ?_ | refine .pf ?_ | refine .bx ?_ | refine .al ?_ | refine .st ?_ | refine .ad ?_ | refine .sb ?_ | refine .mf ?_ | refine .cl ?_ | refine .cw ?_ | refine .ck ?_ | fail
        all_goals
          refine Fin.ret1 rfl (Weak.eq (congrArg AV.bool ?_))
          simp_all
      · have e3 : (how == 3) = false := by simp [k3]
        rw [if_neg k0, if_neg k3]
        repeat' first | refine .br ?_ | refine .seq ?_ | refine .rg ?_ | refine .rd ?_ | refine .block ?_ | refine .scope ?_ | refine .skip ?_ | refine .label ?_ | refine .exit ?_ | refine .ret ?_ | refine .ct ?_ | refine .cf ?_ | refine .cy ?_ | refine .cn ?_ | (refine .cond rfl ?_ ?_ <;> intro hc) | refine A.nil_seq ?_ | refine .nl ?_ | refine .dd ?_ | refine .ys ?_ | refine .no ?_ | (refine A.guard rfl ?_ ?_ <;> intro hc) | refine .lb ?_ | refine .ln ?_ | refine .ls ?_ | refine .pv ?_ | refine .ix ?_ | refine .pt ?_ | refine .pf ?_ | refine .bx ?_ | refine .al ?_ | refine .st ?_ | refine .ad ?_ | refine .sb ?_ | refine .mf ?_ | refine .cl ?_ | refine .cw ?_ | refine .ck ?_ | fail
        all_goals
          refine Fin.ret1 rfl (Weak.eq (congrArg AV.bool ?_))
          simp_all
theorem bOf (s : Sch) (typ : Str) (f : Fld) (hs : s.size ≤ 1048640) (hf : f.size ≤ 68719476736) : PFn Tryz.prog 29 [s.enc, .str typ, f.enc] (.tup [(ofB s typ f).1.enc, .bool (ofB s typ f).2]) := by
  have h1 := bSaid f hf
  have h2 := bFits s typ f (saidB f).1.how hs
  refine AFn.plain (by simp [AV.closed, AV.closedL, Bnd.closed]) (by simp [AV.closed, AV.closedL, Sch.closed, Fld.closed]) (AFn.enterR [.cell 6 57, .tmp 7] Tryz.func29 rfl rfl rfl rfl rfl ?_)
  have i1 : (f.name == [95, 95, 116, 121, 112, 101, 110, 97, 109, 101]) = decide (f.name = sTypename) := by unfold sTypename; rw [Bool.eq_iff_iff]; simp
  unfold ofB
  generalize saidB f = r at *
  obtain ⟨b, ok⟩ := r
  dsimp only at *
  cases ok with
  | false =>
    rw [if_neg (by simp)]
    repeat' first | refine .br ?_ | refine .seq ?_ | refine .rg ?_ | refine .rd ?_ | refine .block ?_ | refine .scope ?_ | refine .skip ?_ | refine .label ?_ | refine .exit ?_ | refine .ret ?_ | refine .ct ?_ | refine .cf ?_ | refine .cy ?_ | refine .cn ?_ | (refine .cond rfl ?_ ?_ <;> intro hc) | refine A.nil_seq ?_ | refine .nl ?_ | refine .dd ?_ | refine .ys ?_ | refine .no ?_ | (refine A.guard rfl ?_ ?_ <;> intro hc) | refine .lb ?_ | refine .ln ?_ | refine .ls ?_ | refine .pv ?_ | refine .ix ?_ | refine .pt ?_ | refine .pf ?_ | refine .bx ?_ | refine .al ?_ | refine .st ?_ | refine .ad ?_ | refine .sb ?_ | refine .mf ?_ | refine .cl ?_ | refine .cw ?_ | refine .ck ?_ | fail
    exact FinR.ret1 rfl (Weak.refl _)
  | true =>
    by_cases c1 : f.name = sTypename
    · rw [decide_eq_true c1] at i1
      rw [if_neg (by simp [c1])]
      repeat' first | refine .br ?_ | refine .seq ?_ | refine .rg ?_ | refine .rd ?_ | refine .block ?_ | refine .scope ?_ | refine .skip ?_ | refine .label ?_ | refine .exit ?_ | refine .ret ?_ | refine .ct ?_ | refine .cf ?_ | refine .cy ?_ | refine .cn ?_ | (refine .cond rfl ?_ ?_ <;> intro hc) | refine A.nil_seq ?_ | refine .nl ?_ | refine .dd ?_ | refine .ys ?_ | refine .no ?_ | (refine A.guard rfl ?_ ?_ <;> intro hc) | refine .lb ?_ | refine .ln ?_ | refine .ls ?_ | refine .pv ?_ | refine .ix ?_ | refine .pt ?_ | refine .pf ?_ | refine .bx ?_ | refine .al ?_ | refine .st ?_ | refine .ad ?_ | refine .sb ?_ | refine .mf ?_ | refine .cl ?_ | refine .cw ?_ | refine .ck ?_ | fail
      exact FinR.ret1 rfl (Weak.refl _)
    · rw [decide_eq_false c1] at i1
      cases c2 : fitB s typ f b.how <;> rw [c2] at h2
      · rw [if_neg (by simp)]
        repeat' first | refine .br ?_ | refine .seq ?_ | refine .rg ?_ | refine .rd ?_ | refine .block ?_ | refine .scope ?_ | refine .skip ?_ | refine .label ?_ | refine .exit ?_ | refine .ret ?_ | refine .ct ?_ | refine .cf ?_ | refine .cy ?_ | refine .cn ?_ | (refine .cond rfl ?_ ?_ <;> intro hc) | refine A.nil_seq ?_ | refine .nl ?_ | refine .dd ?_ | refine .ys ?_ | refine .no ?_ | (refine A.guard rfl ?_ ?_ <;> intro hc) | refine .lb ?_ | refine .ln ?_ | refine .ls ?_ | refine .pv ?_ | refine .ix ?_ | refine .pt ?_ | refine .pf ?_ | refine .bx ?_ | refine .al ?_ | refine .st ?_ | refine .ad ?_ | refine .sb ?_ | refine .mf ?_ | refine .cl ?_ | refine .cw ?_ | refine .ck ?_ | fail
        exact FinR.ret1 rfl (Weak.refl _)
      · rw [if_pos ⟨rfl, c1, rfl⟩]
        repeat' first | refine .br ?_ | refine .seq ?_ | refine .rg ?_ | refine .rd ?_ | refine .block ?_ | refine .scope ?_ | refine .skip ?_ | refine .label ?_ | refine .exit ?_ | refine .ret ?_ | refine .ct ?_ | refine .cf ?_ | refine .cy ?_ | refine .cn ?_ | (refine .cond rfl ?_ ?_ <;> intro hc) | refine A.nil_seq ?_ | refine .nl ?_ | refine .dd ?_ | refine .ys ?_ | refine .no ?_ | (refine A.guard rfl ?_ ?_ <;> intro hc) | refine .lb ?_ | refine .ln ?_ | refine .ls ?_ | refine .pv ?_ | refine .ix ?_ | refine .pt ?_ | refine .pf ?_ | refine .bx ?_ | refine .al ?_ | refine .st ?_ | refine .ad ?_ | refine .sb ?_ | refine .mf ?_ | refine .cl ?_ | refine .cw ?_ | refine .ck ?_ | fail
        exact FinR.ret1 rfl (Weak.refl _)
theorem bCheck2 (s : Sch) (d : Dfn) (f : Fld) (hs : s.size ≤ 1048640) (hf : f.size ≤ 68719476736) : PFn Tryz.prog 63 [f.enc, .rptr s.enc, .rptr d.enc] (.bool (!(ofB s d.name f).2)) := by
  have h := bOf s d.name f hs hf
  refine AFn.plain rfl (by simp [AV.closed, AV.closedL, Sch.closed, Fld.closed, Dfn.closed]) (AFn.enter [4] Tryz.func63 rfl rfl rfl rfl rfl (by decide) ?_)
  repeat' first | refine .br ?_ | refine .seq ?_ | refine .rg ?_ | refine .rd ?_ | refine .block ?_ | refine .scope ?_ | refine .skip ?_ | refine .label ?_ | refine .exit ?_ | refine .ret ?_ | refine .ct ?_ | refine .cf ?_ | refine .cy ?_ | refine .cn ?_ | (refine .cond rfl ?_ ?_ <;> intro hc) | refine A.nil_seq ?_ | refine .nl ?_ | refine .dd ?_ | refine .ys ?_ | refine .no ?_ | (refine A.guard rfl ?_ ?_ <;> intro hc) | refine .lb ?_ | refine .ln ?_ | refine .ls ?_ | refine .pv ?_ | refine .ix ?_ | refine .pt ?_ | refine .pf ?_ | refine .bx ?_ | refine .al ?_ | refine .st ?_ | refine .ad ?_ | refine .sb ?_ | refine .mf ?_ | refine .cl ?_ | refine .cw ?_ | refine .ck ?_ | fail
  exact Fin.ret1 rfl (Weak.refl _)
theorem bCheck1 (s : Sch) (d : Dfn) (hs : s.size ≤ 1048640) (hd : d ∈ s.defs) : PFn Tryz.prog 61 [d.enc, .rptr s.enc] (.bool (bound1 s d)) := by
  have hdz := Sch.dfn hd
  have hl := d.lens
  have hsm := d.sums
  have h := sContainsFFld d.fields 63 [.rptr s.enc, .rptr d.enc] (fun f => !(ofB s d.name f).2) (by omega) (by simp [AV.closed, AV.closedL, Sch.closed, Dfn.closed]) (fun f hf => bCheck2 s d f hs (by have := sumSize_mem (size := Fld.size) hf; omega))
  refine AFn.plain rfl (by simp [AV.closed, AV.closedL, Sch.closed, Dfn.closed]) (AFn.enter [3] Tryz.func61 rfl rfl rfl rfl rfl (by decide) ?_)
  unfold bound1
  cases c : (d.kind == 1)
  all_goals
    repeat' first | refine .br ?_ | refine .seq ?_ | refine .rg ?_ | refine .rd ?_ | refine .block ?_ | refine .scope ?_ | refine .skip ?_ | refine .label ?_ | refine .exit ?_ | refine .ret ?_ | refine .ct ?_ | refine .cf ?_ | refine .cy ?_ | refine .cn ?_ | (refine .cond rfl ?_ ?_ <;> intro hc) | refine A.nil_seq ?_ | refine .nl ?_ | refine .dd ?_ | refine .ys ?_ | refine .no ?_ | (refine A.guard rfl ?_ ?_ <;> intro hc) | refine .lb ?_ | refine .ln ?_ | refine .ls ?_ | refine .pv ?_ | refine .ix ?_ | refine .pt ?_ | refine .pf ?_ | refine .bx ?_ | refine .al ?_ | refine .st ?_ | refine .ad ?_ | refine .sb ?_ | refine .mf ?_ | refine .cl ?_ | refine .cw ?_ | refine .ck ?_ | fail
    exact Fin.ret1 rfl (Weak.refl _)
theorem bCheck (s : Sch) (hs : s.size ≤ 1048640) (ho : s.ok) : PFn Tryz.prog 27 [s.enc] (.bool (servedB s)) := by
  have h1 := wCheckS s hs ho
  have hl := s.len
  have h := sContainsFDfn s.defs 61 [.rptr s.enc] (bound1 s) (by omega) (by simp [AV.closed, AV.closedL, Sch.closed]) (fun d hd => bCheck1 s d hs hd)
  refine AFn.plain rfl (by simp [AV.closed, AV.closedL, Sch.closed]) (AFn.enter [2] Tryz.func27 rfl rfl rfl rfl rfl (by decide) ?_)
  unfold servedB
  have e : (checkI s == 0) = decide (checkI s = 0) := by rw [Bool.eq_iff_iff]; simp
  cases c : decide (checkI s = 0) <;> rw [c] at e
  all_goals
    repeat' first | refine .br ?_ | refine .seq ?_ | refine .rg ?_ | refine .rd ?_ | refine .block ?_ | refine .scope ?_ | refine .skip ?_ | refine .label ?_ | refine .exit ?_ | refine .ret ?_ | refine .ct ?_ | refine .cf ?_ | refine .cy ?_ | refine .cn ?_ | (refine .cond rfl ?_ ?_ <;> intro hc) | refine A.nil_seq ?_ | refine .nl ?_ | refine .dd ?_ | refine .ys ?_ | refine .no ?_ | (refine A.guard rfl ?_ ?_ <;> intro hc) | refine .lb ?_ | refine .ln ?_ | refine .ls ?_ | refine .pv ?_ | refine .ix ?_ | refine .pt ?_ | refine .pf ?_ | refine .bx ?_ | refine .al ?_ | refine .st ?_ | refine .ad ?_ | refine .sb ?_ | refine .mf ?_ | refine .cl ?_ | refine .cw ?_ | refine .ck ?_ | fail
    exact Fin.ret1 rfl (Weak.refl _)
def bindFs : List Field := [{ name := "How", type := 3, offset := 0, embedded := false, tag := "", pkgPath := "", byteOffset := 0 }, { name := "Table", type := 9, offset := 1, embedded := false, tag := "", pkgPath := "", byteOffset := 8 }, { name := "Col", type := 9, offset := 2, embedded := false, tag := "", pkgPath := "", byteOffset := 24 }, { name := "Arg", type := 9, offset := 3, embedded := false, tag := "", pkgPath := "", byteOffset := 40 }, { name := "Cmd", type := 9, offset := 4, embedded := false, tag := "", pkgPath := "", byteOffset := 56 }]
theorem eq_bind : EqT Tryz.prog 57 bindFs := ⟨Tryz.underlying57, by kernel_rfl, by kernel_rfl, by decide⟩
theorem eq_bnd (b : Bnd) : eqFs Tryz.prog bindFs 0 [.int .i64 b.how, .str b.table, .str b.col, .str b.arg, .str b.cmd] [.int .i64 b.how, .str b.table, .str b.col, .str b.arg, .str b.cmd] = some true := by
  have : eqFs Tryz.prog bindFs 0 [.int .i64 b.how, .str b.table, .str b.col, .str b.arg, .str b.cmd] [.int .i64 b.how, .str b.table, .str b.col, .str b.arg, .str b.cmd] = some (b.how == b.how && (b.table == b.table && (b.col == b.col && (b.arg == b.arg && (b.cmd == b.cmd && true))))) := rfl
  rw [this]; simp
def sUser : Str := [85, 115, 101, 114]
def bossF : Fld := ⟨[98, 111, 115, 115], [], ⟨sUser, 0, 0⟩, [⟨sLink, [.mk sTable (textV [117]), .mk sCol (textV [98])]⟩]⟩
def bossS : Sch := ⟨[⟨1, sUser, [], [bossF], [], []⟩], sUser, []⟩
def noS : Sch := ⟨[], [], []⟩
theorem weak_memT {name str : Str} {t1 t2 : Tk} : Weak (.agg [.str name, .int .i64 4, .int .i64 0, .str str, .slice [] t1, .slice [] t2]) (Mem.mk name (textV str)).enc := by
  unfold Mem.enc textV
  show Weak _ (.agg [.str name, .int .i64 4, .int .i64 0, .str str, .slice (Val.mk 4 0 str [] []).lv .no, .slice (Val.mk 4 0 str [] []).mv .no])
  rw [lv_mk, mv_mk]
  exact Weak.agg (WeakL.cons (Weak.refl _) (WeakL.cons (Weak.refl _) (WeakL.cons (Weak.refl _) (WeakL.cons (Weak.refl _) (WeakL.cons (Weak.no (WeakL.refl _)) (WeakL.cons (Weak.no (WeakL.refl _)) (WeakL.refl _)))))))
theorem weak_bossF {t1 t2 t3 t4 t5 t6 t7 : Tk} : Weak (.agg [.str [98, 111, 115, 115], .slice [] t1, .str [85, 115, 101, 114], .int .i64 0, .int .i64 0, .slice [.agg [.str [108, 105, 110, 107], .slice [.agg [.str [116, 97, 98, 108, 101], .int .i64 4, .int .i64 0, .str [117], .slice [] t2, .slice [] t3], .agg [.str [99, 111, 108], .int .i64 4, .int .i64 0, .str [98], .slice [] t4, .slice [] t5]] t6]] t7]) bossF.enc := by
  refine Weak.agg (WeakL.cons (Weak.refl _) (WeakL.cons (Weak.no (WeakL.refl _)) (WeakL.cons (Weak.refl _) (WeakL.cons (Weak.refl _) (WeakL.cons (Weak.refl _) (WeakL.cons (Weak.no (WeakL.cons ?_ (WeakL.refl _))) (WeakL.refl _)))))))
  exact Weak.agg (WeakL.cons (Weak.refl _) (WeakL.cons (Weak.no (WeakL.cons weak_memT (WeakL.cons weak_memT (WeakL.refl _)))) (WeakL.refl _)))
theorem weak_bossS {x : AV} {t1 t2 t3 t4 t5 : Tk} (h : Weak x bossF.enc) : Weak (.agg [.slice [.agg [.int .i64 1, .str [85, 115, 101, 114], .slice [] t1, .slice [x] t2, .slice [] t3, .slice [] t4]] t5, .str [85, 115, 101, 114], .str []]) bossS.enc := by
  refine Weak.agg (WeakL.cons (Weak.no (WeakL.cons ?_ (WeakL.refl _))) (WeakL.refl _))
  exact Weak.agg (WeakL.cons (Weak.refl _) (WeakL.cons (Weak.refl _) (WeakL.cons (Weak.no (WeakL.refl _)) (WeakL.cons (Weak.no (WeakL.cons h (WeakL.refl _))) (WeakL.cons (Weak.no (WeakL.refl _)) (WeakL.cons (Weak.no (WeakL.refl _)) (WeakL.refl _)))))))
theorem hBoss : PFn Tryz.prog 59 [] (.tup [bossS.enc, bossF.enc]) := by
  refine AFn.plain (by simp [AV.closed, AV.closedL, Sch.closed, Fld.closed]) rfl (AFn.enterR [.cell 0 24, .cell 1 43] Tryz.func59 rfl rfl rfl rfl rfl ?_)
  repeat' first | refine .seq ?_ | refine .rg ?_ | refine .rd ?_ | refine .block ?_ | refine .scope ?_ | refine .skip ?_ | refine .label ?_ | refine .exit ?_ | refine .ret ?_ | refine .ct ?_ | refine .cf ?_ | refine .cy ?_ | refine .cn ?_ | (refine .cond rfl ?_ ?_ <;> intro hc) | refine A.nil_seq ?_ | refine .nl ?_ | refine .dd ?_ | refine .ys ?_ | refine .no ?_ | (refine A.guard rfl ?_ ?_ <;> intro hc) | refine .lb ?_ | refine .ln ?_ | refine .ls ?_ | refine .pv ?_ | refine .ix ?_ | refine .pt ?_ | refine .pf ?_ | refine .bx ?_ | refine .al ?_ | refine .st ?_ | refine .ad ?_ | refine .sb ?_ | refine .mf ?_ | refine .cl ?_ | refine .cw ?_ | refine .ck ?_ | fail
  exact FinR.ret1 rfl (Weak.tup (WeakL.cons (weak_bossS weak_bossF) (WeakL.cons weak_bossF (WeakL.refl _))))
theorem bossS_ok : bossS.ok := fun d hd => by
  simp only [bossS, List.mem_cons, List.not_mem_nil, or_false] at hd
  subst hd
  refine ⟨fun f hf => ?_, fun p hp => by simp at hp⟩
  simp only [List.mem_cons, List.not_mem_nil, or_false] at hf
  subst hf
  refine ⟨fun p hp => by simp [bossF] at hp, fun d hd => ?_⟩
  simp only [bossF, List.mem_cons, List.not_mem_nil, or_false] at hd
  subst hd
  intro m hm
  simp only [List.mem_cons, List.not_mem_nil, or_false] at hm
  have tx : ∀ x : Str, (textV x).ok := fun x => by unfold textV; rw [Val.ok]; exact ⟨by decide, by decide, by rw [Val.okL]; trivial, by rw [Val.okM]; trivial⟩
  rcases hm with rfl | rfl
  · exact tx _
  · exact tx _
theorem noS_ok : noS.ok := fun d hd => by simp [noS] at hd
theorem boss_of : ofB bossS sUser bossF = (⟨1, [117], [98], [], []⟩, true) := by decide +kernel
theorem boss_served : servedB bossS = true := by decide +kernel
theorem no_served : servedB noS = false := by decide +kernel
theorem weak_noS {t : Tk} : WeakL [.agg [.slice [] t, .str [], .str []]] [noS.enc] := WeakL.cons (Weak.agg (WeakL.cons (Weak.no (WeakL.refl _)) (WeakL.refl _))) (WeakL.refl _)
theorem awake12 : PFn Tryz.prog 26 [] (.bool true) := by
  have h1 := hBoss
  have h2 := bOf bossS sUser bossF (by decide +kernel) (by decide +kernel)
  rw [boss_of] at h2
  have h3 := bCheck bossS (by decide +kernel) bossS_ok
  rw [boss_served] at h3
  have h4 := bCheck noS (by decide +kernel) noS_ok
  rw [no_served] at h4
  have hq := eq_bnd ⟨1, [117], [98], [], []⟩
  refine AFn.plain rfl rfl (AFn.enter [0] Tryz.func26 rfl rfl rfl rfl rfl (by decide) ?_)
  repeat' first | refine .seq ?_ | refine .rg ?_ | refine .rd ?_ | refine .block ?_ | refine .scope ?_ | refine .skip ?_ | refine .label ?_ | refine .exit ?_ | refine .ret ?_ | refine .ct ?_ | refine .cf ?_ | refine .cy ?_ | refine .cn ?_ | (refine .cond rfl ?_ ?_ <;> intro hc) | refine A.nil_seq ?_ | refine .nl ?_ | refine .dd ?_ | refine .ys ?_ | refine .no ?_ | (refine A.guard rfl ?_ ?_ <;> intro hc) | refine .lb ?_ | refine .ln ?_ | refine .ls ?_ | refine .pv ?_ | refine .ix ?_ | refine .pt ?_ | refine .pf ?_ | refine .bx ?_ | refine .al ?_ | refine .st ?_ | refine .ad ?_ | refine .sb ?_ | refine .mf ?_ | refine .cl ?_ | refine .cw ?_ | refine .ck ?_ | refine A.eqT eq_bind rfl rfl hq ?_ | refine A.call rfl h4 weak_noS ?_ | fail
  exact Fin.ret1 rfl (Weak.refl _)
theorem bindPlain (s : Sch) (typ : Str) (f : Fld) (h : s.size + (typ.length + f.size) ≤ 1048576) (ho : s.ok) : PFn Tryz.prog 10 [s.enc, .str typ, f.enc] (.bool true) := by
  have hfs : f.size = f.name.length + sumSize Par.size f.params + (f.t.name.length + 4) + sumSize Dirc.size f.dirs + 4 := rfl
  have hL := light8 s (by omega)
  have hw := awake12
  have hl := dLeaf s f.t.name (by omega)
  have hz : (Fld.mk f.name f.params f.t []).size ≤ 68719476736 := by
    have : (Fld.mk f.name f.params f.t []).size = f.name.length + sumSize Par.size f.params + (f.t.name.length + 4) + 0 + 4 := rfl
    omega
  have h1 := bOf s typ ⟨f.name, f.params, f.t, []⟩ (by omega) hz
  have key := @plain_of s typ ⟨f.name, f.params, f.t, []⟩ rfl
  have wk : WeakL [s.enc, .str typ, .agg [.str f.name, .slice (f.params.map Par.enc) .no, .str f.t.name, .int .i64 f.t.lists, .int .i64 f.t.musts, .slice [] .nil]] [s.enc, .str typ, (Fld.mk f.name f.params f.t []).enc] :=
    WeakL.cons (Weak.refl _) (WeakL.cons (Weak.refl _) (WeakL.cons (Weak.agg (WeakL.cons (Weak.refl _) (WeakL.cons (Weak.refl _) (WeakL.cons (Weak.refl _) (WeakL.cons (Weak.refl _) (WeakL.cons (Weak.refl _) (WeakL.cons (Weak.no (WeakL.refl _)) (WeakL.refl _)))))))) (WeakL.refl _)))
  have i1 : (f.name == [95, 95, 116, 121, 112, 101, 110, 97, 109, 101]) = decide (f.name = sTypename) := by unfold sTypename; rw [Bool.eq_iff_iff]; simp
  have hq0 := eq_bnd bnd0
  have hq1 := eq_bnd ⟨0, [], f.name, [], []⟩
  refine AFn.plain rfl (by simp [AV.closed, AV.closedL, Sch.closed, Fld.closed]) (AFn.enter [6] Tryz.func10 rfl rfl rfl rfl rfl (by decide) ?_)
  cases c1 : lightS s <;> rw [c1] at hL
  · repeat' first | refine .seq ?_ | refine .rg ?_ | refine .rd ?_ | refine .block ?_ | refine .scope ?_ | refine .skip ?_ | refine .label ?_ | refine .exit ?_ | refine .ret ?_ | refine .ct ?_ | refine .cf ?_ | refine .cy ?_ | refine .cn ?_ | (refine .cond rfl ?_ ?_ <;> intro hc) | refine A.nil_seq ?_ | refine .nl ?_ | refine .dd ?_ | refine .ys ?_ | refine .no ?_ | (refine A.guard rfl ?_ ?_ <;> intro hc) | refine .lb ?_ | refine .ln ?_ | refine .ls ?_ | refine .pv ?_ | refine .ix ?_ | refine .pt ?_ | refine .pf ?_ | refine .bx ?_ | refine .al ?_ | refine .st ?_ | refine .ad ?_ | refine .sb ?_ | refine .mf ?_ | refine .cl ?_ | refine .cw ?_ | refine .ck ?_ | fail
    exact Fin.ret1 rfl (Weak.refl _)
  cases c2 : decide ((2000 : Int) < (f.name.length : Int) + (typ.length : Int))
  case true =>
    repeat' first | refine .seq ?_ | refine .rg ?_ | refine .rd ?_ | refine .block ?_ | refine .scope ?_ | refine .skip ?_ | refine .label ?_ | refine .exit ?_ | refine .ret ?_ | refine .ct ?_ | refine .cf ?_ | refine .cy ?_ | refine .cn ?_ | (refine .cond rfl ?_ ?_ <;> intro hc) | refine A.nil_seq ?_ | refine .nl ?_ | refine .dd ?_ | refine .ys ?_ | refine .no ?_ | (refine A.guard rfl ?_ ?_ <;> intro hc) | refine .lb ?_ | refine .ln ?_ | refine .ls ?_ | refine .pv ?_ | refine .ix ?_ | refine .pt ?_ | refine .pf ?_ | refine .bx ?_ | refine .al ?_ | refine .st ?_ | refine .ad ?_ | refine .sb ?_ | refine .mf ?_ | refine .cl ?_ | refine .cw ?_ | refine .ck ?_ | fail
    exact Fin.ret1 rfl (Weak.refl _)
  by_cases c3 : f.name = sTypename
  · rw [decide_eq_true c3] at i1
    repeat' first | refine .seq ?_ | refine .rg ?_ | refine .rd ?_ | refine .block ?_ | refine .scope ?_ | refine .skip ?_ | refine .label ?_ | refine .exit ?_ | refine .ret ?_ | refine .ct ?_ | refine .cf ?_ | refine .cy ?_ | refine .cn ?_ | (refine .cond rfl ?_ ?_ <;> intro hc) | refine A.nil_seq ?_ | refine .nl ?_ | refine .dd ?_ | refine .ys ?_ | refine .no ?_ | (refine A.guard rfl ?_ ?_ <;> intro hc) | refine .lb ?_ | refine .ln ?_ | refine .ls ?_ | refine .pv ?_ | refine .ix ?_ | refine .pt ?_ | refine .pf ?_ | refine .bx ?_ | refine .al ?_ | refine .st ?_ | refine .ad ?_ | refine .sb ?_ | refine .mf ?_ | refine .cl ?_ | refine .cw ?_ | refine .ck ?_ | fail
    exact Fin.ret1 rfl (Weak.refl _)
  rw [decide_eq_false c3] at i1
  rw [key c3] at h1
  dsimp only at h1
  cases c4 : leafB s f.t.name <;> rw [c4] at hl h1
  · rw [if_neg (by simp)] at h1
    repeat' first | refine .seq ?_ | refine .rg ?_ | refine .rd ?_ | refine .block ?_ | refine .scope ?_ | refine .skip ?_ | refine .label ?_ | refine .exit ?_ | refine .ret ?_ | refine .ct ?_ | refine .cf ?_ | refine .cy ?_ | refine .cn ?_ | (refine .cond rfl ?_ ?_ <;> intro hc) | refine A.nil_seq ?_ | refine .nl ?_ | refine .dd ?_ | refine .ys ?_ | refine .no ?_ | (refine A.guard rfl ?_ ?_ <;> intro hc) | refine .lb ?_ | refine .ln ?_ | refine .ls ?_ | refine .pv ?_ | refine .ix ?_ | refine .pt ?_ | refine .pf ?_ | refine .bx ?_ | refine .al ?_ | refine .st ?_ | refine .ad ?_ | refine .sb ?_ | refine .mf ?_ | refine .cl ?_ | refine .cw ?_ | refine .ck ?_ | refine A.call rfl h1 wk ?_ | refine A.eqT eq_bind rfl rfl hq0 ?_ | fail
    exact Fin.ret1 rfl (Weak.refl _)
  cases c5 : (s.mutation == []) <;> rw [c5] at h1
  · cases c6 : (typ != s.mutation) <;> rw [c6] at h1
    · rw [if_neg (by simp)] at h1
      have n6 : (!(typ != s.mutation)) = true := by rw [c6]; rfl
      repeat' first | refine .seq ?_ | refine .rg ?_ | refine .rd ?_ | refine .block ?_ | refine .scope ?_ | refine .skip ?_ | refine .label ?_ | refine .exit ?_ | refine .ret ?_ | refine .ct ?_ | refine .cf ?_ | refine .cy ?_ | refine .cn ?_ | (refine .cond rfl ?_ ?_ <;> intro hc) | refine A.nil_seq ?_ | refine .nl ?_ | refine .dd ?_ | refine .ys ?_ | refine .no ?_ | (refine A.guard rfl ?_ ?_ <;> intro hc) | refine .lb ?_ | refine .ln ?_ | refine .ls ?_ | refine .pv ?_ | refine .ix ?_ | refine .pt ?_ | refine .pf ?_ | refine .bx ?_ | refine .al ?_ | refine .st ?_ | refine .ad ?_ | refine .sb ?_ | refine .mf ?_ | refine .cl ?_ | refine .cw ?_ | refine .ck ?_ | refine A.call rfl h1 wk ?_ | refine A.eqT eq_bind rfl rfl hq0 ?_ | fail
      exact Fin.ret1 rfl (Weak.refl _)
    · rw [if_pos (by simp)] at h1
      have n6 : (!(typ != s.mutation)) = false := by rw [c6]; rfl
      repeat' first | refine .seq ?_ | refine .rg ?_ | refine .rd ?_ | refine .block ?_ | refine .scope ?_ | refine .skip ?_ | refine .label ?_ | refine .exit ?_ | refine .ret ?_ | refine .ct ?_ | refine .cf ?_ | refine .cy ?_ | refine .cn ?_ | (refine .cond rfl ?_ ?_ <;> intro hc) | refine A.nil_seq ?_ | refine .nl ?_ | refine .dd ?_ | refine .ys ?_ | refine .no ?_ | (refine A.guard rfl ?_ ?_ <;> intro hc) | refine .lb ?_ | refine .ln ?_ | refine .ls ?_ | refine .pv ?_ | refine .ix ?_ | refine .pt ?_ | refine .pf ?_ | refine .bx ?_ | refine .al ?_ | refine .st ?_ | refine .ad ?_ | refine .sb ?_ | refine .mf ?_ | refine .cl ?_ | refine .cw ?_ | refine .ck ?_ | refine A.call rfl h1 wk ?_ | refine A.eqT eq_bind rfl rfl hq1 ?_ | fail
      exact Fin.ret1 rfl (Weak.refl _)
  · rw [if_pos (by simp)] at h1
    repeat' first | refine .seq ?_ | refine .rg ?_ | refine .rd ?_ | refine .block ?_ | refine .scope ?_ | refine .skip ?_ | refine .label ?_ | refine .exit ?_ | refine .ret ?_ | refine .ct ?_ | refine .cf ?_ | refine .cy ?_ | refine .cn ?_ | (refine .cond rfl ?_ ?_ <;> intro hc) | refine A.nil_seq ?_ | refine .nl ?_ | refine .dd ?_ | refine .ys ?_ | refine .no ?_ | (refine A.guard rfl ?_ ?_ <;> intro hc) | refine .lb ?_ | refine .ln ?_ | refine .ls ?_ | refine .pv ?_ | refine .ix ?_ | refine .pt ?_ | refine .pf ?_ | refine .bx ?_ | refine .al ?_ | refine .st ?_ | refine .ad ?_ | refine .sb ?_ | refine .mf ?_ | refine .cl ?_ | refine .cw ?_ | refine .ck ?_ | refine A.call rfl h1 wk ?_ | refine A.eqT eq_bind rfl rfl hq1 ?_ | fail
    exact Fin.ret1 rfl (Weak.refl _)
end Go.Proofs.YtegakkonlhmeaaaGreatDoor
