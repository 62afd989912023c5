/-
  Contracts and plain facts for a law, joined.
-/
import Derived.Test.YtmfmdehfbpkgdaaGreatDoorGEvC2
import Derived.Test.YtmfmdehfbpkgdaaGreatDoorGEvC4
import Derived.Test.YtmfmdehfbpkgdaaGreatDoorGEvC8
import Derived.Test.YtmfmdehfbpkgdaaGreatDoorGEvC5
import Derived.Test.YtmfmdehfbpkgdaaGreatDoorGEvC7
import Derived.Test.YtmfmdehfbpkgdaaGreatDoorGEvC1
set_option maxRecDepth 100000
set_option maxHeartbeats 16000000
set_option linter.unusedVariables false
set_option linter.unusedSimpArgs false
set_option linter.unusedSectionVars false
namespace Go.Proofs.YtmfmdehfbpkgdaaGreatDoor
open Go Go.Av
attribute [local irreducible] HCode AOps PFn AFn Av.Step TStep
theorem Fin.ret2B {t1 t2 : Nat} {s : Slots} {v1 v2 r : AV} (h1 : lk? s t1 = some v1) (h2 : lk? s t2 = some v2) (hw : Weak (.tup [v1, v2]) r) : ∃ v', AEnd.ret (resAV s [t1, t2]) = .ret v' ∧ Weak v' r :=
  ⟨_, rfl, by rw [show resAV s [t1, t2] = .tup [v1, v2] by unfold resAV; simp only [List.map_cons, List.map_nil, lk_of h1, lk_of h2]]; exact hw⟩
def textsR (l : List Mem) (ns : List Str) : List Str × Bool := match textsO l ns with
  | some xs => (xs, true)
  | none => ([], false)
def txt (l : List Mem) (n : Str) : Str := (getG n l).1.s
def okTxt (l : List Mem) (n : Str) : Bool := (getG n l).2 && ((getG n l).1.kind == 4 && (getG n l).1.s != [])
theorem textsF_spec (l : List Mem) : ∀ ns : List Str, textsF l ns = if ns.all (okTxt l) = true then some (ns.map (txt l)) else none
  | [] => rfl
  | n :: ns => by
    rw [textsF, textsF_spec l ns, List.all_cons, List.map_cons]
    have e : okTxt l n = true ↔ (getG n l).2 = true ∧ (getG n l).1.kind = 4 ∧ (getG n l).1.s ≠ [] := by
      unfold okTxt
      simp [bne_iff_ne]
    by_cases c : okTxt l n = true
    · rw [if_pos (e.1 c), c, Bool.true_and]
      split <;> rfl
    · rw [if_neg (fun x => c (e.2 x))]
      rw [if_neg (by rw [Bool.and_eq_true]; exact fun x => c x.1)]
theorem bTexts (l : List Mem) (ns : List Str) (hl : l.length ≤ 68719476736) (hn : ns ≠ []) (hnl : ns.length ≤ 4) : PFn Tryz.prog 145 [.slice (l.map Mem.enc) .no, .slice (ns.map AV.str) .no] (.tup [.slice ((textsR l ns).1.map AV.str) .no, .bool (textsR l ns).2]) := by
  have hlm : (l.map Mem.enc).length = l.length := List.length_map ..
  have hnm : (ns.map AV.str).length = ns.length := List.length_map ..
  refine AFn.plain (by simp [AV.closed, AV.closedL, str_closedL]) (by simp [AV.closed, AV.closedL, Mem.closedL, str_closedL]) (AFn.en [4, 5] Tryz.func145 ?_)
  unfold textsR textsO
  by_cases c : l.length = ns.length
  case neg =>
    have e1 : ((l.length : Int) != (ns.length : Int)) = true := by rw [bne_iff_ne]; omega
    rw [if_neg c]
    refine .go ?_
    exact Fin.ret2B rfl rfl (Weak.tup (WeakL.cons (Weak.no (WeakL.refl _)) (WeakL.refl _)))
  have e1 : ((l.length : Int) != (ns.length : Int)) = false := by rw [c]; simp
  rw [if_pos c, textsF_spec]
  refine .go ?_
  refine HCode.adopt 6 false 1 rfl rfl rfl rfl rfl rfl ?_
  refine HCode.forK ns.length (fun k => [(18, .int .i64 k), (17, .int .i64 ns.length), (16, .slice (ns.map AV.str) .no), (0, .slice (l.map Mem.enc) .no), (1, .slice (ns.map AV.str) .no), (6, .slice (((ns.take k).map (txt l)).map AV.str) (.own 0 1))])
    (fun k => ⟨[], [.len k]⟩) (fun k => (ns.take k).all (okTxt l) = true) ⟨rfl, rfl, rfl, rfl, rfl, rfl, trivial⟩ rfl (by simp) fun k hk hj => ?_
  have htl : (((ns.take k).map (txt l)).map AV.str).length = k := by simp; omega
  by_cases h1 : k < ns.length
  · have d1 : decide ((k : Int) < (ns.length : Int)) = true := by simp [h1]
    have x1 := map_get' (f := AV.str) h1
    have hg := get ns[k] l (by omega)
    have hnx := all_next (p := okTxt l) h1 hj
    have hsp := all_stop (p := okTxt l) h1
    have d9 : ((([] : List AV).length : Int) == (ns.length : Int)) = false := by
      rw [beq_eq_false_iff_ne]
      have := List.length_pos_iff.2 hn
      simp only [List.length_nil]; omega
    have htx : txt l ns[k] = (getG ns[k] l).1.s := rfl
    unfold okTxt at hnx hsp
    cases a1 : (getG ns[k] l).2 <;> rw [a1] at hg hnx hsp
    · have ha : ns.all (okTxt l) = false := hsp rfl
      rw [ha]
      refine .go ?_
      exact Fin.ret2B rfl rfl (Weak.tup (WeakL.cons (Weak.no (WeakL.refl _)) (WeakL.cons (Weak.eq (congrArg AV.bool d9)) (WeakL.refl _))))
    cases a2 : ((getG ns[k] l).1.kind == 4) <;> rw [a2] at hnx hsp
    · have ha : ns.all (okTxt l) = false := hsp rfl
      have a2' : ((getG ns[k] l).1.kind != 4) = true := by unfold bne; rw [a2]; rfl
      rw [ha]
      refine .go ?_
      exact Fin.ret2B rfl rfl (Weak.tup (WeakL.cons (Weak.no (WeakL.refl _)) (WeakL.cons (Weak.eq (congrArg AV.bool d9)) (WeakL.refl _))))
    have a2' : ((getG ns[k] l).1.kind != 4) = false := by unfold bne; rw [a2]; rfl
    cases a3 : ((getG ns[k] l).1.s == [])
    · have a3' : ((getG ns[k] l).1.s != []) = true := by unfold bne; rw [a3]; rfl
      rw [a3'] at hnx
      have hj' := hnx rfl
      repeat' first | refine .s1 ?_ | (refine .q ?_ ?_ <;> intro hc) | refine A.append (n := k) rfl rfl rfl rfl rfl rfl rfl rfl htl rfl (by dsimp only [List.length_cons, List.length_nil]; omega) (by dsimp only [List.length_cons, List.length_nil]; omega) rfl ?_ | fail
      exact ⟨h1, ⟨rfl, rfl, rfl, rfl, rfl, by rw [List.take_succ_eq_append_getElem h1, List.map_append, List.map_append]; rfl, trivial⟩, by simp [-List.map_take, -List.map_map, belowS, AV.low, AV.lowL], by simp [belowB, belowT, Ob.low, Tok.low], rfl, hj'⟩
    · have a3' : ((getG ns[k] l).1.s != []) = false := by unfold bne; rw [a3]; rfl
      rw [a3'] at hsp
      have ha : ns.all (okTxt l) = false := hsp rfl
      rw [ha]
      refine .go ?_
      exact Fin.ret2B rfl rfl (Weak.tup (WeakL.cons (Weak.no (WeakL.refl _)) (WeakL.cons (Weak.eq (congrArg AV.bool d9)) (WeakL.refl _))))
  · have d1 : decide ((k : Int) < (ns.length : Int)) = false := by simp; omega
    obtain rfl : k = ns.length := by omega
    rw [List.take_length] at hj htl
    rw [List.take_length, hj]
    have d9 : (((ns.map (txt l)).length : Int) == (ns.length : Int)) = true := by rw [List.length_map]; simp
    refine .go ?_
    refine Fin.ret2B rfl rfl (Weak.tup (WeakL.cons (Weak.no (WeakL.refl _)) (WeakL.cons (Weak.eq (congrArg AV.bool ?_)) (WeakL.refl _))))
    exact d9
theorem bGet (f : Fld) (table arg : Str) (hf : f.size ≤ 68719476736) : PFn Tryz.prog 146 [f.enc, .str table, .str arg] (.tup [(getB f table arg).1.enc, .bool (getB f table arg).2]) := by
  have hp := lParam f.params arg (by have := sumSize_length Par.size_pos f.params; have := f.sums; omega)
  refine AFn.plain (by simp [AV.closed, AV.closedL, Bnd.closed]) (by simp [AV.closed, AV.closedL, Fld.closed]) (AFn.eR [.cell 6 32, .tmp 7] Tryz.func146 ?_)
  unfold parR at hp
  unfold getB
  cases e : parO f.params arg with
  | none =>
    rw [e] at hp
    refine .gob ?_
    exact FinR.r0
  | some p =>
    rw [e] at hp
    dsimp only at hp ⊢
    have i1 : (p.t.name != [73, 68]) = !decide (p.t.name = sID) := by unfold bne sID; rw [Bool.eq_iff_iff]; simp
    have i2 : (p.t.name != [83, 116, 114, 105, 110, 103]) = !decide (p.t.name = sString) := by unfold bne sString; rw [Bool.eq_iff_iff]; simp
    have i3 : (p.t.lists != f.t.lists) = !decide (p.t.lists = f.t.lists) := by unfold bne; rw [Bool.eq_iff_iff]; simp
    by_cases c1 : p.t.name = sID
    · rw [decide_eq_true c1] at i1
      by_cases c3 : p.t.lists = f.t.lists
      · rw [decide_eq_true c3] at i3
        rw [if_pos ⟨.inl c1, c3⟩]
        refine .gob ?_
        exact FinR.r0
      · rw [decide_eq_false c3] at i3
        rw [if_neg (fun x => c3 x.2)]
        refine .gob ?_
        exact FinR.r0
    · rw [decide_eq_false c1] at i1
      by_cases c2 : p.t.name = sString
      · rw [decide_eq_true c2] at i2
        by_cases c3 : p.t.lists = f.t.lists
        · rw [decide_eq_true c3] at i3
          rw [if_pos ⟨.inr c2, c3⟩]
          refine .gob ?_
          exact FinR.r0
        · rw [decide_eq_false c3] at i3
          rw [if_neg (fun x => c3 x.2)]
          refine .gob ?_
          exact FinR.r0
      · rw [decide_eq_false c2] at i2
        rw [if_neg (fun x => x.1.elim c1 c2)]
        refine .gob ?_
        exact FinR.r0
theorem weak_fullS {x : AV} {xs : List AV} {t : Tk} : WeakL [x, .slice xs t] [x, .slice xs .no] := WeakL.cons (Weak.refl _) (WeakL.cons (Weak.no (WeakL.refl _)) (WeakL.refl _))
theorem bDo (l : List Mem) (hl : l.length ≤ 68719476736) : PFn Tryz.prog 147 [.slice (l.map Mem.enc) .no] (.tup [(doB l).1.enc, .bool (doB l).2]) := by
  have h3 := bTexts l [sCmd, sTable, sCol] hl (by simp) (by decide)
  have h2 := bTexts l [sCmd, sTable] hl (by simp) (by decide)
  refine AFn.plain (by simp [AV.closed, AV.closedL, Bnd.closed]) (by simp [AV.closed, AV.closedL, Mem.closedL]) (AFn.eR [.cell 2 32, .tmp 3] Tryz.func147 ?_)
  unfold textsR at h3 h2
  unfold doB
  cases e3 : textsO l [sCmd, sTable, sCol] with
  | some xs =>
    obtain ⟨a, b, c, rfl, _⟩ := textsO_three e3
    rw [e3] at h3
    dsimp only at h3
    have x0 : ([a, b, c].map AV.str)[0]? = some (AV.str a) := rfl
    have x1 : ([a, b, c].map AV.str)[1]? = some (AV.str b) := rfl
    have x2 : ([a, b, c].map AV.str)[2]? = some (AV.str c) := rfl
    repeat' first | refine .br ?_ | refine .s1 ?_ | (refine .q ?_ ?_ <;> intro hc) | refine A.call rfl h3 weak_fullS ?_ | fail
    exact FinR.r0
  | none =>
    rw [e3] at h3
    dsimp only at h3
    cases e2 : textsO l [sCmd, sTable] with
    | some xs =>
      obtain ⟨a, b, rfl, _⟩ := textsO_two e2
      rw [e2] at h2
      dsimp only at h2
      have x0 : ([a, b].map AV.str)[0]? = some (AV.str a) := rfl
      have x1 : ([a, b].map AV.str)[1]? = some (AV.str b) := rfl
      have i1 : (a == [112, 117, 116]) = (a == sPut) := rfl
      have i2 : (a == [99, 117, 116]) = (a == sCut) := rfl
      have i3 : (a == [98, 117, 114, 110]) = (a == sBurn) := rfl
      dsimp only
      cases c1 : (a == sPut) <;> rw [c1] at i1
      · cases c2 : (a == sCut) <;> rw [c2] at i2
        · cases c3 : (a == sBurn) <;> rw [c3] at i3
          all_goals
            repeat' first | refine .br ?_ | refine .s1 ?_ | (refine .q ?_ ?_ <;> intro hc) | refine A.call rfl h3 weak_fullS ?_ | refine A.call rfl h2 weak_fullS ?_ | fail
            exact FinR.ret1 rfl (Weak.tup (WeakL.cons (Weak.refl _) (WeakL.cons (Weak.eq (congrArg AV.bool i3)) (WeakL.refl _))))
        · repeat' first | refine .br ?_ | refine .s1 ?_ | (refine .q ?_ ?_ <;> intro hc) | refine A.call rfl h3 weak_fullS ?_ | refine A.call rfl h2 weak_fullS ?_ | fail
          exact FinR.r0
      · repeat' first | refine .br ?_ | refine .s1 ?_ | (refine .q ?_ ?_ <;> intro hc) | refine A.call rfl h3 weak_fullS ?_ | refine A.call rfl h2 weak_fullS ?_ | fail
        exact FinR.r0
    | none =>
      rw [e2] at h2
      dsimp only at h2
      repeat' first | refine .br ?_ | refine .s1 ?_ | (refine .q ?_ ?_ <;> intro hc) | refine A.call rfl h3 weak_fullS ?_ | refine A.call rfl h2 weak_fullS ?_ | fail
      exact FinR.r0
theorem bSaid (f : Fld) (hf : f.size ≤ 68719476736) : PFn Tryz.prog 113 [f.enc] (.tup [(saidB f).1.enc, .bool (saidB f).2]) := by
  have hsm := f.sums
  have hdl := sumSize_length Dirc.size_pos f.dirs
  refine AFn.plain (by simp [AV.closed, AV.closedL, Bnd.closed]) (by simp [AV.closed, AV.closedL, Fld.closed]) (AFn.eR [.cell 2 32, .tmp 3] Tryz.func113 ?_)
  unfold saidB
  match hd : f.dirs with
  | [] =>
    have e1 : ((f.dirs.length : Int) == 0) = true := by rw [hd]; rfl
    refine .gob ?_
    exact FinR.r0
  | d :: d2 :: ds =>
    have e1 : ((f.dirs.length : Int) == 0) = false := by rw [hd, beq_eq_false_iff_ne]; simp; omega
    have e2 : decide ((1 : Int) < (f.dirs.length : Int)) = true := by rw [hd]; simp; omega
    have x1 : (f.dirs.map Dirc.enc)[0]? = some d.enc := by rw [hd]; rfl
    refine .gob ?_
    exact FinR.r0
  | [d] =>
    have e1 : ((f.dirs.length : Int) == 0) = false := by rw [hd]; rfl
    have e2 : decide ((1 : Int) < (f.dirs.length : Int)) = false := by rw [hd]; rfl
    have x1 : (f.dirs.map Dirc.enc)[0]? = some d.enc := by rw [hd]; rfl
    have hdz : d.size ≤ f.size := by have := sumSize_mem (size := Dirc.size) (l := f.dirs) (x := d) (by rw [hd]; simp); omega
    have hal : d.args.length ≤ d.size := by
      have := sumSize_length Mem.size_pos d.args
      unfold Dirc.size; omega
    have h1 := bTexts d.args [sName] (by omega) (by simp) (by decide)
    have h2 := bTexts d.args [sTable, sCol] (by omega) (by simp) (by decide)
    have h3 := bTexts d.args [sTable, sArg] (by omega) (by simp) (by decide)
    have h4 := bDo d.args (by omega)
    unfold textsR at h1 h2 h3
    have i1 : (d.name == [99, 111, 108]) = decide (d.name = sCol) := by unfold sCol; rw [Bool.eq_iff_iff]; simp
    have i2 : (d.name == [108, 105, 110, 107]) = decide (d.name = sLink) := by unfold sLink; rw [Bool.eq_iff_iff]; simp
    have i3 : (d.name == [103, 101, 116]) = decide (d.name = sGet) := by unfold sGet; rw [Bool.eq_iff_iff]; simp
    have i4 : (d.name == [100, 111]) = decide (d.name = sDo) := by unfold sDo; rw [Bool.eq_iff_iff]; simp
    dsimp only
    unfold dirB
    by_cases c1 : d.name = sCol
    · rw [decide_eq_true c1] at i1
      rw [if_pos c1]
      cases e : textsO d.args [sName] with
      | none =>
        rw [e] at h1
        repeat' first | refine .br ?_ | refine .s1 ?_ | (refine .q ?_ ?_ <;> intro hc) | refine A.call rfl h1 weak_fullS ?_ | fail
        exact FinR.r0
      | some xs =>
        obtain ⟨a, rfl, _⟩ := textsO_one e
        rw [e] at h1
        dsimp only at h1
        have y0 : ([a].map AV.str)[0]? = some (AV.str a) := rfl
        repeat' first | refine .br ?_ | refine .s1 ?_ | (refine .q ?_ ?_ <;> intro hc) | refine A.call rfl h1 weak_fullS ?_ | fail
        exact FinR.r0
    rw [decide_eq_false c1] at i1
    rw [if_neg c1]
    by_cases c2 : d.name = sLink
    · rw [decide_eq_true c2] at i2
      rw [if_pos c2]
      cases e : textsO d.args [sTable, sCol] with
      | none =>
        rw [e] at h2
        repeat' first | refine .br ?_ | refine .s1 ?_ | (refine .q ?_ ?_ <;> intro hc) | refine A.call rfl h2 weak_fullS ?_ | fail
        exact FinR.r0
      | some xs =>
        obtain ⟨a, b, rfl, _⟩ := textsO_two e
        rw [e] at h2
        dsimp only at h2
        have y0 : ([a, b].map AV.str)[0]? = some (AV.str a) := rfl
        have y1 : ([a, b].map AV.str)[1]? = some (AV.str b) := rfl
        repeat' first | refine .br ?_ | refine .s1 ?_ | (refine .q ?_ ?_ <;> intro hc) | refine A.call rfl h2 weak_fullS ?_ | fail
        exact FinR.r0
    rw [decide_eq_false c2] at i2
    rw [if_neg c2]
    by_cases c3 : d.name = sGet
    · rw [decide_eq_true c3] at i3
      rw [if_pos c3]
      cases e : textsO d.args [sTable, sArg] with
      | none =>
        rw [e] at h3
        repeat' first | refine .br ?_ | refine .s1 ?_ | (refine .q ?_ ?_ <;> intro hc) | refine A.call rfl h3 weak_fullS ?_ | fail
        exact FinR.r0
      | some xs =>
        obtain ⟨a, b, rfl, _⟩ := textsO_two e
        rw [e] at h3
        have y0 : ([a, b].map AV.str)[0]? = some (AV.str a) := rfl
        have y1 : ([a, b].map AV.str)[1]? = some (AV.str b) := rfl
        have h5 := bGet f a b hf
        dsimp only at h3 ⊢
        repeat' first | refine .br ?_ | refine .s1 ?_ | (refine .q ?_ ?_ <;> intro hc) | refine A.call rfl h3 weak_fullS ?_ | fail
        exact FinR.r0
    rw [decide_eq_false c3] at i3
    rw [if_neg c3]
    by_cases c4 : d.name = sDo
    · rw [decide_eq_true c4] at i4
      rw [if_pos c4]
      refine .gob ?_
      exact FinR.r0
    · rw [decide_eq_false c4] at i4
      rw [if_neg c4]
      refine .gob ?_
      exact FinR.r0
theorem bFits (s : Sch) (typ : Str) (f : Fld) (how : Int) (hs : s.size ≤ 1048640) : PFn Tryz.prog 114 [s.enc, .str typ, f.enc, .int .i64 how] (.bool (fitB s typ f how)) := by
  have h1 := dLeaf s f.t.name (by omega)
  have h2 := dComposite s f.t.name (by omega)
  have h3 := dPossible s f.t.name hs
  have h4 := sContainsStr (possB s f.t.name) s.mutation (by have := poss_len s f.t.name hs; omega)
  refine AFn.plain rfl (by simp [AV.closed, AV.closedL, Sch.closed, Fld.closed]) (AFn.en [8] Tryz.func114 ?_)
  unfold fitB rowsB changesB
  generalize possB s f.t.name = ps at *
  cases b1 : (s.mutation != []) <;> cases b2 : (typ == s.mutation) <;> cases b3 : compB s f.t.name <;> rw [b3] at h2
  all_goals
    by_cases k0 : how = 0
    · subst k0
      repeat' first | refine .br ?_ | refine .s1 ?_ | (refine .q ?_ ?_ <;> intro hc) | fail
      all_goals
        refine Fin.rb ?_
        simp_all
    · have e0 : (how == 0) = false := by simp [k0]
      by_cases k3 : how = 3
      · subst k3
        repeat' first | refine .br ?_ | refine .s1 ?_ | (refine .q ?_ ?_ <;> intro hc) | fail
        all_goals
          refine Fin.rb ?_
          simp_all
      · have e3 : (how == 3) = false := by simp [k3]
        rw [if_neg k0, if_neg k3]
        repeat' first | refine .br ?_ | refine .s1 ?_ | (refine .q ?_ ?_ <;> intro hc) | fail
        all_goals
          refine Fin.rb ?_
          simp_all
theorem bOf (s : Sch) (typ : Str) (f : Fld) (hs : s.size ≤ 1048640) (hf : f.size ≤ 68719476736) : PFn Tryz.prog 71 [s.enc, .str typ, f.enc] (.tup [(ofB s typ f).1.enc, .bool (ofB s typ f).2]) := by
  have h1 := bSaid f hf
  have h2 := bFits s typ f (saidB f).1.how hs
  refine AFn.plain (by simp [AV.closed, AV.closedL, Bnd.closed]) (by simp [AV.closed, AV.closedL, Sch.closed, Fld.closed]) (AFn.eR [.cell 6 32, .tmp 7] Tryz.func71 ?_)
  have i1 : (f.name == [95, 95, 116, 121, 112, 101, 110, 97, 109, 101]) = decide (f.name = sTypename) := by unfold sTypename; rw [Bool.eq_iff_iff]; simp
  unfold ofB
  generalize saidB f = r at *
  obtain ⟨b, ok⟩ := r
  dsimp only at *
  cases ok with
  | false =>
    rw [if_neg (by simp)]
    refine .gob ?_
    exact FinR.r0
  | true =>
    by_cases c1 : f.name = sTypename
    · rw [decide_eq_true c1] at i1
      rw [if_neg (by simp [c1])]
      refine .gob ?_
      exact FinR.r0
    · rw [decide_eq_false c1] at i1
      cases c2 : fitB s typ f b.how <;> rw [c2] at h2
      · rw [if_neg (by simp)]
        refine .gob ?_
        exact FinR.r0
      · rw [if_pos ⟨rfl, c1, rfl⟩]
        refine .gob ?_
        exact FinR.r0
def rdV : AV := .fn (.func 28) [] [.rptr (.ptr 0 0), .rptr (.ptr 1 0)]
def lyV : AV := .fn (.func 31) [.ptr 0 0] []
def rdEnc : List (List Need) → List AV
  | [] => []
  | [r] => [.slice (r.map Need.enc) (.own 2 2)]
  | r :: q :: l => .slice (r.map Need.enc) .no :: rdEnc (q :: l)
def rnCs (L : List Tbl) (n : Nat) : List AV := [Tbls.enc L, .vec 1 1 n 0 n]
def evB (s : Sch) (d : Dcm) (env : List Mem) (st : EvS) : List Ob := [.cells (wkCs s d env rdV lyV st.F), .cells (rnCs st.L st.R.length)]
def evT (st : EvS) : List Tok := [.len st.F.length, .vec (rdEnc st.R), .len (lastR st.R).length]
theorem rdEnc_len : ∀ R : List (List Need), (rdEnc R).length = R.length
  | [] => rfl
  | [r] => rfl
  | r :: q :: l => by rw [rdEnc, List.length_cons, rdEnc_len (q :: l)]; rfl
theorem rdEnc_last : ∀ R : List (List Need), R ≠ [] → (rdEnc R)[R.length - 1]? = some (.slice ((lastR R).map Need.enc) (.own 2 2))
  | [], h => absurd rfl h
  | [r], _ => rfl
  | r :: q :: l, _ => by
    have := rdEnc_last (q :: l) (by simp)
    rw [rdEnc, show (r :: q :: l).length - 1 = (q :: l).length - 1 + 1 by simp, List.getElem?_cons_succ, this]; rfl
theorem rdEnc_set (n : Need) : ∀ R : List (List Need), R ≠ [] → n ∉ lastR R → (rdEnc R).set (R.length - 1) (.slice ((lastR R).map Need.enc ++ [n.enc]) (.own 2 2)) = rdEnc (readL n R)
  | [], h, _ => absurd rfl h
  | [r], _, h => by
    rw [readL, if_neg (show n ∉ r from h), rdEnc, rdEnc, List.map_append]; rfl
  | r :: q :: l, _, h => by
    have := rdEnc_set n (q :: l) (by simp) h
    rw [rdEnc, readL, show (r :: q :: l).length - 1 = (q :: l).length - 1 + 1 by simp, List.set_cons_succ]
    rw [show lastR (r :: q :: l) = lastR (q :: l) from rfl, this]
    have hl := readL_len n (q :: l)
    cases hx : readL n (q :: l) with
    | nil => rw [hx] at hl; simp at hl
    | cons a b => rfl
theorem readL_mem {n : Need} : ∀ {R : List (List Need)}, n ∈ lastR R → readL n R = R
  | [], h => rfl
  | [r], h => by rw [readL, if_pos (show n ∈ r from h)]
  | r :: q :: l, h => by rw [readL, readL_mem (R := q :: l) h]
theorem rdEnc_low (n m : Nat) (h : 2 < m) : ∀ R : List (List Need), AV.lowL n m (rdEnc R) = true
  | [] => rfl
  | [r] => by simp [rdEnc, AV.lowL, AV.low, h]
  | r :: q :: l => by
    have := rdEnc_low n m h (q :: l)
    rw [rdEnc, AV.lowL, this]
    simp [AV.low]
theorem evT_low (n m : Nat) (h : 2 < m) (st : EvS) : belowT n m (evT st) = true := by
  simp [evT, belowT, Tok.low, rdEnc_low n m h]
theorem evB_low (s : Sch) (d : Dcm) (env : List Mem) (st : EvS) (m : Nat) (h : 2 < m) : belowB 2 m (evB s d env st) = true := by
  have h0 : 0 < m := by omega
  have h1 : 1 < m := by omega
  simp [evB, wkCs, rnCs, rdV, lyV, belowB, Ob.low, AV.lowL, AV.low, Tbls.enc, Tbl.lowL, h0, h1]
theorem belowT_app (n m : Nat) : ∀ a b : List Tok, belowT n m (a ++ b) = (belowT n m a && belowT n m b)
  | [], b => by simp [belowT]
  | x :: a, b => by rw [List.cons_append, belowT, belowT, belowT_app n m a b, Bool.and_assoc]
theorem eRead (s : Sch) (d : Dcm) (env : List Mem) (st : EvS) (n : Need) (h : EvOk st) (hc : st.c ≤ 1048576) (T2 : List Tok) (hT2 : belowT 2 (3 + T2.length) T2 = true) :
    AFn Tryz.prog 30 [.ptr 1 0, n.enc] ⟨evB s d env st, evT st ++ T2⟩ (fun e σ' => e = .ret (findG st.L n).enc ∧ σ' = ⟨evB s d env (st.read n), evT (st.read n) ++ T2⟩) := by
  have hf := find st.L n (by have := h.T.fine.len; omega) (fun t ht => by have := h.T.fine.rows t ht; omega) (fun t ht r hr => by have := h.T.fine.cols t ht r hr; omega)
  have hRl : 0 < st.R.length := List.length_pos_iff.2 h.R0
  have hRN := h.RN
  have hRL := h.RL
  have hct := sContainsNeed (lastR st.R) n (by omega)
  have e0 : ((st.R.length : Int) == 0) = false := by rw [beq_eq_false_iff_ne]; omega
  have hjj : (st.R.length : Int) - 1 = ((st.R.length - 1 : Nat) : Int) := by omega
  have hn := rdEnc_len st.R
  have hy := rdEnc_last st.R h.R0
  have hml : ((lastR st.R).map Need.enc).length = (lastR st.R).length := List.length_map _
  have hwk : WeakL [.slice ((lastR st.R).map Need.enc) (.own 2 2), n.enc] [.slice ((lastR st.R).map Need.enc) .no, n.enc] := WeakL.cons (Weak.no (WeakL.refl _)) (WeakL.refl _)
  have hlen : (evT st ++ T2).length ≤ 3 + T2.length := by rw [List.length_append]; exact Nat.le_refl _
  refine AFn.methK (nB := 2) (mT := 3 + T2.length) (AFn.eR [.cell 4 113] Tryz.func30 ?_) (Nat.le_refl _) hlen (AV.low_of_closed _ _ _ (Got.closed _)) (evB_low _ _ _ _ _ (by omega))
    (by rw [belowT_app, evT_low _ _ (by omega), hT2]; rfl)
  have tk : ∀ a b c : Tok, (a :: b :: c :: T2).take (3 + T2.length) = a :: b :: c :: T2 := fun a b c => List.take_of_length_le (by simp; omega)
  unfold evB evT rnCs
  by_cases c1 : n ∈ lastR st.R
  · rw [decide_eq_true c1] at hct
    have er : st.read n = st := by unfold EvS.read; rw [readL_mem c1]
    rw [er]
    repeat' first | refine .br ?_ | refine A.call rfl hct hwk ?_ | refine .s1 ?_ | (refine .q ?_ ?_ <;> intro hc) | refine A.nlP rfl ?_ | refine .vl ?_ | refine A.vindex (j := st.R.length - 1) rfl rfl rfl rfl rfl rfl hjj (by omega) (Nat.zero_add _) ?_ | refine A.vload rfl rfl rfl hn hy rfl ?_ | fail
    exact ⟨_, rfl, _, _, rfl, Turn.refl _ _, rfl, tk _ _ _⟩
  · rw [decide_eq_false c1] at hct
    have hset := rdEnc_set n st.R h.R0 c1
    have er1 : (st.read n).R = readL n st.R := rfl
    have er2 : lastR (st.read n).R = lastR st.R ++ [n] := by rw [er1, readL_last n st.R h.R0, if_neg c1]
    have er3 : (st.read n).R.length = st.R.length := readL_len n st.R
    rw [er2, er3, er1, ← hset, List.length_append]
    repeat' first | refine .br ?_ | refine A.call rfl hct hwk ?_ | refine .s1 ?_ | (refine .q ?_ ?_ <;> intro hc) | refine A.nlP rfl ?_ | refine .vl ?_ | refine A.vindex (j := st.R.length - 1) rfl rfl rfl rfl rfl rfl hjj (by omega) (Nat.zero_add _) ?_ | refine A.vload rfl rfl rfl hn hy rfl ?_ | refine A.append (n := (lastR st.R).length) rfl rfl rfl rfl rfl rfl rfl rfl hml rfl (by dsimp only [List.length_cons, List.length_nil]; omega) (by dsimp only [List.length_cons, List.length_nil]; omega) rfl ?_ | refine A.vstore (agg := false) rfl rfl rfl rfl rfl hn hy rfl rfl rfl rfl ?_ | fail
    exact ⟨_, rfl, _, _, rfl, Turn.refl _ _, rfl, tk _ _ _⟩
structure CtxOk (s : Sch) (d : Dcm) (env : List Mem) : Prop where
  hs : s.size ≤ 1048576
  so : s.ok
  hd : d.size ≤ 1048576
  dk : ∀ f ∈ d.frags, ∀ y ∈ f.sels, y.ok
  he : env.length ≤ 1048576
theorem CtxOk.frags {s : Sch} {d : Dcm} {env : List Mem} (h : CtxOk s d env) : d.frags.length ≤ 1048576 ∧ sumSize (fun f : Frg => sumSize Sl.size f.sels) d.frags ≤ d.size - 3 := by
  have h1 := sumSize_length (size := Frg.size) (fun f => by unfold Frg.size; omega) d.frags
  have h2 : sumSize (fun f : Frg => sumSize Sl.size f.sels) d.frags ≤ sumSize Frg.size d.frags := sum_le (fun f => by unfold Frg.size; omega) _
  have h3 : d.size = sumSize Opr.size d.ops + sumSize Frg.size d.frags + 3 := rfl
  have := h.hd
  exact ⟨by omega, by omega⟩
theorem fieldR_facts {s : Sch} (so : s.ok) (typ name : Str) : (fieldR s typ name).1.size ≤ s.size + 64 ∧ ∀ p ∈ (fieldR s typ name).1.params, p.ok := by
  unfold fieldR
  cases hf : fieldO s typ name with
  | none => exact ⟨Nat.le_trans (show Fld.size zeroF ≤ 64 by decide) (by omega), fun p hp => by cases hp⟩
  | some f =>
    unfold fieldO at hf
    split at hf
    · cases hf
      rename_i hc
      refine ⟨?_, fun p hp => by cases hp⟩
      show Fld.size ⟨name, [], ⟨sString, 0, 1⟩, []⟩ ≤ _
      rw [hc.1]
      have : Fld.size ⟨sTypename, [], ⟨sString, 0, 1⟩, []⟩ ≤ 64 := by decide
      omega
    · split at hf
      · have hm := List.mem_of_find?_eq_some hf
        unfold findR findO at hm
        split at hm
        · rename_i dd hdd
          split at hdd
          · cases hdd; cases hm
          · have hdm := List.mem_of_find?_eq_some hdd
            have h1 := Sch.dfn hdm
            have h2 : f.size ≤ sumSize Fld.size dd.fields := sumSize_mem (size := Fld.size) hm
            have h3 : sumSize Fld.size dd.fields ≤ dd.size := by unfold Dfn.size; omega
            exact ⟨by dsimp only; omega, fun p hp => ((so dd hdm).1 f hm).1 p hp⟩
        · cases hm
      · cases hf
theorem weak_undef (x : AV) : Weak x .undef := fun _ _ _ _ => trivial
theorem eArgs (s : Sch) (d : Dcm) (env : List Mem) (hx : CtxOk s d env) (st : EvS) (typ : Str) (key : Str) (x : Sl) (sels : List Sl) (hxs : x.size ≤ 1048576) (hxo : x.ok) :
    AFn Tryz.prog 68 [.ptr 0 0, .str typ, Grp.enc ⟨key, x :: sels⟩] ⟨evB s d env st, evT st⟩
      (fun e σ' => e = .ret (.tup [(fieldR s typ x.name).1.enc, .slice ((if x.name = sTypename then [] else (argsV s (fieldR s typ x.name).1.params x.args env).1).map Mem.enc) .no, .int .i64 (if x.name = sTypename then 0 else (argsV s (fieldR s typ x.name).1.params x.args env).2)]) ∧ σ' = ⟨evB s d env st, evT st⟩) := by
  have hse := x.size_eq
  have hsz := hx.hs
  obtain ⟨f1, f2⟩ := fieldR_facts hx.so typ x.name
  have hfs : (fieldR s typ x.name).1.size = (fieldR s typ x.name).1.name.length + sumSize Par.size (fieldR s typ x.name).1.params + (fieldR s typ x.name).1.t.size + sumSize Dirc.size (fieldR s typ x.name).1.dirs + 4 := rfl
  have hf := dField s typ x.name (by omega)
  have ha := coeArgs s (by omega) (fun d hd p hp => (hx.so d hd).2 p hp) (fieldR s typ x.name).1.params x.args env (by omega) (fun p hp => f2 p hp) (by omega) ((x.ok_eq.1 hxo).2.1) (by have := hx.he; omega)
  generalize fieldR s typ x.name = fr at *
  obtain ⟨f, b⟩ := fr
  dsimp only at hf ha ⊢
  generalize argsV s f.params x.args env = ar at *
  obtain ⟨al, ae⟩ := ar
  dsimp only at ha ⊢
  have x0 : (List.map Sl.enc (x :: sels))[0]? = some x.enc := rfl
  refine AFn.methK (nB := 2) (mT := 3) (AFn.eR [.cell 6 30, .tmp 7, .tmp 8] Tryz.func68 ?_) (Nat.le_refl _) (Nat.le_refl _) (AV.low_of_closed _ _ _ (by simp [AV.closed, AV.closedL, Fld.closed, Mem.closedL])) (evB_low _ _ _ _ _ (by omega)) (evT_low _ _ (by omega) _)
  unfold evB evT wkCs
  by_cases c1 : x.name = sTypename
  · have e1 : (x.name == sTypename) = true := by simp [c1]
    unfold sTypename at e1
    rw [if_pos c1, if_pos c1]
    repeat' first | refine AOps.br (v := .agg [_, _]) ?_ | refine A.allocv (d := 10) rfl rfl rfl rfl rfl ?_ | refine HCode.turn 10 rfl (Turn.freezeP rfl rfl rfl rfl) ?_ | refine .s1 ?_ | (refine .q ?_ ?_ <;> intro hc) | refine A.nlP rfl ?_ | refine A.vstore (agg := true) rfl rfl rfl rfl rfl rfl rfl rfl rfl rfl rfl ?_ | fail
    exact ⟨_, rfl, _, _, rfl, Turn.weak (Weak.tup (WeakL.cons (Weak.refl _) (WeakL.cons (Weak.no (WeakL.refl _)) (WeakL.refl _)))), rfl, rfl⟩
  · have e1 : (x.name == sTypename) = false := by simp [c1]
    unfold sTypename at e1
    rw [if_neg c1, if_neg c1]
    repeat' first | refine AOps.br (v := .agg [_, _]) ?_ | refine A.allocv (d := 10) rfl rfl rfl rfl rfl ?_ | refine HCode.turn 10 rfl (Turn.freezeP rfl rfl rfl rfl) ?_ | refine .s1 ?_ | (refine .q ?_ ?_ <;> intro hc) | refine A.nlP rfl ?_ | refine A.vstore (agg := true) rfl rfl rfl rfl rfl rfl rfl rfl rfl rfl rfl ?_ | fail
    exact ⟨_, rfl, _, _, rfl, Turn.refl _ _, rfl, rfl⟩
theorem tokPl : TOk Tryz.prog 103 tiFn := tok_mk .nilFunc (by kernel_rfl) Tryz.underlying103 rfl rfl rfl rfl rfl (by kernel_rfl) rfl (by kernel_rfl)
theorem tokHg : TOk Tryz.prog 102 tiFn := tok_mk .nilFunc (by kernel_rfl) Tryz.underlying102 rfl rfl rfl rfl rfl (by kernel_rfl) rfl (by kernel_rfl)
instance layE : Lay Tryz.prog := ⟨(103, tiFn) :: (102, tiFn) :: table2, ⟨tokPl, tokHg, tokF1, tokF2, table_ok⟩, Tryz.checked.mixed⟩
def plE (at_ : AV) (typ : Str) (row : Row) (sels : List Sl) (p : Path) : AV := .agg [at_, .str typ, .str row.key, .str row.typ, .slice (row.cols.map Mem.enc) .no, .bool row.broken, .slice (sels.map Sl.enc) .no, .slice (p.map Step.enc) .no]
def hangE (at_ : AV) (tb key : Str) (t : Typ) (sels : List Sl) (p : Path) : AV := .agg [.str tb, .str key, at_, .str t.name, .int .i64 t.lists, .int .i64 t.musts, .slice (sels.map Sl.enc) .no, .slice (p.map Step.enc) .no]
def knG (k : Int) (m : Bool) : AV := .agg [.int .i64 k, .bool m, .int .i64 0, .int .i64 0, .str [], .slice [] .nil, .slice [] .nil, .slice [] .nil, .slice [] .nil, .slice [] .nil]
theorem weak_kn (k : Int) (m : Bool) (v : Val) (t1 t2 : Tk) : Weak (.agg [.int .i64 k, .bool m, .int .i64 v.kind, .int .i64 v.n, .str v.s, .slice v.lv .no, .slice v.mv .no, .slice [] t1, .slice [] .nil, .slice [] t2]) (Nd.mk k m v [] []).kenc :=
  Weak.agg (WeakL.cons (Weak.refl _) (WeakL.cons (Weak.refl _) (WeakL.cons (Weak.refl _) (WeakL.cons (Weak.refl _) (WeakL.cons (Weak.refl _) (WeakL.cons (Weak.refl _) (WeakL.cons (Weak.refl _) (WeakL.cons (Weak.no (WeakL.refl _)) (WeakL.cons (Weak.refl _)
    (WeakL.cons (Weak.no (by rw [Nd.kl, Nd.goK]; exact WeakL.refl _)) (WeakL.refl _)))))))))))
theorem weak_kn0 (k : Int) (m : Bool) (t1 t2 t3 t4 : Tk) : Weak (.agg [.int .i64 k, .bool m, .int .i64 0, .int .i64 0, .str [], .slice [] t3, .slice [] t4, .slice [] t1, .slice [] .nil, .slice [] t2]) (Nd.mk k m val0 [] []).kenc :=
  Weak.agg (WeakL.cons (Weak.refl _) (WeakL.cons (Weak.refl _) (WeakL.cons (Weak.refl _) (WeakL.cons (Weak.refl _) (WeakL.cons (Weak.refl _) (WeakL.cons (Weak.no (WeakL.eq (lv_mk _ _ _ _).symm)) (WeakL.cons (Weak.no (WeakL.eq (mv_mk _ _ _ _).symm)) (WeakL.cons (Weak.no (WeakL.refl _)) (WeakL.cons (Weak.refl _)
    (WeakL.cons (Weak.no (by rw [Nd.kl, Nd.goK]; exact WeakL.refl _)) (WeakL.refl _)))))))))))
structure SelsOk (l : List Sl) (c : Nat) : Prop where
  sz : sumSize Sl.size l ≤ 1048576 * (c + 1)
  all : ∀ x ∈ l, x.ok ∧ x.size ≤ 1048576
structure RowOk (r : Row) : Prop where
  len : r.cols.length ≤ 1048576
  vals : ∀ m ∈ r.cols, m.v.size ≤ 1073741824 ∧ m.v.ok
theorem eGroups (s : Sch) (d : Dcm) (env : List Mem) (hx : CtxOk s d env) (st : EvS) (typ : Str) (row : Row) (sels : List Sl) (p : Path) (hs : SelsOk sels st.c) (hc : st.c ≤ 4096) :
    AFn Tryz.prog 34 [.ptr 0 0, plE .undef typ row sels p] ⟨evB s d env st, evT st⟩ (fun e σ' => e = .ret (.slice ((groupsM s d env typ sels).map Grp.enc) .no) ∧ σ' = ⟨evB s d env st, evT st⟩) := by
  obtain ⟨h1, h2⟩ := hx.frags
  have h3 := hs.sz
  have h4 := hx.hd
  have hg := gGroups s d env typ sels hx.hs (by omega) h1 hx.he
  refine AFn.methK (nB := 2) (mT := 3) (AFn.en [4] Tryz.func34 ?_) (Nat.le_refl _) (Nat.le_refl _) (AV.low_of_closed _ _ _ (by simp [AV.closed, Grp.closedL])) (evB_low _ _ _ _ _ (by omega)) (evT_low _ _ (by omega) _)
  unfold evB evT wkCs
  repeat' first | refine .br ?_ | refine .s1 ?_ | (refine .q ?_ ?_ <;> intro hc) | refine A.nlP rfl ?_ | fail
  exact ⟨_, _, rfl, Turn.refl _ _, rfl, rfl⟩
theorem eCmd (s : Sch) (f : Fld) (b : Bnd) (args : List Mem) (ha : args.length ≤ 1048576) : PFn Tryz.prog 9 [s.enc, f.enc, b.enc, .slice (args.map Mem.enc) .no] (cmdOf f b args).enc := by
  have hc := cloneM args ha
  refine AFn.plain (Cmd.closed _) (by simp [AV.closedL, AV.closed, Sch.closed, Fld.closed, Bnd.closed, Mem.closedL]) (AFn.eR [.cell 8 42] Tryz.func9 ?_)
  repeat' first | refine .br ?_ | refine .s1 ?_ | (refine .q ?_ ?_ <;> intro hc) | fail
  exact FinR.r0
def EvC (s : Sch) (d : Dcm) (env : List Mem) (f : FuncId) (args : List AV) (st : EvS) (k0 : AV) (r : Nd × EvS) : Prop :=
  AFn Tryz.prog f args ⟨evB s d env st, evT st ++ [.vec [k0]]⟩ (fun e σ' => e = .ret (.tup []) ∧ σ' = ⟨evB s d env r.2, evT r.2 ++ [.vec [r.1.kenc]]⟩)
def PlOk (s : Sch) (d : Dcm) (env : List Mem) (pl : Pl) : Prop := ∀ typ row sels p m st, EvOk st → SelsOk sels st.c → RowOk row → p.length ≤ st.c → (pl typ row sels p m st).2.c ≤ 4096 →
  EvC s d env 31 [.ptr 0 0, plE (.vptr 3 10 1 0 0) typ row sels p] st (knG 2 m) (pl typ row sels p m st)
theorem evT_low4 (st : EvS) (x : AV) (hx : x.low 2 4 = true) : belowT 2 4 (evT st ++ [.vec [x]]) = true := by
  rw [belowT_app, evT_low _ _ (by omega)]
  simp [belowT, Tok.low, AV.lowL, hx]
theorem evT_bad (st : EvS) (p : Path) (e : Int) (x : Tok) : [Tok.len (st.F.length + 1), .vec (rdEnc st.R), .len (lastR st.R).length, x] = evT (st.bad p e) ++ [x] := by
  unfold evT EvS.bad
  rw [List.length_append]; rfl
theorem getG_in (name : Str) : ∀ l : List Mem, (getG name l).1 = val0 ∨ ∃ m ∈ l, (getG name l).1 = m.v
  | [] => .inl rfl
  | m :: l => by
    rw [getG]
    split
    · exact .inr ⟨m, by simp, rfl⟩
    · rcases getG_in name l with h | ⟨x, hx, h⟩
      · exact .inl h
      · exact .inr ⟨x, by simp [hx], h⟩
theorem find_row {L : List Tbl} (h : Tame L) (n : Need) : RowOk (findG L n).row := by
  unfold findG
  split
  · exact ⟨by decide, fun m hm => by cases hm⟩
  · rename_i t ht
    have h1 := List.mem_of_find?_eq_some ht
    split
    · exact ⟨by decide, fun m hm => by cases hm⟩
    · rename_i r hr
      have h2 := List.mem_of_find?_eq_some hr
      unfold gotOf
      split
      · exact ⟨by decide, fun m hm => by cases hm⟩
      · exact ⟨h.fine.cols t h1 r h2, h.vals t h1 r h2⟩
theorem eGot (s : Sch) (d : Dcm) (env : List Mem) (hx : CtxOk s d env) (pl : Pl) (hpl : PlOk s d env pl) (tb key : Str) (t : Typ) (sels : List Sl) (p : Path) (g : Got) (hg : RowOk g.row) (st : EvS) (h : EvOk st) (hs : SelsOk sels st.c) (hp : p.length ≤ st.c) (hc0 : st.c ≤ 4096) (hc : (gotM s pl sels t p g st).2.c ≤ 4096) :
    EvC s d env 29 [.ptr 0 0, hangE (.vptr 3 10 1 0 0) tb key t sels p, g.enc] st (knG 0 (isT t)) (gotM s pl sels t p g st) := by
  have hF := h.F
  have hps := dPossible s t.name (by have := hx.hs; omega)
  have hpl2 := poss_len s t.name (by have := hx.hs; omega)
  have hct := sContainsStr (possB s t.name) g.row.typ (by omega)
  have hcl := cloneM g.row.cols hg.len
  have key1 : ∀ r : Nd × EvS, AFn Tryz.prog 29 [.ptr 0 0, hangE (.vptr 3 10 1 0 0) tb key t sels p, g.enc] ⟨evB s d env st, evT st ++ [.vec [knG 0 (isT t)]]⟩
      (fun e σ1 => ∃ v σ2, e = .ret v ∧ Turn σ1 v σ2 (.tup []) ∧ σ2.B.take 2 = evB s d env r.2 ∧ σ2.T.take 4 = evT r.2 ++ [.vec [r.1.kenc]]) → EvC s d env 29 [.ptr 0 0, hangE (.vptr 3 10 1 0 0) tb key t sels p, g.enc] st (knG 0 (isT t)) r := fun r hr =>
    AFn.methK (nB := 2) (mT := 4) hr (Nat.le_refl _) (Nat.le_refl _) rfl (evB_low _ _ _ _ _ (by omega)) (evT_low4 _ _ (AV.low_of_closed _ _ _ (Nd.kclosed _)))
  refine key1 _ (AFn.en [] Tryz.func29 ?_)
  have hbad : ∀ (x : List Ob) (e : Int), _ := fun (x : List Ob) (e : Int) => eBad s d env rdV lyV (.cells (rnCs st.L st.R.length) :: x) (evT st ++ [.vec [knG 0 (isT t)]]) st.F 3 p e rfl rfl (by decide) (by omega)
  unfold gotM at hc ⊢
  unfold evB
  by_cases c1 : g.e = 0
  case neg =>
    have e1 : (g.e != 0) = true := by simpa using c1
    rw [if_pos c1] at hc ⊢
    repeat' first | refine AOps.bx (v := .agg [_, _, _, _, _, _]) ?_ | refine .br ?_ | refine .s1 ?_ | (refine .q ?_ ?_ <;> intro hc) | refine A.nlP rfl ?_ | refine A.callA rfl (hbad _ _) (WeakL.refl _) ?_ | fail
    exact ⟨_, _, rfl, Turn.weakV (k := 3) rfl (weak_kn0 3 (isT t) _ _ _ _) rfl, rfl, evT_bad st p g.e (.vec [(badN (isT t)).kenc])⟩
  have e1 : (g.e != 0) = false := by simp [c1]
  rw [if_neg (by simp [c1])] at hc ⊢
  by_cases c2 : g.is = true
  case neg =>
    have c2' : g.is = false := by simpa using c2
    have n2 : (!g.is) = true := by rw [c2']; rfl
    rw [if_pos c2'] at hc ⊢
    by_cases c3 : isT t = true
    case pos =>
      rw [if_pos c3] at hc ⊢
      rw [c3]
      have hnl : ∀ (x : List Ob), _ := fun (x : List Ob) => eNull s d env rdV lyV (.cells (rnCs st.L st.R.length) :: x) (evT st ++ [.vec [knG 0 true]]) st.F 3 p rfl rfl (by decide) (by omega)
      repeat' first | refine AOps.bx (v := .agg [_, _, _, _, _, _]) ?_ | refine .br ?_ | refine .s1 ?_ | (refine .q ?_ ?_ <;> intro hc) | refine A.nlP rfl ?_ | refine A.callA rfl (hnl _) (WeakL.refl _) ?_ | fail
      exact ⟨_, _, rfl, Turn.weakV (k := 3) rfl (weak_kn0 3 true _ _ _ _) rfl, rfl, evT_bad st p 9 (.vec [(badN true).kenc])⟩
    rw [if_neg c3] at hc ⊢
    have c3' : isT t = false := by simpa using c3
    rw [c3']
    have hnl : ∀ (x : List Ob), _ := fun (x : List Ob) => eNull0 s d env rdV lyV (.cells (rnCs st.L st.R.length) :: x) (evT st ++ [.vec [knG 0 false]]) st.F 3 p rfl
    repeat' first | refine AOps.bx (v := .agg [_, _, _, _, _, _]) ?_ | refine .br ?_ | refine .s1 ?_ | (refine .q ?_ ?_ <;> intro hc) | refine A.nlP rfl ?_ | refine A.callA rfl (hnl _) (WeakL.refl _) ?_ | fail
    exact ⟨_, _, rfl, Turn.weakV (k := 3) rfl (weak_kn0 0 false _ _ _ _) rfl, rfl, rfl⟩
  have n2 : (!g.is) = false := by rw [c2]; rfl
  rw [if_neg (by rw [c2]; decide)] at hc ⊢
  by_cases c3 : g.row.typ ∈ possB s t.name
  case neg =>
    rw [decide_eq_false c3] at hct
    rw [if_pos c3] at hc ⊢
    repeat' first | refine AOps.bx (v := .agg [_, _, _, _, _, _]) ?_ | refine .br ?_ | refine .s1 ?_ | (refine .q ?_ ?_ <;> intro hc) | refine A.nlP rfl ?_ | refine A.callA rfl (hbad _ _) (WeakL.refl _) ?_ | fail
    exact ⟨_, _, rfl, Turn.weakV (k := 3) rfl (weak_kn0 3 (isT t) _ _ _ _) rfl, rfl, evT_bad st p 7 (.vec [(badN (isT t)).kenc])⟩
  rw [decide_eq_true c3] at hct
  rw [if_neg (by simp [c3])] at hc ⊢
  have hlay := hpl g.row.typ g.row sels p (isT t) st h hs hg hp hc
  unfold EvC at hlay
  generalize pl g.row.typ g.row sels p (isT t) st = r at *
  have hla : AV.lowL 2 4 [.ptr 0 0, plE (.vptr 3 10 1 0 0) g.row.typ g.row sels p] = true := by simp [plE, AV.lowL, AV.low, Mem.lowL, AV.lowL_of_closed _ _ _ (Step.closedL p)]
  have q0 : (evT st ++ [Tok.vec [knG 2 (isT t)]]).length ≤ (evT r.2 ++ [Tok.vec [r.1.kenc]]).length := Nat.le_refl _
  have q1 : belowB (evB s d env st).length (evT st ++ [Tok.vec [knG 2 (isT t)]]).length (evB s d env st) = true := evB_low s d env st 4 (by omega)
  have q2 : belowT (evB s d env st).length (evT st ++ [Tok.vec [knG 2 (isT t)]]).length (evT st ++ [Tok.vec [knG 2 (isT t)]]) = true := evT_low4 st (knG 2 (isT t)) rfl
  have q3 : belowB (evB s d env r.2).length (evT r.2 ++ [Tok.vec [r.1.kenc]]).length (evB s d env r.2) = true := evB_low s d env r.2 4 (by omega)
  have q4 : belowT (evB s d env r.2).length (evT r.2 ++ [Tok.vec [r.1.kenc]]).length (evT r.2 ++ [Tok.vec [r.1.kenc]]) = true := evT_low4 r.2 _ (AV.low_of_closed _ _ _ (Nd.kclosed _))
  repeat' first | refine AOps.bx (v := .agg [_, _, _, _, _, _]) ?_ | refine .br ?_ | refine .s1 ?_ | (refine .q ?_ ?_ <;> intro hc) | refine A.nlP rfl ?_ | refine A.vnil rfl ?_ | refine A.vstore (agg := true) rfl rfl rfl rfl rfl rfl rfl rfl rfl rfl rfl ?_ | refine A.callvPreB (B0 := evB s d env st) (B1 := evB s d env r.2) rfl rfl hlay rfl rfl q0 q1 q2 q3 q4 hla rfl (WeakL.refl _) ?_ | fail
  exact ⟨_, _, rfl, Turn.refl _ _, rfl, rfl⟩
end Go.Proofs.YtmfmdehfbpkgdaaGreatDoor
namespace Go.Av
open Go
variable [Globals]
theorem pickR_nodup (n m : Nat) : (List.range n ++ [n + m]).Nodup := by
  rw [List.nodup_append]
  refine ⟨List.nodup_range, by simp, fun a ha b hb => ?_⟩
  rw [List.mem_range] at ha
  rw [List.mem_singleton] at hb
  omega
theorem pickR_get {n m k : Nat} (h : k < n) : (List.range n ++ [n + m])[k]? = some k := by
  rw [List.getElem?_append_left (by simpa using h), List.getElem?_range h]
theorem pickR_last (n m : Nat) : (List.range n ++ [n + m])[n]? = some (n + m) := by
  rw [List.getElem?_append_right (by simp)]; simp
theorem pickR_len (n m : Nat) : (List.range n ++ [n + m]).length = n + 1 := by simp
theorem merge_pick {α : Type} (l0 m m2 c : List α) (x y : α) (hc : c.length = l0.length) : merge (l0 ++ m ++ x :: m2) (List.range l0.length ++ [l0.length + m.length]) (c ++ [y]) = c ++ m ++ y :: m2 := by
  have hn := pickR_nodup l0.length m.length
  have hlt : ∀ i ∈ List.range l0.length ++ [l0.length + m.length], i < (l0 ++ m ++ x :: m2).length := fun i hi => by
    simp only [List.mem_append, List.mem_range, List.mem_singleton] at hi
    simp only [List.length_append, List.length_cons, List.length_nil]
    omega
  have hcl : (List.range l0.length ++ [l0.length + m.length]).length ≤ (c ++ [y]).length := by rw [pickR_len]; simp [hc]
  unfold merge
  rw [List.drop_eq_nil_of_le (by rw [pickR_len]; simp [hc]), List.append_nil]
  apply List.ext_getElem?
  intro j
  by_cases h1 : j < l0.length
  · rw [upd_new _ _ _ j j hn hlt hcl (pickR_get h1), List.append_assoc, List.getElem?_append_left (by omega), List.getElem?_append_left (by omega)]
  by_cases h2 : j = l0.length + m.length
  · subst h2
    rw [upd_new _ _ _ l0.length _ hn hlt hcl (pickR_last _ _), List.getElem?_append_right (by omega), List.getElem?_append_right (by simp; omega)]
    simp [hc]
  · rw [upd_old _ _ _ _ (fun h => by simp only [List.mem_append, List.mem_range, List.mem_singleton] at h; omega)]
    by_cases h3 : j < l0.length + m.length
    · have a1 : j < (l0 ++ m).length := by rw [List.length_append]; exact h3
      have a2 : j < (c ++ m).length := by rw [List.length_append, hc]; exact h3
      rw [List.getElem?_append_left a1, List.getElem?_append_left a2, List.getElem?_append_right (by omega), List.getElem?_append_right (by omega), hc]
    · have a1 : (l0 ++ m).length ≤ j := by rw [List.length_append]; omega
      have a2 : (c ++ m).length ≤ j := by rw [List.length_append, hc]; omega
      have a3 : j - (l0 ++ m).length = (j - (l0 ++ m).length - 1) + 1 := by rw [List.length_append]; omega
      have a4 : (c ++ m).length = (l0 ++ m).length := by rw [List.length_append, List.length_append, hc]
      rw [List.getElem?_append_right a1, List.getElem?_append_right a2, a4, a3, List.getElem?_cons_succ, List.getElem?_cons_succ]
theorem emb_pick {N n m k : Nat} (h : k < n) : emb N (List.range n ++ [n + m]) k = k := by
  unfold emb
  rw [pickR_len, if_pos (by omega)]
  simp [List.getD, pickR_get h]
theorem emb_pickL (N n m : Nat) : emb N (List.range n ++ [n + m]) n = n + m := by
  unfold emb
  rw [pickR_len, if_pos (by omega)]
  simp [List.getD, pickR_last]
section
variable {P : Program} {all : Array Oper} {draw : Bool} {K : AX → Slots → St → Prop} {rest : List Oper} {acc : List Tag} {s : Slots} {σ : St} {ty : TypeId} {pos : String} {af : Array Edge}
theorem A.callPick {d : Option Tmp} {f : FuncId} {args : Array Operand} {tys : Array TypeId} {vals pre post : List AV} {B0 B1 B : List Ob} {T0 T1 M M2 : List Tok} {x0 x1 : Tok} {v : AV} {z n j off : Nat} (ha : evsK s args.toList some = some vals)
    (hp : AFn P f (pre ++ .vptr T0.length z n j off :: post) ⟨B0, T0 ++ [x0]⟩ (fun e σ1 => e = .ret v ∧ σ1 = ⟨B1, T1 ++ [x1]⟩)) (hσ : σ = ⟨B0 ++ B, T0 ++ M ++ x0 :: M2⟩) (hB : B1.length = B0.length) (hT : T1.length = T0.length)
    (hb0 : belowB B0.length T0.length B0 = true) (ht0 : belowT B0.length T0.length (T0 ++ [x0]) = true) (hb0' : belowB B0.length (T0.length + 1) B0 = true) (ht0' : belowT B0.length (T0.length + 1) (T0 ++ [x0]) = true)
    (hb1 : belowB B0.length T0.length B1 = true) (ht1 : belowT B0.length T0.length (T1 ++ [x1]) = true)
    (hlp : AV.lowL B0.length T0.length pre = true) (hlq : AV.lowL B0.length T0.length post = true) (hl : AV.lowL B0.length (T0.length + 1) (pre ++ .vptr T0.length z n j off :: post) = true)
    (hv : v.low B0.length T0.length = true) (hw : WeakL vals (pre ++ .vptr (T0.length + M.length) z n j off :: post))
    (k : AOps P all draw K rest (.all :: acc) (putS d v s) ⟨B1 ++ B, T1 ++ M ++ x1 :: M2⟩) : AOps P all draw K (⟨d, .call ⟨.value (.func f), args, tys⟩, ty, pos, af, none⟩ :: rest) acc s σ := by
  subst hσ
  have hfb : ∀ i, i < B0.length → emb (B0.length + B.length) (List.range B0.length) i = i := fun i hi => emb_range (.inr hi)
  have hft : ∀ i, i < T0.length → emb (T0.length + M.length + 1 + M2.length) (List.range T0.length ++ [T0.length + M.length]) i = i := fun i hi => emb_pick hi
  have e0 := renB_same hfb hft B0 hb0
  have e1 := renT_same hfb hft (T0 ++ [x0]) ht0
  have happ : ∀ (fb ft : Nat → Nat) (a b : List AV), AV.renL fb ft (a ++ b) = AV.renL fb ft a ++ AV.renL fb ft b := fun fb ft a b => by
    induction a with
    | nil => rfl
    | cons c a ih => rw [List.cons_append, AV.renL, AV.renL, ih, List.cons_append]
  have hargs : AV.renL (emb (B0.length + B.length) (List.range B0.length)) (emb (T0.length + M.length + 1 + M2.length) (List.range T0.length ++ [T0.length + M.length])) (pre ++ .vptr T0.length z n j off :: post) = pre ++ .vptr (T0.length + M.length) z n j off :: post := by
    rw [happ, AV.renL, AV.renL_same hfb hft pre hlp, AV.renL_same hfb hft post hlq, AV.ren, emb_pickL]
  refine A.callR (nB := B0.length + B.length) (nT := T0.length + M.length + 1 + M2.length) (List.range B0.length) (List.range T0.length ++ [T0.length + M.length]) ha hp (by simp) (by simp; omega) ⟨List.nodup_range, fun i hi => by have := List.mem_range.1 hi; omega⟩
    ⟨pickR_nodup _ _, fun i hi => by simp only [List.mem_append, List.mem_range, List.mem_singleton] at hi; omega⟩
    (by simp) (by simp) (fun j i ob h ho => ?_) (fun j i t h ht => ?_) (by rw [List.length_range, pickR_len]; exact hb0') (by rw [List.length_range, pickR_len]; exact ht0') (by rw [List.length_range, pickR_len]; exact hl)
    (by rw [hargs]; exact hw) (AV.ren_same hfb hft v hv) (B' := B1 ++ B) (T' := T1 ++ M ++ x1 :: M2) ?_ ?_ k
  · have hj : j < B0.length := (List.getElem?_eq_some_iff.1 ho).1
    rw [List.getElem?_range hj] at h
    cases h
    have q := congrArg (fun l : List Ob => l[j]?) e0
    simp only [List.getElem?_map, ho] at q
    show (B0 ++ B)[j]? = _
    rw [List.getElem?_append_left hj, ho]
    exact q.symm
  · have q := congrArg (fun l : List Tok => l[j]?) e1
    simp only [List.getElem?_map, ht] at q
    show (T0 ++ M ++ x0 :: M2)[i]? = _
    by_cases hj : j < T0.length
    · rw [pickR_get hj] at h
      cases h
      rw [List.append_assoc, List.getElem?_append_left hj]
      rw [List.getElem?_append_left hj] at ht
      rw [ht]
      exact q.symm
    · have hj2 := (List.getElem?_eq_some_iff.1 ht).1
      simp only [List.length_append, List.length_cons, List.length_nil] at hj2
      obtain rfl : j = T0.length := by omega
      rw [pickR_last] at h
      cases h
      rw [List.getElem?_append_right (by simp)]
      rw [List.getElem?_append_right (Nat.le_refl _)] at ht
      simp only [Nat.sub_self, List.length_append] at ht ⊢
      show some x0 = _
      rw [show some x0 = some t from ht]
      exact q.symm
  · rw [renB_same hfb hft B1 hb1]
    exact merge_range B0 B B1 (.inr hB) (by omega)
  · rw [renT_same hfb hft _ ht1]
    exact merge_pick T0 M M2 T1 x0 x1 hT
theorem A.callTk {d : Option Tmp} {f : FuncId} {args : Array Operand} {tys : Array TypeId} {vals vals0 : List AV} {v : AV} {T1 : List Tok} (ha : evsK s args.toList some = some vals)
    (hp : ∀ B, AFn P f vals0 ⟨B, σ.T⟩ (fun e σ' => e = .ret v ∧ σ' = ⟨B, T1⟩)) (hw : WeakL vals vals0)
    (k : AOps P all draw K rest (.tk :: acc) (putS d v s) ⟨σ.B, T1⟩) : AOps P all draw K (⟨d, .call ⟨.value (.func f), args, tys⟩, ty, pos, af, none⟩ :: rest) acc s σ :=
  A.step (t := .tk) (σ' := ⟨σ.B, T1⟩) rfl ⟨rfl, fun B => by
    intro g w a next Q hI ho hn
    have hvv : args.toList.map (ev s) = vals := Option.some.inj (evsK_spec _ _ _ ha)
    have hl := repL_map (g := g) (w := w) (s := s) (a := a) args.toList (fun x hx => ho x (by simpa [Op.operands, Call.operands] using .inr (by simpa using hx)))
    rw [hvv] at hl
    have hl2 : RepL g w vals0 (args.map a.eval).toList := by
      rw [Array.toList_map]
      exact hw _ _ _ hl
    unfold Oper.wp
    rw [run_call_func (hp B).1 a w]
    show Calls P f (args.map a.eval) w _
    refine ((hp B).2 _ w _ hI hl2).mono ?_
    rintro e w' ⟨g1, σ', x, h1, h2, h3, rfl, rfl⟩
    obtain ⟨u, rfl, hu⟩ := h3
    exact hn u w' g1 h1 h2 hu⟩ k
theorem run_eq_nilf {T : TypeId} {a : Array TypeId} {b : Array TypeId} {c : Bool} (h : P.underlying T = some (.func a b c)) {u : Value} {r : Bool} (hu : (u = .nilFunc ∧ r = true) ∨ (∃ f x y, u = .func f x y) ∧ r = false) (n : Nat) (w : World) : (Op.equalIn (n + 1) T u .nilFunc).run P w = .ok r w := by
  rcases hu with ⟨rfl, rfl⟩ | ⟨⟨f, x, y, rfl⟩, rfl⟩ <;> simp [Op.equalIn, run_underlying h, Result.andThen]
theorem A.eqfn [Lay P] {d : Tmp} {T U : TypeId} {x : Operand} {v : AV} {b : Bool} {ti : TI} (hT : ty? P T = some ti) (hk : ti.kind = .func) (hx : ev? s x = some v) (hv : (match v with | .nilfn => some true | .fn _ _ _ => some false | _ => none) = some b) (k : AOps P all draw K rest (.pure :: acc) ((d, .bool b) :: s) σ) :
    AOps P all draw K (⟨some d, .binOp .eql T x (.const .nilFunc) U, ty, pos, af, none⟩ :: rest) acc s σ :=
  A.step rfl (tpure fun g w a ho => by
    have h1 := op1 hx (by simp [Op.operands]) ho
    obtain ⟨info, dd, z0, t1, t2, t3, t4, _⟩ := (ty_ok hT).ex
    have hd : ∃ a b c, dd = .func a b c := by rw [hk] at t3; cases dd <;> first | exact ⟨_, _, _, rfl⟩ | cases t3
    obtain ⟨p1, p2, p3, rfl⟩ := hd
    have ec : a.eval (.const .nilFunc) = .nilFunc := rfl
    refine ⟨.bool b, ?_, rfl⟩
    cases v with
    | nilfn =>
      cases hv
      have e : a.eval x = .nilFunc := h1
      have h3 : (Op.equal T .nilFunc .nilFunc).run P w = .ok true w := run_eq_nilf t2 (.inl ⟨rfl, rfl⟩) 9999 w
      simp [execOp, e, ec, eqGuard, Go.binOp, h3, Result.andThen]
    | fn f fs cs =>
      cases hv
      obtain ⟨vs, ws, e, _⟩ := h1
      have h3 : (Op.equal T (.func f vs ws) .nilFunc).run P w = .ok false w := run_eq_nilf t2 (.inr ⟨⟨_, _, _, rfl⟩, rfl⟩) 9999 w
      simp [execOp, e, ec, eqGuard, Go.binOp, h3, Result.andThen]
    | _ => cases hv) k
end
end Go.Av
namespace Go.Proofs.YtmfmdehfbpkgdaaGreatDoor
open Go Go.Av
attribute [local irreducible] HCode AOps PFn AFn Av.Step TStep
theorem EvOk.read {st : EvS} (h : EvOk st) (n : Need) (hc : (lastR st.R).length < st.c) : EvOk (st.read n) := ⟨h.F, by
  intro e
  have h2 : (readL n st.R).length = 0 := congrArg List.length e
  rw [readL_len] at h2
  exact h.R0 (List.eq_nil_of_length_eq_zero h2), by
  show (lastR (readL n st.R)).length ≤ st.c
  rw [readL_last n st.R h.R0]
  split
  · exact h.RL
  · rw [List.length_append]; simp only [List.length_cons, List.length_nil]; omega, by
  show (readL n st.R).length ≤ _
  rw [readL_len]; exact h.RN, h.T⟩
theorem eRd (s : Sch) (d : Dcm) (env : List Mem) (hx : CtxOk s d env) (pl : Pl) (hpl : PlOk s d env pl) (tb key : Str) (t : Typ) (sels : List Sl) (p : Path) (st : EvS) (h : EvOk st) (hr : (lastR st.R).length < st.c) (hs : SelsOk sels st.c) (hp : p.length ≤ st.c) (hc0 : st.c ≤ 4096)
    (hc : (gotM s pl sels t p (findG st.L ⟨tb, key⟩) (st.read ⟨tb, key⟩)).2.c ≤ 4096) :
    EvC s d env 28 [hangE (.vptr 3 10 1 0 0) tb key t sels p, .rptr (.ptr 0 0), .rptr (.ptr 1 0)] st (knG 0 (isT t)) (gotM s pl sels t p (findG st.L ⟨tb, key⟩) (st.read ⟨tb, key⟩)) := by
  have hread := eRead s d env st ⟨tb, key⟩ h (by omega) [.vec [knG 0 (isT t)]] rfl
  have hgot := eGot s d env hx pl hpl tb key t sels p (findG st.L ⟨tb, key⟩) (find_row h.T _) (st.read ⟨tb, key⟩) (h.read _ hr) hs hp hc0 hc
  unfold EvC at hgot ⊢
  generalize gotM s pl sels t p (findG st.L ⟨tb, key⟩) (st.read ⟨tb, key⟩) = r at *
  refine AFn.methK (nB := 2) (mT := 4) (AFn.en [] Tryz.func28 ?_) (Nat.le_refl _) (Nat.le_refl _) rfl (evB_low _ _ _ _ _ (by omega)) (evT_low4 _ _ (AV.low_of_closed _ _ _ (Nd.kclosed _)))
  repeat' first | refine .br ?_ | refine .s1 ?_ | (refine .q ?_ ?_ <;> intro hc) | refine A.callA rfl hread (WeakL.refl _) ?_ | refine A.callA rfl hgot (WeakL.refl _) ?_ | fail
  exact ⟨_, _, rfl, Turn.refl _ _, rfl, rfl⟩
end Go.Proofs.YtmfmdehfbpkgdaaGreatDoor
