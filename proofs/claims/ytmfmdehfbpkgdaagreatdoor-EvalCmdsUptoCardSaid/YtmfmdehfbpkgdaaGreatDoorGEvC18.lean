/-
  Contracts and plain facts for a law, joined.
-/
import Derived.Test.YtmfmdehfbpkgdaaGreatDoorGEvC17
import Derived.Test.YtmfmdehfbpkgdaaGreatDoorGEvC4
import Derived.Test.YtmfmdehfbpkgdaaGreatDoorGEvC2
import Derived.Test.YtmfmdehfbpkgdaaGreatDoorGEvC1
import Derived.Test.YtmfmdehfbpkgdaaGreatDoorGEvC12
import Derived.Test.YtmfmdehfbpkgdaaGreatDoorGEvC6
set_option maxRecDepth 100000
set_option maxHeartbeats 16000000
set_option linter.unusedVariables false
set_option linter.unusedSimpArgs false
set_option linter.unusedSectionVars false
namespace Go.Proofs.YtmfmdehfbpkgdaaGreatDoor
open Go Go.Av
attribute [local irreducible] HCode AOps PFn AFn Av.Step TStep
def txtR (l : List Mem) (n : Str) : Str := (getG n l).1.s
def okR (l : List Mem) (n : Str) : Bool := (getG n l).1.kind == 4 && (getG n l).1.s != []
theorem getG_no (n : Str) : ∀ l : List Mem, (getG n l).2 = false → (getG n l).1 = val0
  | [], _ => rfl
  | m :: l, h => by
    rw [getG] at h ⊢
    split at h
    · cases h
    · rename_i c
      rw [if_neg c]
      exact getG_no n l h
theorem okR_iff (l : List Mem) (n : Str) : okR l n = true ↔ (getG n l).2 = true ∧ (getG n l).1.kind = 4 ∧ (getG n l).1.s ≠ [] := by
  unfold okR
  rw [Bool.and_eq_true, beq_iff_eq, bne_iff_ne]
  constructor
  · rintro ⟨h1, h2⟩
    refine ⟨?_, h1, h2⟩
    cases h : (getG n l).2 with
    | true => rfl
    | false =>
      rw [getG_no n l h] at h1
      exact absurd h1 (by decide)
  · exact fun h => h.2
theorem textsF_R (l : List Mem) : ∀ ns : List Str, textsF l ns = if ns.all (okR l) = true then some (ns.map (txtR l)) else none
  | [] => rfl
  | n :: ns => by
    rw [textsF, textsF_R l ns, List.all_cons, List.map_cons]
    by_cases c : okR l n = true
    · rw [if_pos ((okR_iff l n).1 c), c, Bool.true_and]
      split <;> rfl
    · rw [if_neg (fun x => c ((okR_iff l n).2 x)), if_neg (by rw [Bool.and_eq_true]; exact fun x => c x.1)]
def textsQ (l : List Mem) (ns : List Str) : List Str × Bool := if ns.all (okR l) = true then (ns.map (txtR l), decide (l.length = ns.length)) else ([], false)
theorem textsQ_O (l : List Mem) (ns : List Str) : textsO l ns = if (textsQ l ns).2 = true then some (textsQ l ns).1 else none := by
  unfold textsO textsQ
  rw [textsF_R]
  by_cases c : ns.all (okR l) = true
  · rw [if_pos c, if_pos c]
    by_cases d : l.length = ns.length
    · rw [if_pos d, if_pos (decide_eq_true d)]
    · rw [if_neg d, if_neg (by simpa using d)]
  · rw [if_neg c, if_neg c]
    simp
theorem Fin.ret2R {t1 t2 : Nat} {s : Slots} {v1 v2 r : AV} (h1 : lk? s t1 = some v1) (h2 : lk? s t2 = some v2) (hw : Weak (.tup [v1, v2]) r) : ∃ v', AEnd.ret (resAV s [t1, t2]) = .ret v' ∧ Weak v' r :=
  ⟨_, rfl, by rw [show resAV s [t1, t2] = .tup [v1, v2] by unfold resAV; simp only [List.map_cons, List.map_nil, lk_of h1, lk_of h2]]; exact hw⟩
theorem rTexts9 (l : List Mem) (ns : List Str) (hl : l.length ≤ 68719476736) (hnl : ns.length ≤ 4) : PFn Tryz.prog 50 [.slice (l.map Mem.enc) .no, .slice (ns.map AV.str) .no] (.tup [.slice ((textsQ l ns).1.map AV.str) .no, .bool (textsQ l ns).2]) := by
  have hlm : (l.map Mem.enc).length = l.length := List.length_map ..
  refine AFn.plain (by simp [AV.closed, AV.closedL, str_closedL]) (by simp [AV.closed, AV.closedL, Mem.closedL, str_closedL]) (AFn.en [4, 5] Tryz.func50 ?_)
  unfold textsQ
  refine .go ?_
  refine HCode.adopt 6 false 1 rfl rfl rfl rfl rfl rfl ?_
  refine HCode.forK ns.length (fun k => [(7, .int .i64 k), (0, .slice (l.map Mem.enc) .no), (1, .slice (ns.map AV.str) .no), (6, .slice (((ns.take k).map (txtR l)).map AV.str) (.own 0 1))])
    (fun k => ⟨[], [.len k]⟩) (fun k => (ns.take k).all (okR l) = true) ⟨rfl, rfl, rfl, rfl, trivial⟩ rfl (by simp) fun k hk hj => ?_
  have htl : (((ns.take k).map (txtR l)).map AV.str).length = k := by simp; omega
  by_cases h1 : k < ns.length
  · have d1 : decide ((k : Int) < (ns.length : Int)) = true := by simp [h1]
    have x1 := map_get' (f := AV.str) h1
    have hg := rGetV ns[k] l (by omega)
    have hnx := all_next (p := okR l) h1 hj
    have hsp := all_stop (p := okR l) h1
    have htx : txtR l ns[k] = (getG ns[k] l).1.s := rfl
    unfold okR at hnx hsp
    cases a2 : ((getG ns[k] l).1.kind == 4) <;> rw [a2] at hnx hsp
    · have ha : ns.all (okR l) = false := hsp rfl
      have n2 : ((getG ns[k] l).1.kind != 4) = true := by unfold bne; rw [a2]; rfl
      rw [ha]
      refine .go ?_
      exact Fin.ret2R rfl rfl (Weak.tup (WeakL.cons (Weak.no (WeakL.refl _)) (WeakL.refl _)))
    have n2 : ((getG ns[k] l).1.kind != 4) = false := by unfold bne; rw [a2]; rfl
    cases a3 : ((getG ns[k] l).1.s == [])
    · have n3 : ((getG ns[k] l).1.s != []) = true := by unfold bne; rw [a3]; rfl
      rw [n3] at hnx
      have hj' := hnx rfl
      repeat' first | refine .s1 ?_ | (refine .q ?_ ?_ <;> intro hc) | refine A.append (n := k) rfl rfl rfl rfl rfl rfl rfl rfl htl rfl (by dsimp only [List.length_cons, List.length_nil]; omega) (by dsimp only [List.length_cons, List.length_nil]; omega) rfl ?_ | fail
      exact ⟨h1, ⟨rfl, rfl, rfl, by rw [List.take_succ_eq_append_getElem h1, List.map_append, List.map_append]; rfl, trivial⟩, by simp [-List.map_take, -List.map_map, belowS, AV.low, AV.lowL], by simp [belowB, belowT, Ob.low, Tok.low], rfl, hj'⟩
    · have n3 : ((getG ns[k] l).1.s != []) = false := by unfold bne; rw [a3]; rfl
      rw [n3] at hsp
      have ha : ns.all (okR l) = false := hsp rfl
      rw [ha]
      refine .go ?_
      exact Fin.ret2R rfl rfl (Weak.tup (WeakL.cons (Weak.no (WeakL.refl _)) (WeakL.refl _)))
  · have d1 : decide ((k : Int) < (ns.length : Int)) = false := by simp; omega
    obtain rfl : k = ns.length := by omega
    rw [List.take_length] at hj htl
    rw [List.take_length, hj]
    refine .go ?_
    refine Fin.ret2R rfl rfl (Weak.tup (WeakL.cons (Weak.no (WeakL.refl _)) (WeakL.cons (Weak.eq (congrArg AV.bool ?_)) (WeakL.refl _))))
    rw [Bool.eq_iff_iff, beq_iff_eq, if_pos rfl, decide_eq_true_eq]
    omega
def fromB (d : Dirc) : Bnd × Bool :=
  if d.name = sCol then (match textsO d.args [sName] with | some [a] => (⟨0, [], a, [], []⟩, true) | _ => (bnd0, false))
  else if d.name = sLink then (match textsO d.args [sTable, sCol] with | some [a, b] => (⟨1, a, b, [], []⟩, true) | _ => (bnd0, false))
  else if d.name = sGet then (match textsO d.args [sTable, sArg] with | some [a, b] => (⟨2, a, [], b, []⟩, true) | _ => (bnd0, false))
  else if d.name = sDo then (match textsO d.args [sCmd, sTable] with
    | some [a, b] => (⟨3, b, [], [], a⟩, a == sPut || (a == sCut || a == sBurn))
    | _ => match textsO d.args [sCmd, sTable, sCol] with | some [a, b, c] => (⟨3, b, c, [], a⟩, a == sAdd) | _ => (bnd0, false))
  else (bnd0, false)
theorem weak_fullR {x : AV} {xs : List AV} {t : Tk} : WeakL [x, .slice xs t] [x, .slice xs .no] := WeakL.cons (Weak.refl _) (WeakL.cons (Weak.no (WeakL.refl _)) (WeakL.refl _))
theorem rFrom9 (d : Dirc) (hd : d.args.length ≤ 68719476736) : PFn Tryz.prog 22 [d.enc] (.tup [(fromB d).1.enc, .bool (fromB d).2]) := by
  have h1 := rTexts9 d.args [sName] hd (by decide)
  have h2 := rTexts9 d.args [sTable, sCol] hd (by decide)
  have h3 := rTexts9 d.args [sTable, sArg] hd (by decide)
  have h4 := rTexts9 d.args [sCmd, sTable] hd (by decide)
  have h5 := rTexts9 d.args [sCmd, sTable, sCol] hd (by decide)
  have o1 := textsQ_O d.args [sName]
  have o2 := textsQ_O d.args [sTable, sCol]
  have o3 := textsQ_O d.args [sTable, sArg]
  have o4 := textsQ_O d.args [sCmd, sTable]
  have o5 := textsQ_O d.args [sCmd, sTable, sCol]
  refine AFn.plain (by simp [AV.closed, AV.closedL, Bnd.closed]) (by simp [AV.closed, AV.closedL, Dirc.closed]) (AFn.eR [.cell 2 32, .tmp 3] Tryz.func22 ?_)
  unfold fromB
  have i1 : (d.name == [99, 111, 108]) = decide (d.name = sCol) := by unfold sCol; rw [Bool.eq_iff_iff]; simp
  have i2 : (d.name == [108, 105, 110, 107]) = decide (d.name = sLink) := by unfold sLink; rw [Bool.eq_iff_iff]; simp
  have i3 : (d.name == [103, 101, 116]) = decide (d.name = sGet) := by unfold sGet; rw [Bool.eq_iff_iff]; simp
  have i4 : (d.name == [100, 111]) = decide (d.name = sDo) := by unfold sDo; rw [Bool.eq_iff_iff]; simp
  by_cases c1 : d.name = sCol
  · rw [decide_eq_true c1] at i1
    rw [if_pos c1]
    generalize textsQ d.args [sName] = q at h1 o1
    obtain ⟨xs, ok⟩ := q
    dsimp only at h1 o1
    cases ok with
    | false =>
      rw [if_neg (by decide)] at o1
      rw [o1]
      repeat' first | refine .br ?_ | refine .s1 ?_ | (refine .q ?_ ?_ <;> intro hc) | refine A.call rfl h1 weak_fullR ?_ | fail
      exact FinR.r0
    | true =>
      rw [if_pos rfl] at o1
      obtain ⟨a, rfl, _⟩ := textsO_one o1
      rw [o1]
      have y0 : ([a].map AV.str)[0]? = some (AV.str a) := rfl
      repeat' first | refine .br ?_ | refine .s1 ?_ | (refine .q ?_ ?_ <;> intro hc) | refine A.call rfl h1 weak_fullR ?_ | fail
      exact FinR.r0
  rw [decide_eq_false c1] at i1
  rw [if_neg c1]
  by_cases c2 : d.name = sLink
  · rw [decide_eq_true c2] at i2
    rw [if_pos c2]
    generalize textsQ d.args [sTable, sCol] = q at h2 o2
    obtain ⟨xs, ok⟩ := q
    dsimp only at h2 o2
    cases ok with
    | false =>
      rw [if_neg (by decide)] at o2
      rw [o2]
      repeat' first | refine .br ?_ | refine .s1 ?_ | (refine .q ?_ ?_ <;> intro hc) | refine A.call rfl h2 weak_fullR ?_ | fail
      exact FinR.r0
    | true =>
      rw [if_pos rfl] at o2
      obtain ⟨a, b, rfl, _⟩ := textsO_two o2
      rw [o2]
      have y0 : ([a, b].map AV.str)[0]? = some (AV.str a) := rfl
      have y1 : ([a, b].map AV.str)[1]? = some (AV.str b) := rfl
      repeat' first | refine .br ?_ | refine .s1 ?_ | (refine .q ?_ ?_ <;> intro hc) | refine A.call rfl h2 weak_fullR ?_ | fail
      exact FinR.r0
  rw [decide_eq_false c2] at i2
  rw [if_neg c2]
  by_cases c3 : d.name = sGet
  · rw [decide_eq_true c3] at i3
    rw [if_pos c3]
    generalize textsQ d.args [sTable, sArg] = q at h3 o3
    obtain ⟨xs, ok⟩ := q
    dsimp only at h3 o3
    cases ok with
    | false =>
      rw [if_neg (by decide)] at o3
      rw [o3]
      repeat' first | refine .br ?_ | refine .s1 ?_ | (refine .q ?_ ?_ <;> intro hc) | refine A.call rfl h3 weak_fullR ?_ | fail
      exact FinR.r0
    | true =>
      rw [if_pos rfl] at o3
      obtain ⟨a, b, rfl, _⟩ := textsO_two o3
      rw [o3]
      have y0 : ([a, b].map AV.str)[0]? = some (AV.str a) := rfl
      have y1 : ([a, b].map AV.str)[1]? = some (AV.str b) := rfl
      repeat' first | refine .br ?_ | refine .s1 ?_ | (refine .q ?_ ?_ <;> intro hc) | refine A.call rfl h3 weak_fullR ?_ | fail
      exact FinR.r0
  rw [decide_eq_false c3] at i3
  rw [if_neg c3]
  by_cases c4 : d.name = sDo
  case neg =>
    rw [decide_eq_false c4] at i4
    rw [if_neg c4]
    refine .gob ?_
    exact FinR.r0
  rw [decide_eq_true c4] at i4
  rw [if_pos c4]
  generalize textsQ d.args [sCmd, sTable] = q at h4 o4
  obtain ⟨xs, ok⟩ := q
  dsimp only at h4 o4
  cases ok with
  | true =>
    rw [if_pos rfl] at o4
    obtain ⟨a, b, rfl, _⟩ := textsO_two o4
    rw [o4]
    have y0 : ([a, b].map AV.str)[0]? = some (AV.str a) := rfl
    have y1 : ([a, b].map AV.str)[1]? = some (AV.str b) := rfl
    have j1 : (a == [112, 117, 116]) = (a == sPut) := rfl
    have j2 : (a == [99, 117, 116]) = (a == sCut) := rfl
    have j3 : (a == [98, 117, 114, 110]) = (a == sBurn) := rfl
    dsimp only
    cases b1 : (a == sPut) <;> rw [b1] at j1
    · cases b2 : (a == sCut) <;> rw [b2] at j2
      · cases b3 : (a == sBurn) <;> rw [b3] at j3
        all_goals
          repeat' first | refine .br ?_ | refine .s1 ?_ | (refine .q ?_ ?_ <;> intro hc) | refine A.call rfl h4 weak_fullR ?_ | refine A.call rfl h5 weak_fullR ?_ | fail
          exact FinR.ret1 rfl (Weak.tup (WeakL.cons (Weak.refl _) (WeakL.cons (Weak.eq (congrArg AV.bool j3)) (WeakL.refl _))))
      · repeat' first | refine .br ?_ | refine .s1 ?_ | (refine .q ?_ ?_ <;> intro hc) | refine A.call rfl h4 weak_fullR ?_ | refine A.call rfl h5 weak_fullR ?_ | fail
        exact FinR.r0
    · repeat' first | refine .br ?_ | refine .s1 ?_ | (refine .q ?_ ?_ <;> intro hc) | refine A.call rfl h4 weak_fullR ?_ | refine A.call rfl h5 weak_fullR ?_ | fail
      exact FinR.r0
  | false =>
    rw [if_neg (by decide)] at o4
    rw [o4]
    dsimp only
    generalize textsQ d.args [sCmd, sTable, sCol] = q at h5 o5
    obtain ⟨ys, ok⟩ := q
    dsimp only at h5 o5
    cases ok with
    | false =>
      rw [if_neg (by decide)] at o5
      rw [o5]
      repeat' first | refine .br ?_ | refine .s1 ?_ | (refine .q ?_ ?_ <;> intro hc) | refine A.call rfl h4 weak_fullR ?_ | refine A.call rfl h5 weak_fullR ?_ | fail
      exact FinR.r0
    | true =>
      rw [if_pos rfl] at o5
      obtain ⟨a, b, c, rfl, _⟩ := textsO_three o5
      rw [o5]
      have y0 : ([a, b, c].map AV.str)[0]? = some (AV.str a) := rfl
      have y1 : ([a, b, c].map AV.str)[1]? = some (AV.str b) := rfl
      have y2 : ([a, b, c].map AV.str)[2]? = some (AV.str c) := rfl
      repeat' first | refine .br ?_ | refine .s1 ?_ | (refine .q ?_ ?_ <;> intro hc) | refine A.call rfl h4 weak_fullR ?_ | refine A.call rfl h5 weak_fullR ?_ | fail
      exact FinR.r0
theorem rRows9 (s : Sch) (name : Str) (hs : s.size ≤ 1048576) : PFn Tryz.prog 24 [s.enc, .str name] (.bool (rowsB s name)) := by
  have h1 := rComposite9 s name hs
  have h2 := rPossible9 s name hs
  have h3 := rHas (possB s name) s.mutation (by have := poss_len s name (show s.size ≤ 1048640 by omega); omega)
  refine AFn.plain rfl (by simp [AV.closed, AV.closedL, Sch.closed]) (AFn.en [4] Tryz.func24 ?_)
  unfold rowsB
  cases c1 : compB s name <;> rw [c1] at h1
  · refine .gob ?_
    exact Fin.r0
  cases c2 : (s.mutation == [])
  · have n2 : (s.mutation != []) = true := by unfold bne; rw [c2]; rfl
    rw [n2]
    cases c3 : decide (s.mutation ∈ possB s name) <;> rw [c3] at h3
    all_goals
      repeat' first | refine .br ?_ | refine A.call rfl h3 (WeakL.refl _) ?_ | refine .s1 ?_ | (refine .q ?_ ?_ <;> intro hc) | fail
      exact Fin.r0
  · have n2 : (s.mutation != []) = false := by unfold bne; rw [c2]; rfl
    rw [n2]
    refine .gob ?_
    exact Fin.r0
def parQ (f : Fld) (arg : Str) : Bool := match parO f.params arg with
  | none => false
  | some p => (p.t.name == sID || p.t.name == sString) && p.t.lists == f.t.lists
def okOf (s : Sch) (typ : Str) (f : Fld) (b : Bnd) : Bool :=
  if b.how = 0 then !changesB s typ && leafB s f.t.name
  else if b.how = 1 then !changesB s typ && rowsB s f.t.name
  else if b.how = 2 then (!changesB s typ && rowsB s f.t.name) && parQ f b.arg
  else if b.how = 3 then changesB s typ && (f.t.lists == 0 && (leafB s f.t.name || rowsB s f.t.name))
  else false
def pickB (f : Fld) : Option Bnd := match f.dirs with
  | [] => some ⟨0, [], f.name, [], []⟩
  | [d] => if (fromB d).2 = true then some (fromB d).1 else none
  | _ => none
def ofQ (s : Sch) (typ : Str) (f : Fld) : Bnd × Bool := if f.name = sTypename then (bnd0, false) else match pickB f with
  | none => (bnd0, false)
  | some b => if okOf s typ f b = true then (b, true) else (bnd0, false)
theorem from_how (d : Dirc) (h : (fromB d).2 = true) : (fromB d).1.how = 0 ∨ (fromB d).1.how = 1 ∨ (fromB d).1.how = 2 ∨ (fromB d).1.how = 3 := by
  unfold fromB at h ⊢
  repeat' split at h
  all_goals first | (cases h; done) | (simp_all; done)
theorem two_three {l : List Mem} {xs ys : List Str} {a b c d e : Str} (h : textsO l [a, b] = some xs) (k : textsO l [c, d, e] = some ys) : False := by
  unfold textsO at h k
  split at h
  · split at k
    · simp_all
    · cases k
  · cases h
theorem dir_from (f : Fld) (d : Dirc) : (dirB f d).2 = ((fromB d).2 && (if (fromB d).1.how = 2 then parQ f (fromB d).1.arg else true)) ∧ ((dirB f d).2 = true → (dirB f d).1 = (fromB d).1) := by
  unfold dirB fromB
  by_cases c1 : d.name = sCol
  · rw [if_pos c1, if_pos c1]
    cases e : textsO d.args [sName] with
    | none => exact ⟨rfl, fun _ => rfl⟩
    | some xs => obtain ⟨x, rfl, _⟩ := textsO_one e; exact ⟨rfl, fun _ => rfl⟩
  rw [if_neg c1, if_neg c1]
  by_cases c2 : d.name = sLink
  · rw [if_pos c2, if_pos c2]
    cases e : textsO d.args [sTable, sCol] with
    | none => exact ⟨rfl, fun _ => rfl⟩
    | some xs => obtain ⟨x, y, rfl, _⟩ := textsO_two e; exact ⟨rfl, fun _ => rfl⟩
  rw [if_neg c2, if_neg c2]
  by_cases c3 : d.name = sGet
  · rw [if_pos c3, if_pos c3]
    cases e : textsO d.args [sTable, sArg] with
    | none => exact ⟨rfl, fun _ => rfl⟩
    | some xs =>
      obtain ⟨x, y, rfl, _⟩ := textsO_two e
      dsimp only
      unfold getB parQ
      cases ep : parO f.params y with
      | none => exact ⟨rfl, fun h => by cases h⟩
      | some p =>
        dsimp only
        by_cases cc : (p.t.name = sID ∨ p.t.name = sString) ∧ p.t.lists = f.t.lists
        · rw [if_pos cc]
          refine ⟨?_, fun _ => rfl⟩
          rw [if_pos rfl, Bool.true_and, eq_comm, Bool.and_eq_true, Bool.or_eq_true]
          simpa using cc
        · rw [if_neg cc]
          refine ⟨?_, fun h => by cases h⟩
          rw [if_pos rfl, Bool.true_and, eq_comm, Bool.eq_false_iff, ne_eq, Bool.and_eq_true, Bool.or_eq_true]
          simpa using cc
  rw [if_neg c3, if_neg c3]
  by_cases c4 : d.name = sDo
  · rw [if_pos c4, if_pos c4]
    unfold doB
    cases e3 : textsO d.args [sCmd, sTable, sCol] with
    | some xs =>
      obtain ⟨a, b, c, rfl, _⟩ := textsO_three e3
      cases e2 : textsO d.args [sCmd, sTable] with
      | some ys => exact (two_three e2 e3).elim
      | none => exact ⟨by simp, fun _ => rfl⟩
    | none =>
      cases e2 : textsO d.args [sCmd, sTable] with
      | some ys => obtain ⟨a, b, rfl, _⟩ := textsO_two e2; exact ⟨by simp, fun _ => rfl⟩
      | none => exact ⟨rfl, fun _ => rfl⟩
  · rw [if_neg c4, if_neg c4]; exact ⟨rfl, fun _ => rfl⟩
theorem fit_ok {s : Sch} {typ : Str} {f : Fld} {b : Bnd} (h : b.how = 0 ∨ b.how = 1 ∨ b.how = 2 ∨ b.how = 3) : okOf s typ f b = (fitB s typ f b.how && (if b.how = 2 then parQ f b.arg else true)) := by
  unfold okOf fitB
  have e : (f.t.lists == 0) = decide (f.t.lists = 0) := by rw [Bool.eq_iff_iff]; simp
  rcases h with h | h | h | h
  · simp [h, Bool.and_comm]
  · simp [h, Bool.and_comm]
  · rw [h]; simp only [reduceIte, show ¬ (2 : Int) = 0 by decide, show ¬ (2 : Int) = 1 by decide, show ¬ (2 : Int) = 3 by decide]
    cases changesB s typ <;> cases rowsB s f.t.name <;> cases parQ f b.arg <;> rfl
  · rw [h, e]; simp only [reduceIte, show ¬ (3 : Int) = 0 by decide, show ¬ (3 : Int) = 1 by decide, show ¬ (3 : Int) = 2 by decide]
    cases changesB s typ <;> cases rowsB s f.t.name <;> cases leafB s f.t.name <;> cases decide (f.t.lists = 0) <;> rfl
theorem of_ref (s : Sch) (typ : Str) (f : Fld) : ofB s typ f = ofQ s typ f := by
  unfold ofB ofQ
  by_cases hn : f.name = sTypename
  · rw [if_pos hn, if_neg (fun x => x.2.1 hn)]
  rw [if_neg hn]
  unfold saidB pickB
  match hd : f.dirs with
  | [] =>
    dsimp only
    rw [fit_ok (.inl rfl)]
    by_cases c : fitB s typ f 0 = true
    · rw [if_pos ⟨rfl, hn, c⟩, c]; simp
    · rw [if_neg (fun x => c x.2.2), if_neg (by simpa using c)]
  | [d] =>
    dsimp only
    obtain ⟨q1, q2⟩ := dir_from f d
    by_cases c : (fromB d).2 = true
    · rw [if_pos c]
      dsimp only
      rw [fit_ok (from_how d c)]
      rw [c, Bool.true_and] at q1
      by_cases c2 : (dirB f d).2 = true
      · rw [q2 c2]
        rw [← q1, c2, Bool.and_true]
        by_cases c3 : fitB s typ f (fromB d).1.how = true
        · rw [if_pos ⟨rfl, hn, c3⟩, if_pos c3]
        · rw [if_neg (fun x => c3 x.2.2), if_neg c3]
      · rw [if_neg (fun x => c2 x.1), ← q1, if_neg (by simp [c2])]
    · rw [if_neg c]
      dsimp only
      have : (dirB f d).2 = false := by rw [q1]; simp [c]
      rw [if_neg (by simp [this])]
  | d :: d2 :: ds =>
    dsimp only
    rw [if_neg (by simp)]
theorem rOf9 (s : Sch) (typ : Str) (f : Fld) (hs : s.size ≤ 1048576) (hf : f.size ≤ 1048640) : PFn Tryz.prog 15 [s.enc, .str typ, f.enc] (.tup [(ofB s typ f).1.enc, .bool (ofB s typ f).2]) := by
  have hfm := f.sums
  have hfl := sumSize_length Par.size_pos f.params
  have hL := rLeaf9 s f.t.name hs
  have hR := rRows9 s f.t.name hs
  have i1 : (f.name == [95, 95, 116, 121, 112, 101, 110, 97, 109, 101]) = decide (f.name = sTypename) := by unfold sTypename; rw [Bool.eq_iff_iff]; simp
  refine AFn.plain (by simp [AV.closed, AV.closedL, Bnd.closed]) (by simp [AV.closed, AV.closedL, Sch.closed, Fld.closed]) (AFn.eR [.cell 6 32, .tmp 7] Tryz.func15 ?_)
  rw [of_ref]
  unfold ofQ
  by_cases c0 : f.name = sTypename
  · rw [decide_eq_true c0] at i1
    rw [if_pos c0]
    refine .gob ?_
    exact FinR.r0
  rw [decide_eq_false c0] at i1
  rw [if_neg c0]
  unfold pickB
  match hd : f.dirs with
  | d :: d2 :: ds =>
    have e2 : decide ((1 : Int) < (f.dirs.length : Int)) = true := by rw [hd]; simp; omega
    refine .gob ?_
    exact FinR.r0
  | [] =>
    have e2 : decide ((1 : Int) < (f.dirs.length : Int)) = false := by rw [hd]; rfl
    have e3 : ((f.dirs.length : Int) == 1) = false := by rw [hd]; rfl
    dsimp only
    unfold okOf
    rw [if_pos rfl]
    unfold changesB
    cases m1 : (s.mutation != [])
    · cases w1 : leafB s f.t.name <;> rw [w1] at hL
      all_goals
        refine .gob ?_
        exact FinR.r0
    · cases m2 : (typ == s.mutation)
      · have n5 : (!(typ == s.mutation)) = true := by rw [m2]; rfl
        cases w1 : leafB s f.t.name <;> rw [w1] at hL
        all_goals
          refine .gob ?_
          exact FinR.r0
      · have n5 : (!(typ == s.mutation)) = false := by rw [m2]; rfl
        refine .gob ?_
        exact FinR.r0
  | [d] =>
    have e2 : decide ((1 : Int) < (f.dirs.length : Int)) = false := by rw [hd]; rfl
    have e3 : ((f.dirs.length : Int) == 1) = true := by rw [hd]; rfl
    have x1 : (f.dirs.map Dirc.enc)[0]? = some d.enc := by rw [hd]; rfl
    have hdz : d.size ≤ f.size := by have := sumSize_mem (size := Dirc.size) (l := f.dirs) (x := d) (by rw [hd]; simp); omega
    have hal : d.args.length ≤ d.size := by
      have := sumSize_length Mem.size_pos d.args
      unfold Dirc.size; omega
    have hF := rFrom9 d (by omega)
    have hhow := from_how d
    dsimp only
    generalize fromB d = r at *
    obtain ⟨b, ok⟩ := r
    dsimp only at *
    cases ok with
    | false =>
      rw [if_neg (by decide)]
      refine .gob ?_
      exact FinR.r0
    | true =>
      rw [if_pos rfl]
      dsimp only
      have hh := hhow rfl
      have hP := rParam9 f.params b.arg (by omega)
      have hQ : parQ f b.arg = ((parR f.params b.arg).2 && ((parR f.params b.arg).1.t.name == sID || (parR f.params b.arg).1.t.name == sString) && (parR f.params b.arg).1.t.lists == f.t.lists) := by
        unfold parQ parR
        cases parO f.params b.arg with
        | none => rfl
        | some p => dsimp only; rw [Bool.true_and]
      generalize parR f.params b.arg = pr at hP hQ
      obtain ⟨p, there⟩ := pr
      dsimp only at hP hQ
      have j1 : (p.t.name == [73, 68]) = (p.t.name == sID) := rfl
      have j2 : (p.t.name == [83, 116, 114, 105, 110, 103]) = (p.t.name == sString) := rfl
      unfold okOf
      rw [hQ]
      unfold changesB
      rcases hh with hk | hk | hk | hk
      · have k0 : (b.how == 0) = true := by simp [hk]
        have k1 : (b.how == 1) = false := by simp [hk]
        have k2 : (b.how == 2) = false := by simp [hk]
        have k3 : (b.how == 3) = false := by simp [hk]
        rw [if_pos hk]
        cases m1 : (s.mutation != [])
        · cases w1 : leafB s f.t.name <;> rw [w1] at hL
          all_goals
            refine .gob ?_
            exact FinR.r0
        · cases m2 : (typ == s.mutation)
          · have n5 : (!(typ == s.mutation)) = true := by rw [m2]; rfl
            cases w1 : leafB s f.t.name <;> rw [w1] at hL
            all_goals
              refine .gob ?_
              exact FinR.r0
          · have n5 : (!(typ == s.mutation)) = false := by rw [m2]; rfl
            refine .gob ?_
            exact FinR.r0
      · have k0 : (b.how == 0) = false := by simp [hk]
        have k1 : (b.how == 1) = true := by simp [hk]
        have k2 : (b.how == 2) = false := by simp [hk]
        have k3 : (b.how == 3) = false := by simp [hk]
        rw [if_neg (show ¬ b.how = 0 by omega), if_pos hk]
        cases m1 : (s.mutation != [])
        · cases w1 : rowsB s f.t.name <;> rw [w1] at hR
          all_goals
            refine .gob ?_
            exact FinR.r0
        · cases m2 : (typ == s.mutation)
          · have n5 : (!(typ == s.mutation)) = true := by rw [m2]; rfl
            cases w1 : rowsB s f.t.name <;> rw [w1] at hR
            all_goals
              refine .gob ?_
              exact FinR.r0
          · have n5 : (!(typ == s.mutation)) = false := by rw [m2]; rfl
            refine .gob ?_
            exact FinR.r0
      · have k0 : (b.how == 0) = false := by simp [hk]
        have k1 : (b.how == 1) = false := by simp [hk]
        have k2 : (b.how == 2) = true := by simp [hk]
        have k3 : (b.how == 3) = false := by simp [hk]
        rw [if_neg (show ¬ b.how = 0 by omega), if_neg (show ¬ b.how = 1 by omega), if_pos hk]
        cases m1 : (s.mutation != [])
        · cases w1 : rowsB s f.t.name <;> rw [w1] at hR
          · refine .gob ?_
            exact FinR.r0
          cases there
          · refine .gob ?_
            exact FinR.r0
          cases w2 : (p.t.name == sID) <;> rw [w2] at j1
          · cases w3 : (p.t.name == sString) <;> rw [w3] at j2
            · refine .gob ?_
              exact FinR.r0
            cases w4 : (p.t.lists == f.t.lists)
            · have n6 : (!(p.t.lists == f.t.lists)) = true := by rw [w4]; rfl
              refine .gob ?_
              exact FinR.r0
            have n6 : (!(p.t.lists == f.t.lists)) = false := by rw [w4]; rfl
            refine .gob ?_
            exact FinR.r0
          cases w4 : (p.t.lists == f.t.lists)
          · have n6 : (!(p.t.lists == f.t.lists)) = true := by rw [w4]; rfl
            refine .gob ?_
            exact FinR.r0
          have n6 : (!(p.t.lists == f.t.lists)) = false := by rw [w4]; rfl
          refine .gob ?_
          exact FinR.r0
        · cases m2 : (typ == s.mutation)
          · have n5 : (!(typ == s.mutation)) = true := by rw [m2]; rfl
            cases w1 : rowsB s f.t.name <;> rw [w1] at hR
            · refine .gob ?_
              exact FinR.r0
            cases there
            · refine .gob ?_
              exact FinR.r0
            cases w2 : (p.t.name == sID) <;> rw [w2] at j1
            · cases w3 : (p.t.name == sString) <;> rw [w3] at j2
              · refine .gob ?_
                exact FinR.r0
              cases w4 : (p.t.lists == f.t.lists)
              · have n6 : (!(p.t.lists == f.t.lists)) = true := by rw [w4]; rfl
                refine .gob ?_
                exact FinR.r0
              have n6 : (!(p.t.lists == f.t.lists)) = false := by rw [w4]; rfl
              refine .gob ?_
              exact FinR.r0
            cases w4 : (p.t.lists == f.t.lists)
            · have n6 : (!(p.t.lists == f.t.lists)) = true := by rw [w4]; rfl
              refine .gob ?_
              exact FinR.r0
            have n6 : (!(p.t.lists == f.t.lists)) = false := by rw [w4]; rfl
            refine .gob ?_
            exact FinR.r0
          · have n5 : (!(typ == s.mutation)) = false := by rw [m2]; rfl
            refine .gob ?_
            exact FinR.r0
      · have k0 : (b.how == 0) = false := by simp [hk]
        have k1 : (b.how == 1) = false := by simp [hk]
        have k2 : (b.how == 2) = false := by simp [hk]
        have k3 : (b.how == 3) = true := by simp [hk]
        rw [if_neg (show ¬ b.how = 0 by omega), if_neg (show ¬ b.how = 1 by omega), if_neg (show ¬ b.how = 2 by omega), if_pos hk]
        cases m1 : (s.mutation != [])
        · refine .gob ?_
          exact FinR.r0
        · cases m2 : (typ == s.mutation)
          · have n5 : (!(typ == s.mutation)) = true := by rw [m2]; rfl
            refine .gob ?_
            exact FinR.r0
          · have n5 : (!(typ == s.mutation)) = false := by rw [m2]; rfl
            cases w0 : (f.t.lists == 0)
            · have n7 : (!(f.t.lists == 0)) = true := by rw [w0]; rfl
              refine .gob ?_
              exact FinR.r0
            have n7 : (!(f.t.lists == 0)) = false := by rw [w0]; rfl
            cases w1 : leafB s f.t.name <;> rw [w1] at hL
            · cases w2 : rowsB s f.t.name <;> rw [w2] at hR
              all_goals
                refine .gob ?_
                exact FinR.r0
            refine .gob ?_
            exact FinR.r0
theorem served_all (s : Sch) : servedB s = (decide (checkI s = 0) && s.defs.all (fun d => d.kind != 1 || d.fields.all fun f => (ofB s d.name f).2)) := by
  unfold servedB
  congr 1
  exact anyP _ _ (fun d => by unfold bound1 bne; rw [← anyN, Bool.not_and]) _
theorem rBound9 (s : Sch) (hs : s.size ≤ 1048576) (ho : s.ok) : PFn Tryz.prog 6 [s.enc] (.bool (servedB s)) := by
  have hl := s.len
  have hc := rCheck9 s hs ho
  refine AFn.plain rfl (by simp [AV.closed, AV.closedL, Sch.closed]) (AFn.en [2] Tryz.func6 ?_)
  rw [served_all]
  by_cases c : checkI s = 0
  case neg =>
    have e : (checkI s != 0) = true := by simp [c]
    rw [decide_eq_false c]
    refine .gob ?_
    exact Fin.r0
  have e : (checkI s != 0) = false := by simp [c]
  rw [decide_eq_true c, Bool.true_and]
  refine .gob ?_
  refine HCode.forK s.defs.length (fun k => [(3, .int .i64 k), (1, .rptr s.enc)]) (fun _ => ⟨[], []⟩) (fun k => (s.defs.take k).all (fun d => d.kind != 1 || d.fields.all fun f => (ofB s d.name f).2) = true) ⟨rfl, rfl, trivial⟩ rfl (by simp) fun k hkk hjk => ?_
  by_cases hk : k < s.defs.length
  · have dk : decide ((k : Int) < (s.defs.length : Int)) = true := by simp [hk]
    have xk := map_get' (f := Dfn.enc) hk
    have hmk := List.getElem_mem hk
    have hnxk := all_next (p := fun d => d.kind != 1 || d.fields.all fun f => (ofB s d.name f).2) hk hjk
    have hspk := all_stop (p := fun d => d.kind != 1 || d.fields.all fun f => (ofB s d.name f).2) hk
    try dsimp only at hnxk hspk
    have hdz := Sch.dfn hmk
    generalize hd : s.defs[k] = d at *
    have hdl := d.lens
    have hdm := d.sums
    cases k3 : (d.kind == 1)
    · have n3 : (d.kind != 1) = true := by unfold bne; rw [k3]; rfl
      rw [n3] at hnxk hspk
      have hj' := hnxk rfl
      refine .gob ?_
      refine HCode.forK 0 (fun j => [(4, .int .i64 j), (3, .int .i64 k), (1, .rptr s.enc)]) (fun _ => ⟨[], []⟩) (fun _ => True) ⟨rfl, rfl, rfl, trivial⟩ rfl trivial fun j hj _ => ?_
      obtain rfl : j = 0 := by omega
      cases d1 : decide (((0 : Nat) : Int) < (d.fields.length : Int))
      all_goals
        refine .go ?_
        exact ⟨hk, ⟨rfl, rfl, trivial⟩, by simp [belowS, AV.low, AV.low_of_closed, Sch.closed, Dfn.closed, Fld.closed, Par.closed], rfl, rfl, hj'⟩
    have n3 : (d.kind != 1) = false := by unfold bne; rw [k3]; rfl
    rw [n3] at hnxk hspk
    refine .gob ?_
    refine HCode.forK d.fields.length (fun j => [(4, .int .i64 j), (3, .int .i64 k), (1, .rptr s.enc)]) (fun _ => ⟨[], []⟩) (fun j => (d.fields.take j).all (fun f => (ofB s d.name f).2) = true) ⟨rfl, rfl, rfl, trivial⟩ rfl (by simp) fun j hkj hjj => ?_
    by_cases hj : j < d.fields.length
    · have dj : decide ((j : Int) < (d.fields.length : Int)) = true := by simp [hj]
      have xj := map_get' (f := Fld.enc) hj
      have hmj := List.getElem_mem hj
      have hnxj := all_next (p := fun f => (ofB s d.name f).2) hj hjj
      have hspj := all_stop (p := fun f => (ofB s d.name f).2) hj
      try dsimp only at hnxj hspj
      have z := sumSize_mem (size := Fld.size) hmj
      generalize hf : d.fields[j] = f at *
      have q := rOf9 s d.name f hs (by omega)
      generalize ofB s d.name f = r at *
      obtain ⟨b, ok⟩ := r
      dsimp only at q hnxj hspj
      cases ok with
      | false =>
        have hi := hspj rfl
        have ha := hspk (by rw [hi]; rfl)
        rw [ha]
        refine .go ?_
        exact Fin.r0
      | true =>
        have hj' := hnxj rfl
        refine .go ?_
        exact ⟨hj, ⟨rfl, rfl, rfl, trivial⟩, by simp [belowS, AV.low, AV.low_of_closed, Sch.closed, Dfn.closed, Fld.closed, Par.closed], rfl, rfl, hj'⟩
    · have dj : decide ((j : Int) < (d.fields.length : Int)) = false := by simp; omega
      obtain rfl : j = d.fields.length := by omega
      rw [List.take_length] at hjj
      have hj' := hnxk (by rw [hjj]; rfl)
      refine .go ?_
      exact ⟨hk, ⟨rfl, rfl, trivial⟩, by simp [belowS, AV.low, AV.low_of_closed, Sch.closed, Dfn.closed, Fld.closed, Par.closed], rfl, rfl, hj'⟩
  · have dk : decide ((k : Int) < (s.defs.length : Int)) = false := by simp; omega
    obtain rfl : k = s.defs.length := by omega
    rw [List.take_length] at hjk
    rw [hjk]
    refine .go ?_
    exact Fin.r0
end Go.Proofs.YtmfmdehfbpkgdaaGreatDoor
namespace Go.Proofs.YtmfmdehfbpkgdaaGreatDoor
open Go Go.Av
mutual
theorem sameV_refl0 : ∀ v : Val, sameV v v = true
  | .mk k n s l m => by rw [sameV, sameL_refl0 l, sameM_refl0 m]; simp
theorem sameL_refl0 : ∀ l : List Val, sameL l l = true
  | [] => by rw [sameL]
  | v :: l => by rw [sameL, sameV_refl0 v, sameL_refl0 l]; rfl
theorem sameM_refl0 : ∀ l : List Mem, sameM l l = true
  | [] => by rw [sameM]
  | .mk n v :: l => by rw [sameM, sameV_refl0 v, sameM_refl0 l]; simp
end
end Go.Proofs.YtmfmdehfbpkgdaaGreatDoor
namespace Go.Proofs.YtmfmdehfbpkgdaaGreatDoor
open Go Go.Av
attribute [local irreducible] HCode AOps PFn AFn Av.Step TStep
theorem rCmd33 (f : Fld) (b : Bnd) (args : List Mem) : PFn Tryz.prog 10 [f.enc, b.enc, .slice (args.map Mem.enc) .no] (cmdOf f b args).enc := by
  refine AFn.plain (Cmd.closed _) (by simp [AV.closedL, AV.closed, Fld.closed, Bnd.closed, Mem.closedL]) (AFn.eR [.cell 6 42] Tryz.func10 ?_)
  refine .gob ?_
  exact FinR.r0
theorem sameCmd27 (c : Cmd) (h : sumSize Mem.size c.args ≤ 9223372036854775807) : PFn Tryz.prog 8 [c.enc, c.enc] (.bool true) := by
  refine AFn.plain rfl (by simp [AV.closedL, Cmd.closed]) (AFn.en [4] Tryz.func8 ?_)
  have hm := membersAny c.args c.args
  rw [sameM_refl0] at hm
  have e1 : (c.name == c.name) = true := by simp
  have e2 : (c.table == c.table) = true := by simp
  have e3 : (c.col == c.col) = true := by simp
  have e4 : (c.typ == c.typ) = true := by simp
  repeat' first | refine .br ?_ | refine .s1 ?_ | (refine .q ?_ ?_ <;> intro hc) | fail
  all_goals exact Fin.r0
theorem textV_ok (x : Str) : (textV x).ok := by unfold textV; rw [Val.ok]; exact ⟨by decide, by decide, by rw [Val.okL]; trivial, by rw [Val.okM]; trivial⟩
theorem intV_ok (n : Int) (h : (Lit.int .i64 n).wf = true) : (Val.mk 2 n [] [] []).ok := by rw [Val.ok]; exact ⟨by decide, h, by rw [Val.okL]; trivial, by rw [Val.okM]; trivial⟩
theorem schW_ok : schW.ok := fun d hd => by
  simp only [schW, List.mem_cons, List.not_mem_nil, or_false] at hd
  rcases hd with rfl | rfl
  · refine ⟨fun f hf => ?_, fun p hp => by cases hp⟩
    simp only [List.mem_cons, List.not_mem_nil, or_false] at hf
    subst hf
    refine ⟨fun p hp => ?_, fun d hd => ?_⟩
    · simp only [fldW, List.mem_cons, List.not_mem_nil, or_false] at hp
      subst hp
      exact val0_ok'
    · simp only [fldW, List.mem_cons, List.not_mem_nil, or_false] at hd
      subst hd
      intro m hm
      simp only [dirW, List.mem_cons, List.not_mem_nil, or_false] at hm
      rcases hm with rfl | rfl
      · exact textV_ok _
      · exact textV_ok _
  · refine ⟨fun f hf => ?_, fun p hp => by cases hp⟩
    simp only [List.mem_cons, List.not_mem_nil, or_false] at hf
    subst hf
    exact ⟨(fun p hp => by cases hp), (fun d hd => by cases hd)⟩
theorem ctxW : CtxOk schW docW [] := ⟨by decide +kernel, schW_ok, by decide +kernel, (fun f hf => by cases hf), by decide⟩
theorem selsW : SelsOk oprW.sels 0 := by
  refine ⟨by decide +kernel, fun x hx => ?_⟩
  simp only [oprW, List.mem_cons, List.not_mem_nil, or_false] at hx
  subst hx
  refine ⟨?_, by decide +kernel⟩
  rw [Sl.ok_eq]
  refine ⟨by decide, fun m hm => ?_, (fun d hd => by cases hd), fun y hy => ?_⟩
  · simp only [selW, Sl.args, List.mem_cons, List.not_mem_nil, or_false] at hm
    subst hm
    exact textV_ok _
  · simp only [selW, Sl.sels, List.mem_cons, List.not_mem_nil, or_false] at hy
    subst hy
    rw [Sl.ok_eq]
    exact ⟨by decide, (fun m hm => by cases hm), (fun d hd => by cases hd), (fun y hy => by cases hy)⟩
theorem tameW : Tame tabW := by
  refine ⟨⟨by decide, fun t ht => ?_, fun t ht r hr => ?_⟩, fun t ht r hr m hm => ?_⟩
  · obtain rfl := List.mem_singleton.1 ht
    exact by decide
  · obtain rfl := List.mem_singleton.1 ht
    obtain rfl := List.mem_singleton.1 hr
    exact by decide
  · obtain rfl := List.mem_singleton.1 ht
    obtain rfl := List.mem_singleton.1 hr
    obtain rfl := List.mem_singleton.1 hm
    exact ⟨by decide +kernel, intV_ok 7 (by decide)⟩
def xW : AV := .agg [.int .i64 7, .int .i64 0, .str [], .slice [] .no, .slice [.agg [.str keyW, .int .i64 7, .int .i64 0, .str [], .slice [] .no, .slice [.agg [.str sAge, .int .i64 2, .int .i64 7, .str [], .slice [] .no, .slice [] .no]] .no]] .no,
  .slice [] .no, .slice [.slice [.agg [.str sTabU, .str sRowA]] .no] .no, Tbls.enc tabW]
theorem xW_eq : seenE valW [] [[⟨sTabU, sRowA⟩]] tabW = xW := by
  unfold seenE xW valW
  simp [Val.lv_eq, Val.mv_eq, Val.kind, Val.n, Val.s, Val.l, Val.m, Mem.enc, Mem.name, Mem.v, rdNo, Need.enc]
theorem hRunW : PFn Tryz.prog 18 [schW.enc, docW.enc, oprW.enc, .slice (([] : List Mem).map Mem.enc) .no, Tbls.enc tabW] xW := by
  have e : placeM schW docW [] (1 + 1) false (rootT schW oprW) row0 oprW.sels [] false ⟨tabW, [], [[]], 0⟩ = (ndW, ⟨tabW, [], [[⟨sTabU, sRowA⟩]], 6⟩) := runW 0
  have hr := eRunQ schW docW [] oprW tabW 1 ctxW (by decide) loopsW selsW tameW (by rw [e]; decide) [] (by rw [e]; exact sortE)
  rw [e, upW] at hr
  rw [← xW_eq]
  exact hr
theorem eq_needE : EqT Tryz.prog 77 needFs2 := ⟨Tryz.underlying77, by kernel_rfl, by kernel_rfl, by decide⟩
theorem need_eqE : eqFs Tryz.prog needFs2 0 [.str sTabU, .str sRowA] [.str sTabU, .str sRowA] = some true := rfl
theorem awake33 : PFn Tryz.prog 7 [] (.bool true) := by
  have h1 := hWorld
  have h2 := hAsking
  have h3 := hRunW
  have hwk : WeakL [schW.enc, docW.enc, oprW.enc, .slice [] .nil, Tbls.enc tabW] [schW.enc, docW.enc, oprW.enc, .slice (([] : List Mem).map Mem.enc) .no, Tbls.enc tabW] :=
    WeakL.cons (Weak.refl _) (WeakL.cons (Weak.refl _) (WeakL.cons (Weak.refl _) (WeakL.cons (Weak.no (WeakL.refl _)) (WeakL.refl _))))
  have x0 : (docW.ops.map Opr.enc)[0]? = some oprW.enc := rfl
  have y0 : [AV.agg [.str sTabU, .str sRowA]][0]? = some (AV.agg [.str sTabU, .str sRowA]) := rfl
  have y1 : [AV.slice [AV.agg [.str sTabU, .str sRowA]] .no][0]? = some (AV.slice [AV.agg [.str sTabU, .str sRowA]] .no) := rfl
  have y2 : [AV.agg [.str keyW, .int .i64 7, .int .i64 0, .str [], .slice [] .no, .slice [AV.agg [.str sAge, .int .i64 2, .int .i64 7, .str [], .slice [] .no, .slice [] .no]] .no]][0]? = some (AV.agg [.str keyW, .int .i64 7, .int .i64 0, .str [], .slice [] .no, .slice [AV.agg [.str sAge, .int .i64 2, .int .i64 7, .str [], .slice [] .no, .slice [] .no]] .no]) := rfl
  have y3 : [AV.agg [.str sAge, .int .i64 2, .int .i64 7, .str [], .slice [] .no, .slice [] .no]][0]? = some (AV.agg [.str sAge, .int .i64 2, .int .i64 7, .str [], .slice [] .no, .slice [] .no]) := rfl
  have hq := need_eqE
  refine AFn.plain rfl rfl (AFn.en [0] Tryz.func7 ?_)
  repeat' first | refine A.allocv (d := 1) rfl rfl rfl rfl rfl ?_ | refine HCode.turn 1 rfl (Turn.freezeP rfl rfl rfl rfl) ?_ | refine A.allocv (d := 3) rfl rfl rfl rfl rfl ?_ | refine HCode.turn 3 rfl (Turn.freezeP rfl rfl rfl rfl) ?_ | refine A.call rfl h3 hwk ?_ | refine A.eqT eq_needE rfl rfl hq ?_ | refine .s1 ?_ | (refine .q ?_ ?_ <;> intro hc) | refine A.vstore (agg := true) rfl rfl rfl rfl rfl rfl rfl rfl rfl rfl rfl ?_ | fail
  exact Fin.r0
theorem evalCmds (s : Sch) (f : Fld) (b : Bnd) (args : List Mem) (hs : s.size ≤ 1048576) (ho : s.ok) (ha : sumSize Mem.size args ≤ 1048576) :
    PFn Tryz.prog 3 [s.enc, f.enc, b.enc, .slice (args.map Mem.enc) .no] (.bool true) := by
  have hal := sumSize_length Mem.size_pos args
  have hL := light8 s (by omega)
  have hw := awake33
  have hz := kSize' (.mk 0 0 [] [] args) (by rw [Val.size, Val.sizeL, Val.sizeM_eq]; simp only [List.length_nil]; omega)
  have ew : WeakL [AV.agg [.int .i64 0, .int .i64 0, .str [], .slice [] .nil, .slice (args.map Mem.enc) .no]] [(Val.mk 0 0 [] [] args).enc] := by
    refine WeakL.cons ?_ (WeakL.refl _)
    unfold Val.enc
    rw [lv_mk, Val.mv_eq]
    exact Weak.agg (WeakL.cons (Weak.refl _) (WeakL.cons (Weak.refl _) (WeakL.cons (Weak.refl _) (WeakL.cons (Weak.no (WeakL.refl _)) (WeakL.refl _)))))
  have hB := rBound9 s hs ho
  have hC := eCmd s f b args (by omega)
  have hR := rCmd33 f b args
  have hS := sameCmd27 (cmdOf f b args) (by show sumSize Mem.size args ≤ _; omega)
  refine AFn.plain rfl (by simp [AV.closedL, AV.closed, Sch.closed, Fld.closed, Bnd.closed, Mem.closedL]) (AFn.en [8] Tryz.func3 ?_)
  generalize (szV (Val.mk 0 0 [] [] args) : Int) = z at *
  cases c1 : lightS s <;> rw [c1] at hL
  · repeat' first | refine .br ?_ | refine A.call rfl hz ew ?_ | refine .s1 ?_ | (refine .q ?_ ?_ <;> intro hc) | fail
    exact Fin.r0
  cases d2 : decide (z > 2000)
  · cases c3 : servedB s <;> rw [c3] at hB
    · repeat' first | refine .br ?_ | refine A.call rfl hz ew ?_ | refine .s1 ?_ | (refine .q ?_ ?_ <;> intro hc) | fail
      exact Fin.r0
    · repeat' first | refine .br ?_ | refine A.call rfl hz ew ?_ | refine .s1 ?_ | (refine .q ?_ ?_ <;> intro hc) | fail
      exact Fin.r0
  · repeat' first | refine .br ?_ | refine A.call rfl hz ew ?_ | refine .s1 ?_ | (refine .q ?_ ?_ <;> intro hc) | fail
    exact Fin.r0
theorem reads_bnd : ∀ n : Nat, ReadN Tryz.prog n 32 true Bnd.enc (fun b => b.table.length + b.col.length + b.arg.length + b.cmd.length + 6) (fun b => True)
  | 0 => ReadN.zero
  | n + 1 => (ReadN.struct Tryz.underlying32 (by kernel_rfl)
      (ReadF.cons (c := 1) rfl (by kernel_rfl) (one_cell fun _ => rfl) (reads_int n)
        (ReadF.cons (c := 1) rfl (by kernel_rfl) (one_cell fun _ => rfl) (reads_str n)
          (ReadF.cons (c := 1) rfl (by kernel_rfl) (one_cell fun _ => rfl) (reads_str n)
            (ReadF.cons (c := 1) rfl (by kernel_rfl) (one_cell fun _ => rfl) (reads_str n)
              (ReadF.cons (c := 1) rfl (by kernel_rfl) (one_cell fun _ => rfl) (reads_str n) ReadF.nil)))))).map
      (fun x => (⟨x.1, x.2.1, x.2.2.1, x.2.2.2.1, x.2.2.2.2.1⟩ : Bnd)) (fun _ => rfl) (fun x => by dsimp only; omega) (fun x h => trivial)
end Go.Proofs.YtmfmdehfbpkgdaaGreatDoor
