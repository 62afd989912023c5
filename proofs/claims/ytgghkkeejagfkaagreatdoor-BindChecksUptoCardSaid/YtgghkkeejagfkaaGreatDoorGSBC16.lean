/-
  Contracts and plain facts for a law, joined.
-/
import Derived.Test.YtgghkkeejagfkaaGreatDoorGSBC9
import Derived.Test.YtgghkkeejagfkaaGreatDoorGSBC2
import Derived.Test.YtgghkkeejagfkaaGreatDoorGSBC1
import Derived.Test.YtgghkkeejagfkaaGreatDoorGSBC13
import Derived.Test.YtgghkkeejagfkaaGreatDoorGSBC6
set_option maxRecDepth 100000
set_option maxHeartbeats 16000000
set_option linter.unusedVariables false
set_option linter.unusedSimpArgs false
set_option linter.unusedSectionVars false
namespace Go.Proofs.YtgghkkeejagfkaaGreatDoor
open Go Go.Av
structure Bnd where
  how : Int
  table : Str
  col : Str
  arg : Str
  cmd : Str
  deriving DecidableEq
def Bnd.enc (b : Bnd) : AV := .agg [.int .i64 b.how, .str b.table, .str b.col, .str b.arg, .str b.cmd]
theorem Bnd.closed (b : Bnd) : b.enc.closed = true := rfl
@[simp] theorem low_Bnd (n m : Nat) (x : Bnd) : (Bnd.enc x).low n m = true := AV.low_of_closed n m _ (Bnd.closed x)
def bnd0 : Bnd := ⟨0, [], [], [], []⟩
def textsF (l : List Mem) : List Str → Option (List Str)
  | [] => some []
  | n :: ns => if (getG n l).2 = true ∧ (getG n l).1.kind = 4 ∧ (getG n l).1.s ≠ [] then (textsF l ns).map ((getG n l).1.s :: ·) else none
def textsO (l : List Mem) (ns : List Str) : Option (List Str) := if l.length = ns.length then textsF l ns else none
theorem textsF_len (l : List Mem) : ∀ (ns xs : List Str), textsF l ns = some xs → xs.length = ns.length ∧ ∀ x ∈ xs, x ≠ []
  | [], xs, h => by cases h; simp
  | n :: ns, xs, h => by
    rw [textsF] at h
    split at h
    · rename_i c
      cases e : textsF l ns with
      | none => rw [e] at h; cases h
      | some ys =>
        rw [e] at h
        cases h
        obtain ⟨a, b⟩ := textsF_len l ns ys e
        refine ⟨by simp [a], fun x hx => ?_⟩
        rcases List.mem_cons.1 hx with rfl | hx
        · exact c.2.2
        · exact b x hx
    · cases h
theorem textsO_len {l : List Mem} {ns xs : List Str} (h : textsO l ns = some xs) : xs.length = ns.length ∧ ∀ x ∈ xs, x ≠ [] := by
  unfold textsO at h
  split at h
  · exact textsF_len l ns xs h
  · cases h
theorem textsO_one {l : List Mem} {a : Str} {xs : List Str} (h : textsO l [a] = some xs) : ∃ x, xs = [x] ∧ x ≠ [] := by
  obtain ⟨h1, h2⟩ := textsO_len h
  match xs, h1 with
  | [x], _ => exact ⟨x, rfl, h2 x (by simp)⟩
theorem textsO_two {l : List Mem} {a b : Str} {xs : List Str} (h : textsO l [a, b] = some xs) : ∃ x y, xs = [x, y] ∧ x ≠ [] ∧ y ≠ [] := by
  obtain ⟨h1, h2⟩ := textsO_len h
  match xs, h1 with
  | [x, y], _ => exact ⟨x, y, rfl, h2 x (by simp), h2 y (by simp)⟩
theorem textsO_three {l : List Mem} {a b c : Str} {xs : List Str} (h : textsO l [a, b, c] = some xs) : ∃ x y z, xs = [x, y, z] ∧ x ≠ [] ∧ y ≠ [] ∧ z ≠ [] := by
  obtain ⟨h1, h2⟩ := textsO_len h
  match xs, h1 with
  | [x, y, z], _ => exact ⟨x, y, z, rfl, h2 x (by simp), h2 y (by simp), h2 z (by simp)⟩
def sCol : Str := [99, 111, 108]
def sLink : Str := [108, 105, 110, 107]
def sGet : Str := [103, 101, 116]
def sDo : Str := [100, 111]
def sName : Str := [110, 97, 109, 101]
def sTable : Str := [116, 97, 98, 108, 101]
def sArg : Str := [97, 114, 103]
def sCmd : Str := [99, 109, 100]
def sAdd : Str := [97, 100, 100]
def sPut : Str := [112, 117, 116]
def sCut : Str := [99, 117, 116]
def sBurn : Str := [98, 117, 114, 110]
def getB (f : Fld) (table arg : Str) : Bnd × Bool := match parO f.params arg with
  | none => (bnd0, false)
  | some p => if (p.t.name = sID ∨ p.t.name = sString) ∧ p.t.lists = f.t.lists then (⟨2, table, [], arg, []⟩, true) else (bnd0, false)
def doB (l : List Mem) : Bnd × Bool := match textsO l [sCmd, sTable, sCol] with
  | some [a, b, c] => (⟨3, b, c, [], a⟩, a == sAdd)
  | _ => match textsO l [sCmd, sTable] with
    | some [a, b] => (⟨3, b, [], [], a⟩, a == sPut || (a == sCut || a == sBurn))
    | _ => (bnd0, false)
def dirB (f : Fld) (d : Dirc) : Bnd × Bool :=
  if d.name = sCol then (match textsO d.args [sName] with | some [a] => (⟨0, [], a, [], []⟩, true) | _ => (bnd0, false))
  else if d.name = sLink then (match textsO d.args [sTable, sCol] with | some [a, b] => (⟨1, a, b, [], []⟩, true) | _ => (bnd0, false))
  else if d.name = sGet then (match textsO d.args [sTable, sArg] with | some [a, b] => getB f a b | _ => (bnd0, false))
  else if d.name = sDo then doB d.args else (bnd0, false)
def saidB (f : Fld) : Bnd × Bool := match f.dirs with
  | [] => (⟨0, [], f.name, [], []⟩, true)
  | [d] => dirB f d
  | _ => (bnd0, false)
def changesB (s : Sch) (typ : Str) : Bool := s.mutation != [] && typ == s.mutation
def rowsB (s : Sch) (name : Str) : Bool := compB s name && !(s.mutation != [] && decide (s.mutation ∈ possB s name))
def fitB (s : Sch) (typ : Str) (f : Fld) (how : Int) : Bool :=
  if how = 0 then leafB s f.t.name && !changesB s typ
  else if how = 3 then decide (f.t.lists = 0) && ((leafB s f.t.name || rowsB s f.t.name) && changesB s typ)
  else rowsB s f.t.name && !changesB s typ
def ofB (s : Sch) (typ : Str) (f : Fld) : Bnd × Bool := if (saidB f).2 = true ∧ f.name ≠ sTypename ∧ fitB s typ f (saidB f).1.how = true then ((saidB f).1, true) else (bnd0, false)
def bound1 (s : Sch) (d : Dfn) : Bool := d.kind == 1 && d.fields.any fun f => !(ofB s d.name f).2
def servedB (s : Sch) : Bool := decide (checkI s = 0) && !s.defs.any (bound1 s)
theorem served_iff {s : Sch} : servedB s = true ↔ checkI s = 0 ∧ ∀ d ∈ s.defs, d.kind = 1 → ∀ f ∈ d.fields, (ofB s d.name f).2 = true := by
  unfold servedB bound1
  simp only [Bool.and_eq_true, decide_eq_true_eq, Bool.not_eq_true', List.any_eq_false, Bool.not_eq_true, not_and, beq_iff_eq, Bool.not_eq_false', List.any_eq_true, not_exists, Bool.not_eq_false]
end Go.Proofs.YtgghkkeejagfkaaGreatDoor
namespace Go.Proofs.YtgghkkeejagfkaaGreatDoor
open Go Go.Av
attribute [local irreducible] HCode AOps PFn AFn Av.Step TStep
theorem Fin.ret2B {t1 t2 : Nat} {s : Slots} {v1 v2 r : AV} (h1 : lk? s t1 = some v1) (h2 : lk? s t2 = some v2) (hw : Weak (.tup [v1, v2]) r) : ∃ v', AEnd.ret (resAV s [t1, t2]) = .ret v' ∧ Weak v' r :=
  ⟨_, rfl, by rw [show resAV s [t1, t2] = .tup [v1, v2] by unfold resAV; simp only [List.map_cons, List.map_nil, lk_of h1, lk_of h2]]; exact hw⟩
def textsR (l : List Mem) (ns : List Str) : List Str × Bool := match textsO l ns with
  | some xs => (xs, true)
  | none => ([], false)
def txt (l : List Mem) (n : Str) : Str := (getG n l).1.s
def okTxt (l : List Mem) (n : Str) : Bool := (getG n l).2 && ((getG n l).1.kind == 4 && (getG n l).1.s != [])
theorem textsF_spec (l : List Mem) : ∀ ns : List Str, textsF l ns = if ns.all (okTxt l) = true then some (ns.map (txt l)) else none
  | [] => rfl
  | n :: ns => by
    rw [textsF, textsF_spec l ns, List.all_cons, List.map_cons]
    have e : okTxt l n = true ↔ (getG n l).2 = true ∧ (getG n l).1.kind = 4 ∧ (getG n l).1.s ≠ [] := by
      unfold okTxt
      simp [bne_iff_ne]
    by_cases c : okTxt l n = true
    · rw [if_pos (e.1 c), c, Bool.true_and]
      split <;> rfl
    · rw [if_neg (fun x => c (e.2 x))]
      rw [if_neg (by rw [Bool.and_eq_true]; exact fun x => c x.1)]
theorem bTexts (l : List Mem) (ns : List Str) (hl : l.length ≤ 68719476736) (hn : ns ≠ []) (hnl : ns.length ≤ 4) : PFn Tryz.prog 142 [.slice (l.map Mem.enc) .no, .slice (ns.map AV.str) .no] (.tup [.slice ((textsR l ns).1.map AV.str) .no, .bool (textsR l ns).2]) := by
  have hlm : (l.map Mem.enc).length = l.length := List.length_map ..
  have hnm : (ns.map AV.str).length = ns.length := List.length_map ..
  refine AFn.plain (by simp [AV.closed, AV.closedL, str_closedL]) (by simp [AV.closed, AV.closedL, Mem.closedL, str_closedL]) (AFn.enter [4, 5] Tryz.func142 rfl rfl rfl rfl rfl (by decide) ?_)
  unfold textsR textsO
  by_cases c : l.length = ns.length
  case neg =>
    have e1 : ((l.length : Int) != (ns.length : Int)) = true := by rw [bne_iff_ne]; omega
    rw [if_neg c]
    refine .go ?_
    exact Fin.ret2B rfl rfl (Weak.tup (WeakL.cons (Weak.no (WeakL.refl _)) (WeakL.refl _)))
  have e1 : ((l.length : Int) != (ns.length : Int)) = false := by rw [c]; simp
  rw [if_pos c, textsF_spec]
  refine .go ?_
  refine HCode.adopt 6 false 1 rfl rfl rfl rfl rfl rfl ?_
  refine HCode.forK ns.length (fun k => [(18, .int .i64 k), (17, .int .i64 ns.length), (16, .slice (ns.map AV.str) .no), (0, .slice (l.map Mem.enc) .no), (1, .slice (ns.map AV.str) .no), (6, .slice (((ns.take k).map (txt l)).map AV.str) (.own 0 1))])
    (fun k => ⟨[], [.len k]⟩) (fun k => (ns.take k).all (okTxt l) = true) ⟨rfl, rfl, rfl, rfl, rfl, rfl, trivial⟩ rfl (by simp) fun k hk hj => ?_
  have htl : (((ns.take k).map (txt l)).map AV.str).length = k := by simp; omega
  by_cases h1 : k < ns.length
  · have d1 : decide ((k : Int) < (ns.length : Int)) = true := by simp [h1]
    have x1 := map_get' (f := AV.str) h1
    have hg := get ns[k] l (by omega)
    have hnx := all_next (p := okTxt l) h1 hj
    have hsp := all_stop (p := okTxt l) h1
    have d9 : ((([] : List AV).length : Int) == (ns.length : Int)) = false := by
      rw [beq_eq_false_iff_ne]
      have := List.length_pos_iff.2 hn
      simp only [List.length_nil]; omega
    have htx : txt l ns[k] = (getG ns[k] l).1.s := rfl
    unfold okTxt at hnx hsp
    cases a1 : (getG ns[k] l).2 <;> rw [a1] at hg hnx hsp
    · have ha : ns.all (okTxt l) = false := hsp rfl
      rw [ha]
      refine .go ?_
      exact Fin.ret2B rfl rfl (Weak.tup (WeakL.cons (Weak.no (WeakL.refl _)) (WeakL.cons (Weak.eq (congrArg AV.bool d9)) (WeakL.refl _))))
    cases a2 : ((getG ns[k] l).1.kind == 4) <;> rw [a2] at hnx hsp
    · have ha : ns.all (okTxt l) = false := hsp rfl
      have a2' : ((getG ns[k] l).1.kind != 4) = true := by unfold bne; rw [a2]; rfl
      rw [ha]
      refine .go ?_
      exact Fin.ret2B rfl rfl (Weak.tup (WeakL.cons (Weak.no (WeakL.refl _)) (WeakL.cons (Weak.eq (congrArg AV.bool d9)) (WeakL.refl _))))
    have a2' : ((getG ns[k] l).1.kind != 4) = false := by unfold bne; rw [a2]; rfl
    cases a3 : ((getG ns[k] l).1.s == [])
    · have a3' : ((getG ns[k] l).1.s != []) = true := by unfold bne; rw [a3]; rfl
      rw [a3'] at hnx
      have hj' := hnx rfl
      repeat' first | refine .s1 ?_ | (refine .cond rfl ?_ ?_ <;> intro hc) | (refine A.guard rfl ?_ ?_ <;> intro hc) | refine A.append (n := k) rfl rfl rfl rfl rfl rfl rfl rfl htl rfl (by dsimp only [List.length_cons, List.length_nil]; omega) (by dsimp only [List.length_cons, List.length_nil]; omega) rfl ?_ | fail
      exact ⟨h1, ⟨rfl, rfl, rfl, rfl, rfl, by rw [List.take_succ_eq_append_getElem h1, List.map_append, List.map_append]; rfl, trivial⟩, by simp [-List.map_take, -List.map_map, belowS, AV.low, AV.lowL], by simp [belowB, belowT, Ob.low, Tok.low], rfl, hj'⟩
    · have a3' : ((getG ns[k] l).1.s != []) = false := by unfold bne; rw [a3]; rfl
      rw [a3'] at hsp
      have ha : ns.all (okTxt l) = false := hsp rfl
      rw [ha]
      refine .go ?_
      exact Fin.ret2B rfl rfl (Weak.tup (WeakL.cons (Weak.no (WeakL.refl _)) (WeakL.cons (Weak.eq (congrArg AV.bool d9)) (WeakL.refl _))))
  · have d1 : decide ((k : Int) < (ns.length : Int)) = false := by simp; omega
    obtain rfl : k = ns.length := by omega
    rw [List.take_length] at hj htl
    rw [List.take_length, hj]
    have d9 : (((ns.map (txt l)).length : Int) == (ns.length : Int)) = true := by rw [List.length_map]; simp
    refine .go ?_
    refine Fin.ret2B rfl rfl (Weak.tup (WeakL.cons (Weak.no (WeakL.refl _)) (WeakL.cons (Weak.eq (congrArg AV.bool ?_)) (WeakL.refl _))))
    exact d9
theorem bGet (f : Fld) (table arg : Str) (hf : f.size ≤ 68719476736) : PFn Tryz.prog 143 [f.enc, .str table, .str arg] (.tup [(getB f table arg).1.enc, .bool (getB f table arg).2]) := by
  have hp := lParam f.params arg (by have := sumSize_length Par.size_pos f.params; have := f.sums; omega)
  refine AFn.plain (by simp [AV.closed, AV.closedL, Bnd.closed]) (by simp [AV.closed, AV.closedL, Fld.closed]) (AFn.enterR [.cell 6 37, .tmp 7] Tryz.func143 rfl rfl rfl rfl rfl ?_)
  unfold parR at hp
  unfold getB
  cases e : parO f.params arg with
  | none =>
    rw [e] at hp
    refine .gob ?_
    exact FinR.ret1 rfl (Weak.refl _)
  | some p =>
    rw [e] at hp
    dsimp only at hp ⊢
    have i1 : (p.t.name != [73, 68]) = !decide (p.t.name = sID) := by unfold bne sID; rw [Bool.eq_iff_iff]; simp
    have i2 : (p.t.name != [83, 116, 114, 105, 110, 103]) = !decide (p.t.name = sString) := by unfold bne sString; rw [Bool.eq_iff_iff]; simp
    have i3 : (p.t.lists != f.t.lists) = !decide (p.t.lists = f.t.lists) := by unfold bne; rw [Bool.eq_iff_iff]; simp
    by_cases c1 : p.t.name = sID
    · rw [decide_eq_true c1] at i1
      by_cases c3 : p.t.lists = f.t.lists
      · rw [decide_eq_true c3] at i3
        rw [if_pos ⟨.inl c1, c3⟩]
        refine .gob ?_
        exact FinR.ret1 rfl (Weak.refl _)
      · rw [decide_eq_false c3] at i3
        rw [if_neg (fun x => c3 x.2)]
        refine .gob ?_
        exact FinR.ret1 rfl (Weak.refl _)
    · rw [decide_eq_false c1] at i1
      by_cases c2 : p.t.name = sString
      · rw [decide_eq_true c2] at i2
        by_cases c3 : p.t.lists = f.t.lists
        · rw [decide_eq_true c3] at i3
          rw [if_pos ⟨.inr c2, c3⟩]
          refine .gob ?_
          exact FinR.ret1 rfl (Weak.refl _)
        · rw [decide_eq_false c3] at i3
          rw [if_neg (fun x => c3 x.2)]
          refine .gob ?_
          exact FinR.ret1 rfl (Weak.refl _)
      · rw [decide_eq_false c2] at i2
        rw [if_neg (fun x => x.1.elim c1 c2)]
        refine .gob ?_
        exact FinR.ret1 rfl (Weak.refl _)
theorem weak_fullS {x : AV} {xs : List AV} {t : Tk} : WeakL [x, .slice xs t] [x, .slice xs .no] := WeakL.cons (Weak.refl _) (WeakL.cons (Weak.no (WeakL.refl _)) (WeakL.refl _))
theorem bDo (l : List Mem) (hl : l.length ≤ 68719476736) : PFn Tryz.prog 144 [.slice (l.map Mem.enc) .no] (.tup [(doB l).1.enc, .bool (doB l).2]) := by
  have h3 := bTexts l [sCmd, sTable, sCol] hl (by simp) (by decide)
  have h2 := bTexts l [sCmd, sTable] hl (by simp) (by decide)
  refine AFn.plain (by simp [AV.closed, AV.closedL, Bnd.closed]) (by simp [AV.closed, AV.closedL, Mem.closedL]) (AFn.enterR [.cell 2 37, .tmp 3] Tryz.func144 rfl rfl rfl rfl rfl ?_)
  unfold textsR at h3 h2
  unfold doB
  cases e3 : textsO l [sCmd, sTable, sCol] with
  | some xs =>
    obtain ⟨a, b, c, rfl, _⟩ := textsO_three e3
    rw [e3] at h3
    dsimp only at h3
    have x0 : ([a, b, c].map AV.str)[0]? = some (AV.str a) := rfl
    have x1 : ([a, b, c].map AV.str)[1]? = some (AV.str b) := rfl
    have x2 : ([a, b, c].map AV.str)[2]? = some (AV.str c) := rfl
    repeat' first | refine .br ?_ | refine .s1 ?_ | (refine .cond rfl ?_ ?_ <;> intro hc) | (refine A.guard rfl ?_ ?_ <;> intro hc) | refine A.call rfl h3 weak_fullS ?_ | fail
    exact FinR.ret1 rfl (Weak.refl _)
  | none =>
    rw [e3] at h3
    dsimp only at h3
    cases e2 : textsO l [sCmd, sTable] with
    | some xs =>
      obtain ⟨a, b, rfl, _⟩ := textsO_two e2
      rw [e2] at h2
      dsimp only at h2
      have x0 : ([a, b].map AV.str)[0]? = some (AV.str a) := rfl
      have x1 : ([a, b].map AV.str)[1]? = some (AV.str b) := rfl
      have i1 : (a == [112, 117, 116]) = (a == sPut) := rfl
      have i2 : (a == [99, 117, 116]) = (a == sCut) := rfl
      have i3 : (a == [98, 117, 114, 110]) = (a == sBurn) := rfl
      dsimp only
      cases c1 : (a == sPut) <;> rw [c1] at i1
      · cases c2 : (a == sCut) <;> rw [c2] at i2
        · cases c3 : (a == sBurn) <;> rw [c3] at i3
          all_goals
            repeat' first | refine .br ?_ | refine .s1 ?_ | (refine .cond rfl ?_ ?_ <;> intro hc) | (refine A.guard rfl ?_ ?_ <;> intro hc) | refine A.call rfl h3 weak_fullS ?_ | refine A.call rfl h2 weak_fullS ?_ | fail
            exact FinR.ret1 rfl (Weak.tup (WeakL.cons (Weak.refl _) (WeakL.cons (Weak.eq (congrArg AV.bool i3)) (WeakL.refl _))))
        · repeat' first | refine .br ?_ | refine .s1 ?_ | (refine .cond rfl ?_ ?_ <;> intro hc) | (refine A.guard rfl ?_ ?_ <;> intro hc) | refine A.call rfl h3 weak_fullS ?_ | refine A.call rfl h2 weak_fullS ?_ | fail
          exact FinR.ret1 rfl (Weak.refl _)
      · repeat' first | refine .br ?_ | refine .s1 ?_ | (refine .cond rfl ?_ ?_ <;> intro hc) | (refine A.guard rfl ?_ ?_ <;> intro hc) | refine A.call rfl h3 weak_fullS ?_ | refine A.call rfl h2 weak_fullS ?_ | fail
        exact FinR.ret1 rfl (Weak.refl _)
    | none =>
      rw [e2] at h2
      dsimp only at h2
      repeat' first | refine .br ?_ | refine .s1 ?_ | (refine .cond rfl ?_ ?_ <;> intro hc) | (refine A.guard rfl ?_ ?_ <;> intro hc) | refine A.call rfl h3 weak_fullS ?_ | refine A.call rfl h2 weak_fullS ?_ | fail
      exact FinR.ret1 rfl (Weak.refl _)
theorem bSaid (f : Fld) (hf : f.size ≤ 68719476736) : PFn Tryz.prog 62 [f.enc] (.tup [(saidB f).1.enc, .bool (saidB f).2]) := by
  have hsm := f.sums
  have hdl := sumSize_length Dirc.size_pos f.dirs
  refine AFn.plain (by simp [AV.closed, AV.closedL, Bnd.closed]) (by simp [AV.closed, AV.closedL, Fld.closed]) (AFn.enterR [.cell 2 37, .tmp 3] Tryz.func62 rfl rfl rfl rfl rfl ?_)
  unfold saidB
  match hd : f.dirs with
  | [] =>
    have e1 : ((f.dirs.length : Int) == 0) = true := by rw [hd]; rfl
    refine .gob ?_
    exact FinR.ret1 rfl (Weak.refl _)
  | d :: d2 :: ds =>
    have e1 : ((f.dirs.length : Int) == 0) = false := by rw [hd, beq_eq_false_iff_ne]; simp; omega
    have e2 : decide ((1 : Int) < (f.dirs.length : Int)) = true := by rw [hd]; simp; omega
    have x1 : (f.dirs.map Dirc.enc)[0]? = some d.enc := by rw [hd]; rfl
    refine .gob ?_
    exact FinR.ret1 rfl (Weak.refl _)
  | [d] =>
    have e1 : ((f.dirs.length : Int) == 0) = false := by rw [hd]; rfl
    have e2 : decide ((1 : Int) < (f.dirs.length : Int)) = false := by rw [hd]; rfl
    have x1 : (f.dirs.map Dirc.enc)[0]? = some d.enc := by rw [hd]; rfl
    have hdz : d.size ≤ f.size := by have := sumSize_mem (size := Dirc.size) (l := f.dirs) (x := d) (by rw [hd]; simp); omega
    have hal : d.args.length ≤ d.size := by
      have := sumSize_length Mem.size_pos d.args
      unfold Dirc.size; omega
    have h1 := bTexts d.args [sName] (by omega) (by simp) (by decide)
    have h2 := bTexts d.args [sTable, sCol] (by omega) (by simp) (by decide)
    have h3 := bTexts d.args [sTable, sArg] (by omega) (by simp) (by decide)
    have h4 := bDo d.args (by omega)
    unfold textsR at h1 h2 h3
    have i1 : (d.name == [99, 111, 108]) = decide (d.name = sCol) := by unfold sCol; rw [Bool.eq_iff_iff]; simp
    have i2 : (d.name == [108, 105, 110, 107]) = decide (d.name = sLink) := by unfold sLink; rw [Bool.eq_iff_iff]; simp
    have i3 : (d.name == [103, 101, 116]) = decide (d.name = sGet) := by unfold sGet; rw [Bool.eq_iff_iff]; simp
    have i4 : (d.name == [100, 111]) = decide (d.name = sDo) := by unfold sDo; rw [Bool.eq_iff_iff]; simp
    dsimp only
    unfold dirB
    by_cases c1 : d.name = sCol
    · rw [decide_eq_true c1] at i1
      rw [if_pos c1]
      cases e : textsO d.args [sName] with
      | none =>
        rw [e] at h1
        repeat' first | refine .br ?_ | refine .s1 ?_ | (refine .cond rfl ?_ ?_ <;> intro hc) | (refine A.guard rfl ?_ ?_ <;> intro hc) | refine A.call rfl h1 weak_fullS ?_ | fail
        exact FinR.ret1 rfl (Weak.refl _)
      | some xs =>
        obtain ⟨a, rfl, _⟩ := textsO_one e
        rw [e] at h1
        dsimp only at h1
        have y0 : ([a].map AV.str)[0]? = some (AV.str a) := rfl
        repeat' first | refine .br ?_ | refine .s1 ?_ | (refine .cond rfl ?_ ?_ <;> intro hc) | (refine A.guard rfl ?_ ?_ <;> intro hc) | refine A.call rfl h1 weak_fullS ?_ | fail
        exact FinR.ret1 rfl (Weak.refl _)
    rw [decide_eq_false c1] at i1
    rw [if_neg c1]
    by_cases c2 : d.name = sLink
    · rw [decide_eq_true c2] at i2
      rw [if_pos c2]
      cases e : textsO d.args [sTable, sCol] with
      | none =>
        rw [e] at h2
        repeat' first | refine .br ?_ | refine .s1 ?_ | (refine .cond rfl ?_ ?_ <;> intro hc) | (refine A.guard rfl ?_ ?_ <;> intro hc) | refine A.call rfl h2 weak_fullS ?_ | fail
        exact FinR.ret1 rfl (Weak.refl _)
      | some xs =>
        obtain ⟨a, b, rfl, _⟩ := textsO_two e
        rw [e] at h2
        dsimp only at h2
        have y0 : ([a, b].map AV.str)[0]? = some (AV.str a) := rfl
        have y1 : ([a, b].map AV.str)[1]? = some (AV.str b) := rfl
        repeat' first | refine .br ?_ | refine .s1 ?_ | (refine .cond rfl ?_ ?_ <;> intro hc) | (refine A.guard rfl ?_ ?_ <;> intro hc) | refine A.call rfl h2 weak_fullS ?_ | fail
        exact FinR.ret1 rfl (Weak.refl _)
    rw [decide_eq_false c2] at i2
    rw [if_neg c2]
    by_cases c3 : d.name = sGet
    · rw [decide_eq_true c3] at i3
      rw [if_pos c3]
      cases e : textsO d.args [sTable, sArg] with
      | none =>
        rw [e] at h3
        repeat' first | refine .br ?_ | refine .s1 ?_ | (refine .cond rfl ?_ ?_ <;> intro hc) | (refine A.guard rfl ?_ ?_ <;> intro hc) | refine A.call rfl h3 weak_fullS ?_ | fail
        exact FinR.ret1 rfl (Weak.refl _)
      | some xs =>
        obtain ⟨a, b, rfl, _⟩ := textsO_two e
        rw [e] at h3
        have y0 : ([a, b].map AV.str)[0]? = some (AV.str a) := rfl
        have y1 : ([a, b].map AV.str)[1]? = some (AV.str b) := rfl
        have h5 := bGet f a b hf
        dsimp only at h3 ⊢
        repeat' first | refine .br ?_ | refine .s1 ?_ | (refine .cond rfl ?_ ?_ <;> intro hc) | (refine A.guard rfl ?_ ?_ <;> intro hc) | refine A.call rfl h3 weak_fullS ?_ | fail
        exact FinR.ret1 rfl (Weak.refl _)
    rw [decide_eq_false c3] at i3
    rw [if_neg c3]
    by_cases c4 : d.name = sDo
    · rw [decide_eq_true c4] at i4
      rw [if_pos c4]
      refine .gob ?_
      exact FinR.ret1 rfl (Weak.refl _)
    · rw [decide_eq_false c4] at i4
      rw [if_neg c4]
      refine .gob ?_
      exact FinR.ret1 rfl (Weak.refl _)
theorem bFits (s : Sch) (typ : Str) (f : Fld) (how : Int) (hs : s.size ≤ 1048640) : PFn Tryz.prog 63 [s.enc, .str typ, f.enc, .int .i64 how] (.bool (fitB s typ f how)) := by
  have h1 := dLeaf s f.t.name (by omega)
  have h2 := dComposite s f.t.name (by omega)
  have h3 := dPossible s f.t.name hs
  have h4 := sContainsStr (possB s f.t.name) s.mutation (by have := poss_len s f.t.name hs; omega)
  refine AFn.plain rfl (by simp [AV.closed, AV.closedL, Sch.closed, Fld.closed]) (AFn.enter [8] Tryz.func63 rfl rfl rfl rfl rfl (by decide) ?_)
  unfold fitB rowsB changesB
  generalize possB s f.t.name = ps at *
  cases b1 : (s.mutation != []) <;> cases b2 : (typ == s.mutation) <;> cases b3 : compB s f.t.name <;> rw [b3] at h2
  all_goals
    by_cases k0 : how = 0
    · subst k0
      repeat' first | refine .br ?_ | refine .s1 ?_ | (refine .cond rfl ?_ ?_ <;> intro hc) | (refine A.guard rfl ?_ ?_ <;> intro hc) | fail
      all_goals
        refine Fin.ret1 rfl (Weak.eq (congrArg AV.bool ?_))
        simp_all
    · have e0 : (how == 0) = false := by simp [k0]
      by_cases k3 : how = 3
      · subst k3
        repeat' first | refine .br ?_ | refine .s1 ?_ | (refine .cond rfl ?_ ?_ <;> intro hc) | (refine A.guard rfl ?_ ?_ <;> intro hc) | fail
        all_goals
          refine Fin.ret1 rfl (Weak.eq (congrArg AV.bool ?_))
          simp_all
      · have e3 : (how == 3) = false := by simp [k3]
        rw [if_neg k0, if_neg k3]
        repeat' first | refine .br ?_ | refine .s1 ?_ | (refine .cond rfl ?_ ?_ <;> intro hc) | (refine A.guard rfl ?_ ?_ <;> intro hc) | fail
        all_goals
          refine Fin.ret1 rfl (Weak.eq (congrArg AV.bool ?_))
          simp_all
theorem bOf (s : Sch) (typ : Str) (f : Fld) (hs : s.size ≤ 1048640) (hf : f.size ≤ 68719476736) : PFn Tryz.prog 29 [s.enc, .str typ, f.enc] (.tup [(ofB s typ f).1.enc, .bool (ofB s typ f).2]) := by
  have h1 := bSaid f hf
  have h2 := bFits s typ f (saidB f).1.how hs
  refine AFn.plain (by simp [AV.closed, AV.closedL, Bnd.closed]) (by simp [AV.closed, AV.closedL, Sch.closed, Fld.closed]) (AFn.enterR [.cell 6 37, .tmp 7] Tryz.func29 rfl rfl rfl rfl rfl ?_)
  have i1 : (f.name == [95, 95, 116, 121, 112, 101, 110, 97, 109, 101]) = decide (f.name = sTypename) := by unfold sTypename; rw [Bool.eq_iff_iff]; simp
  unfold ofB
  generalize saidB f = r at *
  obtain ⟨b, ok⟩ := r
  dsimp only at *
  cases ok with
  | false =>
    rw [if_neg (by simp)]
    refine .gob ?_
    exact FinR.ret1 rfl (Weak.refl _)
  | true =>
    by_cases c1 : f.name = sTypename
    · rw [decide_eq_true c1] at i1
      rw [if_neg (by simp [c1])]
      refine .gob ?_
      exact FinR.ret1 rfl (Weak.refl _)
    · rw [decide_eq_false c1] at i1
      cases c2 : fitB s typ f b.how <;> rw [c2] at h2
      · rw [if_neg (by simp)]
        refine .gob ?_
        exact FinR.ret1 rfl (Weak.refl _)
      · rw [if_pos ⟨rfl, c1, rfl⟩]
        refine .gob ?_
        exact FinR.ret1 rfl (Weak.refl _)
theorem bCheck2 (s : Sch) (d : Dfn) (f : Fld) (hs : s.size ≤ 1048640) (hf : f.size ≤ 68719476736) : PFn Tryz.prog 33 [f.enc, .rptr s.enc, .rptr d.enc] (.bool (!(ofB s d.name f).2)) := by
  have h := bOf s d.name f hs hf
  refine AFn.plain rfl (by simp [AV.closed, AV.closedL, Sch.closed, Fld.closed, Dfn.closed]) (AFn.enter [4] Tryz.func33 rfl rfl rfl rfl rfl (by decide) ?_)
  refine .gob ?_
  exact Fin.ret1 rfl (Weak.refl _)
theorem bCheck1 (s : Sch) (d : Dfn) (hs : s.size ≤ 1048640) (hd : d ∈ s.defs) : PFn Tryz.prog 31 [d.enc, .rptr s.enc] (.bool (bound1 s d)) := by
  have hdz := Sch.dfn hd
  have hl := d.lens
  have hsm := d.sums
  have h := sContainsFFld d.fields 33 [.rptr s.enc, .rptr d.enc] (fun f => !(ofB s d.name f).2) (by omega) (by simp [AV.closed, AV.closedL, Sch.closed, Dfn.closed]) (fun f hf => bCheck2 s d f hs (by have := sumSize_mem (size := Fld.size) hf; omega))
  refine AFn.plain rfl (by simp [AV.closed, AV.closedL, Sch.closed, Dfn.closed]) (AFn.enter [3] Tryz.func31 rfl rfl rfl rfl rfl (by decide) ?_)
  unfold bound1
  cases c : (d.kind == 1)
  all_goals
    refine .gob ?_
    exact Fin.ret1 rfl (Weak.refl _)
theorem bCheck (s : Sch) (hs : s.size ≤ 1048640) (ho : s.ok) : PFn Tryz.prog 13 [s.enc] (.bool (servedB s)) := by
  have h1 := wCheckS s hs ho
  have hl := s.len
  have h := sContainsFDfn s.defs 31 [.rptr s.enc] (bound1 s) (by omega) (by simp [AV.closed, AV.closedL, Sch.closed]) (fun d hd => bCheck1 s d hs hd)
  refine AFn.plain rfl (by simp [AV.closed, AV.closedL, Sch.closed]) (AFn.enter [2] Tryz.func13 rfl rfl rfl rfl rfl (by decide) ?_)
  unfold servedB
  have e : (checkI s == 0) = decide (checkI s = 0) := by rw [Bool.eq_iff_iff]; simp
  cases c : decide (checkI s = 0) <;> rw [c] at e
  all_goals
    refine .gob ?_
    exact Fin.ret1 rfl (Weak.refl _)
def bindFs : List Field := [{ name := "How", type := 3, offset := 0, embedded := false, tag := "", pkgPath := "", byteOffset := 0 }, { name := "Table", type := 9, offset := 1, embedded := false, tag := "", pkgPath := "", byteOffset := 8 }, { name := "Col", type := 9, offset := 2, embedded := false, tag := "", pkgPath := "", byteOffset := 24 }, { name := "Arg", type := 9, offset := 3, embedded := false, tag := "", pkgPath := "", byteOffset := 40 }, { name := "Cmd", type := 9, offset := 4, embedded := false, tag := "", pkgPath := "", byteOffset := 56 }]
theorem eq_bind : EqT Tryz.prog 37 bindFs := ⟨Tryz.underlying37, by kernel_rfl, by kernel_rfl, by decide⟩
theorem eq_bnd (b : Bnd) : eqFs Tryz.prog bindFs 0 [.int .i64 b.how, .str b.table, .str b.col, .str b.arg, .str b.cmd] [.int .i64 b.how, .str b.table, .str b.col, .str b.arg, .str b.cmd] = some true := by
  have : eqFs Tryz.prog bindFs 0 [.int .i64 b.how, .str b.table, .str b.col, .str b.arg, .str b.cmd] [.int .i64 b.how, .str b.table, .str b.col, .str b.arg, .str b.cmd] = some (b.how == b.how && (b.table == b.table && (b.col == b.col && (b.arg == b.arg && (b.cmd == b.cmd && true))))) := rfl
  rw [this]; simp
def sUser : Str := [85, 115, 101, 114]
def bossF : Fld := ⟨[98, 111, 115, 115], [], ⟨sUser, 0, 0⟩, [⟨sLink, [.mk sTable (textV [117]), .mk sCol (textV [98])]⟩]⟩
def bossS : Sch := ⟨[⟨1, sUser, [], [bossF], [], []⟩], sUser, []⟩
def noS : Sch := ⟨[], [], []⟩
theorem weak_memT {name str : Str} {t1 t2 : Tk} : Weak (.agg [.str name, .int .i64 4, .int .i64 0, .str str, .slice [] t1, .slice [] t2]) (Mem.mk name (textV str)).enc := by
  unfold Mem.enc textV
  show Weak _ (.agg [.str name, .int .i64 4, .int .i64 0, .str str, .slice (Val.mk 4 0 str [] []).lv .no, .slice (Val.mk 4 0 str [] []).mv .no])
  rw [lv_mk, mv_mk]
  exact Weak.agg (WeakL.cons (Weak.refl _) (WeakL.cons (Weak.refl _) (WeakL.cons (Weak.refl _) (WeakL.cons (Weak.refl _) (WeakL.cons (Weak.no (WeakL.refl _)) (WeakL.cons (Weak.no (WeakL.refl _)) (WeakL.refl _)))))))
theorem weak_bossF {t1 t2 t3 t4 t5 t6 t7 : Tk} : Weak (.agg [.str [98, 111, 115, 115], .slice [] t1, .str [85, 115, 101, 114], .int .i64 0, .int .i64 0, .slice [.agg [.str [108, 105, 110, 107], .slice [.agg [.str [116, 97, 98, 108, 101], .int .i64 4, .int .i64 0, .str [117], .slice [] t2, .slice [] t3], .agg [.str [99, 111, 108], .int .i64 4, .int .i64 0, .str [98], .slice [] t4, .slice [] t5]] t6]] t7]) bossF.enc := by
  refine Weak.agg (WeakL.cons (Weak.refl _) (WeakL.cons (Weak.no (WeakL.refl _)) (WeakL.cons (Weak.refl _) (WeakL.cons (Weak.refl _) (WeakL.cons (Weak.refl _) (WeakL.cons (Weak.no (WeakL.cons ?_ (WeakL.refl _))) (WeakL.refl _)))))))
  exact Weak.agg (WeakL.cons (Weak.refl _) (WeakL.cons (Weak.no (WeakL.cons weak_memT (WeakL.cons weak_memT (WeakL.refl _)))) (WeakL.refl _)))
theorem weak_bossS {x : AV} {t1 t2 t3 t4 t5 : Tk} (h : Weak x bossF.enc) : Weak (.agg [.slice [.agg [.int .i64 1, .str [85, 115, 101, 114], .slice [] t1, .slice [x] t2, .slice [] t3, .slice [] t4]] t5, .str [85, 115, 101, 114], .str []]) bossS.enc := by
  refine Weak.agg (WeakL.cons (Weak.no (WeakL.cons ?_ (WeakL.refl _))) (WeakL.refl _))
  exact Weak.agg (WeakL.cons (Weak.refl _) (WeakL.cons (Weak.refl _) (WeakL.cons (Weak.no (WeakL.refl _)) (WeakL.cons (Weak.no (WeakL.cons h (WeakL.refl _))) (WeakL.cons (Weak.no (WeakL.refl _)) (WeakL.cons (Weak.no (WeakL.refl _)) (WeakL.refl _)))))))
theorem hBoss : PFn Tryz.prog 28 [] (.tup [bossS.enc, bossF.enc]) := by
  refine AFn.plain (by simp [AV.closed, AV.closedL, Sch.closed, Fld.closed]) rfl (AFn.enterR [.cell 0 24, .cell 1 35] Tryz.func28 rfl rfl rfl rfl rfl ?_)
  refine .go ?_
  exact FinR.ret1 rfl (Weak.tup (WeakL.cons (weak_bossS weak_bossF) (WeakL.cons weak_bossF (WeakL.refl _))))
theorem bossS_ok : bossS.ok := fun d hd => by
  simp only [bossS, List.mem_cons, List.not_mem_nil, or_false] at hd
  subst hd
  refine ⟨fun f hf => ?_, fun p hp => by simp at hp⟩
  simp only [List.mem_cons, List.not_mem_nil, or_false] at hf
  subst hf
  refine ⟨fun p hp => by simp [bossF] at hp, fun d hd => ?_⟩
  simp only [bossF, List.mem_cons, List.not_mem_nil, or_false] at hd
  subst hd
  intro m hm
  simp only [List.mem_cons, List.not_mem_nil, or_false] at hm
  have tx : ∀ x : Str, (textV x).ok := fun x => by unfold textV; rw [Val.ok]; exact ⟨by decide, by decide, by rw [Val.okL]; trivial, by rw [Val.okM]; trivial⟩
  rcases hm with rfl | rfl
  · exact tx _
  · exact tx _
theorem noS_ok : noS.ok := fun d hd => by simp [noS] at hd
theorem boss_of : ofB bossS sUser bossF = (⟨1, [117], [98], [], []⟩, true) := by decide +kernel
theorem boss_served : servedB bossS = true := by decide +kernel
theorem no_served : servedB noS = false := by decide +kernel
theorem weak_noS {t : Tk} : WeakL [.agg [.slice [] t, .str [], .str []]] [noS.enc] := WeakL.cons (Weak.agg (WeakL.cons (Weak.no (WeakL.refl _)) (WeakL.refl _))) (WeakL.refl _)
theorem awake12 : PFn Tryz.prog 12 [] (.bool true) := by
  have h1 := hBoss
  have h2 := bOf bossS sUser bossF (by decide +kernel) (by decide +kernel)
  rw [boss_of] at h2
  have h3 := bCheck bossS (by decide +kernel) bossS_ok
  rw [boss_served] at h3
  have h4 := bCheck noS (by decide +kernel) noS_ok
  rw [no_served] at h4
  have hq := eq_bnd ⟨1, [117], [98], [], []⟩
  refine AFn.plain rfl rfl (AFn.enter [0] Tryz.func12 rfl rfl rfl rfl rfl (by decide) ?_)
  repeat' first | refine .s1 ?_ | (refine .cond rfl ?_ ?_ <;> intro hc) | (refine A.guard rfl ?_ ?_ <;> intro hc) | refine A.eqT eq_bind rfl rfl hq ?_ | refine A.call rfl h4 weak_noS ?_ | fail
  exact Fin.ret1 rfl (Weak.refl _)
end Go.Proofs.YtgghkkeejagfkaaGreatDoor
