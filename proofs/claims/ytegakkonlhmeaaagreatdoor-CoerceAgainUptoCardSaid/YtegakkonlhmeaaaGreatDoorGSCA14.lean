/-
  The packages wrap, defs: Sub, Possible. The package schema: takes, has; the rules 6 and 7.
-/
import Derived.Test.YtegakkonlhmeaaaGreatDoorGSCA13
import Derived.Test.YtegakkonlhmeaaaGreatDoorGSCA8
import Derived.Test.YtegakkonlhmeaaaGreatDoorGSCA7
set_option maxRecDepth 100000
set_option maxHeartbeats 16000000
set_option linter.unusedVariables false
set_option linter.unusedSimpArgs false
set_option linter.unusedSectionVars false
namespace Go.Proofs.YtegakkonlhmeaaaGreatDoor
open Go Go.Av
attribute [local irreducible] HCode AOps PFn AFn Av.Step TStep
theorem all_next {α : Type} {p : α → Bool} {l : List α} {k : Nat} (h : k < l.length) (hj : (l.take k).all p = true) (hp : p l[k] = true) : (l.take (k + 1)).all p = true := by
  rw [List.take_succ_eq_append_getElem h, List.all_append, hj]; simp [hp]
theorem all_stop {α : Type} {p : α → Bool} {l : List α} {k : Nat} (h : k < l.length) (hp : p l[k] = false) : l.all p = false := by
  rw [Bool.eq_false_iff]
  intro ha
  rw [List.all_eq_true] at ha
  have := ha _ (List.getElem_mem h)
  rw [hp] at this; cases this
theorem fold_take {α β : Type} {f : β → α → β} {a : β} {l : List α} {k : Nat} (h : k < l.length) : (l.take (k + 1)).foldl f a = f ((l.take k).foldl f a) l[k] := by
  rw [List.take_succ_eq_append_getElem h, List.foldl_append]; rfl
theorem wSub (a b : Typ) (ha : a.name.length ≤ 68719476736) (hb : b.name.length ≤ 68719476736) : PFn Tryz.prog 57 [a.enc, b.enc] (.bool (subT a b)) := by
  have h1 := wRight a (by omega)
  have h2 := wRight b (by omega)
  refine AFn.plain rfl (by simp [AV.closed, AV.closedL, Typ.closed]) (AFn.enter [4] Tryz.func57 rfl rfl rfl rfl rfl (by decide) ?_)
  unfold subT
  have h1' : WeakL [a.enc] [a.enc] := WeakL.refl _
  cases c1 : rightT a <;> rw [c1] at h1
  · repeat' first | refine .br ?_ | refine .seq ?_ | refine .rg ?_ | refine .rd ?_ | refine .block ?_ | refine .scope ?_ | refine .skip ?_ | refine .label ?_ | refine .exit ?_ | refine .ret ?_ | refine .ct ?_ | refine .cf ?_ | refine .cy ?_ | refine .cn ?_ | (refine .cond rfl ?_ ?_ <;> intro hc) | refine A.nil_seq ?_ | refine .nl ?_ | refine .dd ?_ | refine .ys ?_ | refine .no ?_ | (refine A.guard rfl ?_ ?_ <;> intro hc) | refine .lb ?_ | refine .ln ?_ | refine .ls ?_ | refine .pv ?_ | refine .ix ?_ | refine .pt ?_ | refine .pf ?_ | refine .bx ?_ | refine .al ?_ | refine .st ?_ | refine .ad ?_ | refine .sb ?_ | refine .mf ?_ | refine .cl ?_ | refine .cw ?_ | refine .ck ?_ | refine A.call rfl h1 (WeakL.refl _) ?_ | fail
    exact Fin.ret1 rfl (Weak.refl _)
  cases c2 : rightT b <;> rw [c2] at h2
  · repeat' first | refine .br ?_ | refine A.call rfl h1 (WeakL.refl _) ?_ | refine A.call rfl h2 (WeakL.refl _) ?_ | refine .seq ?_ | refine .rg ?_ | refine .rd ?_ | refine .block ?_ | refine .scope ?_ | refine .skip ?_ | refine .label ?_ | refine .exit ?_ | refine .ret ?_ | refine .ct ?_ | refine .cf ?_ | refine .cy ?_ | refine .cn ?_ | (refine .cond rfl ?_ ?_ <;> intro hc) | refine A.nil_seq ?_ | refine .nl ?_ | refine .dd ?_ | refine .ys ?_ | refine .no ?_ | (refine A.guard rfl ?_ ?_ <;> intro hc) | refine .lb ?_ | refine .ln ?_ | refine .ls ?_ | refine .pv ?_ | refine .ix ?_ | refine .pt ?_ | refine .pf ?_ | refine .bx ?_ | refine .al ?_ | refine .st ?_ | refine .ad ?_ | refine .sb ?_ | refine .mf ?_ | refine .cl ?_ | refine .cw ?_ | refine .ck ?_ | fail
    exact Fin.ret1 rfl (Weak.refl _)
  cases c3 : (a.name == b.name)
  · repeat' first | refine .br ?_ | refine A.call rfl h1 (WeakL.refl _) ?_ | refine A.call rfl h2 (WeakL.refl _) ?_ | refine .seq ?_ | refine .rg ?_ | refine .rd ?_ | refine .block ?_ | refine .scope ?_ | refine .skip ?_ | refine .label ?_ | refine .exit ?_ | refine .ret ?_ | refine .ct ?_ | refine .cf ?_ | refine .cy ?_ | refine .cn ?_ | (refine .cond rfl ?_ ?_ <;> intro hc) | refine A.nil_seq ?_ | refine .nl ?_ | refine .dd ?_ | refine .ys ?_ | refine .no ?_ | (refine A.guard rfl ?_ ?_ <;> intro hc) | refine .lb ?_ | refine .ln ?_ | refine .ls ?_ | refine .pv ?_ | refine .ix ?_ | refine .pt ?_ | refine .pf ?_ | refine .bx ?_ | refine .al ?_ | refine .st ?_ | refine .ad ?_ | refine .sb ?_ | refine .mf ?_ | refine .cl ?_ | refine .cw ?_ | refine .ck ?_ | fail
    exact Fin.ret1 rfl (Weak.refl _)
  cases c4 : (a.lists == b.lists)
  · repeat' first | refine .br ?_ | refine A.call rfl h1 (WeakL.refl _) ?_ | refine A.call rfl h2 (WeakL.refl _) ?_ | refine .seq ?_ | refine .rg ?_ | refine .rd ?_ | refine .block ?_ | refine .scope ?_ | refine .skip ?_ | refine .label ?_ | refine .exit ?_ | refine .ret ?_ | refine .ct ?_ | refine .cf ?_ | refine .cy ?_ | refine .cn ?_ | (refine .cond rfl ?_ ?_ <;> intro hc) | refine A.nil_seq ?_ | refine .nl ?_ | refine .dd ?_ | refine .ys ?_ | refine .no ?_ | (refine A.guard rfl ?_ ?_ <;> intro hc) | refine .lb ?_ | refine .ln ?_ | refine .ls ?_ | refine .pv ?_ | refine .ix ?_ | refine .pt ?_ | refine .pf ?_ | refine .bx ?_ | refine .al ?_ | refine .st ?_ | refine .ad ?_ | refine .sb ?_ | refine .mf ?_ | refine .cl ?_ | refine .cw ?_ | refine .ck ?_ | fail
    exact Fin.ret1 rfl (Weak.refl _)
  repeat' first | refine .br ?_ | refine A.call rfl h1 (WeakL.refl _) ?_ | refine A.call rfl h2 (WeakL.refl _) ?_ | refine .seq ?_ | refine .rg ?_ | refine .rd ?_ | refine .block ?_ | refine .scope ?_ | refine .skip ?_ | refine .label ?_ | refine .exit ?_ | refine .ret ?_ | refine .ct ?_ | refine .cf ?_ | refine .cy ?_ | refine .cn ?_ | (refine .cond rfl ?_ ?_ <;> intro hc) | refine A.nil_seq ?_ | refine .nl ?_ | refine .dd ?_ | refine .ys ?_ | refine .no ?_ | (refine A.guard rfl ?_ ?_ <;> intro hc) | refine .lb ?_ | refine .ln ?_ | refine .ls ?_ | refine .pv ?_ | refine .ix ?_ | refine .pt ?_ | refine .pf ?_ | refine .bx ?_ | refine .al ?_ | refine .st ?_ | refine .ad ?_ | refine .sb ?_ | refine .mf ?_ | refine .cl ?_ | refine .cw ?_ | refine .ck ?_ | refine A.bclr (r := andNotI b.musts a.musts) rfl rfl rfl ?_ | fail
  exact Fin.ret1 rfl (Weak.refl _)
abbrev AddC (xs : List Str) (n : Str) : Prop := AFn Tryz.prog 102 [.slice (xs.map AV.str) (.own 0 1), .str n] ⟨[], [.len xs.length]⟩ (fun e σ => e = .ret (.slice ((addNew xs n).map AV.str) (.own 0 1)) ∧ σ = ⟨[], [.len (addNew xs n).length]⟩)
theorem dAdd (xs : List Str) (n : Str) (hx : xs.length ≤ 137438953472) : AddC xs n := by
  have hct := sContainsStr xs n (by omega)
  have hwk : WeakL [.slice (xs.map AV.str) (.own 0 1), .str n] [.slice (xs.map AV.str) .no, .str n] := WeakL.cons (Weak.no (WeakL.refl _)) (WeakL.refl _)
  refine AFn.enter [4] Tryz.func102 rfl rfl rfl rfl rfl (by decide) ?_
  unfold addNew
  by_cases c : n ∈ xs
  · rw [decide_eq_true c] at hct
    rw [if_pos c]
    repeat' first | refine A.call rfl hct hwk ?_ | refine .seq ?_ | refine .rg ?_ | refine .rd ?_ | refine .block ?_ | refine .scope ?_ | refine .skip ?_ | refine .label ?_ | refine .exit ?_ | refine .ret ?_ | refine .ct ?_ | refine .cf ?_ | refine .cy ?_ | refine .cn ?_ | (refine .cond rfl ?_ ?_ <;> intro hc) | refine A.nil_seq ?_ | refine .nl ?_ | refine .dd ?_ | refine .ys ?_ | refine .no ?_ | (refine A.guard rfl ?_ ?_ <;> intro hc) | refine .lb ?_ | refine .ln ?_ | refine .ls ?_ | refine .pv ?_ | refine .ix ?_ | refine .pt ?_ | refine .pf ?_ | refine .bx ?_ | refine .al ?_ | refine .st ?_ | refine .ad ?_ | refine .sb ?_ | refine .mf ?_ | refine .cl ?_ | refine .cw ?_ | refine .ck ?_ | fail
    exact ⟨rfl, rfl⟩
  · rw [decide_eq_false c] at hct
    rw [if_neg c]
    repeat' first | refine A.call rfl hct hwk ?_ | refine .seq ?_ | refine .rg ?_ | refine .rd ?_ | refine .block ?_ | refine .scope ?_ | refine .skip ?_ | refine .label ?_ | refine .exit ?_ | refine .ret ?_ | refine .ct ?_ | refine .cf ?_ | refine .cy ?_ | refine .cn ?_ | (refine .cond rfl ?_ ?_ <;> intro hc) | refine A.nil_seq ?_ | refine .nl ?_ | refine .dd ?_ | refine .ys ?_ | refine .no ?_ | (refine A.guard rfl ?_ ?_ <;> intro hc) | refine .lb ?_ | refine .ln ?_ | refine .ls ?_ | refine .pv ?_ | refine .ix ?_ | refine .pt ?_ | refine .pf ?_ | refine .bx ?_ | refine .al ?_ | refine .st ?_ | refine .ad ?_ | refine .sb ?_ | refine .mf ?_ | refine .cl ?_ | refine .cw ?_ | refine .ck ?_ | refine A.append (n := xs.length) rfl rfl rfl rfl rfl rfl rfl rfl (List.length_map ..) rfl (by dsimp only [List.length_cons, List.length_nil]; omega) (by dsimp only [List.length_cons, List.length_nil]; omega) rfl ?_ | fail
    exact ⟨by rw [List.map_append]; rfl, by rw [List.length_append]; rfl⟩
theorem possF_len (name : Str) (l : List Dfn) : (l.foldl (fun l x => possF l x name) []).length ≤ l.length := by
  have aux : ∀ (l : List Dfn) (a : List Str), (l.foldl (fun l x => possF l x name) a).length ≤ a.length + l.length := fun l => by
    induction l with
    | nil => intro a; simp
    | cons x l ih =>
      intro a
      rw [List.foldl_cons, List.length_cons]
      have h1 := ih (possF a x name)
      have h2 : (possF a x name).length ≤ a.length + 1 := by
        unfold possF
        split
        · exact addNew_len _ _
        · omega
      omega
  simpa using aux l []
theorem possU_len (s : Sch) (l : List Str) : (l.foldl (possU s) []).length ≤ l.length := by
  have aux : ∀ (l : List Str) (a : List Str), (l.foldl (possU s) a).length ≤ a.length + l.length := fun l => by
    induction l with
    | nil => intro a; simp
    | cons x l ih =>
      intro a
      rw [List.foldl_cons, List.length_cons]
      have h1 := ih (possU s a x)
      have h2 : (possU s a x).length ≤ a.length + 1 := by
        unfold possU
        split
        · exact addNew_len _ _
        · omega
      omega
  simpa using aux l []
theorem dPossible (s : Sch) (name : Str) (hs : s.size ≤ 1048640) : PFn Tryz.prog 54 [s.enc, .str name] (.slice ((possB s name).map AV.str) .no) := by
  have hf := dFind s name (by omega)
  have hz := findR_size (name := name) (show s.size ≤ 68719476736 by omega)
  have hl := s.len
  refine AFn.plain (str_closedL _) (by simp [AV.closed, AV.closedL, Sch.closed]) (AFn.enter [4] Tryz.func54 rfl rfl rfl rfl rfl (by decide) ?_)
  unfold possB
  unfold findR at hf hz
  cases hfo : findO s name with
  | none =>
    rw [hfo] at hf
    repeat' first | refine .br ?_ | refine .seq ?_ | refine .rg ?_ | refine .rd ?_ | refine .block ?_ | refine .scope ?_ | refine .skip ?_ | refine .label ?_ | refine .exit ?_ | refine .ret ?_ | refine .ct ?_ | refine .cf ?_ | refine .cy ?_ | refine .cn ?_ | (refine .cond rfl ?_ ?_ <;> intro hc) | refine A.nil_seq ?_ | refine .nl ?_ | refine .dd ?_ | refine .ys ?_ | refine .no ?_ | (refine A.guard rfl ?_ ?_ <;> intro hc) | refine .lb ?_ | refine .ln ?_ | refine .ls ?_ | refine .pv ?_ | refine .ix ?_ | refine .pt ?_ | refine .pf ?_ | refine .bx ?_ | refine .al ?_ | refine .st ?_ | refine .ad ?_ | refine .sb ?_ | refine .mf ?_ | refine .cl ?_ | refine .cw ?_ | refine .ck ?_ | fail
    exact Fin.ret1 rfl (Weak.no (WeakL.refl _))
  | some d =>
    rw [hfo] at hf hz
    simp only at hf hz ⊢
    by_cases k1 : d.kind = 1
    · have q1 : (d.kind == 1) = true := by simp [k1]
      rw [if_pos k1]
      repeat' first | refine .br ?_ | refine .seq ?_ | refine .rg ?_ | refine .rd ?_ | refine .block ?_ | refine .scope ?_ | refine .skip ?_ | refine .label ?_ | refine .exit ?_ | refine .ret ?_ | refine .ct ?_ | refine .cf ?_ | refine .cy ?_ | refine .cn ?_ | (refine .cond rfl ?_ ?_ <;> intro hc) | refine A.nil_seq ?_ | refine .nl ?_ | refine .dd ?_ | refine .ys ?_ | refine .no ?_ | (refine A.guard rfl ?_ ?_ <;> intro hc) | refine .lb ?_ | refine .ln ?_ | refine .ls ?_ | refine .pv ?_ | refine .ix ?_ | refine .pt ?_ | refine .pf ?_ | refine .bx ?_ | refine .al ?_ | refine .st ?_ | refine .ad ?_ | refine .sb ?_ | refine .mf ?_ | refine .cl ?_ | refine .cw ?_ | refine .ck ?_ | fail
      exact Fin.ret1 rfl (Weak.no (WeakL.refl _))
    · have q1 : (d.kind == 1) = false := by simp [k1]
      rw [if_neg k1]
      by_cases k2 : d.kind = 2
      · have q2 : (d.kind == 2) = true := by simp [k2]
        rw [if_pos k2]
        repeat' first | refine .br ?_ | refine .seq ?_ | refine .rg ?_ | refine .rd ?_ | refine .block ?_ | refine .scope ?_ | refine .skip ?_ | refine .label ?_ | refine .exit ?_ | refine .ret ?_ | refine .ct ?_ | refine .cf ?_ | refine .cy ?_ | refine .cn ?_ | (refine .cond rfl ?_ ?_ <;> intro hc) | refine A.nil_seq ?_ | refine .nl ?_ | refine .dd ?_ | refine .ys ?_ | refine .no ?_ | (refine A.guard rfl ?_ ?_ <;> intro hc) | refine .lb ?_ | refine .ln ?_ | refine .ls ?_ | refine .pv ?_ | refine .ix ?_ | refine .pt ?_ | refine .pf ?_ | refine .bx ?_ | refine .al ?_ | refine .st ?_ | refine .ad ?_ | refine .sb ?_ | refine .mf ?_ | refine .cl ?_ | refine .cw ?_ | refine .ck ?_ | fail
        refine HCode.adopt 7 false 1 rfl rfl rfl rfl rfl rfl ?_
        refine HCode.forK s.defs.length (fun k => [(31, .int .i64 k), (30, .int .i64 s.defs.length), (29, .slice (s.defs.map Dfn.enc) .no), (1, .str name), (7, .slice (((s.defs.take k).foldl (fun l x => possF l x name) []).map AV.str) (.own 0 1))])
          (fun k => ⟨[.cells [.int .i64 d.kind, .str d.name, .slice (d.faces.map AV.str) .no, .slice (d.fields.map Fld.enc) .no, .slice (d.parts.map AV.str) .no, .slice (d.params.map Par.enc) .no]], [.len ((s.defs.take k).foldl (fun l x => possF l x name) []).length]⟩) (fun _ => True) ⟨rfl, rfl, rfl, rfl, rfl, trivial⟩ rfl trivial fun k hk _ => ?_
        by_cases h1 : k < s.defs.length
        · have d1 : decide ((k : Int) < (s.defs.length : Int)) = true := by simp [h1]
          have x1 := map_get' (f := Dfn.enc) h1
          have hds := Sch.dfn (List.getElem_mem h1)
          have hdl := s.defs[k].lens
          have hct := sContainsStr s.defs[k].faces name (by omega)
          have hst := fold_take (f := fun l x => possF l x name) (a := []) h1
          have hpl := possF_len name (s.defs.take k)
          rw [List.length_take] at hpl
          have had := dAdd ((s.defs.take k).foldl (fun l x => possF l x name) []) s.defs[k].name (by omega)
          generalize (s.defs.take k).foldl (fun l x => possF l x name) [] = xs at had hst
          by_cases j1 : s.defs[k].kind = 1
          · have r1 : (s.defs[k].kind == 1) = true := by simp [j1]
            by_cases c : name ∈ s.defs[k].faces
            · rw [decide_eq_true c] at hct
              replace hst := hst.trans (show possF xs s.defs[k] name = addNew xs s.defs[k].name by unfold possF; rw [if_pos ⟨j1, c⟩])
              repeat' first | refine .seq ?_ | refine .rg ?_ | refine .rd ?_ | refine .block ?_ | refine .scope ?_ | refine .skip ?_ | refine .label ?_ | refine .exit ?_ | refine .ret ?_ | refine .ct ?_ | refine .cf ?_ | refine .cy ?_ | refine .cn ?_ | (refine .cond rfl ?_ ?_ <;> intro hc) | refine A.nil_seq ?_ | refine .nl ?_ | refine .dd ?_ | refine .ys ?_ | refine .no ?_ | (refine A.guard rfl ?_ ?_ <;> intro hc) | refine .lb ?_ | refine .ln ?_ | refine .ls ?_ | refine .pv ?_ | refine .ix ?_ | refine .pt ?_ | refine .pf ?_ | refine .bx ?_ | refine .al ?_ | refine .st ?_ | refine .ad ?_ | refine .sb ?_ | refine .mf ?_ | refine .cl ?_ | refine .cw ?_ | refine .ck ?_ | refine A.callG 0 rfl had rfl (str_closedL _) (str_closedL _) (by simp [AV.closedL, AV.closed]) (WeakL.refl _) rfl ?_ | fail
              exact ⟨h1, ⟨rfl, rfl, rfl, rfl, by rw [hst]; rfl, trivial⟩, by simp [-List.map_take, belowS, AV.low], by simp [belowB, belowT, Ob.low, Tok.low, AV.lowL, AV.low], by rw [hst]; rfl, trivial⟩
            · rw [decide_eq_false c] at hct
              replace hst := hst.trans (show possF xs s.defs[k] name = xs by unfold possF; rw [if_neg (fun h => c h.2)])
              repeat' first | refine .seq ?_ | refine .rg ?_ | refine .rd ?_ | refine .block ?_ | refine .scope ?_ | refine .skip ?_ | refine .label ?_ | refine .exit ?_ | refine .ret ?_ | refine .ct ?_ | refine .cf ?_ | refine .cy ?_ | refine .cn ?_ | (refine .cond rfl ?_ ?_ <;> intro hc) | refine A.nil_seq ?_ | refine .nl ?_ | refine .dd ?_ | refine .ys ?_ | refine .no ?_ | (refine A.guard rfl ?_ ?_ <;> intro hc) | refine .lb ?_ | refine .ln ?_ | refine .ls ?_ | refine .pv ?_ | refine .ix ?_ | refine .pt ?_ | refine .pf ?_ | refine .bx ?_ | refine .al ?_ | refine .st ?_ | refine .ad ?_ | refine .sb ?_ | refine .mf ?_ | refine .cl ?_ | refine .cw ?_ | refine .ck ?_ | fail
              exact ⟨h1, ⟨rfl, rfl, rfl, rfl, by rw [hst]; rfl, trivial⟩, by simp [-List.map_take, belowS, AV.low], by simp [belowB, belowT, Ob.low, Tok.low, AV.lowL, AV.low], by rw [hst]; rfl, trivial⟩
          · have r1 : (s.defs[k].kind == 1) = false := by simp [j1]
            replace hst := hst.trans (show possF xs s.defs[k] name = xs by unfold possF; rw [if_neg (fun h => j1 h.1)])
            repeat' first | refine .seq ?_ | refine .rg ?_ | refine .rd ?_ | refine .block ?_ | refine .scope ?_ | refine .skip ?_ | refine .label ?_ | refine .exit ?_ | refine .ret ?_ | refine .ct ?_ | refine .cf ?_ | refine .cy ?_ | refine .cn ?_ | (refine .cond rfl ?_ ?_ <;> intro hc) | refine A.nil_seq ?_ | refine .nl ?_ | refine .dd ?_ | refine .ys ?_ | refine .no ?_ | (refine A.guard rfl ?_ ?_ <;> intro hc) | refine .lb ?_ | refine .ln ?_ | refine .ls ?_ | refine .pv ?_ | refine .ix ?_ | refine .pt ?_ | refine .pf ?_ | refine .bx ?_ | refine .al ?_ | refine .st ?_ | refine .ad ?_ | refine .sb ?_ | refine .mf ?_ | refine .cl ?_ | refine .cw ?_ | refine .ck ?_ | fail
            exact ⟨h1, ⟨rfl, rfl, rfl, rfl, by rw [hst]; rfl, trivial⟩, by simp [-List.map_take, belowS, AV.low], by simp [belowB, belowT, Ob.low, Tok.low, AV.lowL, AV.low], by rw [hst]; rfl, trivial⟩
        · have d1 : decide ((k : Int) < (s.defs.length : Int)) = false := by simp; omega
          obtain rfl : k = s.defs.length := by omega
          rw [List.take_length]
          repeat' first | refine .seq ?_ | refine .rg ?_ | refine .rd ?_ | refine .block ?_ | refine .scope ?_ | refine .skip ?_ | refine .label ?_ | refine .exit ?_ | refine .ret ?_ | refine .ct ?_ | refine .cf ?_ | refine .cy ?_ | refine .cn ?_ | (refine .cond rfl ?_ ?_ <;> intro hc) | refine A.nil_seq ?_ | refine .nl ?_ | refine .dd ?_ | refine .ys ?_ | refine .no ?_ | (refine A.guard rfl ?_ ?_ <;> intro hc) | refine .lb ?_ | refine .ln ?_ | refine .ls ?_ | refine .pv ?_ | refine .ix ?_ | refine .pt ?_ | refine .pf ?_ | refine .bx ?_ | refine .al ?_ | refine .st ?_ | refine .ad ?_ | refine .sb ?_ | refine .mf ?_ | refine .cl ?_ | refine .cw ?_ | refine .ck ?_ | fail
          exact Fin.ret1 rfl (Weak.no (WeakL.refl _))
      · have q2 : (d.kind == 2) = false := by simp [k2]
        rw [if_neg k2]
        by_cases k3 : d.kind = 3
        · have q3 : (d.kind == 3) = true := by simp [k3]
          rw [if_pos k3]
          repeat' first | refine .br ?_ | refine .seq ?_ | refine .rg ?_ | refine .rd ?_ | refine .block ?_ | refine .scope ?_ | refine .skip ?_ | refine .label ?_ | refine .exit ?_ | refine .ret ?_ | refine .ct ?_ | refine .cf ?_ | refine .cy ?_ | refine .cn ?_ | (refine .cond rfl ?_ ?_ <;> intro hc) | refine A.nil_seq ?_ | refine .nl ?_ | refine .dd ?_ | refine .ys ?_ | refine .no ?_ | (refine A.guard rfl ?_ ?_ <;> intro hc) | refine .lb ?_ | refine .ln ?_ | refine .ls ?_ | refine .pv ?_ | refine .ix ?_ | refine .pt ?_ | refine .pf ?_ | refine .bx ?_ | refine .al ?_ | refine .st ?_ | refine .ad ?_ | refine .sb ?_ | refine .mf ?_ | refine .cl ?_ | refine .cw ?_ | refine .ck ?_ | fail
          refine HCode.adopt 7 false 1 rfl rfl rfl rfl rfl rfl ?_
          refine HCode.forK d.parts.length (fun k => [(54, .int .i64 k), (53, .int .i64 d.parts.length), (52, .slice (d.parts.map AV.str) .no), (2, .rptr s.enc), (7, .slice (((d.parts.take k).foldl (possU s) []).map AV.str) (.own 0 1))])
            (fun k => ⟨[.cells [.int .i64 d.kind, .str d.name, .slice (d.faces.map AV.str) .no, .slice (d.fields.map Fld.enc) .no, .slice (d.parts.map AV.str) .no, .slice (d.params.map Par.enc) .no]], [.len ((d.parts.take k).foldl (possU s) []).length]⟩) (fun _ => True) ⟨rfl, rfl, rfl, rfl, rfl, trivial⟩ rfl trivial fun k hk _ => ?_
          by_cases h1 : k < d.parts.length
          · have d1 : decide ((k : Int) < (d.parts.length : Int)) = true := by simp [h1]
            have x1 := map_get' (f := AV.str) h1
            have hkd := dKind s d.parts[k] [1] (by omega) (by decide)
            have hst := fold_take (f := possU s) (a := []) h1
            have hpl := possU_len s (d.parts.take k)
            rw [List.length_take] at hpl
            have had := dAdd ((d.parts.take k).foldl (possU s) []) d.parts[k] (by omega)
            generalize (d.parts.take k).foldl (possU s) [] = xs at had hst
            cases c : kindB s d.parts[k] [1] with
            | true =>
              rw [c] at hkd
              replace hst := hst.trans (show possU s xs d.parts[k] = addNew xs d.parts[k] by unfold possU; rw [if_pos c])
              repeat' first | refine .seq ?_ | refine .rg ?_ | refine .rd ?_ | refine .block ?_ | refine .scope ?_ | refine .skip ?_ | refine .label ?_ | refine .exit ?_ | refine .ret ?_ | refine .ct ?_ | refine .cf ?_ | refine .cy ?_ | refine .cn ?_ | (refine .cond rfl ?_ ?_ <;> intro hc) | refine A.nil_seq ?_ | refine .nl ?_ | refine .dd ?_ | refine .ys ?_ | refine .no ?_ | (refine A.guard rfl ?_ ?_ <;> intro hc) | refine .lb ?_ | refine .ln ?_ | refine .ls ?_ | refine .pv ?_ | refine .ix ?_ | refine .pt ?_ | refine .pf ?_ | refine .bx ?_ | refine .al ?_ | refine .st ?_ | refine .ad ?_ | refine .sb ?_ | refine .mf ?_ | refine .cl ?_ | refine .cw ?_ | refine .ck ?_ | refine A.callG 0 rfl had rfl (str_closedL _) (str_closedL _) (by simp [AV.closedL, AV.closed]) (WeakL.refl _) rfl ?_ | fail
              exact ⟨h1, ⟨rfl, rfl, rfl, rfl, by rw [hst]; rfl, trivial⟩, by simp [-List.map_take, belowS, AV.low], by simp [belowB, belowT, Ob.low, Tok.low, AV.lowL, AV.low], by rw [hst]; rfl, trivial⟩
            | false =>
              rw [c] at hkd
              replace hst := hst.trans (show possU s xs d.parts[k] = xs by unfold possU; rw [if_neg (by rw [c]; decide)])
              repeat' first | refine .seq ?_ | refine .rg ?_ | refine .rd ?_ | refine .block ?_ | refine .scope ?_ | refine .skip ?_ | refine .label ?_ | refine .exit ?_ | refine .ret ?_ | refine .ct ?_ | refine .cf ?_ | refine .cy ?_ | refine .cn ?_ | (refine .cond rfl ?_ ?_ <;> intro hc) | refine A.nil_seq ?_ | refine .nl ?_ | refine .dd ?_ | refine .ys ?_ | refine .no ?_ | (refine A.guard rfl ?_ ?_ <;> intro hc) | refine .lb ?_ | refine .ln ?_ | refine .ls ?_ | refine .pv ?_ | refine .ix ?_ | refine .pt ?_ | refine .pf ?_ | refine .bx ?_ | refine .al ?_ | refine .st ?_ | refine .ad ?_ | refine .sb ?_ | refine .mf ?_ | refine .cl ?_ | refine .cw ?_ | refine .ck ?_ | fail
              exact ⟨h1, ⟨rfl, rfl, rfl, rfl, by rw [hst]; rfl, trivial⟩, by simp [-List.map_take, belowS, AV.low], by simp [belowB, belowT, Ob.low, Tok.low, AV.lowL, AV.low], by rw [hst]; rfl, trivial⟩
          · have d1 : decide ((k : Int) < (d.parts.length : Int)) = false := by simp; omega
            obtain rfl : k = d.parts.length := by omega
            rw [List.take_length]
            repeat' first | refine .seq ?_ | refine .rg ?_ | refine .rd ?_ | refine .block ?_ | refine .scope ?_ | refine .skip ?_ | refine .label ?_ | refine .exit ?_ | refine .ret ?_ | refine .ct ?_ | refine .cf ?_ | refine .cy ?_ | refine .cn ?_ | (refine .cond rfl ?_ ?_ <;> intro hc) | refine A.nil_seq ?_ | refine .nl ?_ | refine .dd ?_ | refine .ys ?_ | refine .no ?_ | (refine A.guard rfl ?_ ?_ <;> intro hc) | refine .lb ?_ | refine .ln ?_ | refine .ls ?_ | refine .pv ?_ | refine .ix ?_ | refine .pt ?_ | refine .pf ?_ | refine .bx ?_ | refine .al ?_ | refine .st ?_ | refine .ad ?_ | refine .sb ?_ | refine .mf ?_ | refine .cl ?_ | refine .cw ?_ | refine .ck ?_ | fail
            exact Fin.ret1 rfl (Weak.no (WeakL.refl _))
        · have q3 : (d.kind == 3) = false := by simp [k3]
          rw [if_neg k3]
          repeat' first | refine .br ?_ | refine .seq ?_ | refine .rg ?_ | refine .rd ?_ | refine .block ?_ | refine .scope ?_ | refine .skip ?_ | refine .label ?_ | refine .exit ?_ | refine .ret ?_ | refine .ct ?_ | refine .cf ?_ | refine .cy ?_ | refine .cn ?_ | (refine .cond rfl ?_ ?_ <;> intro hc) | refine A.nil_seq ?_ | refine .nl ?_ | refine .dd ?_ | refine .ys ?_ | refine .no ?_ | (refine A.guard rfl ?_ ?_ <;> intro hc) | refine .lb ?_ | refine .ln ?_ | refine .ls ?_ | refine .pv ?_ | refine .ix ?_ | refine .pt ?_ | refine .pf ?_ | refine .bx ?_ | refine .al ?_ | refine .st ?_ | refine .ad ?_ | refine .sb ?_ | refine .mf ?_ | refine .cl ?_ | refine .cw ?_ | refine .ck ?_ | fail
          exact Fin.ret1 rfl (Weak.no (WeakL.refl _))
theorem poss_len (s : Sch) (name : Str) (hs : s.size ≤ 1048640) : (possB s name).length ≤ 68719476736 := by
  have hz := findR_size (name := name) (show s.size ≤ 68719476736 by omega)
  have hl := s.len
  unfold findR at hz
  unfold possB
  cases hfo : findO s name with
  | none => simp
  | some d =>
    rw [hfo] at hz
    simp only at hz ⊢
    split
    · simp
    · split
      · have := possF_len name s.defs; omega
      · split
        · have := possU_len s d.parts; omega
        · simp
theorem dSub (s : Sch) (a b : Typ) (hs : s.size ≤ 1048640) (ha : a.name.length ≤ 68719476736) (hb : b.name.length ≤ 68719476736) : PFn Tryz.prog 25 [s.enc, a.enc, b.enc] (.bool (subB s a b)) := by
  have h1 := wRight a (by omega)
  have h2 := wSub ⟨b.name, a.lists, a.musts⟩ b hb hb
  have h3 := dFind s a.name (by omega)
  have hz := findR_size (name := a.name) (show s.size ≤ 68719476736 by omega)
  have h4 := dPossible s b.name hs
  have h5 := sContainsStr (possB s b.name) a.name (by have := poss_len s b.name hs; omega)
  have h6 := dKind s b.name [2] (by omega) (by decide)
  have h7 := sContainsStr (findR s a.name).1.faces b.name (by omega)
  refine AFn.plain rfl (by simp [AV.closed, AV.closedL, Sch.closed, Typ.closed]) (AFn.enter [6] Tryz.func25 rfl rfl rfl rfl rfl (by decide) ?_)
  unfold subB
  generalize findR s a.name = r at h3 h7
  obtain ⟨x, ok⟩ := r
  simp only at h3 h7 ⊢
  cases c1 : rightT a <;> rw [c1] at h1
  · repeat' first | refine .br ?_ | refine .seq ?_ | refine .rg ?_ | refine .rd ?_ | refine .block ?_ | refine .scope ?_ | refine .skip ?_ | refine .label ?_ | refine .exit ?_ | refine .ret ?_ | refine .ct ?_ | refine .cf ?_ | refine .cy ?_ | refine .cn ?_ | (refine .cond rfl ?_ ?_ <;> intro hc) | refine A.nil_seq ?_ | refine .nl ?_ | refine .dd ?_ | refine .ys ?_ | refine .no ?_ | (refine A.guard rfl ?_ ?_ <;> intro hc) | refine .lb ?_ | refine .ln ?_ | refine .ls ?_ | refine .pv ?_ | refine .ix ?_ | refine .pt ?_ | refine .pf ?_ | refine .bx ?_ | refine .al ?_ | refine .st ?_ | refine .ad ?_ | refine .sb ?_ | refine .mf ?_ | refine .cl ?_ | refine .cw ?_ | refine .ck ?_ | fail
    exact Fin.ret1 rfl (Weak.refl _)
  cases c2 : subT ⟨b.name, a.lists, a.musts⟩ b <;> rw [c2] at h2
  · repeat' first | refine .br ?_ | refine .seq ?_ | refine .rg ?_ | refine .rd ?_ | refine .block ?_ | refine .scope ?_ | refine .skip ?_ | refine .label ?_ | refine .exit ?_ | refine .ret ?_ | refine .ct ?_ | refine .cf ?_ | refine .cy ?_ | refine .cn ?_ | (refine .cond rfl ?_ ?_ <;> intro hc) | refine A.nil_seq ?_ | refine .nl ?_ | refine .dd ?_ | refine .ys ?_ | refine .no ?_ | (refine A.guard rfl ?_ ?_ <;> intro hc) | refine .lb ?_ | refine .ln ?_ | refine .ls ?_ | refine .pv ?_ | refine .ix ?_ | refine .pt ?_ | refine .pf ?_ | refine .bx ?_ | refine .al ?_ | refine .st ?_ | refine .ad ?_ | refine .sb ?_ | refine .mf ?_ | refine .cl ?_ | refine .cw ?_ | refine .ck ?_ | fail
    exact Fin.ret1 rfl (Weak.refl _)
  cases c3 : (a.name == b.name)
  · cases ok
    · repeat' first | refine .br ?_ | refine .seq ?_ | refine .rg ?_ | refine .rd ?_ | refine .block ?_ | refine .scope ?_ | refine .skip ?_ | refine .label ?_ | refine .exit ?_ | refine .ret ?_ | refine .ct ?_ | refine .cf ?_ | refine .cy ?_ | refine .cn ?_ | (refine .cond rfl ?_ ?_ <;> intro hc) | refine A.nil_seq ?_ | refine .nl ?_ | refine .dd ?_ | refine .ys ?_ | refine .no ?_ | (refine A.guard rfl ?_ ?_ <;> intro hc) | refine .lb ?_ | refine .ln ?_ | refine .ls ?_ | refine .pv ?_ | refine .ix ?_ | refine .pt ?_ | refine .pf ?_ | refine .bx ?_ | refine .al ?_ | refine .st ?_ | refine .ad ?_ | refine .sb ?_ | refine .mf ?_ | refine .cl ?_ | refine .cw ?_ | refine .ck ?_ | fail
      exact Fin.ret1 rfl (Weak.refl _)
    · cases c4 : (x.kind == 1)
      · cases c5 : (x.kind == 2)
        · repeat' first | refine .br ?_ | refine A.call rfl h7 (WeakL.refl _) ?_ | refine .seq ?_ | refine .rg ?_ | refine .rd ?_ | refine .block ?_ | refine .scope ?_ | refine .skip ?_ | refine .label ?_ | refine .exit ?_ | refine .ret ?_ | refine .ct ?_ | refine .cf ?_ | refine .cy ?_ | refine .cn ?_ | (refine .cond rfl ?_ ?_ <;> intro hc) | refine A.nil_seq ?_ | refine .nl ?_ | refine .dd ?_ | refine .ys ?_ | refine .no ?_ | (refine A.guard rfl ?_ ?_ <;> intro hc) | refine .lb ?_ | refine .ln ?_ | refine .ls ?_ | refine .pv ?_ | refine .ix ?_ | refine .pt ?_ | refine .pf ?_ | refine .bx ?_ | refine .al ?_ | refine .st ?_ | refine .ad ?_ | refine .sb ?_ | refine .mf ?_ | refine .cl ?_ | refine .cw ?_ | refine .ck ?_ | fail
          exact Fin.ret1 rfl (Weak.refl _)
        · cases c6 : kindB s b.name [2] <;> rw [c6] at h6
          all_goals
            repeat' first | refine .br ?_ | refine A.call rfl h7 (WeakL.refl _) ?_ | refine .seq ?_ | refine .rg ?_ | refine .rd ?_ | refine .block ?_ | refine .scope ?_ | refine .skip ?_ | refine .label ?_ | refine .exit ?_ | refine .ret ?_ | refine .ct ?_ | refine .cf ?_ | refine .cy ?_ | refine .cn ?_ | (refine .cond rfl ?_ ?_ <;> intro hc) | refine A.nil_seq ?_ | refine .nl ?_ | refine .dd ?_ | refine .ys ?_ | refine .no ?_ | (refine A.guard rfl ?_ ?_ <;> intro hc) | refine .lb ?_ | refine .ln ?_ | refine .ls ?_ | refine .pv ?_ | refine .ix ?_ | refine .pt ?_ | refine .pf ?_ | refine .bx ?_ | refine .al ?_ | refine .st ?_ | refine .ad ?_ | refine .sb ?_ | refine .mf ?_ | refine .cl ?_ | refine .cw ?_ | refine .ck ?_ | fail
            exact Fin.ret1 rfl (Weak.refl _)
      · have c5 : (x.kind == 2) = false := by
          have : x.kind = 1 := by simpa using c4
          rw [this]; rfl
        rw [c5]
        cases c6 : decide (a.name ∈ possB s b.name) <;> rw [c6] at h5
        all_goals
          repeat' first | refine .br ?_ | refine A.call rfl h5 (WeakL.refl _) ?_ | refine .seq ?_ | refine .rg ?_ | refine .rd ?_ | refine .block ?_ | refine .scope ?_ | refine .skip ?_ | refine .label ?_ | refine .exit ?_ | refine .ret ?_ | refine .ct ?_ | refine .cf ?_ | refine .cy ?_ | refine .cn ?_ | (refine .cond rfl ?_ ?_ <;> intro hc) | refine A.nil_seq ?_ | refine .nl ?_ | refine .dd ?_ | refine .ys ?_ | refine .no ?_ | (refine A.guard rfl ?_ ?_ <;> intro hc) | refine .lb ?_ | refine .ln ?_ | refine .ls ?_ | refine .pv ?_ | refine .ix ?_ | refine .pt ?_ | refine .pf ?_ | refine .bx ?_ | refine .al ?_ | refine .st ?_ | refine .ad ?_ | refine .sb ?_ | refine .mf ?_ | refine .cl ?_ | refine .cw ?_ | refine .ck ?_ | fail
          exact Fin.ret1 rfl (Weak.refl _)
  · repeat' first | refine .br ?_ | refine .seq ?_ | refine .rg ?_ | refine .rd ?_ | refine .block ?_ | refine .scope ?_ | refine .skip ?_ | refine .label ?_ | refine .exit ?_ | refine .ret ?_ | refine .ct ?_ | refine .cf ?_ | refine .cy ?_ | refine .cn ?_ | (refine .cond rfl ?_ ?_ <;> intro hc) | refine A.nil_seq ?_ | refine .nl ?_ | refine .dd ?_ | refine .ys ?_ | refine .no ?_ | (refine A.guard rfl ?_ ?_ <;> intro hc) | refine .lb ?_ | refine .ln ?_ | refine .ls ?_ | refine .pv ?_ | refine .ix ?_ | refine .pt ?_ | refine .pf ?_ | refine .bx ?_ | refine .al ?_ | refine .st ?_ | refine .ad ?_ | refine .sb ?_ | refine .mf ?_ | refine .cl ?_ | refine .cw ?_ | refine .ck ?_ | fail
    exact Fin.ret1 rfl (Weak.refl _)
def typeFs2 : List Field := [{ name := "Name", type := 9, offset := 0, embedded := false, tag := "", pkgPath := "", byteOffset := 0 }, { name := "Lists", type := 3, offset := 1, embedded := false, tag := "", pkgPath := "", byteOffset := 16 }, { name := "Musts", type := 3, offset := 2, embedded := false, tag := "", pkgPath := "", byteOffset := 24 }]
theorem eq_type2 : EqT Tryz.prog 40 typeFs2 := ⟨Tryz.underlying40, by kernel_rfl, by kernel_rfl, by decide⟩
theorem typ_eq (a b : Typ) : decide (a = b) = (a.name == b.name && (a.lists == b.lists && (a.musts == b.musts && true))) := by
  obtain ⟨n1, l1, m1⟩ := a
  obtain ⟨n2, l2, m2⟩ := b
  rw [Bool.eq_iff_iff, decide_eq_true_eq]
  simp
def takes1 (f : Fld) (p : Par) : Bool := match parO f.params p.name with | none => false | some q => decide (q.t = p.t)
def takes2 (g : Fld) (q : Par) : Bool := !((parO g.params q.name).isNone && reqB q)
theorem takes_eq (f g : Fld) : takesB f g = (g.params.all (takes1 f) && f.params.all (takes2 g)) := rfl
theorem wTakes (f g : Fld) (hf : f.size ≤ 1048640) (hg : g.size ≤ 1048640) : PFn Tryz.prog 186 [f.enc, g.enc] (.bool (takesB f g)) := by
  have hfp : sumSize Par.size f.params ≤ f.size := by unfold Fld.size; omega
  have hgp : sumSize Par.size g.params ≤ g.size := by unfold Fld.size; omega
  have hfl := sumSize_length Par.size_pos f.params
  have hgl := sumSize_length Par.size_pos g.params
  refine AFn.plain rfl (by simp [AV.closed, AV.closedL, Fld.closed]) (AFn.enter [4] Tryz.func186 rfl rfl rfl rfl rfl (by decide) ?_)
  rw [takes_eq]
  repeat' first | refine .br ?_ | refine .seq ?_ | refine .rg ?_ | refine .rd ?_ | refine .block ?_ | refine .scope ?_ | refine .skip ?_ | refine .label ?_ | refine .exit ?_ | refine .ret ?_ | refine .ct ?_ | refine .cf ?_ | refine .cy ?_ | refine .cn ?_ | (refine .cond rfl ?_ ?_ <;> intro hc) | refine A.nil_seq ?_ | refine .nl ?_ | refine .dd ?_ | refine .ys ?_ | refine .no ?_ | (refine A.guard rfl ?_ ?_ <;> intro hc) | refine .lb ?_ | refine .ln ?_ | refine .ls ?_ | refine .pv ?_ | refine .ix ?_ | refine .pt ?_ | refine .pf ?_ | refine .bx ?_ | refine .al ?_ | refine .st ?_ | refine .ad ?_ | refine .sb ?_ | refine .mf ?_ | refine .cl ?_ | refine .cw ?_ | refine .ck ?_ | fail
  refine HCode.forK g.params.length (fun k => [(16, .int .i64 k), (15, .int .i64 g.params.length), (14, .slice (g.params.map Par.enc) .no), (2, .rptr f.enc), (3, .rptr g.enc)]) (fun _ => ⟨[], []⟩) (fun k => (g.params.take k).all (takes1 f) = true)
    ⟨rfl, rfl, rfl, rfl, rfl, trivial⟩ rfl (by simp) fun k hk hj => ?_
  by_cases h1 : k < g.params.length
  · have d1 : decide ((k : Int) < (g.params.length : Int)) = true := by simp [h1]
    have x1 := map_get' (f := Par.enc) h1
    have hpar := lParam f.params g.params[k].name (by omega)
    have hnx := all_next (p := takes1 f) h1 hj
    have hsp := all_stop (p := takes1 f) h1
    unfold takes1 at hnx hsp
    unfold parR at hpar
    cases ho : parO f.params g.params[k].name with
    | none =>
      rw [ho] at hpar hnx hsp
      have ha : g.params.all (takes1 f) = false := hsp rfl
      rw [ha]
      repeat' first | refine .seq ?_ | refine .rg ?_ | refine .rd ?_ | refine .block ?_ | refine .scope ?_ | refine .skip ?_ | refine .label ?_ | refine .exit ?_ | refine .ret ?_ | refine .ct ?_ | refine .cf ?_ | refine .cy ?_ | refine .cn ?_ | (refine .cond rfl ?_ ?_ <;> intro hc) | refine A.nil_seq ?_ | refine .nl ?_ | refine .dd ?_ | refine .ys ?_ | refine .no ?_ | (refine A.guard rfl ?_ ?_ <;> intro hc) | refine .lb ?_ | refine .ln ?_ | refine .ls ?_ | refine .pv ?_ | refine .ix ?_ | refine .pt ?_ | refine .pf ?_ | refine .bx ?_ | refine .al ?_ | refine .st ?_ | refine .ad ?_ | refine .sb ?_ | refine .mf ?_ | refine .cl ?_ | refine .cw ?_ | refine .ck ?_ | fail
      exact Fin.ret1 rfl (Weak.refl _)
    | some q =>
      rw [ho] at hpar hnx hsp
      simp only at hpar hnx hsp
      rw [typ_eq] at hnx hsp
      have hq : eqFs Tryz.prog typeFs2 0 [.str q.t.name, .int .i64 q.t.lists, .int .i64 q.t.musts] [.str g.params[k].t.name, .int .i64 g.params[k].t.lists, .int .i64 g.params[k].t.musts] = some (q.t.name == g.params[k].t.name && (q.t.lists == g.params[k].t.lists && (q.t.musts == g.params[k].t.musts && true))) := rfl
      generalize (q.t.name == g.params[k].t.name && (q.t.lists == g.params[k].t.lists && (q.t.musts == g.params[k].t.musts && true))) = b at hq hnx hsp
      cases b with
      | true =>
        have hj' := hnx rfl
        repeat' first | refine .seq ?_ | refine .rg ?_ | refine .rd ?_ | refine .block ?_ | refine .scope ?_ | refine .skip ?_ | refine .label ?_ | refine .exit ?_ | refine .ret ?_ | refine .ct ?_ | refine .cf ?_ | refine .cy ?_ | refine .cn ?_ | (refine .cond rfl ?_ ?_ <;> intro hc) | refine A.nil_seq ?_ | refine .nl ?_ | refine .dd ?_ | refine .ys ?_ | refine .no ?_ | (refine A.guard rfl ?_ ?_ <;> intro hc) | refine .lb ?_ | refine .ln ?_ | refine .ls ?_ | refine .pv ?_ | refine .ix ?_ | refine .pt ?_ | refine .pf ?_ | refine .bx ?_ | refine .al ?_ | refine .st ?_ | refine .ad ?_ | refine .sb ?_ | refine .mf ?_ | refine .cl ?_ | refine .cw ?_ | refine .ck ?_ | refine A.neT eq_type2 rfl rfl hq ?_ | fail
        exact ⟨h1, ⟨rfl, rfl, rfl, rfl, rfl, trivial⟩, by simp [belowS, AV.low], rfl, rfl, hj'⟩
      | false =>
        have ha : g.params.all (takes1 f) = false := hsp rfl
        rw [ha]
        repeat' first | refine .seq ?_ | refine .rg ?_ | refine .rd ?_ | refine .block ?_ | refine .scope ?_ | refine .skip ?_ | refine .label ?_ | refine .exit ?_ | refine .ret ?_ | refine .ct ?_ | refine .cf ?_ | refine .cy ?_ | refine .cn ?_ | (refine .cond rfl ?_ ?_ <;> intro hc) | refine A.nil_seq ?_ | refine .nl ?_ | refine .dd ?_ | refine .ys ?_ | refine .no ?_ | (refine A.guard rfl ?_ ?_ <;> intro hc) | refine .lb ?_ | refine .ln ?_ | refine .ls ?_ | refine .pv ?_ | refine .ix ?_ | refine .pt ?_ | refine .pf ?_ | refine .bx ?_ | refine .al ?_ | refine .st ?_ | refine .ad ?_ | refine .sb ?_ | refine .mf ?_ | refine .cl ?_ | refine .cw ?_ | refine .ck ?_ | refine A.neT eq_type2 rfl rfl hq ?_ | fail
        exact Fin.ret1 rfl (Weak.refl _)
  · have d1 : decide ((k : Int) < (g.params.length : Int)) = false := by simp; omega
    obtain rfl : k = g.params.length := by omega
    rw [List.take_length] at hj
    rw [hj, Bool.true_and]
    repeat' first | refine .seq ?_ | refine .rg ?_ | refine .rd ?_ | refine .block ?_ | refine .scope ?_ | refine .skip ?_ | refine .label ?_ | refine .exit ?_ | refine .ret ?_ | refine .ct ?_ | refine .cf ?_ | refine .cy ?_ | refine .cn ?_ | (refine .cond rfl ?_ ?_ <;> intro hc) | refine A.nil_seq ?_ | refine .nl ?_ | refine .dd ?_ | refine .ys ?_ | refine .no ?_ | (refine A.guard rfl ?_ ?_ <;> intro hc) | refine .lb ?_ | refine .ln ?_ | refine .ls ?_ | refine .pv ?_ | refine .ix ?_ | refine .pt ?_ | refine .pf ?_ | refine .bx ?_ | refine .al ?_ | refine .st ?_ | refine .ad ?_ | refine .sb ?_ | refine .mf ?_ | refine .cl ?_ | refine .cw ?_ | refine .ck ?_ | fail
    refine HCode.forK f.params.length (fun k => [(41, .int .i64 k), (40, .int .i64 f.params.length), (39, .slice (f.params.map Par.enc) .no), (3, .rptr g.enc)]) (fun _ => ⟨[], []⟩) (fun k => (f.params.take k).all (takes2 g) = true)
      ⟨rfl, rfl, rfl, rfl, trivial⟩ rfl (by simp) fun k hk hj2 => ?_
    by_cases h2 : k < f.params.length
    · have d2 : decide ((k : Int) < (f.params.length : Int)) = true := by simp [h2]
      have x2 := map_get' (f := Par.enc) h2
      have hpar := lParam g.params f.params[k].name (by omega)
      have hrq := lRequired f.params[k] (by have := sumSize_mem (size := Par.size) (List.getElem_mem h2); omega)
      have hnx := all_next (p := takes2 g) h2 hj2
      have hsp := all_stop (p := takes2 g) h2
      unfold takes2 at hnx hsp
      unfold parR at hpar
      cases ho : parO g.params f.params[k].name with
      | none =>
        rw [ho] at hpar hnx hsp
        cases cr : reqB f.params[k] <;> rw [cr] at hrq hnx hsp
        · have hj' := hnx rfl
          repeat' first | refine .seq ?_ | refine .rg ?_ | refine .rd ?_ | refine .block ?_ | refine .scope ?_ | refine .skip ?_ | refine .label ?_ | refine .exit ?_ | refine .ret ?_ | refine .ct ?_ | refine .cf ?_ | refine .cy ?_ | refine .cn ?_ | (refine .cond rfl ?_ ?_ <;> intro hc) | refine A.nil_seq ?_ | refine .nl ?_ | refine .dd ?_ | refine .ys ?_ | refine .no ?_ | (refine A.guard rfl ?_ ?_ <;> intro hc) | refine .lb ?_ | refine .ln ?_ | refine .ls ?_ | refine .pv ?_ | refine .ix ?_ | refine .pt ?_ | refine .pf ?_ | refine .bx ?_ | refine .al ?_ | refine .st ?_ | refine .ad ?_ | refine .sb ?_ | refine .mf ?_ | refine .cl ?_ | refine .cw ?_ | refine .ck ?_ | fail
          exact ⟨h2, ⟨rfl, rfl, rfl, rfl, trivial⟩, by simp [belowS, AV.low], rfl, rfl, hj'⟩
        · have ha : f.params.all (takes2 g) = false := hsp rfl
          rw [ha]
          repeat' first | refine .seq ?_ | refine .rg ?_ | refine .rd ?_ | refine .block ?_ | refine .scope ?_ | refine .skip ?_ | refine .label ?_ | refine .exit ?_ | refine .ret ?_ | refine .ct ?_ | refine .cf ?_ | refine .cy ?_ | refine .cn ?_ | (refine .cond rfl ?_ ?_ <;> intro hc) | refine A.nil_seq ?_ | refine .nl ?_ | refine .dd ?_ | refine .ys ?_ | refine .no ?_ | (refine A.guard rfl ?_ ?_ <;> intro hc) | refine .lb ?_ | refine .ln ?_ | refine .ls ?_ | refine .pv ?_ | refine .ix ?_ | refine .pt ?_ | refine .pf ?_ | refine .bx ?_ | refine .al ?_ | refine .st ?_ | refine .ad ?_ | refine .sb ?_ | refine .mf ?_ | refine .cl ?_ | refine .cw ?_ | refine .ck ?_ | fail
          exact Fin.ret1 rfl (Weak.refl _)
      | some q =>
        rw [ho] at hpar hnx
        have hj' := hnx rfl
        repeat' first | refine .seq ?_ | refine .rg ?_ | refine .rd ?_ | refine .block ?_ | refine .scope ?_ | refine .skip ?_ | refine .label ?_ | refine .exit ?_ | refine .ret ?_ | refine .ct ?_ | refine .cf ?_ | refine .cy ?_ | refine .cn ?_ | (refine .cond rfl ?_ ?_ <;> intro hc) | refine A.nil_seq ?_ | refine .nl ?_ | refine .dd ?_ | refine .ys ?_ | refine .no ?_ | (refine A.guard rfl ?_ ?_ <;> intro hc) | refine .lb ?_ | refine .ln ?_ | refine .ls ?_ | refine .pv ?_ | refine .ix ?_ | refine .pt ?_ | refine .pf ?_ | refine .bx ?_ | refine .al ?_ | refine .st ?_ | refine .ad ?_ | refine .sb ?_ | refine .mf ?_ | refine .cl ?_ | refine .cw ?_ | refine .ck ?_ | fail
        exact ⟨h2, ⟨rfl, rfl, rfl, rfl, trivial⟩, by simp [belowS, AV.low], rfl, rfl, hj'⟩
    · have d2 : decide ((k : Int) < (f.params.length : Int)) = false := by simp; omega
      obtain rfl : k = f.params.length := by omega
      rw [List.take_length] at hj2
      rw [hj2]
      repeat' first | refine .seq ?_ | refine .rg ?_ | refine .rd ?_ | refine .block ?_ | refine .scope ?_ | refine .skip ?_ | refine .label ?_ | refine .exit ?_ | refine .ret ?_ | refine .ct ?_ | refine .cf ?_ | refine .cy ?_ | refine .cn ?_ | (refine .cond rfl ?_ ?_ <;> intro hc) | refine A.nil_seq ?_ | refine .nl ?_ | refine .dd ?_ | refine .ys ?_ | refine .no ?_ | (refine A.guard rfl ?_ ?_ <;> intro hc) | refine .lb ?_ | refine .ln ?_ | refine .ls ?_ | refine .pv ?_ | refine .ix ?_ | refine .pt ?_ | refine .pf ?_ | refine .bx ?_ | refine .al ?_ | refine .st ?_ | refine .ad ?_ | refine .sb ?_ | refine .mf ?_ | refine .cl ?_ | refine .cw ?_ | refine .ck ?_ | fail
      exact Fin.ret1 rfl (Weak.refl _)
theorem wHas1 (f g : Fld) : PFn Tryz.prog 185 [f.enc, .rptr g.enc] (.bool (f.name == g.name)) := by
  refine AFn.plain rfl (by simp [AV.closed, AV.closedL, Fld.closed]) (AFn.enter [3] Tryz.func185 rfl rfl rfl rfl rfl (by decide) ?_)
  repeat' first | refine .br ?_ | refine .seq ?_ | refine .rg ?_ | refine .rd ?_ | refine .block ?_ | refine .scope ?_ | refine .skip ?_ | refine .label ?_ | refine .exit ?_ | refine .ret ?_ | refine .ct ?_ | refine .cf ?_ | refine .cy ?_ | refine .cn ?_ | (refine .cond rfl ?_ ?_ <;> intro hc) | refine A.nil_seq ?_ | refine .nl ?_ | refine .dd ?_ | refine .ys ?_ | refine .no ?_ | (refine A.guard rfl ?_ ?_ <;> intro hc) | refine .lb ?_ | refine .ln ?_ | refine .ls ?_ | refine .pv ?_ | refine .ix ?_ | refine .pt ?_ | refine .pf ?_ | refine .bx ?_ | refine .al ?_ | refine .st ?_ | refine .ad ?_ | refine .sb ?_ | refine .mf ?_ | refine .cl ?_ | refine .cw ?_ | refine .ck ?_ | fail
  exact Fin.ret1 rfl (Weak.refl _)
def has1 (s : Sch) (d : Dfn) (g : Fld) : Bool := match fldO d.fields g.name with | none => false | some f => subB s f.t g.t && takesB f g
theorem findR_fields {s : Sch} {name : Str} {g : Fld} (hg : g ∈ (findR s name).1.fields) : g.size ≤ s.size := by
  rcases findR_in s name with h1 | h1 | h1
  · have h2 := Sch.dfn h1
    have h3 := sumSize_mem (size := Fld.size) hg
    have h4 := (findR s name).1.sums
    omega
  · rw [h1] at hg; simp at hg
  · rw [h1] at hg; simp [zeroD] at hg
theorem wHas (s : Sch) (d : Dfn) (face : Str) (hs : s.size ≤ 1048640) (hd : d.size ≤ 1048640) : PFn Tryz.prog 136 [s.enc, d.enc, .str face] (.bool (hasB s d face)) := by
  have hf := dFind s face (by omega)
  have hz := findR_size (name := face) (show s.size ≤ 68719476736 by omega)
  have hdl := d.lens
  have hds := d.sums
  refine AFn.plain rfl (by simp [AV.closed, AV.closedL, Sch.closed, Dfn.closed]) (AFn.enter [6] Tryz.func136 rfl rfl rfl rfl rfl (by decide) ?_)
  have e : hasB s d face = (findR s face).1.fields.all (has1 s d) := rfl
  rw [e]
  have hgs : ∀ g ∈ (findR s face).1.fields, g.size ≤ s.size := fun g hg => findR_fields hg
  generalize findR s face = r at hf hz hgs
  obtain ⟨x, ok⟩ := r
  simp only at hf hz hgs ⊢
  repeat' first | refine .br ?_ | refine .seq ?_ | refine .rg ?_ | refine .rd ?_ | refine .block ?_ | refine .scope ?_ | refine .skip ?_ | refine .label ?_ | refine .exit ?_ | refine .ret ?_ | refine .ct ?_ | refine .cf ?_ | refine .cy ?_ | refine .cn ?_ | (refine .cond rfl ?_ ?_ <;> intro hc) | refine A.nil_seq ?_ | refine .nl ?_ | refine .dd ?_ | refine .ys ?_ | refine .no ?_ | (refine A.guard rfl ?_ ?_ <;> intro hc) | refine .lb ?_ | refine .ln ?_ | refine .ls ?_ | refine .pv ?_ | refine .ix ?_ | refine .pt ?_ | refine .pf ?_ | refine .bx ?_ | refine .al ?_ | refine .st ?_ | refine .ad ?_ | refine .sb ?_ | refine .mf ?_ | refine .cl ?_ | refine .cw ?_ | refine .ck ?_ | fail
  refine HCode.forK x.fields.length (fun k => [(21, .int .i64 k), (20, .int .i64 x.fields.length), (19, .slice (x.fields.map Fld.enc) .no), (3, .rptr s.enc), (4, .rptr d.enc)]) (fun _ => ⟨[.cells [.int .i64 x.kind, .str x.name, .slice (x.faces.map AV.str) .no, .slice (x.fields.map Fld.enc) .no, .slice (x.parts.map AV.str) .no, .slice (x.params.map Par.enc) .no]], []⟩) (fun k => (x.fields.take k).all (has1 s d) = true)
    ⟨rfl, rfl, rfl, rfl, rfl, trivial⟩ rfl (by simp) fun k hk hj => ?_
  by_cases h1 : k < x.fields.length
  · have d1 : decide ((k : Int) < (x.fields.length : Int)) = true := by simp [h1]
    have x1 := map_get' (f := Fld.enc) h1
    have hgz := hgs _ (List.getElem_mem h1)
    have hgl : x.fields[k].t.name.length ≤ x.fields[k].size := by unfold Fld.size Typ.size; omega
    have hix := sIndexFFld d.fields 185 [.rptr x.fields[k].enc] (fun f => f.name == x.fields[k].name) (by omega) (by simp [AV.closed, AV.closedL, Fld.closed]) (fun f _ => wHas1 f _)
    have hnx := all_next (p := has1 s d) h1 hj
    have hsp := all_stop (p := has1 s d) h1
    unfold has1 fldO at hnx hsp
    rcases idxFrom_spec (fun f : Fld => f.name == x.fields[k].name) d.fields 0 with ⟨e1, e2⟩ | ⟨j, hj1, e1, e2⟩
    · rw [e1] at hix
      rw [e2] at hnx hsp
      have ha : x.fields.all (has1 s d) = false := hsp rfl
      rw [ha]
      repeat' first | refine A.allocv (d := 10) rfl rfl rfl rfl rfl ?_ | refine HCode.turn 10 rfl (Turn.freezeP rfl rfl rfl rfl) ?_ | refine .seq ?_ | refine .rg ?_ | refine .rd ?_ | refine .block ?_ | refine .scope ?_ | refine .skip ?_ | refine .label ?_ | refine .exit ?_ | refine .ret ?_ | refine .ct ?_ | refine .cf ?_ | refine .cy ?_ | refine .cn ?_ | (refine .cond rfl ?_ ?_ <;> intro hc) | refine A.nil_seq ?_ | refine .nl ?_ | refine .dd ?_ | refine .ys ?_ | refine .no ?_ | (refine A.guard rfl ?_ ?_ <;> intro hc) | refine .lb ?_ | refine .ln ?_ | refine .ls ?_ | refine .pv ?_ | refine .ix ?_ | refine .pt ?_ | refine .pf ?_ | refine .bx ?_ | refine .al ?_ | refine .st ?_ | refine .ad ?_ | refine .sb ?_ | refine .mf ?_ | refine .cl ?_ | refine .cw ?_ | refine .ck ?_ | refine A.vstore (agg := true) rfl rfl rfl rfl rfl rfl rfl rfl rfl rfl rfl ?_ | fail
      exact Fin.ret1 rfl (Weak.refl _)
    · rw [e1] at hix
      rw [e2] at hnx hsp
      simp only at hnx hsp
      have dn : decide (((0 + j : Nat) : Int) < 0) = false := decide_eq_false (by omega)
      have x2 : (d.fields.map Fld.enc)[0 + j]? = some d.fields[j].enc := by rw [Nat.zero_add]; exact map_get' (f := Fld.enc) hj1
      have hfz := sumSize_mem (size := Fld.size) (List.getElem_mem hj1)
      have hfl : d.fields[j].t.name.length ≤ d.fields[j].size := by unfold Fld.size Typ.size; omega
      have hsub := dSub s d.fields[j].t x.fields[k].t hs (by omega) (by omega)
      have htk := wTakes d.fields[j] x.fields[k] (by omega) (by omega)
      cases c1 : subB s d.fields[j].t x.fields[k].t <;> rw [c1] at hsub hnx hsp
      · have ha : x.fields.all (has1 s d) = false := hsp rfl
        rw [ha]
        repeat' first | refine A.allocv (d := 10) rfl rfl rfl rfl rfl ?_ | refine HCode.turn 10 rfl (Turn.freezeP rfl rfl rfl rfl) ?_ | refine .seq ?_ | refine .rg ?_ | refine .rd ?_ | refine .block ?_ | refine .scope ?_ | refine .skip ?_ | refine .label ?_ | refine .exit ?_ | refine .ret ?_ | refine .ct ?_ | refine .cf ?_ | refine .cy ?_ | refine .cn ?_ | (refine .cond rfl ?_ ?_ <;> intro hc) | refine A.nil_seq ?_ | refine .nl ?_ | refine .dd ?_ | refine .ys ?_ | refine .no ?_ | (refine A.guard rfl ?_ ?_ <;> intro hc) | refine .lb ?_ | refine .ln ?_ | refine .ls ?_ | refine .pv ?_ | refine .ix ?_ | refine .pt ?_ | refine .pf ?_ | refine .bx ?_ | refine .al ?_ | refine .st ?_ | refine .ad ?_ | refine .sb ?_ | refine .mf ?_ | refine .cl ?_ | refine .cw ?_ | refine .ck ?_ | refine A.vstore (agg := true) rfl rfl rfl rfl rfl rfl rfl rfl rfl rfl rfl ?_ | fail
        exact Fin.ret1 rfl (Weak.refl _)
      · cases c2 : takesB d.fields[j] x.fields[k] <;> rw [c2] at htk hnx hsp
        · have ha : x.fields.all (has1 s d) = false := hsp rfl
          rw [ha]
          repeat' first | refine A.allocv (d := 10) rfl rfl rfl rfl rfl ?_ | refine HCode.turn 10 rfl (Turn.freezeP rfl rfl rfl rfl) ?_ | refine .seq ?_ | refine .rg ?_ | refine .rd ?_ | refine .block ?_ | refine .scope ?_ | refine .skip ?_ | refine .label ?_ | refine .exit ?_ | refine .ret ?_ | refine .ct ?_ | refine .cf ?_ | refine .cy ?_ | refine .cn ?_ | (refine .cond rfl ?_ ?_ <;> intro hc) | refine A.nil_seq ?_ | refine .nl ?_ | refine .dd ?_ | refine .ys ?_ | refine .no ?_ | (refine A.guard rfl ?_ ?_ <;> intro hc) | refine .lb ?_ | refine .ln ?_ | refine .ls ?_ | refine .pv ?_ | refine .ix ?_ | refine .pt ?_ | refine .pf ?_ | refine .bx ?_ | refine .al ?_ | refine .st ?_ | refine .ad ?_ | refine .sb ?_ | refine .mf ?_ | refine .cl ?_ | refine .cw ?_ | refine .ck ?_ | refine A.vstore (agg := true) rfl rfl rfl rfl rfl rfl rfl rfl rfl rfl rfl ?_ | fail
          exact Fin.ret1 rfl (Weak.refl _)
        · have hj' := hnx rfl
          repeat' first | refine A.allocv (d := 10) rfl rfl rfl rfl rfl ?_ | refine HCode.turn 10 rfl (Turn.freezeP rfl rfl rfl rfl) ?_ | refine .seq ?_ | refine .rg ?_ | refine .rd ?_ | refine .block ?_ | refine .scope ?_ | refine .skip ?_ | refine .label ?_ | refine .exit ?_ | refine .ret ?_ | refine .ct ?_ | refine .cf ?_ | refine .cy ?_ | refine .cn ?_ | (refine .cond rfl ?_ ?_ <;> intro hc) | refine A.nil_seq ?_ | refine .nl ?_ | refine .dd ?_ | refine .ys ?_ | refine .no ?_ | (refine A.guard rfl ?_ ?_ <;> intro hc) | refine .lb ?_ | refine .ln ?_ | refine .ls ?_ | refine .pv ?_ | refine .ix ?_ | refine .pt ?_ | refine .pf ?_ | refine .bx ?_ | refine .al ?_ | refine .st ?_ | refine .ad ?_ | refine .sb ?_ | refine .mf ?_ | refine .cl ?_ | refine .cw ?_ | refine .ck ?_ | refine A.vstore (agg := true) rfl rfl rfl rfl rfl rfl rfl rfl rfl rfl rfl ?_ | fail
          exact ⟨h1, ⟨rfl, rfl, rfl, rfl, rfl, trivial⟩, by simp [belowS, AV.low], by simp [belowB, belowT, Ob.low, Tok.low, AV.lowL, AV.low], rfl, hj'⟩
  · have d1 : decide ((k : Int) < (x.fields.length : Int)) = false := by simp; omega
    obtain rfl : k = x.fields.length := by omega
    rw [List.take_length] at hj
    rw [hj]
    repeat' first | refine .seq ?_ | refine .rg ?_ | refine .rd ?_ | refine .block ?_ | refine .scope ?_ | refine .skip ?_ | refine .label ?_ | refine .exit ?_ | refine .ret ?_ | refine .ct ?_ | refine .cf ?_ | refine .cy ?_ | refine .cn ?_ | (refine .cond rfl ?_ ?_ <;> intro hc) | refine A.nil_seq ?_ | refine .nl ?_ | refine .dd ?_ | refine .ys ?_ | refine .no ?_ | (refine A.guard rfl ?_ ?_ <;> intro hc) | refine .lb ?_ | refine .ln ?_ | refine .ls ?_ | refine .pv ?_ | refine .ix ?_ | refine .pt ?_ | refine .pf ?_ | refine .bx ?_ | refine .al ?_ | refine .st ?_ | refine .ad ?_ | refine .sb ?_ | refine .mf ?_ | refine .cl ?_ | refine .cw ?_ | refine .ck ?_ | fail
    exact Fin.ret1 rfl (Weak.refl _)
theorem wKept2 (s : Sch) (d : Dfn) (n : Str) (hs : s.size ≤ 1048640) (hd : d.size ≤ 1048640) : PFn Tryz.prog 135 [.str n, .rptr s.enc, .rptr d.enc] (.bool (!hasB s d n)) := by
  have h := wHas s d n hs hd
  refine AFn.plain rfl (by simp [AV.closed, AV.closedL, Dfn.closed, Sch.closed]) (AFn.enter [4] Tryz.func135 rfl rfl rfl rfl rfl (by decide) ?_)
  repeat' first | refine .br ?_ | refine .seq ?_ | refine .rg ?_ | refine .rd ?_ | refine .block ?_ | refine .scope ?_ | refine .skip ?_ | refine .label ?_ | refine .exit ?_ | refine .ret ?_ | refine .ct ?_ | refine .cf ?_ | refine .cy ?_ | refine .cn ?_ | (refine .cond rfl ?_ ?_ <;> intro hc) | refine A.nil_seq ?_ | refine .nl ?_ | refine .dd ?_ | refine .ys ?_ | refine .no ?_ | (refine A.guard rfl ?_ ?_ <;> intro hc) | refine .lb ?_ | refine .ln ?_ | refine .ls ?_ | refine .pv ?_ | refine .ix ?_ | refine .pt ?_ | refine .pf ?_ | refine .bx ?_ | refine .al ?_ | refine .st ?_ | refine .ad ?_ | refine .sb ?_ | refine .mf ?_ | refine .cl ?_ | refine .cw ?_ | refine .ck ?_ | fail
  exact Fin.ret1 rfl (Weak.refl _)
theorem wKept1 (s : Sch) (d : Dfn) (hs : s.size ≤ 1048640) (hd : d ∈ s.defs) : PFn Tryz.prog 134 [d.enc, .rptr s.enc] (.bool (kept1 s d)) := by
  have hds := Sch.dfn hd
  have hl := d.lens
  have h := sContainsFStr d.faces 135 [.rptr s.enc, .rptr d.enc] (fun n => !hasB s d n) (by omega) (by simp [AV.closed, AV.closedL, Dfn.closed, Sch.closed]) (fun n _ => wKept2 s d n hs (by omega))
  refine AFn.plain rfl (by simp [AV.closed, AV.closedL, Dfn.closed, Sch.closed]) (AFn.enter [3] Tryz.func134 rfl rfl rfl rfl rfl (by decide) ?_)
  unfold kept1
  repeat' first | refine .br ?_ | refine .seq ?_ | refine .rg ?_ | refine .rd ?_ | refine .block ?_ | refine .scope ?_ | refine .skip ?_ | refine .label ?_ | refine .exit ?_ | refine .ret ?_ | refine .ct ?_ | refine .cf ?_ | refine .cy ?_ | refine .cn ?_ | (refine .cond rfl ?_ ?_ <;> intro hc) | refine A.nil_seq ?_ | refine .nl ?_ | refine .dd ?_ | refine .ys ?_ | refine .no ?_ | (refine A.guard rfl ?_ ?_ <;> intro hc) | refine .lb ?_ | refine .ln ?_ | refine .ls ?_ | refine .pv ?_ | refine .ix ?_ | refine .pt ?_ | refine .pf ?_ | refine .bx ?_ | refine .al ?_ | refine .st ?_ | refine .ad ?_ | refine .sb ?_ | refine .mf ?_ | refine .cl ?_ | refine .cw ?_ | refine .ck ?_ | fail
  exact Fin.ret1 rfl (Weak.refl _)
theorem wParts2 (s : Sch) (n : Str) (hs : s.size ≤ 1048640) : PFn Tryz.prog 138 [.str n, .rptr s.enc] (.bool (!kindB s n [1])) := by
  have h := dKind s n [1] (by omega) (by decide)
  refine AFn.plain rfl (by simp [AV.closed, AV.closedL, Sch.closed]) (AFn.enter [3] Tryz.func138 rfl rfl rfl rfl rfl (by decide) ?_)
  repeat' first | refine .br ?_ | refine .seq ?_ | refine .rg ?_ | refine .rd ?_ | refine .block ?_ | refine .scope ?_ | refine .skip ?_ | refine .label ?_ | refine .exit ?_ | refine .ret ?_ | refine .ct ?_ | refine .cf ?_ | refine .cy ?_ | refine .cn ?_ | (refine .cond rfl ?_ ?_ <;> intro hc) | refine A.nil_seq ?_ | refine .nl ?_ | refine .dd ?_ | refine .ys ?_ | refine .no ?_ | (refine A.guard rfl ?_ ?_ <;> intro hc) | refine .lb ?_ | refine .ln ?_ | refine .ls ?_ | refine .pv ?_ | refine .ix ?_ | refine .pt ?_ | refine .pf ?_ | refine .bx ?_ | refine .al ?_ | refine .st ?_ | refine .ad ?_ | refine .sb ?_ | refine .mf ?_ | refine .cl ?_ | refine .cw ?_ | refine .ck ?_ | fail
  exact Fin.ret1 rfl (Weak.refl _)
theorem wParts1 (s : Sch) (d : Dfn) (hs : s.size ≤ 1048640) (hd : d ∈ s.defs) : PFn Tryz.prog 137 [d.enc, .rptr s.enc] (.bool (parts1 s d)) := by
  have hds := Sch.dfn hd
  have hl := d.lens
  have h := sContainsFStr d.parts 138 [.rptr s.enc] (fun n => !kindB s n [1]) (by omega) (by simp [AV.closed, AV.closedL, Sch.closed]) (fun n _ => wParts2 s n hs)
  refine AFn.plain rfl (by simp [AV.closed, AV.closedL, Dfn.closed, Sch.closed]) (AFn.enter [3] Tryz.func137 rfl rfl rfl rfl rfl (by decide) ?_)
  unfold parts1
  cases c : (d.kind != 3)
  all_goals
    repeat' first | refine .br ?_ | refine .seq ?_ | refine .rg ?_ | refine .rd ?_ | refine .block ?_ | refine .scope ?_ | refine .skip ?_ | refine .label ?_ | refine .exit ?_ | refine .ret ?_ | refine .ct ?_ | refine .cf ?_ | refine .cy ?_ | refine .cn ?_ | (refine .cond rfl ?_ ?_ <;> intro hc) | refine A.nil_seq ?_ | refine .nl ?_ | refine .dd ?_ | refine .ys ?_ | refine .no ?_ | (refine A.guard rfl ?_ ?_ <;> intro hc) | refine .lb ?_ | refine .ln ?_ | refine .ls ?_ | refine .pv ?_ | refine .ix ?_ | refine .pt ?_ | refine .pf ?_ | refine .bx ?_ | refine .al ?_ | refine .st ?_ | refine .ad ?_ | refine .sb ?_ | refine .mf ?_ | refine .cl ?_ | refine .cw ?_ | refine .ck ?_ | fail
    exact Fin.ret1 rfl (Weak.refl _)
theorem wR_kept (s : Sch) (hs : s.size ≤ 1048640) : PFn Tryz.prog 79 [s.enc] (.bool (keptB s)) := by
  have h := wEvery s 134 [.rptr s.enc] (kept1 s) (by omega) (by simp [AV.closed, AV.closedL, Sch.closed]) (fun d hd => wKept1 s d hs hd)
  refine AFn.plain rfl (by simp [AV.closedL, Sch.closed]) (AFn.enter [2] Tryz.func79 rfl rfl rfl rfl rfl (by decide) ?_)
  unfold keptB
  repeat' first | refine .br ?_ | refine .seq ?_ | refine .rg ?_ | refine .rd ?_ | refine .block ?_ | refine .scope ?_ | refine .skip ?_ | refine .label ?_ | refine .exit ?_ | refine .ret ?_ | refine .ct ?_ | refine .cf ?_ | refine .cy ?_ | refine .cn ?_ | (refine .cond rfl ?_ ?_ <;> intro hc) | refine A.nil_seq ?_ | refine .nl ?_ | refine .dd ?_ | refine .ys ?_ | refine .no ?_ | (refine A.guard rfl ?_ ?_ <;> intro hc) | refine .lb ?_ | refine .ln ?_ | refine .ls ?_ | refine .pv ?_ | refine .ix ?_ | refine .pt ?_ | refine .pf ?_ | refine .bx ?_ | refine .al ?_ | refine .st ?_ | refine .ad ?_ | refine .sb ?_ | refine .mf ?_ | refine .cl ?_ | refine .cw ?_ | refine .ck ?_ | fail
  exact Fin.ret1 rfl (Weak.refl _)
theorem wR_parts (s : Sch) (hs : s.size ≤ 1048640) : PFn Tryz.prog 80 [s.enc] (.bool (partsB s)) := by
  have h := wEvery s 137 [.rptr s.enc] (parts1 s) (by omega) (by simp [AV.closed, AV.closedL, Sch.closed]) (fun d hd => wParts1 s d hs hd)
  refine AFn.plain rfl (by simp [AV.closedL, Sch.closed]) (AFn.enter [2] Tryz.func80 rfl rfl rfl rfl rfl (by decide) ?_)
  unfold partsB
  repeat' first | refine .br ?_ | refine .seq ?_ | refine .rg ?_ | refine .rd ?_ | refine .block ?_ | refine .scope ?_ | refine .skip ?_ | refine .label ?_ | refine .exit ?_ | refine .ret ?_ | refine .ct ?_ | refine .cf ?_ | refine .cy ?_ | refine .cn ?_ | (refine .cond rfl ?_ ?_ <;> intro hc) | refine A.nil_seq ?_ | refine .nl ?_ | refine .dd ?_ | refine .ys ?_ | refine .no ?_ | (refine A.guard rfl ?_ ?_ <;> intro hc) | refine .lb ?_ | refine .ln ?_ | refine .ls ?_ | refine .pv ?_ | refine .ix ?_ | refine .pt ?_ | refine .pf ?_ | refine .bx ?_ | refine .al ?_ | refine .st ?_ | refine .ad ?_ | refine .sb ?_ | refine .mf ?_ | refine .cl ?_ | refine .cw ?_ | refine .ck ?_ | fail
  exact Fin.ret1 rfl (Weak.refl _)
end Go.Proofs.YtegakkonlhmeaaaGreatDoor
