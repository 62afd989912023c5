/-
  Contracts and plain facts for a law, joined.
-/
import Derived.Test.YtgghkkeejagfkaaGreatDoorGSBC1
import Derived.Test.YtgghkkeejagfkaaGreatDoorGSBC7
import Derived.Test.YtgghkkeejagfkaaGreatDoorGSBC5
set_option maxRecDepth 100000
set_option maxHeartbeats 16000000
set_option linter.unusedVariables false
set_option linter.unusedSimpArgs false
set_option linter.unusedSectionVars false
namespace Go.Proofs.YtgghkkeejagfkaaGreatDoor
open Go Go.Av
attribute [local irreducible] HCode AOps PFn AFn Av.Step TStep
theorem needFold_len (s : Sch) (l : List Par) : (l.foldl (needAdd s) []).length ≤ l.length := by
  have aux : ∀ (l : List Par) (a : List Str), (l.foldl (needAdd s) a).length ≤ a.length + l.length := fun l => by
    induction l with
    | nil => intro a; simp
    | cons x l ih =>
      intro a
      rw [List.foldl_cons, List.length_cons]
      have h1 := ih (needAdd s a x)
      have h2 : (needAdd s a x).length ≤ a.length + 1 := by
        unfold needAdd
        split
        · exact addNew_len _ _
        · omega
      omega
  simpa using aux l []
theorem wNeedsN (s : Sch) (name : Str) (hs : s.size ≤ 1048640) : AFn Tryz.prog 186 [s.enc, .str name] ⟨[], []⟩ (fun e σ1 => e = .ret (.slice ((needsP s name).map AV.str) (.own 0 1)) ∧ σ1 = ⟨[], [.len (needsP s name).length]⟩) := by
  have hf := dFind s name (by omega)
  have hz := findR_size (name := name) (show s.size ≤ 68719476736 by omega)
  refine AFn.dropped (AFn.enter [4] Tryz.func186 rfl rfl rfl rfl rfl (by decide) ?_)
  unfold needsP
  generalize findR s name = r at hf hz
  obtain ⟨x, ok⟩ := r
  simp only at hf hz ⊢
  refine .gob ?_
  refine HCode.adopt 7 false 1 rfl rfl rfl rfl rfl rfl ?_
  refine HCode.forK x.params.length (fun k => [(19, .int .i64 k), (18, .int .i64 x.params.length), (17, .slice (x.params.map Par.enc) .no), (2, .rptr s.enc), (7, .slice (((x.params.take k).foldl (needAdd s) []).map AV.str) (.own 0 1))])
    (fun k => ⟨[.cells [.int .i64 x.kind, .str x.name, .slice (x.faces.map AV.str) .no, .slice (x.fields.map Fld.enc) .no, .slice (x.parts.map AV.str) .no, .slice (x.params.map Par.enc) .no]], [.len ((x.params.take k).foldl (needAdd s) []).length]⟩) (fun _ => True)
    ⟨rfl, rfl, rfl, rfl, rfl, trivial⟩ rfl trivial fun k hk _ => ?_
  by_cases h1 : k < x.params.length
  · have d1 : decide ((k : Int) < (x.params.length : Int)) = true := by simp [h1]
    have x1 := map_get' (f := Par.enc) h1
    have hpz := hz.2.2.2.2 _ (List.getElem_mem h1)
    have hpl := x.params[k].lens
    have hi := wIs x.params[k].t (by omega)
    have hkd := dKind s x.params[k].t.name [5] (by omega) (by decide)
    have hst := fold_take (f := needAdd s) (a := []) h1
    have hnl := needFold_len s (x.params.take k)
    rw [List.length_take] at hnl
    generalize (x.params.take k).foldl (needAdd s) [] = xs at hst hnl
    have hct := sContainsStr xs x.params[k].t.name (by omega)
    have hwk : WeakL [.slice (xs.map AV.str) (.own 0 1), .str x.params[k].t.name] [.slice (xs.map AV.str) .no, .str x.params[k].t.name] := WeakL.cons (Weak.no (WeakL.refl _)) (WeakL.refl _)
    have e0 : (x.params[k].t.lists == 0) = decide (x.params[k].t.lists = 0) := by rw [Bool.eq_iff_iff]; simp
    have hn : needP s x.params[k] = ((x.params[k].t.lists == 0) && (isT x.params[k].t && kindB s x.params[k].t.name [5])) := by unfold needP; rw [e0]
    have no : needP s x.params[k] = false → needAdd s xs x.params[k] = xs := fun h => by unfold needAdd; rw [if_neg (by rw [h]; decide)]
    have yes : needP s x.params[k] = true → needAdd s xs x.params[k] = addNew xs x.params[k].t.name := fun h => by unfold needAdd; rw [if_pos h]
    cases c1 : (x.params[k].t.lists == 0)
    · replace hst := hst.trans (no (by rw [hn, c1]; rfl))
      refine .go ?_
      exact ⟨h1, ⟨rfl, rfl, rfl, rfl, by rw [hst]; rfl, trivial⟩, by simp [-List.map_take, belowS, AV.low], by simp [belowB, belowT, Ob.low, Tok.low, AV.lowL, AV.low], by rw [hst]; rfl, trivial⟩
    cases c2 : isT x.params[k].t <;> rw [c2] at hi
    · replace hst := hst.trans (no (by rw [hn, c1, c2]; rfl))
      refine .go ?_
      exact ⟨h1, ⟨rfl, rfl, rfl, rfl, by rw [hst]; rfl, trivial⟩, by simp [-List.map_take, belowS, AV.low], by simp [belowB, belowT, Ob.low, Tok.low, AV.lowL, AV.low], by rw [hst]; rfl, trivial⟩
    cases c3 : kindB s x.params[k].t.name [5] <;> rw [c3] at hkd
    · replace hst := hst.trans (no (by rw [hn, c1, c2, c3]; rfl))
      refine .go ?_
      exact ⟨h1, ⟨rfl, rfl, rfl, rfl, by rw [hst]; rfl, trivial⟩, by simp [-List.map_take, belowS, AV.low], by simp [belowB, belowT, Ob.low, Tok.low, AV.lowL, AV.low], by rw [hst]; rfl, trivial⟩
    replace hst := hst.trans (yes (by rw [hn, c1, c2, c3]; rfl))
    unfold addNew at hst
    by_cases c : x.params[k].t.name ∈ xs
    · rw [decide_eq_true c] at hct
      rw [if_pos c] at hst
      repeat' first | refine A.call rfl hct hwk ?_ | refine .s1 ?_ | (refine .cond rfl ?_ ?_ <;> intro hc) | (refine A.guard rfl ?_ ?_ <;> intro hc) | fail
      exact ⟨h1, ⟨rfl, rfl, rfl, rfl, by rw [hst]; rfl, trivial⟩, by simp [-List.map_take, belowS, AV.low], by simp [belowB, belowT, Ob.low, Tok.low, AV.lowL, AV.low], by rw [hst]; rfl, trivial⟩
    · rw [decide_eq_false c] at hct
      rw [if_neg c] at hst
      repeat' first | refine A.call rfl hct hwk ?_ | refine .s1 ?_ | (refine .cond rfl ?_ ?_ <;> intro hc) | (refine A.guard rfl ?_ ?_ <;> intro hc) | refine A.append (n := xs.length) rfl rfl rfl rfl rfl rfl rfl rfl (List.length_map ..) rfl (by dsimp only [List.length_cons, List.length_nil]; omega) (by dsimp only [List.length_cons, List.length_nil]; omega) rfl ?_ | fail
      exact ⟨h1, ⟨rfl, rfl, rfl, rfl, by rw [hst, List.map_append]; rfl, trivial⟩, by simp [-List.map_take, belowS, AV.low], by simp [belowB, belowT, Ob.low, Tok.low, AV.lowL, AV.low], by rw [hst, List.length_append]; rfl, trivial⟩
  · have d1 : decide ((k : Int) < (x.params.length : Int)) = false := by simp; omega
    obtain rfl : k = x.params.length := by omega
    rw [List.take_length]
    refine .go ?_
    exact ⟨.slice ((x.params.foldl (needAdd s) []).map AV.str) (.own 0 1), 0, 1, rfl, Nat.le_refl _, Nat.zero_le _, by simp [AV.low], rfl, by simp [belowT, Tok.low], rfl, rfl⟩
theorem wNeeds (s : Sch) (name : Str) (hs : s.size ≤ 1048640) : PFn Tryz.prog 186 [s.enc, .str name] (.slice ((needsP s name).map AV.str) .no) :=
  AFn.plain (str_closedL _) (by simp [AV.closed, AV.closedL, Sch.closed]) ((wNeedsN s name hs).mono fun e σ h => ⟨_, h.1, Weak.no (WeakL.refl _)⟩)
theorem allTs_len (s : Sch) : (allTs s).length ≤ s.size := by
  unfold allTs
  have aux : ∀ l : List Dfn, (l.flatMap fun d => d.params.map fun p => p.t.name).length ≤ sumSize Dfn.size l := fun l => by
    induction l with
    | nil => simp
    | cons d l ih =>
      rw [List.flatMap_cons, List.length_append, List.length_map]
      have := d.lens
      simp only [sumSize]
      omega
  have := aux s.defs
  unfold Sch.size
  omega
theorem wRings (s : Sch) (name : Str) (hs : s.size ≤ 1048640) : PFn Tryz.prog 117 [s.enc, .str name] (.bool (ringsB s name)) := by
  have h0 := wNeedsN s name hs
  have hcl0 : AV.closedL [s.enc, .str name] = true := by simp [AV.closed, AV.closedL, Sch.closed]
  have hN := allTs_len s
  have hb0 := needsP_cnt s name
  refine AFn.plain rfl (by simp [AV.closed, AV.closedL, Sch.closed]) (AFn.enter [4] Tryz.func117 rfl rfl rfl rfl rfl (by decide) ?_)
  unfold ringsB
  generalize needsP s name = l0 at h0 hb0
  generalize hNN : (allTs s).length = N at hN hb0
  generalize hR : closeF (needsP s) N 0 l0 = R
  repeat' first | refine .br ?_ | refine A.callN rfl rfl h0 hcl0 (WeakL.refl _) (by simp [AV.low]) rfl ?_ | refine .s1 ?_ | (refine .cond rfl ?_ ?_ <;> intro hc) | (refine A.guard rfl ?_ ?_ <;> intro hc) | fail
  refine HCode.loop (fun z s1 σ => ∃ (i : Nat) (l : List Str), z = N - i ∧ i ≤ l.length ∧ cntU (allTs s) l + l.length ≤ N ∧ closeF (needsP s) (N - i) i l = R ∧ (∀ j : Nat, j < i → l[j]? ≠ some name) ∧ σ = ⟨[], [.len l.length]⟩ ∧
      s1 = [(6, .int .i64 i), (5, .slice (l.map AV.str) (.own 0 1)), (1, .str name), (2, .rptr s.enc)])
    (s0 := [(6, .int .i64 (0 : Nat)), (5, .slice (l0.map AV.str) (.own 0 1)), (1, .str name), (2, .rptr s.enc)]) ⟨rfl, rfl, rfl, rfl, trivial⟩ ⟨0, l0, rfl, Nat.zero_le _, hb0, hR, fun j hj => absurd hj (Nat.not_lt_zero _), rfl, rfl⟩ ?_
  rintro z s1 σ ⟨i, l, rfl, hil, hcb, hcl, hno, rfl, rfl⟩
  have hlm : (l.map AV.str).length = l.length := List.length_map ..
  by_cases h1 : i < l.length
  · have d1 : decide ((i : Int) < (l.length : Int)) = true := by simp [h1]
    have x1 := map_get' (f := AV.str) h1
    have hg : l[i]? = some l[i] := List.getElem?_eq_getElem h1
    by_cases e : l[i] = name
    · have q : (l[i] == name) = true := by simp [e]
      have hin : name ∈ R := by
        obtain ⟨r, hr⟩ := closeF_sub (needsP s) (N - i) i l
        rw [← hcl, hr]
        exact List.mem_append_left _ (e ▸ List.getElem_mem h1)
      rw [decide_eq_true hin]
      refine .go ?_
      exact Fin.ret1 rfl (Weak.refl _)
    · have q : (l[i] == name) = false := by simp [e]
      have hn := wNeeds s l[i] hs
      have hUm : ∀ y ∈ needsP s l[i], y ∈ allTs s := needsP_all l[i]
      have hstep : closeF (needsP s) (N - (i + 1)) (i + 1) ((needsP s l[i]).foldl addNew l) = R := by
        rw [← hcl, show N - i = (N - (i + 1)) + 1 by omega, closeF, hg]
      have hml : (needsP s l[i]).length ≤ 68719476736 := by
        have h1 := needFold_len s (findR s l[i]).1.params
        have h2 := (findR_size (name := l[i]) (show s.size ≤ 68719476736 by omega)).1
        unfold needsP; omega
      generalize needsP s l[i] = m at hn hUm hstep hml
      refine .go ?_
      refine HCode.forK m.length (fun j => [(31, .int .i64 j), (30, .int .i64 m.length), (29, .slice (m.map AV.str) .no), (1, .str name), (2, .rptr s.enc), (5, .slice (((m.take j).foldl addNew l).map AV.str) (.own 0 1)), (6, .int .i64 i)])
        (fun j => ⟨[], [.len ((m.take j).foldl addNew l).length]⟩) (fun _ => True) ⟨rfl, rfl, rfl, rfl, rfl, rfl, rfl, trivial⟩ rfl trivial fun j hj _ => ?_
      by_cases h2 : j < m.length
      · have d2 : decide ((j : Int) < (m.length : Int)) = true := by simp [h2]
        have x2 := map_get' (f := AV.str) h2
        have hst := fold_take (f := addNew) (a := l) h2
        have hbb := cnt_addAll (U := allTs s) (l := l) (xs := m.take j) (fun y hy => hUm y (List.mem_of_mem_take hy))
        generalize (m.take j).foldl addNew l = xs at hst hbb
        have hct := sContainsStr xs m[j] (by omega)
        have hwk : WeakL [.slice (xs.map AV.str) (.own 0 1), .str m[j]] [.slice (xs.map AV.str) .no, .str m[j]] := WeakL.cons (Weak.no (WeakL.refl _)) (WeakL.refl _)
        unfold addNew at hst
        by_cases c : m[j] ∈ xs
        · rw [decide_eq_true c] at hct
          replace hst := hst.trans (if_pos c)
          repeat' first | refine A.call rfl hct hwk ?_ | refine .s1 ?_ | (refine .cond rfl ?_ ?_ <;> intro hc) | (refine A.guard rfl ?_ ?_ <;> intro hc) | fail
          exact ⟨h2, ⟨rfl, rfl, rfl, rfl, rfl, by unfold addNew; rw [hst]; rfl, rfl, trivial⟩, by simp [-List.map_take, belowS, AV.low, AV.lowL], by simp [belowB, belowT, Ob.low, Tok.low], by unfold addNew; rw [hst]; rfl, trivial⟩
        · rw [decide_eq_false c] at hct
          replace hst := hst.trans (if_neg c)
          repeat' first | refine A.call rfl hct hwk ?_ | refine .s1 ?_ | (refine .cond rfl ?_ ?_ <;> intro hc) | (refine A.guard rfl ?_ ?_ <;> intro hc) | refine A.append (n := xs.length) rfl rfl rfl rfl rfl rfl rfl rfl (List.length_map ..) rfl (by dsimp only [List.length_cons, List.length_nil]; omega) (by dsimp only [List.length_cons, List.length_nil]; omega) rfl ?_ | fail
          exact ⟨h2, ⟨rfl, rfl, rfl, rfl, rfl, by unfold addNew; rw [hst, List.map_append]; rfl, rfl, trivial⟩, by simp [-List.map_take, belowS, AV.low, AV.lowL], by simp [belowB, belowT, Ob.low, Tok.low], by unfold addNew; rw [hst, List.length_append]; rfl, trivial⟩
      · have d2 : decide ((j : Int) < (m.length : Int)) = false := by simp; omega
        obtain rfl : j = m.length := by omega
        have hbb := cnt_addAll (U := allTs s) (l := l) (xs := m) hUm
        obtain ⟨r, hr⟩ := addAll_pre m l
        rw [List.take_length]
        refine .go ?_
        refine ⟨N - (i + 1), by omega, [(6, .int .i64 ((i + 1 : Nat) : Int)), (5, .slice ((m.foldl addNew l).map AV.str) (.own 0 1)), (1, .str name), (2, .rptr s.enc)], ⟨rfl, rfl, rfl, rfl, trivial⟩, by simp [belowS, AV.low, AV.lowL], by simp [belowB, belowT, Ob.low, Tok.low],
          i + 1, m.foldl addNew l, rfl, by rw [hr, List.length_append]; omega, by omega, hstep, fun j hj => ?_, rfl, rfl⟩
        rw [hr, List.getElem?_append_left (by omega)]
        by_cases ej : j = i
        · subst ej
          rw [hg]
          intro h; exact e (Option.some.inj h)
        · exact hno j (by omega)
  · have d1 : decide ((i : Int) < (l.length : Int)) = false := by simp; omega
    obtain rfl : i = l.length := by omega
    have hRl : R = l := by
      rw [← hcl]
      cases N - l.length with
      | zero => rw [closeF]
      | succ n => rw [closeF, List.getElem?_eq_none (Nat.le_refl _)]
    have hni : name ∉ R := by
      rw [hRl]
      intro hm
      obtain ⟨j, hj, ej⟩ := List.getElem_of_mem hm
      exact hno j hj (by rw [List.getElem?_eq_getElem hj, ej])
    rw [decide_eq_false hni]
    refine .go ?_
    exact Fin.ret1 rfl (Weak.refl _)
theorem wOpen1 (s : Sch) (d : Dfn) (hs : s.size ≤ 1048640) : PFn Tryz.prog 116 [d.enc, .rptr s.enc] (.bool (open1 s d)) := by
  have h := wRings s d.name hs
  refine AFn.plain rfl (by simp [AV.closed, AV.closedL, Dfn.closed, Sch.closed]) (AFn.enter [3] Tryz.func116 rfl rfl rfl rfl rfl (by decide) ?_)
  unfold open1
  cases c : (d.kind != 5)
  all_goals
    refine .gob ?_
    exact Fin.ret1 rfl (Weak.refl _)
theorem wRight1 (s : Sch) (p : Par) (hs : s.size ≤ 1048640) (hp : p.size ≤ 1048640) : PFn Tryz.prog 187 [p.enc, .rptr s.enc] (.bool (p.has && !litR s p.t p.d)) := by
  have hl := p.lens
  have h := lRight s p.t p.d (by omega) (by omega) (by omega)
  refine AFn.plain rfl (by simp [AV.closed, AV.closedL, Par.closed, Sch.closed]) (AFn.enter [3] Tryz.func187 rfl rfl rfl rfl rfl (by decide) ?_)
  cases c : p.has
  all_goals
    refine .gob ?_
    exact Fin.ret1 rfl (Weak.refl _)
theorem wRightB (s : Sch) (l : List Par) (hs : s.size ≤ 1048640) (hl : sumSize Par.size l ≤ 1048640) : PFn Tryz.prog 119 [s.enc, .slice (l.map Par.enc) .no] (.bool (rightB s l)) := by
  have hlen := sumSize_length Par.size_pos l
  have h := sContainsFPar l 187 [.rptr s.enc] (fun p => p.has && !litR s p.t p.d) (by omega) (by simp [AV.closed, AV.closedL, Sch.closed]) (fun p hp => wRight1 s p hs (by have := sumSize_mem (size := Par.size) hp; omega))
  refine AFn.plain rfl (by simp [AV.closed, AV.closedL, Par.closedL, Sch.closed]) (AFn.enter [4] Tryz.func119 rfl rfl rfl rfl rfl (by decide) ?_)
  unfold rightB
  refine .gob ?_
  exact Fin.ret1 rfl (Weak.refl _)
theorem wDflts2 (s : Sch) (p : Par) (hs : s.size ≤ 1048640) : PFn Tryz.prog 121 [p.enc, .rptr s.enc] (.bool (p.has && !leafB s p.t.name)) := by
  have h := dLeaf s p.t.name (by omega)
  refine AFn.plain rfl (by simp [AV.closed, AV.closedL, Par.closed, Sch.closed]) (AFn.enter [3] Tryz.func121 rfl rfl rfl rfl rfl (by decide) ?_)
  cases c : p.has
  all_goals
    refine .gob ?_
    exact Fin.ret1 rfl (Weak.refl _)
theorem wDflts3 (s : Sch) (f : Fld) (hs : s.size ≤ 1048640) (hf : f.size ≤ 1048640) : PFn Tryz.prog 122 [f.enc, .rptr s.enc] (.bool (!rightB s f.params)) := by
  have h := wRightB s f.params hs (by have := f.sums; omega)
  refine AFn.plain rfl (by simp [AV.closed, AV.closedL, Fld.closed, Sch.closed]) (AFn.enter [3] Tryz.func122 rfl rfl rfl rfl rfl (by decide) ?_)
  refine .gob ?_
  exact Fin.ret1 rfl (Weak.refl _)
theorem wDflts1 (s : Sch) (d : Dfn) (hs : s.size ≤ 1048640) (hd : d ∈ s.defs) : PFn Tryz.prog 118 [d.enc, .rptr s.enc] (.bool (dflts1 s d)) := by
  have hds := Sch.dfn hd
  have hl := d.lens
  have hsm := d.sums
  have h1 := wRightB s d.params hs (by omega)
  have h2 := sContainsFPar d.params 121 [.rptr s.enc] (fun p => p.has && !leafB s p.t.name) (by omega) (by simp [AV.closed, AV.closedL, Sch.closed]) (fun p _ => wDflts2 s p hs)
  have h3 := sContainsFFld d.fields 122 [.rptr s.enc] (fun f => !rightB s f.params) (by omega) (by simp [AV.closed, AV.closedL, Sch.closed]) (fun f hf => wDflts3 s f hs (by have := sumSize_mem (size := Fld.size) hf; omega))
  refine AFn.plain rfl (by simp [AV.closed, AV.closedL, Dfn.closed, Sch.closed]) (AFn.enter [3] Tryz.func118 rfl rfl rfl rfl rfl (by decide) ?_)
  unfold dflts1
  cases c1 : rightB s d.params <;> rw [c1] at h1
  · refine .gob ?_
    exact Fin.ret1 rfl (Weak.refl _)
  cases c2 : (d.params.any fun p => p.has && !leafB s p.t.name) <;> rw [c2] at h2
  all_goals
    refine .gob ?_
    exact Fin.ret1 rfl (Weak.refl _)
theorem wR_open (s : Sch) (hs : s.size ≤ 1048640) : PFn Tryz.prog 47 [s.enc] (.bool (openB s)) := by
  have h := wEvery s 116 [.rptr s.enc] (open1 s) (by omega) (by simp [AV.closed, AV.closedL, Sch.closed]) (fun d hd => wOpen1 s d hs)
  refine AFn.plain rfl (by simp [AV.closedL, Sch.closed]) (AFn.enter [2] Tryz.func47 rfl rfl rfl rfl rfl (by decide) ?_)
  unfold openB
  refine .gob ?_
  exact Fin.ret1 rfl (Weak.refl _)
theorem wR_defaults (s : Sch) (hs : s.size ≤ 1048640) : PFn Tryz.prog 48 [s.enc] (.bool (dfltsB s)) := by
  have h := wEvery s 118 [.rptr s.enc] (dflts1 s) (by omega) (by simp [AV.closed, AV.closedL, Sch.closed]) (fun d hd => wDflts1 s d hs hd)
  refine AFn.plain rfl (by simp [AV.closedL, Sch.closed]) (AFn.enter [2] Tryz.func48 rfl rfl rfl rfl rfl (by decide) ?_)
  unfold dfltsB
  refine .gob ?_
  exact Fin.ret1 rfl (Weak.refl _)
theorem wRule (s : Sch) (n : Int) (hs : s.size ≤ 1048640) (h1 : PFn Tryz.prog 40 [s.enc] (.bool (namedB s))) : PFn Tryz.prog 23 [s.enc, .int .i64 n] (.bool (ruleB s n)) := by
  have h2 := wRoots s (by omega)
  have h3 := wSingle s hs
  have h4 := wR_typed s (by omega)
  have h5 := wR_faces s (by omega)
  have h6 := wR_kept s hs
  have h7 := wR_parts s hs
  have h8 := wR_open s hs
  have h9 := wR_defaults s hs
  refine AFn.plain rfl (by simp [AV.closed, AV.closedL, Sch.closed]) (AFn.enter [4] Tryz.func23 rfl rfl rfl rfl rfl (by decide) ?_)
  unfold ruleB
  by_cases n1 : n = 1
  · subst n1
    refine .gob ?_
    exact Fin.ret1 rfl (Weak.refl _)
  have q1 : (n == 1) = false := by simp [n1]
  rw [if_neg n1]
  by_cases n2 : n = 2
  · subst n2
    refine .gob ?_
    exact Fin.ret1 rfl (Weak.refl _)
  have q2 : (n == 2) = false := by simp [n2]
  rw [if_neg n2]
  by_cases n3 : n = 3
  · subst n3
    refine .gob ?_
    exact Fin.ret1 rfl (Weak.refl _)
  have q3 : (n == 3) = false := by simp [n3]
  rw [if_neg n3]
  by_cases n4 : n = 4
  · subst n4
    refine .gob ?_
    exact Fin.ret1 rfl (Weak.refl _)
  have q4 : (n == 4) = false := by simp [n4]
  rw [if_neg n4]
  by_cases n5 : n = 5
  · subst n5
    refine .gob ?_
    exact Fin.ret1 rfl (Weak.refl _)
  have q5 : (n == 5) = false := by simp [n5]
  rw [if_neg n5]
  by_cases n6 : n = 6
  · subst n6
    refine .gob ?_
    exact Fin.ret1 rfl (Weak.refl _)
  have q6 : (n == 6) = false := by simp [n6]
  rw [if_neg n6]
  by_cases n7 : n = 7
  · subst n7
    refine .gob ?_
    exact Fin.ret1 rfl (Weak.refl _)
  have q7 : (n == 7) = false := by simp [n7]
  rw [if_neg n7]
  by_cases n8 : n = 8
  · subst n8
    refine .gob ?_
    exact Fin.ret1 rfl (Weak.refl _)
  have q8 : (n == 8) = false := by simp [n8]
  rw [if_neg n8]
  by_cases n9 : n = 9
  · subst n9
    refine .gob ?_
    exact Fin.ret1 rfl (Weak.refl _)
  have q9 : (n == 9) = false := by simp [n9]
  rw [if_neg n9]
  refine .gob ?_
  exact Fin.ret1 rfl (Weak.refl _)
theorem wCheck (s : Sch) (hs : s.size ≤ 1048640) (h1 : PFn Tryz.prog 40 [s.enc] (.bool (namedB s))) : PFn Tryz.prog 9 [s.enc] (.int .i64 (checkI s)) := by
  refine AFn.plain rfl (by simp [AV.closedL, Sch.closed]) (AFn.enter [2] Tryz.func9 rfl rfl rfl rfl rfl (by decide) ?_)
  refine .gob ?_
  refine HCode.forK 9 (fun k => [(3, .int .i64 ((1 : Int) + k)), (1, .rptr s.enc)]) (fun _ => ⟨[], []⟩) (fun k => checkI s = checkF s (9 - k) (1 + k)) ⟨rfl, rfl, trivial⟩ rfl rfl fun k hk hj => ?_
  by_cases h2 : k < 9
  · have d1 : decide (((1 : Int) + k) ≤ 9) = true := decide_eq_true (by omega)
    have hr := wRule s (1 + k) hs h1
    rw [show 9 - k = (9 - (k + 1)) + 1 by omega, checkF] at hj
    cases c : ruleB s (1 + k) with
    | true =>
      rw [c] at hr
      rw [if_pos c] at hj
      refine .go ?_
      exact ⟨h2, ⟨congrArg (AV.int .i64) (by omega), rfl, trivial⟩, by simp [belowS, AV.low], rfl, rfl, by rw [hj]; first | rfl | (congr 1; omega)⟩
    | false =>
      rw [c] at hr
      rw [if_neg (by rw [c]; decide)] at hj
      rw [hj]
      refine .go ?_
      exact Fin.ret1 rfl (Weak.refl _)
  · have d1 : decide (((1 : Int) + k) ≤ 9) = false := decide_eq_false (by omega)
    obtain rfl : k = 9 := by omega
    rw [hj, checkF]
    refine .go ?_
    exact Fin.ret1 rfl (Weak.refl _)
end Go.Proofs.YtgghkkeejagfkaaGreatDoor
namespace Go.Av
open Go
section
variable [Globals]
variable {P : Program} {all : Array Oper} {draw : Bool} {K : AX → Slots → St → Prop} {rest : List Oper} {acc : List Tag} {s : Slots} {σ : St} {ty : TypeId} {pos : String} {af : Array Edge}
theorem A.callNB {d : Option Tmp} {f : FuncId} {args : Array Operand} {tys : Array TypeId} {vals vals0 cs : List AV} {n : Nat} {v : AV} (hp : AFn P f vals0 ⟨[], []⟩ (fun e σ1 => e = .ret v ∧ σ1 = ⟨[.cells cs], [.len n]⟩)) (hσ : σ = ⟨[], []⟩) (ha : evsK s args.toList some = some vals)
    (hc : AV.closedL vals0 = true) (hw : WeakL vals vals0) (hv : v.low 1 1 = true) (hcs : AV.lowL 1 1 cs = true)
    (k : AOps P all draw K rest (.all :: acc) (putS d v s) ⟨[.cells cs], [.len n]⟩) : AOps P all draw K (⟨d, .call ⟨.value (.func f), args, tys⟩, ty, pos, af, none⟩ :: rest) acc s σ := by
  subst hσ
  have hft : ∀ k, k < 1 → emb 0 [] k = k := fun k _ => by simp [emb]
  refine A.callR (nB := 0) (nT := 0) (B0 := []) (T0 := []) (B1 := [.cells cs]) (T1 := [.len n]) (v0 := v) [] [] ha hp rfl rfl ⟨List.nodup_nil, by simp⟩ ⟨List.nodup_nil, by simp⟩ rfl rfl (fun k i ob h => by simp at h) (fun k i t h => by simp at h) rfl rfl
    (AV.lowL_of_closed _ _ _ hc) (by rw [AV.renL_closed _ _ _ hc]; exact hw) (AV.ren_same hft hft v hv) (B' := [.cells cs]) (T' := [.len n]) ?_ ?_ k
  · rw [merge_nil, List.map_cons, Ob.ren, AV.renL_same hft hft cs hcs]; rfl
  · rw [merge_nil]; rfl
end
end Go.Av
namespace Go.Proofs.YtgghkkeejagfkaaGreatDoor
open Go Go.Av
attribute [local irreducible] HCode AOps PFn AFn Av.Step TStep
def wPart (W : WS) (s : Str) : WS := wName s (wNeed (s != sTrue && (s != sFalse && s != sNull)) W)
def wUni (d : Dfn) (W : WS) : WS := wNames [124] d.parts (wMark [61] (wName d.name (wName sUnion W)))
def wEnu (d : Dfn) (W : WS) : WS := wMark [125] (d.parts.foldl wPart (wMark [123] (wName d.name (wName sEnum W))))
def needParts (d : Dfn) : Bool := decide (d.parts ≠ []) && decide (d.faces = [] ∧ d.fields = [] ∧ d.params = [])
def wPartsD (d : Dfn) (W : WS) : WS := if d.kind = 3 then wUni d (wNeed (needParts d) W) else wEnu d (wNeed (needParts d) W)
theorem len_partF (l : List Str) (W : WS) : (l.foldl wPart W).l.length ≤ W.l.length + sumSize (fun s : Str => s.length + 1) l :=
  fold_len wPart _ (fun W s => by unfold wPart; rw [len_name, len_need]; omega) l W
theorem len_uni (d : Dfn) (W : WS) : (wUni d W).l.length ≤ W.l.length + 4 * strsSize d.parts + 3 := by
  have h := len_names [124] d.parts (wMark [61] (wName d.name (wName sUnion W)))
  rw [len_mark, len_name, len_name] at h
  unfold wUni; omega
theorem len_enu (d : Dfn) (W : WS) : (wEnu d W).l.length ≤ W.l.length + 4 * strsSize d.parts + 4 := by
  have h := len_partF d.parts (wMark [123] (wName d.name (wName sEnum W)))
  rw [len_mark, len_name, len_name] at h
  unfold wEnu strsSize
  rw [len_mark]; omega
theorem len_partsD (d : Dfn) (W : WS) : (wPartsD d W).l.length ≤ W.l.length + 8 * d.size := by
  have h1 := len_uni d (wNeed (needParts d) W)
  have h2 := len_enu d (wNeed (needParts d) W)
  rw [len_need] at h1 h2
  unfold wPartsD Dfn.size
  split <;> omega
theorem ok_uni (d : Dfn) (W : WS) : (wUni d W).ok = (W.ok && (nameB d.name && d.parts.all nameB)) := by
  unfold wUni
  rw [ok_names]
  show (((W.ok && nameB sUnion) && nameB d.name) && _) = _
  rw [nm_sUnion, Bool.and_true, Bool.and_assoc]
theorem ok_enu (d : Dfn) (W : WS) : (wEnu d W).ok = (W.ok && (nameB d.name && d.parts.all partOk)) := by
  show (d.parts.foldl wPart (wMark [123] (wName d.name (wName sEnum W)))).ok = _
  rw [fold_ok wPart partOk (fun W s => by show ((W.ok && _) && nameB s) = _; unfold partOk; rw [Bool.and_assoc])]
  show (((W.ok && nameB sEnum) && nameB d.name) && _) = _
  rw [nm_sEnum, Bool.and_true, Bool.and_assoc]
theorem cUni (W : WS) (d : Dfn) (hk : d.kind = 3) (hd : d.size ≤ 1048640) (hW : W.l.length + 8 * d.size + 4 ≤ 1099511627776) (b : Bool) (hb : b = (decide (d.parts ≠ []) && ((d.faces.length : Int) + (d.fields.length : Int) + (d.params.length : Int) == 0))) :
    WC 261 (.agg [.ptr 0 0]) [d.enc] W (wUni d (wNeed b W)) := by
  refine WC.of (AFn.enter [] Tryz.func261 rfl rfl rfl rfl rfl (by decide) ?_)
  have hds : d.size = d.name.length + strsSize d.faces + sumSize Fld.size d.fields + strsSize d.parts + sumSize Par.size d.params + 5 := rfl
  have p1 := sumSize_length (size := fun s : Str => s.length + 1) (fun _ => by omega) d.faces
  have p2 := sumSize_length (size := Par.size) (fun d => by unfold Par.size; omega) d.params
  have p4 := sumSize_length (size := Fld.size) (fun d => by unfold Fld.size; omega) d.fields
  have p3 : strsSize d.faces = sumSize (fun s : Str => s.length + 1) d.faces + 1 := rfl
  have hg := len_pos d.parts
  have q3 : (d.kind == 3) = true := by rw [hk]; rfl
  have c1 := cNeed W b
  have c2 := cName (wNeed b W) sUnion (by decide) (by rw [len_need]; omega)
  have c3 := cName (wName sUnion (wNeed b W)) d.name (by omega) (by rw [len_name, len_need]; omega)
  have c4 := cMark (wName d.name (wName sUnion (wNeed b W))) [61] (by rw [len_name, len_name, len_need]; omega)
  have c5 := cNames (wMark [61] (wName d.name (wName sUnion (wNeed b W)))) [124] d.parts (by omega) (by rw [len_mark, len_name, len_name, len_need]; omega)
  unfold wUni
  cases hB : decide (d.parts ≠ []) with
  | false =>
    have d1 : decide (0 < (d.parts.length : Int)) = false := by rw [hg]; exact hB
    rw [hB] at hb
    obtain rfl : b = false := hb
    repeat' first | refine .br ?_ | refine .s1 ?_ | (refine .cond rfl ?_ ?_ <;> intro hc) | (refine A.guard rfl ?_ ?_ <;> intro hc) | refine A.callWC c1 rfl rfl rfl rfl (WeakL.refl _) ?_ | refine A.callWC c2 rfl rfl rfl rfl (WeakL.refl _) ?_ | refine A.callWC c3 rfl rfl rfl rfl (WeakL.refl _) ?_ | refine A.callWC c4 rfl rfl rfl rfl weak_full ?_ | refine A.callWC c5 rfl rfl rfl (by simp [AV.closedL, AV.closed, str_closedL]) (WeakL.refl _) ?_ | fail
    exact ⟨rfl, rfl, rfl⟩
  | true =>
    have d1 : decide (0 < (d.parts.length : Int)) = true := by rw [hg]; exact hB
    rw [hB] at hb
    obtain rfl : b = ((d.faces.length : Int) + (d.fields.length : Int) + (d.params.length : Int) == 0) := hb
    repeat' first | refine .br ?_ | refine .s1 ?_ | (refine .cond rfl ?_ ?_ <;> intro hc) | (refine A.guard rfl ?_ ?_ <;> intro hc) | refine A.callWC c1 rfl rfl rfl rfl (WeakL.refl _) ?_ | refine A.callWC c2 rfl rfl rfl rfl (WeakL.refl _) ?_ | refine A.callWC c3 rfl rfl rfl rfl (WeakL.refl _) ?_ | refine A.callWC c4 rfl rfl rfl rfl weak_full ?_ | refine A.callWC c5 rfl rfl rfl (by simp [AV.closedL, AV.closed, str_closedL]) (WeakL.refl _) ?_ | fail
    exact ⟨rfl, rfl, rfl⟩
theorem cEnu (W : WS) (d : Dfn) (hk : d.kind = 4) (hd : d.size ≤ 1048640) (hW : W.l.length + 8 * d.size + 4 ≤ 1099511627776) (b : Bool) (hb : b = (decide (d.parts ≠ []) && ((d.faces.length : Int) + (d.fields.length : Int) + (d.params.length : Int) == 0))) :
    WC 261 (.agg [.ptr 0 0]) [d.enc] W (wEnu d (wNeed b W)) := by
  refine WC.of (AFn.enter [] Tryz.func261 rfl rfl rfl rfl rfl (by decide) ?_)
  have hds : d.size = d.name.length + strsSize d.faces + sumSize Fld.size d.fields + strsSize d.parts + sumSize Par.size d.params + 5 := rfl
  have p1 := sumSize_length (size := fun s : Str => s.length + 1) (fun _ => by omega) d.faces
  have p2 := sumSize_length (size := Par.size) (fun d => by unfold Par.size; omega) d.params
  have p4 := sumSize_length (size := Fld.size) (fun d => by unfold Fld.size; omega) d.fields
  have p5 := sumSize_length (size := fun s : Str => s.length + 1) (fun _ => by omega) d.parts
  have p3 : strsSize d.faces = sumSize (fun s : Str => s.length + 1) d.faces + 1 := rfl
  have p6 : strsSize d.parts = sumSize (fun s : Str => s.length + 1) d.parts + 1 := rfl
  have hg := len_pos d.parts
  have q3 : (d.kind == 3) = false := by rw [hk]; rfl
  have c1 := cNeed W b
  have c2 := cName (wNeed b W) sEnum (by decide) (by rw [len_need]; omega)
  have c3 := cName (wName sEnum (wNeed b W)) d.name (by omega) (by rw [len_name, len_need]; omega)
  have c4 := cMark (wName d.name (wName sEnum (wNeed b W))) [123] (by rw [len_name, len_name, len_need]; omega)
  have tail : HCode Tryz.prog Tryz.f261.ntmps [] (bodyOf Tryz.f261) (fin [] (fun e σ1 => e = .ret (.tup []) ∧ σ1.B.take 1 = [.cells (wEnu d (wNeed b W)).cs] ∧ σ1.T.take 1 = [.len (wEnu d (wNeed b W)).l.length]))
      (argSlots 0 [.agg [.ptr 0 0], d.enc]) ⟨[.cells W.cs], [.len W.l.length]⟩ := by
    unfold wEnu
    have l4 : (wMark [123] (wName d.name (wName sEnum (wNeed b W)))).l.length = W.l.length + 3 := by rw [len_mark, len_name, len_name, len_need]
    by_cases hBfalse : decide (d.parts ≠ []) = false
    · have d1 : decide (0 < (d.parts.length : Int)) = false := by rw [hg]; exact hBfalse
      rw [hBfalse] at hb
      first | obtain rfl : b = false := hb | obtain rfl : b = ((d.faces.length : Int) + (d.fields.length : Int) + (d.params.length : Int) == 0) := hb
      repeat' first | refine .br ?_ | refine .s1 ?_ | (refine .cond rfl ?_ ?_ <;> intro hc) | (refine A.guard rfl ?_ ?_ <;> intro hc) | refine A.callWC c1 rfl rfl rfl rfl (WeakL.refl _) ?_ | refine A.callWC c2 rfl rfl rfl rfl (WeakL.refl _) ?_ | refine A.callWC c3 rfl rfl rfl rfl (WeakL.refl _) ?_ | refine A.callWC c4 rfl rfl rfl rfl weak_full ?_ | fail
      generalize hW3 : wMark [123] _ = W3 at *
      refine HCode.forK d.parts.length (fun k => [(61, .int .i64 k), (60, .int .i64 d.parts.length), (59, .slice (d.parts.map AV.str) .no), (2, .rptr (.agg [.ptr 0 0]))]) (fun k => wst ((d.parts.take k).foldl wPart W3)) (fun _ => True) ⟨rfl, by rw [← List.length_map (f := AV.str)]; rfl, rfl, rfl, trivial⟩ rfl trivial fun k hk _ => ?_
      have hlen := len_partF (d.parts.take k) W3
      by_cases h1 : k < d.parts.length
      · have d1 : decide ((k : Int) < (d.parts.length : Int)) = true := by simp [h1]
        have x1 := map_get' (f := AV.str) h1
        have hm := wsum_le (fun s : Str => s.length + 1) d.parts k h1
        have hn := fold_take' wPart h1 W3
        generalize hWk : (d.parts.take k).foldl wPart W3 = Wk at *
        cases e1 : (d.parts[k] != sTrue) with
        | false =>
          have hn2 : wPart Wk d.parts[k] = wName d.parts[k] (wNeed false Wk) := by unfold wPart; rw [e1]; rfl
          rw [hn2] at hn
          have c5 := cNeed Wk false
          have c6 := cName (wNeed false Wk) d.parts[k] (by omega) (by rw [len_need]; omega)
          repeat' first | refine .s1 ?_ | (refine .cond rfl ?_ ?_ <;> intro hc) | (refine A.guard rfl ?_ ?_ <;> intro hc) | refine A.callWC c5 rfl rfl rfl rfl (WeakL.refl _) ?_ | refine A.callWC c6 rfl rfl rfl rfl (WeakL.refl _) ?_ | fail
          exact ⟨h1, ⟨rfl, rfl, rfl, rfl, trivial⟩, by simp [belowS, AV.low, AV.lowL], wst_below _, (congrArg wst hn).symm, trivial⟩
        | true =>
          cases e2 : (d.parts[k] != sFalse) with
          | false =>
            have hn2 : wPart Wk d.parts[k] = wName d.parts[k] (wNeed false Wk) := by unfold wPart; rw [e1, e2]; rfl
            rw [hn2] at hn
            have c5 := cNeed Wk false
            have c6 := cName (wNeed false Wk) d.parts[k] (by omega) (by rw [len_need]; omega)
            repeat' first | refine .s1 ?_ | (refine .cond rfl ?_ ?_ <;> intro hc) | (refine A.guard rfl ?_ ?_ <;> intro hc) | refine A.callWC c5 rfl rfl rfl rfl (WeakL.refl _) ?_ | refine A.callWC c6 rfl rfl rfl rfl (WeakL.refl _) ?_ | fail
            exact ⟨h1, ⟨rfl, rfl, rfl, rfl, trivial⟩, by simp [belowS, AV.low, AV.lowL], wst_below _, (congrArg wst hn).symm, trivial⟩
          | true =>
            have hn2 : wPart Wk d.parts[k] = wName d.parts[k] (wNeed (d.parts[k] != sNull) Wk) := by unfold wPart; rw [e1, e2]; rfl
            rw [hn2] at hn
            have c5 := cNeed Wk (d.parts[k] != sNull)
            have c6 := cName (wNeed (d.parts[k] != sNull) Wk) d.parts[k] (by omega) (by rw [len_need]; omega)
            repeat' first | refine .s1 ?_ | (refine .cond rfl ?_ ?_ <;> intro hc) | (refine A.guard rfl ?_ ?_ <;> intro hc) | refine A.callWC c5 rfl rfl rfl rfl (WeakL.refl _) ?_ | refine A.callWC c6 rfl rfl rfl rfl (WeakL.refl _) ?_ | fail
            exact ⟨h1, ⟨rfl, rfl, rfl, rfl, trivial⟩, by simp [belowS, AV.low, AV.lowL], wst_below _, (congrArg wst hn).symm, trivial⟩
      · have d1 : decide ((k : Int) < (d.parts.length : Int)) = false := by simp; omega
        obtain rfl : k = d.parts.length := by omega
        rw [List.take_length] at *
        have c5 := cMark (d.parts.foldl wPart W3) [125] (by omega)
        repeat' first | refine .s1 ?_ | (refine .cond rfl ?_ ?_ <;> intro hc) | (refine A.guard rfl ?_ ?_ <;> intro hc) | refine A.callWC c5 rfl rfl rfl rfl weak_full ?_ | fail
        exact ⟨rfl, rfl, rfl⟩
    by_cases hBtrue : decide (d.parts ≠ []) = true
    · have d1 : decide (0 < (d.parts.length : Int)) = true := by rw [hg]; exact hBtrue
      rw [hBtrue] at hb
      first | obtain rfl : b = false := hb | obtain rfl : b = ((d.faces.length : Int) + (d.fields.length : Int) + (d.params.length : Int) == 0) := hb
      repeat' first | refine .br ?_ | refine .s1 ?_ | (refine .cond rfl ?_ ?_ <;> intro hc) | (refine A.guard rfl ?_ ?_ <;> intro hc) | refine A.callWC c1 rfl rfl rfl rfl (WeakL.refl _) ?_ | refine A.callWC c2 rfl rfl rfl rfl (WeakL.refl _) ?_ | refine A.callWC c3 rfl rfl rfl rfl (WeakL.refl _) ?_ | refine A.callWC c4 rfl rfl rfl rfl weak_full ?_ | fail
      generalize hW3 : wMark [123] _ = W3 at *
      refine HCode.forK d.parts.length (fun k => [(61, .int .i64 k), (60, .int .i64 d.parts.length), (59, .slice (d.parts.map AV.str) .no), (2, .rptr (.agg [.ptr 0 0]))]) (fun k => wst ((d.parts.take k).foldl wPart W3)) (fun _ => True) ⟨rfl, by rw [← List.length_map (f := AV.str)]; rfl, rfl, rfl, trivial⟩ rfl trivial fun k hk _ => ?_
      have hlen := len_partF (d.parts.take k) W3
      by_cases h1 : k < d.parts.length
      · have d1 : decide ((k : Int) < (d.parts.length : Int)) = true := by simp [h1]
        have x1 := map_get' (f := AV.str) h1
        have hm := wsum_le (fun s : Str => s.length + 1) d.parts k h1
        have hn := fold_take' wPart h1 W3
        generalize hWk : (d.parts.take k).foldl wPart W3 = Wk at *
        cases e1 : (d.parts[k] != sTrue) with
        | false =>
          have hn2 : wPart Wk d.parts[k] = wName d.parts[k] (wNeed false Wk) := by unfold wPart; rw [e1]; rfl
          rw [hn2] at hn
          have c5 := cNeed Wk false
          have c6 := cName (wNeed false Wk) d.parts[k] (by omega) (by rw [len_need]; omega)
          repeat' first | refine .s1 ?_ | (refine .cond rfl ?_ ?_ <;> intro hc) | (refine A.guard rfl ?_ ?_ <;> intro hc) | refine A.callWC c5 rfl rfl rfl rfl (WeakL.refl _) ?_ | refine A.callWC c6 rfl rfl rfl rfl (WeakL.refl _) ?_ | fail
          exact ⟨h1, ⟨rfl, rfl, rfl, rfl, trivial⟩, by simp [belowS, AV.low, AV.lowL], wst_below _, (congrArg wst hn).symm, trivial⟩
        | true =>
          cases e2 : (d.parts[k] != sFalse) with
          | false =>
            have hn2 : wPart Wk d.parts[k] = wName d.parts[k] (wNeed false Wk) := by unfold wPart; rw [e1, e2]; rfl
            rw [hn2] at hn
            have c5 := cNeed Wk false
            have c6 := cName (wNeed false Wk) d.parts[k] (by omega) (by rw [len_need]; omega)
            repeat' first | refine .s1 ?_ | (refine .cond rfl ?_ ?_ <;> intro hc) | (refine A.guard rfl ?_ ?_ <;> intro hc) | refine A.callWC c5 rfl rfl rfl rfl (WeakL.refl _) ?_ | refine A.callWC c6 rfl rfl rfl rfl (WeakL.refl _) ?_ | fail
            exact ⟨h1, ⟨rfl, rfl, rfl, rfl, trivial⟩, by simp [belowS, AV.low, AV.lowL], wst_below _, (congrArg wst hn).symm, trivial⟩
          | true =>
            have hn2 : wPart Wk d.parts[k] = wName d.parts[k] (wNeed (d.parts[k] != sNull) Wk) := by unfold wPart; rw [e1, e2]; rfl
            rw [hn2] at hn
            have c5 := cNeed Wk (d.parts[k] != sNull)
            have c6 := cName (wNeed (d.parts[k] != sNull) Wk) d.parts[k] (by omega) (by rw [len_need]; omega)
            repeat' first | refine .s1 ?_ | (refine .cond rfl ?_ ?_ <;> intro hc) | (refine A.guard rfl ?_ ?_ <;> intro hc) | refine A.callWC c5 rfl rfl rfl rfl (WeakL.refl _) ?_ | refine A.callWC c6 rfl rfl rfl rfl (WeakL.refl _) ?_ | fail
            exact ⟨h1, ⟨rfl, rfl, rfl, rfl, trivial⟩, by simp [belowS, AV.low, AV.lowL], wst_below _, (congrArg wst hn).symm, trivial⟩
      · have d1 : decide ((k : Int) < (d.parts.length : Int)) = false := by simp; omega
        obtain rfl : k = d.parts.length := by omega
        rw [List.take_length] at *
        have c5 := cMark (d.parts.foldl wPart W3) [125] (by omega)
        repeat' first | refine .s1 ?_ | (refine .cond rfl ?_ ?_ <;> intro hc) | (refine A.guard rfl ?_ ?_ <;> intro hc) | refine A.callWC c5 rfl rfl rfl rfl weak_full ?_ | fail
        exact ⟨rfl, rfl, rfl⟩
    exfalso
    cases h : decide (d.parts ≠ []) <;> simp_all
  exact tail
end Go.Proofs.YtgghkkeejagfkaaGreatDoor
