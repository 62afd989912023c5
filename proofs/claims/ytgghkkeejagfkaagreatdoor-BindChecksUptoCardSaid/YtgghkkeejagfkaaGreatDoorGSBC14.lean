/-
  Contracts and plain facts for a law, joined.
-/
import Derived.Test.YtgghkkeejagfkaaGreatDoorGSBC1
import Derived.Test.YtgghkkeejagfkaaGreatDoorGSBC13
import Derived.Test.YtgghkkeejagfkaaGreatDoorGSBC8
set_option maxRecDepth 100000
set_option maxHeartbeats 16000000
set_option linter.unusedVariables false
set_option linter.unusedSimpArgs false
set_option linter.unusedSectionVars false
namespace Go.Proofs.YtgghkkeejagfkaaGreatDoor
open Go Go.Av
attribute [local irreducible] HCode AOps PFn AFn Av.Step TStep
theorem anyN {α : Type} (p : α → Bool) : ∀ l : List α, (!l.any fun x => !p x) = l.all p
  | [] => rfl
  | x :: l => by rw [List.any_cons, List.all_cons, ← anyN p l]; cases p x <;> simp
theorem anyP {α : Type} (p q : α → Bool) (h : ∀ x, q x = !p x) (l : List α) : (!l.any p) = l.all q := by
  rw [show p = fun x => !q x from funext fun x => by rw [h]; simp]; exact anyN q l
theorem every_all (s : Sch) (f : Dfn → Bool) : everyB s f = s.defs.all f := anyN f _
theorem strs_le {α : Type} {g : α → Str} {size : α → Nat} (h : ∀ x, (g x).length + 1 ≤ size x) : ∀ l : List α, strsSize (l.map g) ≤ sumSize size l + 1
  | [] => by simp [strsSize, sumSize]
  | x :: l => by
    have h1 := strs_le h l
    have h2 := h x
    unfold strsSize at *
    simp only [List.map_cons, sumSize]; omega
theorem rEntries9 (s : Sch) (l : List Par) (hs : s.size ≤ 1048576) (hl : sumSize Par.size l ≤ 1048576) : PFn Tryz.prog 132 [s.enc, .slice (l.map Par.enc) .no] (.bool (entriesB s l)) := by
  have hll := sumSize_length Par.size_pos l
  refine AFn.plain rfl (by simp [AV.closed, AV.closedL, Sch.closed, Par.closedL]) (AFn.enter [4] Tryz.func132 rfl rfl rfl rfl rfl (by decide) ?_)
  rw [show (entriesB s l) = l.all (fun p => entryB s p.t.name) from by unfold entriesB; exact anyN _ _]
  refine .gob ?_
  refine HCode.forK l.length (fun k => [(5, .int .i64 k), (1, .slice (l.map Par.enc) .no), (2, .rptr s.enc)]) (fun _ => ⟨[], []⟩) (fun k => (l.take k).all (fun p => entryB s p.t.name) = true) ⟨rfl, rfl, rfl, trivial⟩ rfl (by simp) fun k hkk hjk => ?_
  by_cases hk : k < l.length
  · have dk : decide ((k : Int) < (l.length : Int)) = true := by simp [hk]
    have xk := map_get' (f := Par.enc) hk
    have hmk := List.getElem_mem hk
    have hnxk := all_next (p := fun p => entryB s p.t.name) hk hjk
    have hspk := all_stop (p := fun p => entryB s p.t.name) hk
    try dsimp only at hnxk hspk
    have hz := sumSize_mem (size := Par.size) hmk
    have hz2 := l[k].lens
    have h0 := rEntry9 s l[k].t.name hs
    cases c0 : entryB s l[k].t.name <;> rw [c0] at h0 hnxk hspk
    · have ha := hspk (by simp)
      rw [ha]
      refine .gob ?_
      exact Fin.ret1 rfl (Weak.refl _)
    have hj' := hnxk (by simp)
    refine .gob ?_
    exact ⟨hk, ⟨rfl, rfl, rfl, trivial⟩, by simp [belowS, AV.low, AV.low_of_closed, Sch.closed, Dfn.closed, Fld.closed, Par.closed], rfl, rfl, hj'⟩
  · have dk : decide ((k : Int) < (l.length : Int)) = false := by simp; omega
    obtain rfl : k = l.length := by omega
    rw [List.take_length] at hjk
    rw [hjk]
    refine .go ?_
    exact Fin.ret1 rfl (Weak.refl _)
theorem rDefaults9 (s : Sch) (l : List Par) (hs : s.size ≤ 1048576) (hl : sumSize Par.size l ≤ 1048576) : PFn Tryz.prog 139 [s.enc, .slice (l.map Par.enc) .no] (.bool (rightB s l)) := by
  have hll := sumSize_length Par.size_pos l
  refine AFn.plain rfl (by simp [AV.closed, AV.closedL, Sch.closed, Par.closedL]) (AFn.enter [4] Tryz.func139 rfl rfl rfl rfl rfl (by decide) ?_)
  rw [show (rightB s l) = l.all (fun p => !p.has || litR s p.t p.d) from by unfold rightB; exact anyP _ _ (fun p => by cases p.has <;> simp) l]
  refine .gob ?_
  refine HCode.forK l.length (fun k => [(5, .int .i64 k), (1, .slice (l.map Par.enc) .no), (2, .rptr s.enc)]) (fun _ => ⟨[], []⟩) (fun k => (l.take k).all (fun p => !p.has || litR s p.t p.d) = true) ⟨rfl, rfl, rfl, trivial⟩ rfl (by simp) fun k hkk hjk => ?_
  by_cases hk : k < l.length
  · have dk : decide ((k : Int) < (l.length : Int)) = true := by simp [hk]
    have xk := map_get' (f := Par.enc) hk
    have hmk := List.getElem_mem hk
    have hnxk := all_next (p := fun p => !p.has || litR s p.t p.d) hk hjk
    have hspk := all_stop (p := fun p => !p.has || litR s p.t p.d) hk
    try dsimp only at hnxk hspk
    have hz := sumSize_mem (size := Par.size) hmk
    have hz2 := l[k].lens
    have h0 := rRight9 s l[k].t l[k].d hs (by omega) (by omega)
    cases c0 : l[k].has <;> rw [c0] at hnxk hspk
    · have hj' := hnxk (by simp)
      refine .gob ?_
      exact ⟨hk, ⟨rfl, rfl, rfl, trivial⟩, by simp [belowS, AV.low, AV.low_of_closed, Sch.closed, Dfn.closed, Fld.closed, Par.closed], rfl, rfl, hj'⟩
    cases c1 : litR s l[k].t l[k].d <;> rw [c1] at h0 hnxk hspk
    · have ha := hspk (by simp)
      rw [ha]
      refine .gob ?_
      exact Fin.ret1 rfl (Weak.refl _)
    have hj' := hnxk (by simp)
    refine .gob ?_
    exact ⟨hk, ⟨rfl, rfl, rfl, trivial⟩, by simp [belowS, AV.low, AV.low_of_closed, Sch.closed, Dfn.closed, Fld.closed, Par.closed], rfl, rfl, hj'⟩
  · have dk : decide ((k : Int) < (l.length : Int)) = false := by simp; omega
    obtain rfl : k = l.length := by omega
    rw [List.take_length] at hjk
    rw [hjk]
    refine .go ?_
    exact Fin.ret1 rfl (Weak.refl _)
theorem rLeafDefaults9 (s : Sch) (l : List Par) (hs : s.size ≤ 1048576) (hl : sumSize Par.size l ≤ 1048576) : PFn Tryz.prog 140 [s.enc, .slice (l.map Par.enc) .no] (.bool (!l.any fun p => p.has && !leafB s p.t.name)) := by
  have hll := sumSize_length Par.size_pos l
  refine AFn.plain rfl (by simp [AV.closed, AV.closedL, Sch.closed, Par.closedL]) (AFn.enter [4] Tryz.func140 rfl rfl rfl rfl rfl (by decide) ?_)
  rw [show (!l.any fun p => p.has && !leafB s p.t.name) = l.all (fun p => !p.has || leafB s p.t.name) from by exact anyP _ _ (fun p => by cases p.has <;> simp) l]
  refine .gob ?_
  refine HCode.forK l.length (fun k => [(5, .int .i64 k), (1, .slice (l.map Par.enc) .no), (2, .rptr s.enc)]) (fun _ => ⟨[], []⟩) (fun k => (l.take k).all (fun p => !p.has || leafB s p.t.name) = true) ⟨rfl, rfl, rfl, trivial⟩ rfl (by simp) fun k hkk hjk => ?_
  by_cases hk : k < l.length
  · have dk : decide ((k : Int) < (l.length : Int)) = true := by simp [hk]
    have xk := map_get' (f := Par.enc) hk
    have hmk := List.getElem_mem hk
    have hnxk := all_next (p := fun p => !p.has || leafB s p.t.name) hk hjk
    have hspk := all_stop (p := fun p => !p.has || leafB s p.t.name) hk
    try dsimp only at hnxk hspk
    have hz := sumSize_mem (size := Par.size) hmk
    have hz2 := l[k].lens
    have h0 := rLeaf9 s l[k].t.name hs
    cases c0 : l[k].has <;> rw [c0] at hnxk hspk
    · have hj' := hnxk (by simp)
      refine .gob ?_
      exact ⟨hk, ⟨rfl, rfl, rfl, trivial⟩, by simp [belowS, AV.low, AV.low_of_closed, Sch.closed, Dfn.closed, Fld.closed, Par.closed], rfl, rfl, hj'⟩
    cases c1 : leafB s l[k].t.name <;> rw [c1] at h0 hnxk hspk
    · have ha := hspk (by simp)
      rw [ha]
      refine .gob ?_
      exact Fin.ret1 rfl (Weak.refl _)
    have hj' := hnxk (by simp)
    refine .gob ?_
    exact ⟨hk, ⟨rfl, rfl, rfl, trivial⟩, by simp [belowS, AV.low, AV.low_of_closed, Sch.closed, Dfn.closed, Fld.closed, Par.closed], rfl, rfl, hj'⟩
  · have dk : decide ((k : Int) < (l.length : Int)) = false := by simp; omega
    obtain rfl : k = l.length := by omega
    rw [List.take_length] at hjk
    rw [hjk]
    refine .go ?_
    exact Fin.ret1 rfl (Weak.refl _)
theorem rBears9 (s : Sch) (f g : Fld) (hs : s.size ≤ 1048576) (hf : f.size ≤ 1048640) (hg : g.size ≤ 1048640) : PFn Tryz.prog 137 [s.enc, f.enc, g.enc] (.bool (subB s f.t g.t && takesB f g)) := by
  have hfs := f.sums
  have hgs := g.sums
  have hfl := sumSize_length Par.size_pos f.params
  have hgl := sumSize_length Par.size_pos g.params
  have h1 := rSub9 s f.t g.t hs (by omega) (by omega)
  refine AFn.plain rfl (by simp [AV.closed, AV.closedL, Fld.closed, Sch.closed]) (AFn.enter [6] Tryz.func137 rfl rfl rfl rfl rfl (by decide) ?_)
  rw [takes_eq]
  cases c0 : subB s f.t g.t <;> rw [c0] at h1
  · refine .gob ?_
    exact Fin.ret1 rfl (Weak.refl _)
  rw [Bool.true_and]
  refine .gob ?_
  refine HCode.forK g.params.length (fun k => [(7, .int .i64 k), (4, .rptr f.enc), (5, .rptr g.enc)]) (fun _ => ⟨[], []⟩) (fun k => (g.params.take k).all (takes1 f) = true) ⟨rfl, rfl, rfl, trivial⟩ rfl (by simp) fun k hkk hjk => ?_
  by_cases hk : k < g.params.length
  · have dk : decide ((k : Int) < (g.params.length : Int)) = true := by simp [hk]
    have xk := map_get' (f := Par.enc) hk
    have hmk := List.getElem_mem hk
    have hnxk := all_next (p := takes1 f) hk hjk
    have hspk := all_stop (p := takes1 f) hk
    try dsimp only at hnxk hspk
    have hpar := rParam9 f.params g.params[k].name (by omega)
    unfold takes1 at hnxk hspk
    unfold parR at hpar
    cases ho : parO f.params g.params[k].name with
    | none =>
      rw [ho] at hpar hnxk hspk
      have ha : g.params.all (takes1 f) = false := hspk rfl
      rw [ha, Bool.false_and]
      refine .go ?_
      exact Fin.ret1 rfl (Weak.refl _)
    | some q =>
      rw [ho] at hpar hnxk hspk
      simp only at hpar hnxk hspk
      rw [typ_eq] at hnxk hspk
      have hq : eqFs Tryz.prog typeFs2 0 [.str q.t.name, .int .i64 q.t.lists, .int .i64 q.t.musts] [.str g.params[k].t.name, .int .i64 g.params[k].t.lists, .int .i64 g.params[k].t.musts] = some (q.t.name == g.params[k].t.name && (q.t.lists == g.params[k].t.lists && (q.t.musts == g.params[k].t.musts && true))) := rfl
      generalize (q.t.name == g.params[k].t.name && (q.t.lists == g.params[k].t.lists && (q.t.musts == g.params[k].t.musts && true))) = b at hq hnxk hspk
      cases b with
      | true =>
        have hj' := hnxk rfl
        repeat' first | refine .s1 ?_ | (refine .cond rfl ?_ ?_ <;> intro hc) | (refine A.guard rfl ?_ ?_ <;> intro hc) | refine A.neT eq_type2 rfl rfl hq ?_ | fail
        exact ⟨hk, ⟨rfl, rfl, rfl, trivial⟩, by simp [belowS, AV.low, AV.low_of_closed, Sch.closed, Dfn.closed, Fld.closed, Par.closed], rfl, rfl, hj'⟩
      | false =>
        have ha : g.params.all (takes1 f) = false := hspk rfl
        rw [ha, Bool.false_and]
        repeat' first | refine .s1 ?_ | (refine .cond rfl ?_ ?_ <;> intro hc) | (refine A.guard rfl ?_ ?_ <;> intro hc) | refine A.neT eq_type2 rfl rfl hq ?_ | fail
        exact Fin.ret1 rfl (Weak.refl _)
  · have dk : decide ((k : Int) < (g.params.length : Int)) = false := by simp; omega
    obtain rfl : k = g.params.length := by omega
    rw [List.take_length] at hjk
    rw [hjk, Bool.true_and]
    refine .go ?_
    refine HCode.forK f.params.length (fun j => [(10, .int .i64 j), (4, .rptr f.enc), (5, .rptr g.enc)]) (fun _ => ⟨[], []⟩) (fun j => (f.params.take j).all (takes2 g) = true) ⟨rfl, rfl, rfl, trivial⟩ rfl (by simp) fun j hkj hjj => ?_
    by_cases hj : j < f.params.length
    · have dj : decide ((j : Int) < (f.params.length : Int)) = true := by simp [hj]
      have xj := map_get' (f := Par.enc) hj
      have hmj := List.getElem_mem hj
      have hnxj := all_next (p := takes2 g) hj hjj
      have hspj := all_stop (p := takes2 g) hj
      try dsimp only at hnxj hspj
      have hz := sumSize_mem (size := Par.size) hmj
      have hz2 := f.params[j].lens
      have hpar := rParam9 g.params f.params[j].name (by omega)
      have hi := rIs f.params[j].t (by omega)
      unfold takes2 reqB at hnxj hspj
      unfold parR at hpar
      cases ho : parO g.params f.params[j].name with
      | none =>
        rw [ho] at hpar hnxj hspj
        cases c1 : isT f.params[j].t <;> rw [c1] at hi hnxj hspj
        · have hj' := hnxj rfl
          refine .go ?_
          exact ⟨hj, ⟨rfl, rfl, rfl, trivial⟩, by simp [belowS, AV.low, AV.low_of_closed, Sch.closed, Dfn.closed, Fld.closed, Par.closed], rfl, rfl, hj'⟩
        cases c2 : f.params[j].has <;> rw [c2] at hnxj hspj
        · have n2 : (!f.params[j].has) = true := by rw [c2]; rfl
          have ha : f.params.all (takes2 g) = false := hspj rfl
          rw [ha]
          refine .go ?_
          exact Fin.ret1 rfl (Weak.refl _)
        have n2 : (!f.params[j].has) = false := by rw [c2]; rfl
        have hj' := hnxj rfl
        refine .go ?_
        exact ⟨hj, ⟨rfl, rfl, rfl, trivial⟩, by simp [belowS, AV.low, AV.low_of_closed, Sch.closed, Dfn.closed, Fld.closed, Par.closed], rfl, rfl, hj'⟩
      | some q =>
        rw [ho] at hpar hnxj
        have hj' := hnxj rfl
        refine .go ?_
        exact ⟨hj, ⟨rfl, rfl, rfl, trivial⟩, by simp [belowS, AV.low, AV.low_of_closed, Sch.closed, Dfn.closed, Fld.closed, Par.closed], rfl, rfl, hj'⟩
    · have dj : decide ((j : Int) < (f.params.length : Int)) = false := by simp; omega
      obtain rfl : j = f.params.length := by omega
      rw [List.take_length] at hjj
      rw [hjj]
      refine .go ?_
      exact Fin.ret1 rfl (Weak.refl _)
def needL (s : Sch) (l : List Par) : List Str := (l.filter (needRP s)).map fun p => p.t.name
theorem needL_next (s : Sch) {l : List Par} {k : Nat} (h : k < l.length) : needL s (l.take (k + 1)) = needL s (l.take k) ++ (if needRP s l[k] = true then [l[k].t.name] else []) := by
  unfold needL
  rw [List.take_succ_eq_append_getElem h, List.filter_append, List.map_append]
  congr 1
  by_cases c : needRP s l[k] = true
  · simp [c]
  · simp [c]
theorem needL_len (s : Sch) (l : List Par) : (needL s l).length ≤ l.length := by unfold needL; rw [List.length_map]; exact List.length_filter_le ..
theorem rNeeds9N (s : Sch) (name : Str) (hs : s.size ≤ 1048576) : AFn Tryz.prog 138 [s.enc, .str name] ⟨[], []⟩ (fun e σ1 => e = .ret (.slice ((needsR s name).map AV.str) (.own 0 1)) ∧ σ1 = ⟨[], [.len (needsR s name).length]⟩) := by
  have hf := rFind9 s name hs
  have hz := findR_size (name := name) (show s.size ≤ 68719476736 by omega)
  refine AFn.dropped (AFn.enter [4] Tryz.func138 rfl rfl rfl rfl rfl (by decide) ?_)
  unfold needsR
  generalize findR s name = r at hf hz
  obtain ⟨x, ok⟩ := r
  simp only at hf hz ⊢
  refine .gob ?_
  refine HCode.adopt 5 false 1 rfl rfl rfl rfl rfl rfl ?_
  by_cases k5 : x.kind = 5
  · have q5 : (x.kind == 5) = true := by simp [k5]
    rw [if_pos k5]
    refine HCode.forK x.params.length (fun k => [(8, .int .i64 k), (2, .rptr s.enc), (5, .slice ((needL s (x.params.take k)).map AV.str) (.own 0 1)), (6, .ptr 0 0)])
      (fun k => ⟨[.cells [.int .i64 x.kind, .str x.name, .slice (x.faces.map AV.str) .no, .slice (x.fields.map Fld.enc) .no, .slice (x.parts.map AV.str) .no, .slice (x.params.map Par.enc) .no]], [.len (needL s (x.params.take k)).length]⟩) (fun _ => True)
      ⟨rfl, rfl, rfl, rfl, trivial⟩ rfl trivial fun k hk _ => ?_
    by_cases h1 : k < x.params.length
    · have d1 : decide ((k : Int) < (x.params.length : Int)) = true := by simp [h1]
      have x1 := map_get' (f := Par.enc) h1
      have hkd := rIs9 s x.params[k].t.name 5 5 5 hs
      rw [kindB1] at hkd
      have hst := needL_next s h1
      have hln := needL_len s (x.params.take k)
      rw [List.length_take] at hln
      unfold needRP at hst
      generalize needL s (x.params.take k) = xs at hst hln
      have e1 : (x.params[k].t.lists == 0) = decide (x.params[k].t.lists = 0) := by rw [Bool.eq_iff_iff]; simp
      have e2 : (x.params[k].t.musts == 1) = decide (x.params[k].t.musts = 1) := by rw [Bool.eq_iff_iff]; simp
      have fin0 : ∀ b, b = false → (if b = true then [x.params[k].t.name] else ([] : List Str)) = [] := fun b h => by rw [h]; rfl
      cases c1 : decide (x.params[k].t.lists = 0) <;> rw [c1] at e1 hst
      · rw [Bool.false_and, fin0 _ rfl, List.append_nil] at hst
        refine .go ?_
        exact ⟨h1, ⟨rfl, rfl, by rw [hst]; rfl, rfl, trivial⟩, by simp [-List.map_take, belowS, AV.low, AV.low_of_closed, Sch.closed], by simp [belowB, belowT, Ob.low, Tok.low, AV.lowL, AV.low], by rw [hst]; rfl, trivial⟩
      cases c2 : decide (x.params[k].t.musts = 1) <;> rw [c2] at e2 hst
      · rw [Bool.false_and, Bool.and_false, fin0 _ rfl, List.append_nil] at hst
        refine .go ?_
        exact ⟨h1, ⟨rfl, rfl, by rw [hst]; rfl, rfl, trivial⟩, by simp [-List.map_take, belowS, AV.low, AV.low_of_closed, Sch.closed], by simp [belowB, belowT, Ob.low, Tok.low, AV.lowL, AV.low], by rw [hst]; rfl, trivial⟩
      cases c3 : kindB s x.params[k].t.name [5] <;> rw [c3] at hkd hst
      · rw [fin0 (true && (true && false)) rfl, List.append_nil] at hst
        refine .go ?_
        exact ⟨h1, ⟨rfl, rfl, by rw [hst]; rfl, rfl, trivial⟩, by simp [-List.map_take, belowS, AV.low, AV.low_of_closed, Sch.closed], by simp [belowB, belowT, Ob.low, Tok.low, AV.lowL, AV.low], by rw [hst]; rfl, trivial⟩
      rw [if_pos (show (true && (true && true)) = true from rfl)] at hst
      repeat' first | refine .s1 ?_ | (refine .cond rfl ?_ ?_ <;> intro hc) | (refine A.guard rfl ?_ ?_ <;> intro hc) | refine A.append (n := xs.length) rfl rfl rfl rfl rfl rfl rfl rfl (List.length_map ..) rfl (by dsimp only [List.length_cons, List.length_nil]; omega) (by dsimp only [List.length_cons, List.length_nil]; omega) rfl ?_ | fail
      exact ⟨h1, ⟨rfl, rfl, by rw [hst, List.map_append]; rfl, rfl, trivial⟩, by simp [-List.map_take, belowS, AV.low, AV.low_of_closed, Sch.closed], by simp [belowB, belowT, Ob.low, Tok.low, AV.lowL, AV.low], by rw [hst, List.length_append]; rfl, trivial⟩
    · have d1 : decide ((k : Int) < (x.params.length : Int)) = false := by simp; omega
      obtain rfl : k = x.params.length := by omega
      rw [List.take_length]
      refine .go ?_
      exact ⟨.slice ((needL s x.params).map AV.str) (.own 0 1), 0, 1, rfl, Nat.le_refl _, Nat.zero_le _, by simp [AV.low], rfl, by simp [belowT, Tok.low], rfl, rfl⟩
  · have q5 : (x.kind == 5) = false := by simp [k5]
    rw [if_neg k5]
    refine HCode.forK 0 (fun k => [(8, .int .i64 k), (2, .rptr s.enc), (5, .slice [] (.own 0 1)), (6, .ptr 0 0)])
      (fun k => ⟨[.cells [.int .i64 x.kind, .str x.name, .slice (x.faces.map AV.str) .no, .slice (x.fields.map Fld.enc) .no, .slice (x.parts.map AV.str) .no, .slice (x.params.map Par.enc) .no]], [.len 0]⟩) (fun _ => True)
      ⟨rfl, rfl, rfl, rfl, trivial⟩ rfl trivial fun k hk _ => ?_
    by_cases h1 : k < x.params.length
    · have d1 : decide ((k : Int) < (x.params.length : Int)) = true := by simp [h1]
      refine .go ?_
      exact ⟨.slice [] (.own 0 1), 0, 1, rfl, Nat.le_refl _, Nat.zero_le _, by simp [AV.low, AV.lowL], rfl, by simp [belowT, Tok.low], rfl, rfl⟩
    · have d1 : decide ((k : Int) < (x.params.length : Int)) = false := by simp; omega
      refine .go ?_
      exact ⟨.slice [] (.own 0 1), 0, 1, rfl, Nat.le_refl _, Nat.zero_le _, by simp [AV.low, AV.lowL], rfl, by simp [belowT, Tok.low], rfl, rfl⟩
theorem rNeeds9 (s : Sch) (name : Str) (hs : s.size ≤ 1048576) : PFn Tryz.prog 138 [s.enc, .str name] (.slice ((needsR s name).map AV.str) .no) :=
  AFn.plain (str_closedL _) (by simp [AV.closed, AV.closedL, Sch.closed]) ((rNeeds9N s name hs).mono fun e σ h => ⟨_, h.1, Weak.no (WeakL.refl _)⟩)
theorem named_ref (s : Sch) : ((dNames s).all (fun n => !scalarB n) && (sdlOk s && goodNames (dNames s))) = namedB s := by
  cases h : sdlOk s with
  | false => unfold namedB; rw [h]; simp
  | true =>
    have key : ∀ n ∈ dNames s, kindB s n [0] = scalarB n := fun n hn => by
      unfold kindB findR findO
      cases c : scalarB n with
      | true => simp
      | false =>
        simp only [Bool.false_eq_true, if_false]
        cases e : s.defs.find? (fun d => d.name == n) with
        | none => rfl
        | some d =>
          have hk : d.kind ≠ 0 := fun k0 => by
            have := sdl_dfn h (List.mem_of_find?_eq_some e)
            unfold dfnOk at this
            rw [k0] at this
            simp at this
          simp [hk]
    have e1 : (!(dNames s).any fun n => kindB s n [0]) = (dNames s).all fun n => !scalarB n := by
      rw [Bool.eq_iff_iff, Bool.not_eq_true', List.any_eq_false, List.all_eq_true]
      exact ⟨fun h n hn => by have := h n hn; rw [key n hn] at this; simpa using this, fun h n hn => by have := h n hn; rw [key n hn]; simpa using this⟩
    unfold namedB goodNames
    rw [h, e1]
    cases (dNames s).all (fun n => !scalarB n) <;> cases onceB (dNames s) <;> cases foreignB (dNames s) <;> rfl
theorem dNames_size (s : Sch) : strsSize (dNames s) ≤ s.size + 1 := by
  have := strs_le (g := Dfn.name) (size := Dfn.size) (fun d => by unfold Dfn.size; omega) s.defs
  unfold dNames
  unfold Sch.size; omega
theorem rRule1 (s : Sch) (hs : s.size ≤ 1048576) (ho : s.ok) : PFn Tryz.prog 50 [s.enc] (.bool (namedB s)) := by
  have hdn : (dNames s).length ≤ 1048576 := by unfold dNames; rw [List.length_map]; have := s.len; omega
  have g1 := rDefNames9 s hs
  change PFn _ _ _ (.slice ((dNames s).map AV.str) .no) at g1
  have g2 := rRightSchema s hs ho
  have g3 := rOwn9 (dNames s) (by have := dNames_size s; omega)
  refine AFn.plain rfl (by simp [AV.closed, AV.closedL, Sch.closed]) (AFn.enter [2] Tryz.func50 rfl rfl rfl rfl rfl (by decide) ?_)
  rw [← named_ref]
  refine .gob ?_
  refine HCode.forK (dNames s).length (fun k => [(4, .int .i64 k), (3, .slice ((dNames s).map AV.str) .no), (1, .rptr s.enc)]) (fun _ => ⟨[], []⟩) (fun k => ((dNames s).take k).all (fun n => !scalarB n) = true) ⟨rfl, rfl, rfl, trivial⟩ rfl (by simp) fun k hkk hjk => ?_
  by_cases hk : k < (dNames s).length
  · have dk : decide ((k : Int) < ((dNames s).length : Int)) = true := by simp [hk]
    have xk := map_get' (f := AV.str) hk
    have hmk := List.getElem_mem hk
    have hnxk := all_next (p := fun n => !scalarB n) hk hjk
    have hspk := all_stop (p := fun n => !scalarB n) hk
    try dsimp only at hnxk hspk
    have q := rScalar9 (dNames s)[k]
    cases c : scalarB (dNames s)[k] <;> rw [c] at q hnxk hspk
    · have hj' := hnxk rfl
      refine .go ?_
      exact ⟨hk, ⟨rfl, rfl, rfl, trivial⟩, by simp [belowS, AV.low, AV.low_of_closed, Sch.closed, AV.lowL_of_closed, str_closedL], rfl, rfl, hj'⟩
    have ha := hspk rfl
    rw [ha, Bool.false_and]
    refine .go ?_
    exact Fin.ret1 rfl (Weak.refl _)
  · have dk : decide ((k : Int) < ((dNames s).length : Int)) = false := by simp; omega
    obtain rfl : k = (dNames s).length := by omega
    rw [List.take_length] at hjk
    rw [hjk, Bool.true_and]
    cases c : sdlOk s <;> rw [c] at g2
    · refine .gob ?_
      exact Fin.ret1 rfl (Weak.refl _)
    refine .go ?_
    exact Fin.ret1 rfl (Weak.refl _)
theorem rRule3 (s : Sch) (hs : s.size ≤ 1048576) (ho : s.ok) : PFn Tryz.prog 52 [s.enc] (.bool (soleB s)) := by
  have hl := s.len
  refine AFn.plain rfl (by simp [AV.closed, AV.closedL, Sch.closed]) (AFn.enter [2] Tryz.func52 rfl rfl rfl rfl rfl (by decide) ?_)
  rw [show (soleB s) = s.defs.all (fun d => goodNames (d.fields.map Fld.name) && (goodNames (d.params.map Par.name) && (onceB d.parts && (onceB d.faces && d.fields.all fun f => goodNames (f.params.map Par.name))))) from by
      unfold soleB
      rw [every_all]
      congr 1
      funext d
      unfold sole1
      rw [anyN]]
  refine .gob ?_
  refine HCode.forK s.defs.length (fun k => [(3, .int .i64 k), (1, .rptr s.enc)]) (fun _ => ⟨[], []⟩) (fun k => (s.defs.take k).all (fun d => goodNames (d.fields.map Fld.name) && (goodNames (d.params.map Par.name) && (onceB d.parts && (onceB d.faces && d.fields.all fun f => goodNames (f.params.map Par.name))))) = true) ⟨rfl, rfl, trivial⟩ rfl (by simp) fun k hkk hjk => ?_
  by_cases hk : k < s.defs.length
  · have dk : decide ((k : Int) < (s.defs.length : Int)) = true := by simp [hk]
    have xk := map_get' (f := Dfn.enc) hk
    have hmk := List.getElem_mem hk
    have hnxk := all_next (p := fun d => goodNames (d.fields.map Fld.name) && (goodNames (d.params.map Par.name) && (onceB d.parts && (onceB d.faces && d.fields.all fun f => goodNames (f.params.map Par.name))))) hk hjk
    have hspk := all_stop (p := fun d => goodNames (d.fields.map Fld.name) && (goodNames (d.params.map Par.name) && (onceB d.parts && (onceB d.faces && d.fields.all fun f => goodNames (f.params.map Par.name))))) hk
    try dsimp only at hnxk hspk
    have hdz := Sch.dfn hmk
    generalize hd : s.defs[k] = d at *
    have hdl := d.lens
    have hdm := d.sums
    have e1 := strs_le (g := Fld.name) (size := Fld.size) (fun f => by unfold Fld.size; omega) d.fields
    have e2 := strs_le (g := Par.name) (size := Par.size) (fun f => by unfold Par.size; omega) d.params
    have g1 := rFldNames9 d.fields (by omega)
    have g2 := rOwn9 (d.fields.map Fld.name) (by omega)
    have g3 := rParNames9 d.params (by omega)
    have g4 := rOwn9 (d.params.map Par.name) (by omega)
    have g5 := rTwice9 d.parts (by omega)
    have g6 := rTwice9 d.faces (by omega)
    cases cg2 : goodNames (d.fields.map Fld.name) <;> rw [cg2] at g2 hnxk hspk
    · have ha := hspk (by simp)
      rw [ha]
      repeat' first | refine A.allocv (d := 4) rfl rfl rfl rfl rfl ?_ | refine HCode.turn 4 rfl (Turn.freezeP rfl rfl rfl rfl) ?_ | refine .br ?_ | refine .s1 ?_ | (refine .cond rfl ?_ ?_ <;> intro hc) | (refine A.guard rfl ?_ ?_ <;> intro hc) | refine A.vstore (agg := true) rfl rfl rfl rfl rfl rfl rfl rfl rfl rfl rfl ?_ | fail
      exact Fin.ret1 rfl (Weak.refl _)
    cases cg4 : goodNames (d.params.map Par.name) <;> rw [cg4] at g4 hnxk hspk
    · have ha := hspk (by simp)
      rw [ha]
      repeat' first | refine A.allocv (d := 4) rfl rfl rfl rfl rfl ?_ | refine HCode.turn 4 rfl (Turn.freezeP rfl rfl rfl rfl) ?_ | refine .br ?_ | refine .s1 ?_ | (refine .cond rfl ?_ ?_ <;> intro hc) | (refine A.guard rfl ?_ ?_ <;> intro hc) | refine A.vstore (agg := true) rfl rfl rfl rfl rfl rfl rfl rfl rfl rfl rfl ?_ | fail
      exact Fin.ret1 rfl (Weak.refl _)
    cases cg5 : onceB d.parts <;> rw [cg5] at g5 hnxk hspk
    · have ha := hspk (by simp)
      rw [ha]
      repeat' first | refine A.allocv (d := 4) rfl rfl rfl rfl rfl ?_ | refine HCode.turn 4 rfl (Turn.freezeP rfl rfl rfl rfl) ?_ | refine .br ?_ | refine .s1 ?_ | (refine .cond rfl ?_ ?_ <;> intro hc) | (refine A.guard rfl ?_ ?_ <;> intro hc) | refine A.vstore (agg := true) rfl rfl rfl rfl rfl rfl rfl rfl rfl rfl rfl ?_ | fail
      exact Fin.ret1 rfl (Weak.refl _)
    cases cg6 : onceB d.faces <;> rw [cg6] at g6 hnxk hspk
    · have ha := hspk (by simp)
      rw [ha]
      repeat' first | refine A.allocv (d := 4) rfl rfl rfl rfl rfl ?_ | refine HCode.turn 4 rfl (Turn.freezeP rfl rfl rfl rfl) ?_ | refine .br ?_ | refine .s1 ?_ | (refine .cond rfl ?_ ?_ <;> intro hc) | (refine A.guard rfl ?_ ?_ <;> intro hc) | refine A.vstore (agg := true) rfl rfl rfl rfl rfl rfl rfl rfl rfl rfl rfl ?_ | fail
      exact Fin.ret1 rfl (Weak.refl _)
    repeat' first | refine A.allocv (d := 4) rfl rfl rfl rfl rfl ?_ | refine HCode.turn 4 rfl (Turn.freezeP rfl rfl rfl rfl) ?_ | refine .br ?_ | refine .s1 ?_ | (refine .cond rfl ?_ ?_ <;> intro hc) | (refine A.guard rfl ?_ ?_ <;> intro hc) | refine A.vstore (agg := true) rfl rfl rfl rfl rfl rfl rfl rfl rfl rfl rfl ?_ | fail
    refine HCode.forK d.fields.length (fun j => [(5, .int .i64 j), (4, .rptr d.enc), (3, .int .i64 k), (1, .rptr s.enc)]) (fun _ => ⟨[], [.len 2]⟩) (fun j => (d.fields.take j).all (fun f => goodNames (f.params.map Par.name)) = true) ⟨rfl, rfl, rfl, rfl, trivial⟩ rfl (by simp) fun j hkj hjj => ?_
    by_cases hj : j < d.fields.length
    · have dj : decide ((j : Int) < (d.fields.length : Int)) = true := by simp [hj]
      have xj := map_get' (f := Fld.enc) hj
      have hmj := List.getElem_mem hj
      have hnxj := all_next (p := fun f => goodNames (f.params.map Par.name)) hj hjj
      have hspj := all_stop (p := fun f => goodNames (f.params.map Par.name)) hj
      try dsimp only at hnxj hspj
      have z := sumSize_mem (size := Fld.size) hmj
      generalize hf : d.fields[j] = f at *
      have z2 := f.sums
      have z3 := sumSize_length Par.size_pos f.params
      have e3 := strs_le (g := Par.name) (size := Par.size) (fun f => by unfold Par.size; omega) f.params
      have q1 := rParNames9 f.params (by omega)
      have q2 := rOwn9 (f.params.map Par.name) (by omega)
      cases c : goodNames (f.params.map Par.name) <;> rw [c] at q2 hnxj hspj
      · have hi := hspj rfl
        have ha := hspk (by rw [hi]; rfl)
        rw [ha]
        refine .go ?_
        exact Fin.ret1 rfl (Weak.refl _)
      have hj' := hnxj rfl
      refine .go ?_
      exact ⟨hj, ⟨rfl, rfl, rfl, rfl, trivial⟩, by simp [belowS, AV.low, AV.low_of_closed, Sch.closed, Dfn.closed, Fld.closed, Par.closed], rfl, rfl, hj'⟩
    · have dj : decide ((j : Int) < (d.fields.length : Int)) = false := by simp; omega
      obtain rfl : j = d.fields.length := by omega
      rw [List.take_length] at hjj
      have hj' := hnxk (by rw [hjj]; rfl)
      refine .go ?_
      exact ⟨hk, ⟨rfl, rfl, trivial⟩, by simp [belowS, AV.low, AV.low_of_closed, Sch.closed, Dfn.closed, Fld.closed, Par.closed], rfl, rfl, hj'⟩
  · have dk : decide ((k : Int) < (s.defs.length : Int)) = false := by simp; omega
    obtain rfl : k = s.defs.length := by omega
    rw [List.take_length] at hjk
    rw [hjk]
    refine .go ?_
    exact Fin.ret1 rfl (Weak.refl _)
theorem rRule4 (s : Sch) (hs : s.size ≤ 1048576) (ho : s.ok) : PFn Tryz.prog 53 [s.enc] (.bool (typedB s)) := by
  have hl := s.len
  refine AFn.plain rfl (by simp [AV.closed, AV.closedL, Sch.closed]) (AFn.enter [2] Tryz.func53 rfl rfl rfl rfl rfl (by decide) ?_)
  rw [show (typedB s) = s.defs.all (fun d => entriesB s d.params && d.fields.all fun f => (leafB s f.t.name || compB s f.t.name) && entriesB s f.params) from by
      unfold typedB
      rw [every_all]
      congr 1
      funext d
      unfold typed1
      congr 1
      exact anyP _ _ (fun f => by cases leafB s f.t.name <;> cases compB s f.t.name <;> cases entriesB s f.params <;> rfl) _]
  refine .gob ?_
  refine HCode.forK s.defs.length (fun k => [(3, .int .i64 k), (1, .rptr s.enc)]) (fun _ => ⟨[], []⟩) (fun k => (s.defs.take k).all (fun d => entriesB s d.params && d.fields.all fun f => (leafB s f.t.name || compB s f.t.name) && entriesB s f.params) = true) ⟨rfl, rfl, trivial⟩ rfl (by simp) fun k hkk hjk => ?_
  by_cases hk : k < s.defs.length
  · have dk : decide ((k : Int) < (s.defs.length : Int)) = true := by simp [hk]
    have xk := map_get' (f := Dfn.enc) hk
    have hmk := List.getElem_mem hk
    have hnxk := all_next (p := fun d => entriesB s d.params && d.fields.all fun f => (leafB s f.t.name || compB s f.t.name) && entriesB s f.params) hk hjk
    have hspk := all_stop (p := fun d => entriesB s d.params && d.fields.all fun f => (leafB s f.t.name || compB s f.t.name) && entriesB s f.params) hk
    try dsimp only at hnxk hspk
    have hdz := Sch.dfn hmk
    generalize hd : s.defs[k] = d at *
    have hdl := d.lens
    have hdm := d.sums
    have g1 := rEntries9 s d.params hs (by omega)
    cases cg : entriesB s d.params <;> rw [cg] at g1 hnxk hspk
    · have ha := hspk (by simp)
      rw [ha]
      repeat' first | refine A.allocv (d := 4) rfl rfl rfl rfl rfl ?_ | refine HCode.turn 4 rfl (Turn.freezeP rfl rfl rfl rfl) ?_ | refine .br ?_ | refine .s1 ?_ | (refine .cond rfl ?_ ?_ <;> intro hc) | (refine A.guard rfl ?_ ?_ <;> intro hc) | refine A.vstore (agg := true) rfl rfl rfl rfl rfl rfl rfl rfl rfl rfl rfl ?_ | fail
      exact Fin.ret1 rfl (Weak.refl _)
    repeat' first | refine A.allocv (d := 4) rfl rfl rfl rfl rfl ?_ | refine HCode.turn 4 rfl (Turn.freezeP rfl rfl rfl rfl) ?_ | refine .br ?_ | refine .s1 ?_ | (refine .cond rfl ?_ ?_ <;> intro hc) | (refine A.guard rfl ?_ ?_ <;> intro hc) | refine A.vstore (agg := true) rfl rfl rfl rfl rfl rfl rfl rfl rfl rfl rfl ?_ | fail
    refine HCode.forK d.fields.length (fun j => [(5, .int .i64 j), (4, .rptr d.enc), (3, .int .i64 k), (1, .rptr s.enc)]) (fun _ => ⟨[], [.len 2]⟩) (fun j => (d.fields.take j).all (fun f => (leafB s f.t.name || compB s f.t.name) && entriesB s f.params) = true) ⟨rfl, rfl, rfl, rfl, trivial⟩ rfl (by simp) fun j hkj hjj => ?_
    by_cases hj : j < d.fields.length
    · have dj : decide ((j : Int) < (d.fields.length : Int)) = true := by simp [hj]
      have xj := map_get' (f := Fld.enc) hj
      have hmj := List.getElem_mem hj
      have hnxj := all_next (p := fun f => (leafB s f.t.name || compB s f.t.name) && entriesB s f.params) hj hjj
      have hspj := all_stop (p := fun f => (leafB s f.t.name || compB s f.t.name) && entriesB s f.params) hj
      try dsimp only at hnxj hspj
      have z := sumSize_mem (size := Fld.size) hmj
      generalize hf : d.fields[j] = f at *
      have z2 := f.sums
      have q1 := rLeaf9 s f.t.name hs
      have q2 := rComposite9 s f.t.name hs
      have q3 := rEntries9 s f.params hs (by omega)
      cases c1 : leafB s f.t.name <;> rw [c1] at q1 hnxj hspj
      · cases c2 : compB s f.t.name <;> rw [c2] at q2 hnxj hspj
        · have hi := hspj (by simp)
          have ha := hspk (by rw [hi]; rfl)
          rw [ha]
          refine .go ?_
          exact Fin.ret1 rfl (Weak.refl _)
        cases c3 : entriesB s f.params <;> rw [c3] at q3 hnxj hspj
        · have hi := hspj (by simp)
          have ha := hspk (by rw [hi]; rfl)
          rw [ha]
          refine .go ?_
          exact Fin.ret1 rfl (Weak.refl _)
        have hj' := hnxj (by simp)
        refine .go ?_
        exact ⟨hj, ⟨rfl, rfl, rfl, rfl, trivial⟩, by simp [belowS, AV.low, AV.low_of_closed, Sch.closed, Dfn.closed, Fld.closed, Par.closed], rfl, rfl, hj'⟩
      cases c3 : entriesB s f.params <;> rw [c3] at q3 hnxj hspj
      · have hi := hspj (by simp)
        have ha := hspk (by rw [hi]; rfl)
        rw [ha]
        refine .go ?_
        exact Fin.ret1 rfl (Weak.refl _)
      have hj' := hnxj (by simp)
      refine .go ?_
      exact ⟨hj, ⟨rfl, rfl, rfl, rfl, trivial⟩, by simp [belowS, AV.low, AV.low_of_closed, Sch.closed, Dfn.closed, Fld.closed, Par.closed], rfl, rfl, hj'⟩
    · have dj : decide ((j : Int) < (d.fields.length : Int)) = false := by simp; omega
      obtain rfl : j = d.fields.length := by omega
      rw [List.take_length] at hjj
      have hj' := hnxk (by rw [hjj]; rfl)
      refine .go ?_
      exact ⟨hk, ⟨rfl, rfl, trivial⟩, by simp [belowS, AV.low, AV.low_of_closed, Sch.closed, Dfn.closed, Fld.closed, Par.closed], rfl, rfl, hj'⟩
  · have dk : decide ((k : Int) < (s.defs.length : Int)) = false := by simp; omega
    obtain rfl : k = s.defs.length := by omega
    rw [List.take_length] at hjk
    rw [hjk]
    refine .go ?_
    exact Fin.ret1 rfl (Weak.refl _)
def faceOk (s : Sch) (d : Dfn) (n : Str) : Bool := (findR s n).2 && ((findR s n).1.kind == 2 && (!(n == d.name) && (findR s n).1.faces.all fun m => decide (m ∈ d.faces)))
theorem face_ok (s : Sch) (d : Dfn) (n : Str) : faceOk s d n = !face2 s d n := by
  unfold faceOk face2
  rw [← anyN, Bool.not_or, Bool.not_not, Bool.not_or, Bool.not_or]
  unfold bne
  rw [Bool.not_not]
theorem find_x {s : Sch} {n : Str} {x : Dfn} (h : findR s n = (x, true)) (hk : x.kind ≠ 0) : x ∈ s.defs ∧ x.name = n := by
  unfold findR at h
  cases e : findO s n with
  | none => rw [e] at h; cases h
  | some y => rw [e] at h; cases h; exact find_named e hk
theorem rRule5 (s : Sch) (hs : s.size ≤ 1048576) (ho : s.ok) : PFn Tryz.prog 54 [s.enc] (.bool (facesB s)) := by
  have hl := s.len
  refine AFn.plain rfl (by simp [AV.closed, AV.closedL, Sch.closed]) (AFn.enter [2] Tryz.func54 rfl rfl rfl rfl rfl (by decide) ?_)
  rw [show (facesB s) = s.defs.all (fun d => d.faces.all (faceOk s d)) from by
      unfold facesB
      rw [every_all]
      congr 1
      funext d
      unfold faces1
      rw [show faceOk s d = fun n => !face2 s d n from funext fun n => face_ok s d n]
      exact anyP _ _ (fun n => rfl) _]
  refine .gob ?_
  refine HCode.forK s.defs.length (fun k => [(3, .int .i64 k), (1, .rptr s.enc)]) (fun _ => ⟨[], []⟩) (fun k => (s.defs.take k).all (fun d => d.faces.all (faceOk s d)) = true) ⟨rfl, rfl, trivial⟩ rfl (by simp) fun k hkk hjk => ?_
  by_cases hk : k < s.defs.length
  · have dk : decide ((k : Int) < (s.defs.length : Int)) = true := by simp [hk]
    have xk := map_get' (f := Dfn.enc) hk
    have hmk := List.getElem_mem hk
    have hnxk := all_next (p := fun d => d.faces.all (faceOk s d)) hk hjk
    have hspk := all_stop (p := fun d => d.faces.all (faceOk s d)) hk
    try dsimp only at hnxk hspk
    have hdz := Sch.dfn hmk
    generalize hd : s.defs[k] = d at *
    have hdl := d.lens
    have hdm := d.sums
    repeat' first | refine A.allocv (d := 4) rfl rfl rfl rfl rfl ?_ | refine HCode.turn 4 rfl (Turn.freezeP rfl rfl rfl rfl) ?_ | refine .br ?_ | refine .s1 ?_ | (refine .cond rfl ?_ ?_ <;> intro hc) | (refine A.guard rfl ?_ ?_ <;> intro hc) | refine A.vstore (agg := true) rfl rfl rfl rfl rfl rfl rfl rfl rfl rfl rfl ?_ | fail
    refine HCode.forK d.faces.length (fun j => [(5, .int .i64 j), (4, .rptr d.enc), (3, .int .i64 k), (1, .rptr s.enc)]) (fun _ => ⟨[], [.len 2]⟩) (fun j => (d.faces.take j).all (faceOk s d) = true) ⟨rfl, rfl, rfl, rfl, trivial⟩ rfl (by simp) fun j hkj hjj => ?_
    by_cases hj : j < d.faces.length
    · have dj : decide ((j : Int) < (d.faces.length : Int)) = true := by simp [hj]
      have xj := map_get' (f := AV.str) hj
      have hmj := List.getElem_mem hj
      have hnxj := all_next (p := faceOk s d) hj hjj
      have hspj := all_stop (p := faceOk s d) hj
      try dsimp only at hnxj hspj
      have hF := rFind9 s d.faces[j] hs
      have hfx := @find_x s d.faces[j]
      unfold faceOk at hnxj hspj
      generalize hR : findR s d.faces[j] = r at *
      obtain ⟨x, o⟩ := r
      dsimp only at hF hnxj hspj
      cases o with
      | false =>
        have hi := hspj rfl
        have ha := hspk hi
        rw [ha]
        repeat' first | refine A.allocv (d := 6) rfl rfl rfl rfl rfl ?_ | refine HCode.turn 6 rfl (Turn.freezeP rfl rfl rfl rfl) ?_ | refine .s1 ?_ | (refine .cond rfl ?_ ?_ <;> intro hc) | (refine A.guard rfl ?_ ?_ <;> intro hc) | refine A.vstore (agg := true) rfl rfl rfl rfl rfl rfl rfl rfl rfl rfl rfl ?_ | fail
        exact Fin.ret1 rfl (Weak.refl _)
      | true =>
        cases c2 : (x.kind == 2) <;> rw [c2] at hnxj hspj
        · have n2 : (x.kind != 2) = true := by unfold bne; rw [c2]; rfl
          have hi := hspj rfl
          have ha := hspk hi
          rw [ha]
          repeat' first | refine A.allocv (d := 6) rfl rfl rfl rfl rfl ?_ | refine HCode.turn 6 rfl (Turn.freezeP rfl rfl rfl rfl) ?_ | refine .s1 ?_ | (refine .cond rfl ?_ ?_ <;> intro hc) | (refine A.guard rfl ?_ ?_ <;> intro hc) | refine A.vstore (agg := true) rfl rfl rfl rfl rfl rfl rfl rfl rfl rfl rfl ?_ | fail
          exact Fin.ret1 rfl (Weak.refl _)
        have n2 : (x.kind != 2) = false := by unfold bne; rw [c2]; rfl
        obtain ⟨hx1, hx2⟩ := hfx rfl (by have : x.kind = 2 := by simpa using c2
                                         omega)
        have hxl := x.lens
        have hxz := Sch.dfn hx1
        cases c3 : (d.faces[j] == d.name) <;> rw [c3] at hnxj hspj
        rotate_left
        · have n3 : (x.name == d.name) = true := by rw [hx2]; exact c3
          have hi := hspj rfl
          have ha := hspk hi
          rw [ha]
          repeat' first | refine A.allocv (d := 6) rfl rfl rfl rfl rfl ?_ | refine HCode.turn 6 rfl (Turn.freezeP rfl rfl rfl rfl) ?_ | refine .s1 ?_ | (refine .cond rfl ?_ ?_ <;> intro hc) | (refine A.guard rfl ?_ ?_ <;> intro hc) | refine A.vstore (agg := true) rfl rfl rfl rfl rfl rfl rfl rfl rfl rfl rfl ?_ | fail
          exact Fin.ret1 rfl (Weak.refl _)
        have n3 : (x.name == d.name) = false := by rw [hx2]; exact c3
        repeat' first | refine A.allocv (d := 6) rfl rfl rfl rfl rfl ?_ | refine HCode.turn 6 rfl (Turn.freezeP rfl rfl rfl rfl) ?_ | refine .s1 ?_ | (refine .cond rfl ?_ ?_ <;> intro hc) | (refine A.guard rfl ?_ ?_ <;> intro hc) | refine A.vstore (agg := true) rfl rfl rfl rfl rfl rfl rfl rfl rfl rfl rfl ?_ | fail
        refine HCode.forK x.faces.length (fun i => [(8, .int .i64 i), (6, .rptr x.enc), (5, .int .i64 j), (4, .rptr d.enc), (3, .int .i64 k), (1, .rptr s.enc)]) (fun _ => ⟨[], [.len 2, .len 2]⟩) (fun i => (x.faces.take i).all (fun m => decide (m ∈ d.faces)) = true) ⟨rfl, rfl, rfl, rfl, rfl, rfl, trivial⟩ rfl (by simp) fun i hki hji => ?_
        by_cases hi : i < x.faces.length
        · have di : decide ((i : Int) < (x.faces.length : Int)) = true := by simp [hi]
          have xi := map_get' (f := AV.str) hi
          have hmi := List.getElem_mem hi
          have hnxi := all_next (p := fun m => decide (m ∈ d.faces)) hi hji
          have hspi := all_stop (p := fun m => decide (m ∈ d.faces)) hi
          try dsimp only at hnxi hspi
          have hct := rHas d.faces x.faces[i] (by omega)
          cases c4 : decide (x.faces[i] ∈ d.faces) <;> rw [c4] at hct hnxi hspi
          · have h3 := hspi rfl
            have hi := hspj (by rw [h3]; rfl)
            have ha := hspk hi
            rw [ha]
            refine .go ?_
            exact Fin.ret1 rfl (Weak.refl _)
          have hj' := hnxi rfl
          refine .go ?_
          exact ⟨hi, ⟨rfl, rfl, rfl, rfl, rfl, rfl, trivial⟩, by simp [belowS, AV.low, AV.low_of_closed, Sch.closed, Dfn.closed, Fld.closed, Par.closed], rfl, rfl, hj'⟩
        · have di : decide ((i : Int) < (x.faces.length : Int)) = false := by simp; omega
          obtain rfl : i = x.faces.length := by omega
          rw [List.take_length] at hji
          have hj' := hnxj (by rw [hji]; rfl)
          refine .go ?_
          exact ⟨hj, ⟨rfl, rfl, rfl, rfl, trivial⟩, by simp [belowS, AV.low, AV.low_of_closed, Sch.closed, Dfn.closed, Fld.closed, Par.closed], rfl, rfl, hj'⟩
    · have dj : decide ((j : Int) < (d.faces.length : Int)) = false := by simp; omega
      obtain rfl : j = d.faces.length := by omega
      rw [List.take_length] at hjj
      have hj' := hnxk hjj
      refine .go ?_
      exact ⟨hk, ⟨rfl, rfl, trivial⟩, by simp [belowS, AV.low, AV.low_of_closed, Sch.closed, Dfn.closed, Fld.closed, Par.closed], rfl, rfl, hj'⟩
  · have dk : decide ((k : Int) < (s.defs.length : Int)) = false := by simp; omega
    obtain rfl : k = s.defs.length := by omega
    rw [List.take_length] at hjk
    rw [hjk]
    refine .go ?_
    exact Fin.ret1 rfl (Weak.refl _)
end Go.Proofs.YtgghkkeejagfkaaGreatDoor
