/-
  Contracts and plain facts for a law, joined.
-/
import Derived.Test.YtgghkkeejagfkaaGreatDoorGSBC1
import Derived.Test.YtgghkkeejagfkaaGreatDoorGSBC8
import Derived.Test.YtgghkkeejagfkaaGreatDoorGSBC7
import Derived.Test.YtgghkkeejagfkaaGreatDoorGSBC6
import Derived.Test.YtgghkkeejagfkaaGreatDoorGSBC3
import Derived.Lib.TrimUEq
import Derived.Test.YtgghkkeejagfkaaGreatDoorGSBC2
set_option maxRecDepth 100000
set_option maxHeartbeats 16000000
set_option linter.unusedVariables false
set_option linter.unusedSimpArgs false
set_option linter.unusedSectionVars false
namespace Go.Proofs.YtgghkkeejagfkaaGreatDoor
open Go Go.Av
attribute [local irreducible] HCode AOps PFn AFn Av.Step TStep
theorem cPartsD (W : WS) (d : Dfn) (hk : d.kind = 3 ∨ d.kind = 4) (hd : d.size ≤ 1048640) (hW : W.l.length + 8 * d.size + 4 ≤ 1099511627776) : WC 261 (.agg [.ptr 0 0]) [d.enc] W (wPartsD d W) := by
  have hl := lens3 d.faces d.fields d.params
  unfold wPartsD needParts
  rw [← hl]
  by_cases h3 : d.kind = 3
  · rw [if_pos h3]
    exact cUni W d h3 hd hW _ rfl
  · rw [if_neg h3]
    exact cEnu W d (by omega) hd hW _ rfl
def needInp (d : Dfn) : Bool := decide (d.params ≠ []) && decide (d.faces = [] ∧ d.fields = [] ∧ d.parts = [])
def wInp (d : Dfn) (W : WS) : WS := wMark [125] (wPars d.params (wMark [123] (wName d.name (wName sInput W))))
def wDfn (W : WS) (d : Dfn) : WS :=
  if d.kind = 1 then wObj sType d W else if d.kind = 2 then wObj sFace d W else if d.kind = 3 ∨ d.kind = 4 then wPartsD d W else if d.kind = 5 then wInp d (wNeed (needInp d) W) else wNeed false W
theorem len_inp (d : Dfn) (W : WS) : (wInp d W).l.length ≤ W.l.length + 4 * sumSize Par.size d.params + 4 := by
  have h := len_pars d.params (wMark [123] (wName d.name (wName sInput W)))
  rw [len_mark, len_name, len_name] at h
  unfold wInp
  rw [len_mark]; omega
theorem len_dfn (W : WS) (d : Dfn) : (wDfn W d).l.length ≤ W.l.length + 8 * d.size := by
  have h1 := len_obj sType d W
  have h2 := len_obj sFace d W
  have h3 := len_partsD d W
  have h4 := len_inp d (wNeed (needInp d) W)
  rw [len_need] at h4
  have h5 : d.size = d.name.length + strsSize d.faces + sumSize Fld.size d.fields + strsSize d.parts + sumSize Par.size d.params + 5 := rfl
  unfold wDfn
  repeat' split
  · exact h1
  · exact h2
  · exact h3
  · omega
  · rw [len_need]; omega
theorem ok_inp (d : Dfn) (W : WS) : (wInp d W).ok = (W.ok && (nameB d.name && d.params.all parOk)) := by
  show (wPars d.params (wMark [123] (wName d.name (wName sInput W)))).ok = _
  rw [ok_pars]
  show (((W.ok && nameB sInput) && nameB d.name) && _) = _
  rw [nm_sInput, Bool.and_true, Bool.and_assoc]
theorem ok_dfn (W : WS) (d : Dfn) : (wDfn W d).ok = (W.ok && dfnOk d) := by
  unfold wDfn dfnOk
  by_cases h1 : d.kind = 1
  · rw [if_pos h1, if_pos (show d.kind = 1 ∨ d.kind = 2 from .inl h1), ok_obj _ nm_sType]
  by_cases h2 : d.kind = 2
  · rw [if_neg h1, if_pos h2, if_pos (show d.kind = 1 ∨ d.kind = 2 from .inr h2), ok_obj _ nm_sFace]
  rw [if_neg h1, if_neg h2, if_neg (show ¬(d.kind = 1 ∨ d.kind = 2) by omega)]
  by_cases h3 : d.kind = 3
  · rw [if_pos (show d.kind = 3 ∨ d.kind = 4 from .inl h3), if_pos h3]
    unfold wPartsD
    rw [if_pos h3, ok_uni]
    show ((W.ok && needParts d) && _) = _
    unfold needParts
    simp only [Bool.and_assoc]
  by_cases h4 : d.kind = 4
  · rw [if_pos (show d.kind = 3 ∨ d.kind = 4 from .inr h4), if_neg h3, if_pos h4]
    unfold wPartsD
    rw [if_neg h3, ok_enu]
    show ((W.ok && needParts d) && _) = _
    unfold needParts
    simp only [Bool.and_assoc]
  rw [if_neg (show ¬(d.kind = 3 ∨ d.kind = 4) by omega), if_neg h3, if_neg h4]
  by_cases h5 : d.kind = 5
  · rw [if_pos h5, if_pos h5, ok_inp]
    show ((W.ok && needInp d) && _) = _
    unfold needInp
    simp only [Bool.and_assoc]
  · rw [if_neg h5, if_neg h5]
    rfl
theorem cDfn (W : WS) (d : Dfn) (hd : d.size ≤ 1048640) (ho : d.ok) (hW : W.l.length + 8 * d.size + 4 ≤ 1099511627776) : WC 223 (.agg [.ptr 0 0]) [d.enc] W (wDfn W d) := by
  refine WC.of (AFn.enter [] Tryz.func223 rfl rfl rfl rfl rfl (by decide) ?_)
  have hds : d.size = d.name.length + strsSize d.faces + sumSize Fld.size d.fields + strsSize d.parts + sumSize Par.size d.params + 5 := rfl
  have p1 := sumSize_length (size := fun s : Str => s.length + 1) (fun _ => by omega) d.faces
  have p4 := sumSize_length (size := Fld.size) (fun d => by unfold Fld.size; omega) d.fields
  have p5 := sumSize_length (size := fun s : Str => s.length + 1) (fun _ => by omega) d.parts
  have p3 : strsSize d.faces = sumSize (fun s : Str => s.length + 1) d.faces + 1 := rfl
  have p6 : strsSize d.parts = sumSize (fun s : Str => s.length + 1) d.parts + 1 := rfl
  unfold wDfn
  by_cases h1 : d.kind = 1
  · have q1 : (d.kind == 1) = true := by rw [h1]; rfl
    have c1 := cObj W sType d (by decide) hd ho hW
    rw [if_pos h1]
    repeat' first | refine .br ?_ | refine .s1 ?_ | (refine .cond rfl ?_ ?_ <;> intro hc) | (refine A.guard rfl ?_ ?_ <;> intro hc) | refine A.callWC c1 rfl rfl rfl (by simp [AV.closedL, AV.closed, Dfn.closed]) (WeakL.refl _) ?_ | fail
    exact ⟨rfl, rfl, rfl⟩
  have q1 : (d.kind == 1) = false := by simp [h1]
  rw [if_neg h1]
  by_cases h2 : d.kind = 2
  · have q2 : (d.kind == 2) = true := by rw [h2]; rfl
    have c1 := cObj W sFace d (by decide) hd ho hW
    rw [if_pos h2]
    repeat' first | refine .br ?_ | refine .s1 ?_ | (refine .cond rfl ?_ ?_ <;> intro hc) | (refine A.guard rfl ?_ ?_ <;> intro hc) | refine A.callWC c1 rfl rfl rfl (by simp [AV.closedL, AV.closed, Dfn.closed]) (WeakL.refl _) ?_ | fail
    exact ⟨rfl, rfl, rfl⟩
  have q2 : (d.kind == 2) = false := by simp [h2]
  rw [if_neg h2]
  by_cases h3 : d.kind = 3
  · have q3 : (d.kind == 3) = true := by rw [h3]; rfl
    have c1 := cPartsD W d (.inl h3) hd hW
    rw [if_pos (.inl h3)]
    repeat' first | refine .br ?_ | refine .s1 ?_ | (refine .cond rfl ?_ ?_ <;> intro hc) | (refine A.guard rfl ?_ ?_ <;> intro hc) | refine A.callWC c1 rfl rfl rfl (by simp [AV.closedL, AV.closed, Dfn.closed]) (WeakL.refl _) ?_ | fail
    exact ⟨rfl, rfl, rfl⟩
  have q3 : (d.kind == 3) = false := by simp [h3]
  by_cases h4 : d.kind = 4
  · have q4 : (d.kind == 4) = true := by rw [h4]; rfl
    have c1 := cPartsD W d (.inr h4) hd hW
    rw [if_pos (.inr h4)]
    repeat' first | refine .br ?_ | refine .s1 ?_ | (refine .cond rfl ?_ ?_ <;> intro hc) | (refine A.guard rfl ?_ ?_ <;> intro hc) | refine A.callWC c1 rfl rfl rfl (by simp [AV.closedL, AV.closed, Dfn.closed]) (WeakL.refl _) ?_ | fail
    exact ⟨rfl, rfl, rfl⟩
  have q4 : (d.kind == 4) = false := by simp [h4]
  rw [if_neg (fun h => h.elim h3 h4)]
  by_cases h5 : d.kind = 5
  · have q5 : (d.kind == 5) = true := by rw [h5]; rfl
    rw [if_pos h5]
    have hg := len_pos d.params
    unfold needInp
    rw [← lens3 d.faces d.fields d.parts]
    cases hB : decide (d.params ≠ []) with
    | false =>
      have d1 : decide (0 < (d.params.length : Int)) = false := by rw [hg]; exact hB
      have c1 := cNeed W false
      have c2 := cName (wNeed false W) sInput (by decide) (by rw [len_need]; omega)
      have c3 := cName (wName sInput (wNeed false W)) d.name (by omega) (by rw [len_name, len_need]; omega)
      have c4 := cMark (wName d.name (wName sInput (wNeed false W))) [123] (by rw [len_name, len_name, len_need]; omega)
      have c5 := cPars (wMark [123] (wName d.name (wName sInput (wNeed false W)))) d.params (by omega) ho.2 (by rw [len_mark, len_name, len_name, len_need]; omega)
      have l5 := len_pars d.params (wMark [123] (wName d.name (wName sInput (wNeed false W))))
      rw [len_mark, len_name, len_name, len_need] at l5
      have c6 := cMark (wPars d.params (wMark [123] (wName d.name (wName sInput (wNeed false W))))) [125] (by omega)
      repeat' first | refine .br ?_ | refine .s1 ?_ | (refine .cond rfl ?_ ?_ <;> intro hc) | (refine A.guard rfl ?_ ?_ <;> intro hc) | refine A.callWC c1 rfl rfl rfl rfl (WeakL.refl _) ?_ | refine A.callWC c2 rfl rfl rfl rfl (WeakL.refl _) ?_ | refine A.callWC c3 rfl rfl rfl rfl (WeakL.refl _) ?_ | refine A.callWC c4 rfl rfl rfl rfl weak_full ?_ | refine A.callWC c5 rfl rfl rfl (by simp [AV.closedL, AV.closed, Par.closedL]) (WeakL.refl _) ?_ | refine A.callWC c6 rfl rfl rfl rfl weak_full ?_ | fail
      exact ⟨rfl, rfl, rfl⟩
    | true =>
      have d1 : decide (0 < (d.params.length : Int)) = true := by rw [hg]; exact hB
      generalize hb : ((d.faces.length : Int) + (d.fields.length : Int) + (d.parts.length : Int) == 0) = b
      have c1 := cNeed W b
      have c2 := cName (wNeed b W) sInput (by decide) (by rw [len_need]; omega)
      have c3 := cName (wName sInput (wNeed b W)) d.name (by omega) (by rw [len_name, len_need]; omega)
      have c4 := cMark (wName d.name (wName sInput (wNeed b W))) [123] (by rw [len_name, len_name, len_need]; omega)
      have c5 := cPars (wMark [123] (wName d.name (wName sInput (wNeed b W)))) d.params (by omega) ho.2 (by rw [len_mark, len_name, len_name, len_need]; omega)
      have l5 := len_pars d.params (wMark [123] (wName d.name (wName sInput (wNeed b W))))
      rw [len_mark, len_name, len_name, len_need] at l5
      have c6 := cMark (wPars d.params (wMark [123] (wName d.name (wName sInput (wNeed b W))))) [125] (by omega)
      subst hb
      repeat' first | refine .br ?_ | refine .s1 ?_ | (refine .cond rfl ?_ ?_ <;> intro hc) | (refine A.guard rfl ?_ ?_ <;> intro hc) | refine A.callWC c1 rfl rfl rfl rfl (WeakL.refl _) ?_ | refine A.callWC c2 rfl rfl rfl rfl (WeakL.refl _) ?_ | refine A.callWC c3 rfl rfl rfl rfl (WeakL.refl _) ?_ | refine A.callWC c4 rfl rfl rfl rfl weak_full ?_ | refine A.callWC c5 rfl rfl rfl (by simp [AV.closedL, AV.closed, Par.closedL]) (WeakL.refl _) ?_ | refine A.callWC c6 rfl rfl rfl rfl weak_full ?_ | fail
      exact ⟨rfl, rfl, rfl⟩
  have q5 : (d.kind == 5) = false := by simp [h5]
  rw [if_neg h5]
  have c1 := cNeed W false
  repeat' first | refine .br ?_ | refine .s1 ?_ | (refine .cond rfl ?_ ?_ <;> intro hc) | (refine A.guard rfl ?_ ?_ <;> intro hc) | refine A.callWC c1 rfl rfl rfl rfl (WeakL.refl _) ?_ | fail
  exact ⟨rfl, rfl, rfl⟩
theorem cNew : AFn Tryz.prog 220 [] ⟨[], []⟩ (fun e σ => e = .ret (.ptr 0 0) ∧ σ = ⟨[.cells (WS.mk [] true).cs], [.len 0]⟩) := by
  refine AFn.enter [0] Tryz.func220 rfl rfl rfl rfl rfl (by decide) ?_
  repeat' first | refine HCode.adoptB 0 0 true 2 rfl rfl rfl rfl rfl rfl rfl rfl ?_ | refine .s1 ?_ | (refine .cond rfl ?_ ?_ <;> intro hc) | (refine A.guard rfl ?_ ?_ <;> intro hc) | fail
  exact ⟨rfl, rfl⟩
def wSchM (s : Sch) (W : WS) : WS := if s.mutation = [] then W else wName s.mutation (wMark [58] (wName sMut W))
def wSch0 (s : Sch) : WS := wMark [125] (wSchM s (wName s.query (wMark [58] (wName sQuery (wMark [123] (wName sSchema ⟨[], true⟩))))))
def wSch (s : Sch) : WS := s.defs.foldl wDfn (wSch0 s)
theorem len_schM (s : Sch) (W : WS) : (wSchM s W).l.length ≤ W.l.length + 3 := by
  unfold wSchM
  split
  · omega
  · rw [len_name, len_mark, len_name]; omega
theorem len_sch0 (s : Sch) : (wSch0 s).l.length ≤ 9 := by
  have h := len_schM s (wName s.query (wMark [58] (wName sQuery (wMark [123] (wName sSchema ⟨[], true⟩)))))
  rw [len_name, len_mark, len_name, len_mark, len_name] at h
  simp only [List.length_nil] at h
  unfold wSch0
  rw [len_mark]; omega
theorem ok_sch (s : Sch) : (wSch s).ok = sdlOk s := by
  unfold wSch sdlOk
  rw [fold_ok wDfn dfnOk ok_dfn]
  have h0 : (wSch0 s).ok = (nameB s.query && (s.mutation == [] || nameB s.mutation)) := by
    show (wSchM s (wName s.query (wMark [58] (wName sQuery (wMark [123] (wName sSchema ⟨[], true⟩)))))).ok = _
    have h1 : (wName s.query (wMark [58] (wName sQuery (wMark [123] (wName sSchema ⟨[], true⟩))))).ok = nameB s.query := by
      show (((true && nameB sSchema) && nameB sQuery) && nameB s.query) = _
      rw [nm_sSchema, nm_sQuery]; rfl
    unfold wSchM
    by_cases h : s.mutation = []
    · rw [if_pos h, h1, h]; simp
    · rw [if_neg h]
      show (((wName s.query (wMark [58] (wName sQuery (wMark [123] (wName sSchema ⟨[], true⟩))))).ok && nameB sMut) && nameB s.mutation) = _
      rw [h1, nm_sMut, show (s.mutation == []) = false from beq_eq_false_iff_ne.2 h, Bool.false_or, Bool.and_true]
  rw [h0, Bool.and_assoc]
theorem len_dfns (l : List Dfn) (W : WS) : (l.foldl wDfn W).l.length ≤ W.l.length + 8 * sumSize Dfn.size l := by
  have := fold_len wDfn (fun m => 8 * m.size) len_dfn l W
  rwa [sum_mul] at this
theorem sTokens (s : Sch) (hs : s.size ≤ 1048640) (ho : s.ok) : PFn Tryz.prog 173 [s.enc] (.tup [.slice ((wSch s).l.map Tkn.enc) .no, .bool (wSch s).ok]) := by
  refine AFn.plain (by simp [AV.closed, AV.closedL, Tkn.closedL]) (by simp [AV.closedL, Sch.closed]) (AFn.enter [2, 3] Tryz.func173 rfl rfl rfl rfl rfl (by decide) ?_)
  have hss : s.size = sumSize Dfn.size s.defs + s.query.length + s.mutation.length + 4 := rfl
  have hL := sumSize_length (size := Dfn.size) (fun d => by unfold Dfn.size; omega) s.defs
  have hll : (s.defs.map Dfn.enc).length = s.defs.length := List.length_map ..
  have c0 := cNew
  have c1 := cName ⟨[], true⟩ sSchema (by decide) (by decide)
  have c2 := cMark (wName sSchema ⟨[], true⟩) [123] (by rw [len_name]; decide)
  have c3 := cName (wMark [123] (wName sSchema ⟨[], true⟩)) sQuery (by decide) (by rw [len_mark, len_name]; decide)
  have c4 := cMark (wName sQuery (wMark [123] (wName sSchema ⟨[], true⟩))) [58] (by rw [len_name, len_mark, len_name]; decide)
  have c5 := cName (wMark [58] (wName sQuery (wMark [123] (wName sSchema ⟨[], true⟩)))) s.query (by omega) (by rw [len_mark, len_name, len_mark, len_name]; decide)
  have l5 : (wName s.query (wMark [58] (wName sQuery (wMark [123] (wName sSchema ⟨[], true⟩))))).l.length = 5 := by rw [len_name, len_mark, len_name, len_mark, len_name]; rfl
  have hW0 : wSch0 s = wMark [125] (wSchM s (wName s.query (wMark [58] (wName sQuery (wMark [123] (wName sSchema ⟨[], true⟩)))))) := rfl
  have l0 := len_sch0 s
  unfold wSch
  generalize hW5 : wName s.query (wMark [58] (wName sQuery (wMark [123] (wName sSchema ⟨[], true⟩)))) = W5 at *
  have c6 := cName W5 sMut (by decide) (by omega)
  have c7 := cMark (wName sMut W5) [58] (by rw [len_name]; omega)
  have c8 := cName (wMark [58] (wName sMut W5)) s.mutation (by omega) (by rw [len_mark, len_name]; omega)
  by_cases hfalse : (s.mutation != []) = false
  · have hW1 : wSch0 s = wMark [125] _ := hW0.trans (congrArg (wMark [125]) (if_pos (by simpa using hfalse)))
    have lm := len_schM s W5
    have c9 := cMark (wSchM s W5) [125] (by omega)
    rw [show wSchM s W5 = _ from if_pos (by simpa using hfalse)] at c9
    generalize hWa : wMark [125] _ = Wa at c9 hW1
    rw [hW1] at l0 ⊢
    repeat' first | refine .br ?_ | refine .s1 ?_ | (refine .cond rfl ?_ ?_ <;> intro hc) | (refine A.guard rfl ?_ ?_ <;> intro hc) | refine A.callNB c0 rfl rfl rfl (WeakL.refl _) rfl rfl ?_ | refine A.nilPtr rfl ?_ | refine A.callWC c1 rfl rfl rfl rfl (WeakL.refl _) ?_ | refine A.callWC c2 rfl rfl rfl rfl weak_full ?_ | refine A.callWC c3 rfl rfl rfl rfl (WeakL.refl _) ?_ | refine A.callWC c4 rfl rfl rfl rfl weak_full ?_ | refine A.callWC c5 rfl rfl rfl rfl (WeakL.refl _) ?_ | refine A.callWC c6 rfl rfl rfl rfl (WeakL.refl _) ?_ | refine A.callWC c7 rfl rfl rfl rfl weak_full ?_ | refine A.callWC c8 rfl rfl rfl rfl (WeakL.refl _) ?_ | refine A.callWC c9 rfl rfl rfl rfl weak_full ?_ | fail
    refine HCode.forK s.defs.length (fun k => [(50, .int .i64 k), (49, .int .i64 s.defs.length), (48, .slice (s.defs.map Dfn.enc) .no), (4, .ptr 1 0)]) (fun k => wst2 ((s.defs.take k).foldl wDfn Wa)) (fun _ => True) ⟨rfl, by rw [← hll]; rfl, rfl, rfl, trivial⟩ rfl trivial fun k hk _ => ?_
    have hlen := len_dfns (s.defs.take k) Wa
    by_cases h1 : k < s.defs.length
    · have d1 : decide ((k : Int) < (s.defs.length : Int)) = true := by simp [h1]
      have x1 := map_get' (f := Dfn.enc) h1
      have hm := wsum_le Dfn.size s.defs k h1
      have hn := fold_take' wDfn h1 Wa
      have hdo := ho s.defs[k] (List.getElem_mem h1)
      generalize hWk : (s.defs.take k).foldl wDfn Wa = Wk at *
      have c10 := cDfn Wk s.defs[k] (by omega) hdo (by omega)
      repeat' first | refine .s1 ?_ | (refine .cond rfl ?_ ?_ <;> intro hc) | (refine A.guard rfl ?_ ?_ <;> intro hc) | refine A.callWC c10 rfl rfl rfl (by simp [AV.closedL, AV.closed, Dfn.closed]) (WeakL.refl _) ?_ | fail
      exact ⟨h1, ⟨rfl, rfl, rfl, rfl, trivial⟩, by simp [belowS, AV.low], wst_below2 _, (congrArg wst2 hn).symm, trivial⟩
    · have d1 : decide ((k : Int) < (s.defs.length : Int)) = false := by simp; omega
      obtain rfl : k = s.defs.length := by omega
      rw [List.take_length] at *
      repeat' first | refine .s1 ?_ | (refine .cond rfl ?_ ?_ <;> intro hc) | (refine A.guard rfl ?_ ?_ <;> intro hc) | refine A.nilPtr rfl ?_ | fail
      exact ⟨_, rfl, Weak.tup (WeakL.cons (Weak.no (WeakL.refl _)) (WeakL.refl _))⟩
  by_cases htrue : (s.mutation != []) = true
  · have hW1 : wSch0 s = wMark [125] _ := hW0.trans (congrArg (wMark [125]) (if_neg (by simpa using htrue)))
    have lm := len_schM s W5
    have c9 := cMark (wSchM s W5) [125] (by omega)
    rw [show wSchM s W5 = _ from if_neg (by simpa using htrue)] at c9
    generalize hWa : wMark [125] _ = Wa at c9 hW1
    rw [hW1] at l0 ⊢
    repeat' first | refine .br ?_ | refine .s1 ?_ | (refine .cond rfl ?_ ?_ <;> intro hc) | (refine A.guard rfl ?_ ?_ <;> intro hc) | refine A.callNB c0 rfl rfl rfl (WeakL.refl _) rfl rfl ?_ | refine A.nilPtr rfl ?_ | refine A.callWC c1 rfl rfl rfl rfl (WeakL.refl _) ?_ | refine A.callWC c2 rfl rfl rfl rfl weak_full ?_ | refine A.callWC c3 rfl rfl rfl rfl (WeakL.refl _) ?_ | refine A.callWC c4 rfl rfl rfl rfl weak_full ?_ | refine A.callWC c5 rfl rfl rfl rfl (WeakL.refl _) ?_ | refine A.callWC c6 rfl rfl rfl rfl (WeakL.refl _) ?_ | refine A.callWC c7 rfl rfl rfl rfl weak_full ?_ | refine A.callWC c8 rfl rfl rfl rfl (WeakL.refl _) ?_ | refine A.callWC c9 rfl rfl rfl rfl weak_full ?_ | fail
    refine HCode.forK s.defs.length (fun k => [(50, .int .i64 k), (49, .int .i64 s.defs.length), (48, .slice (s.defs.map Dfn.enc) .no), (4, .ptr 1 0)]) (fun k => wst2 ((s.defs.take k).foldl wDfn Wa)) (fun _ => True) ⟨rfl, by rw [← hll]; rfl, rfl, rfl, trivial⟩ rfl trivial fun k hk _ => ?_
    have hlen := len_dfns (s.defs.take k) Wa
    by_cases h1 : k < s.defs.length
    · have d1 : decide ((k : Int) < (s.defs.length : Int)) = true := by simp [h1]
      have x1 := map_get' (f := Dfn.enc) h1
      have hm := wsum_le Dfn.size s.defs k h1
      have hn := fold_take' wDfn h1 Wa
      have hdo := ho s.defs[k] (List.getElem_mem h1)
      generalize hWk : (s.defs.take k).foldl wDfn Wa = Wk at *
      have c10 := cDfn Wk s.defs[k] (by omega) hdo (by omega)
      repeat' first | refine .s1 ?_ | (refine .cond rfl ?_ ?_ <;> intro hc) | (refine A.guard rfl ?_ ?_ <;> intro hc) | refine A.callWC c10 rfl rfl rfl (by simp [AV.closedL, AV.closed, Dfn.closed]) (WeakL.refl _) ?_ | fail
      exact ⟨h1, ⟨rfl, rfl, rfl, rfl, trivial⟩, by simp [belowS, AV.low], wst_below2 _, (congrArg wst2 hn).symm, trivial⟩
    · have d1 : decide ((k : Int) < (s.defs.length : Int)) = false := by simp; omega
      obtain rfl : k = s.defs.length := by omega
      rw [List.take_length] at *
      repeat' first | refine .s1 ?_ | (refine .cond rfl ?_ ?_ <;> intro hc) | (refine A.guard rfl ?_ ?_ <;> intro hc) | refine A.nilPtr rfl ?_ | fail
      exact ⟨_, rfl, Weak.tup (WeakL.cons (Weak.no (WeakL.refl _)) (WeakL.refl _))⟩
  exfalso
  cases h : (s.mutation != []) <;> simp_all
theorem wSdl (s : Sch) (hs : s.size ≤ 1048640) (ho : s.ok) : PFn Tryz.prog 87 [s.enc] (.bool (sdlOk s)) := by
  have h := sTokens s hs ho
  rw [ok_sch] at h
  refine AFn.plain rfl (by simp [AV.closedL, Sch.closed]) (AFn.enter [2] Tryz.func87 rfl rfl rfl rfl rfl (by decide) ?_)
  refine .gob ?_
  exact Fin.ret1 rfl (Weak.refl _)
theorem wNamed1 (s : Sch) (n : Str) (hs : s.size ≤ 1048640) : PFn Tryz.prog 91 [.str n, .rptr s.enc] (.bool (kindB s n [0])) := by
  have h := dKind s n [0] (by omega) (by decide)
  refine AFn.plain rfl (by simp [AV.closedL, AV.closed, Sch.closed]) (AFn.enter [3] Tryz.func91 rfl rfl rfl rfl rfl (by decide) ?_)
  refine .gob ?_
  exact Fin.ret1 rfl (Weak.refl _)
theorem wNamed (s : Sch) (hs : s.size ≤ 1048640) (ho : s.ok) : PFn Tryz.prog 40 [s.enc] (.bool (namedB s)) := by
  have hss : s.size = sumSize Dfn.size s.defs + s.query.length + s.mutation.length + 4 := rfl
  have hL := sumSize_length (size := Dfn.size) (fun d => by unfold Dfn.size; omega) s.defs
  have hN : strsSize (dNames s) ≤ s.size := by
    have aux : ∀ l : List Dfn, sumSize (fun s : Str => s.length + 1) (l.map Dfn.name) ≤ sumSize Dfn.size l := fun l => by
      induction l with
      | nil => simp [sumSize]
      | cons d l ih =>
        have : d.name.length + 1 ≤ d.size := by unfold Dfn.size; omega
        rw [List.map_cons, sumSize, sumSize]; omega
    have := aux s.defs
    unfold strsSize dNames; omega
  have hNl : (dNames s).length = s.defs.length := List.length_map ..
  have h1 := wNamesDfn s.defs (by omega)
  have h2 := wSdl s hs ho
  have h3 := wOnce (dNames s) (by omega)
  have h4 := wForeign (dNames s) (by omega)
  have h5 := sContainsFStr (dNames s) 91 [.rptr s.enc] (fun n => kindB s n [0]) (by omega) (by simp [AV.closedL, AV.closed, Sch.closed]) (fun x hx => wNamed1 s x hs)
  refine AFn.plain rfl (by simp [AV.closedL, Sch.closed]) (AFn.enter [2] Tryz.func40 rfl rfl rfl rfl rfl (by decide) ?_)
  unfold namedB
  have h1' : PFn Tryz.prog 85 [.slice (s.defs.map Dfn.enc) .no, .fn (.func 86) [] []] (.slice ((dNames s).map AV.str) .no) := h1
  cases e1 : sdlOk s with
  | false =>
    rw [e1] at h2
    repeat' first | refine .br ?_ | refine .s1 ?_ | (refine .cond rfl ?_ ?_ <;> intro hc) | (refine A.guard rfl ?_ ?_ <;> intro hc) | refine A.call rfl h1' (WeakL.refl _) ?_ | refine A.call rfl h2 (WeakL.refl _) ?_ | fail
    exact Fin.ret1 rfl (Weak.refl _)
  | true =>
    rw [e1] at h2
    cases e2 : onceB (dNames s) with
    | false =>
      rw [e2] at h3
      repeat' first | refine .br ?_ | refine .s1 ?_ | (refine .cond rfl ?_ ?_ <;> intro hc) | (refine A.guard rfl ?_ ?_ <;> intro hc) | refine A.call rfl h1' (WeakL.refl _) ?_ | refine A.call rfl h2 (WeakL.refl _) ?_ | refine A.call rfl h3 (WeakL.refl _) ?_ | fail
      exact Fin.ret1 rfl (Weak.refl _)
    | true =>
      rw [e2] at h3
      cases e3 : foreignB (dNames s) with
      | false =>
        rw [e3] at h4
        repeat' first | refine .br ?_ | refine .s1 ?_ | (refine .cond rfl ?_ ?_ <;> intro hc) | (refine A.guard rfl ?_ ?_ <;> intro hc) | refine A.call rfl h1' (WeakL.refl _) ?_ | refine A.call rfl h2 (WeakL.refl _) ?_ | refine A.call rfl h3 (WeakL.refl _) ?_ | refine A.call rfl h4 (WeakL.refl _) ?_ | fail
        exact Fin.ret1 rfl (Weak.refl _)
      | true =>
        rw [e3] at h4
        repeat' first | refine .br ?_ | refine .s1 ?_ | (refine .cond rfl ?_ ?_ <;> intro hc) | (refine A.guard rfl ?_ ?_ <;> intro hc) | refine A.call rfl h1' (WeakL.refl _) ?_ | refine A.call rfl h2 (WeakL.refl _) ?_ | refine A.call rfl h3 (WeakL.refl _) ?_ | refine A.call rfl h4 (WeakL.refl _) ?_ | refine A.call rfl h5 (WeakL.refl _) ?_ | fail
        exact Fin.ret1 rfl (Weak.refl _)
theorem wCheckS (s : Sch) (hs : s.size ≤ 1048640) (ho : s.ok) : PFn Tryz.prog 9 [s.enc] (.int .i64 (checkI s)) := wCheck s hs (wNamed s hs ho)
end Go.Proofs.YtgghkkeejagfkaaGreatDoor
namespace Go.Proofs.YtgghkkeejagfkaaGreatDoor
open Go Go.Av
section
variable {s s' : Sch} (hf : ∀ n, findO s' n = findO s n)
include hf
end
theorem find_named {s : Sch} {n : Str} {d : Dfn} (h : findO s n = some d) (hk : d.kind ≠ 0) : d ∈ s.defs ∧ d.name = n := by
  unfold findO at h
  split at h
  · cases h; exact absurd rfl hk
  · exact ⟨List.mem_of_find?_eq_some h, by simpa using List.find?_some h⟩
end Go.Proofs.YtgghkkeejagfkaaGreatDoor
namespace Go.Proofs.YtgghkkeejagfkaaGreatDoor
open Go Go.Av
attribute [local irreducible] HCode AOps PFn AFn Av.Step TStep
def schA : Sch := ⟨[⟨1, [81, 117, 101, 114, 121], [], [⟨[97], [], ⟨[73, 110, 116], 0, 0⟩, []⟩], [], []⟩], [81, 117, 101, 114, 121], []⟩
def schB : Sch := ⟨[], [81, 117, 101, 114, 121], []⟩
theorem schA_ok : schA.ok := fun d hd => by
  simp only [schA, List.mem_cons, List.not_mem_nil, or_false] at hd
  subst hd
  refine ⟨fun f hf => ?_, fun p hp => by simp at hp⟩
  simp only [List.mem_cons, List.not_mem_nil, or_false] at hf
  subst hf
  exact ⟨fun p hp => by simp at hp, fun p hp => by simp at hp⟩
theorem schB_ok : schB.ok := fun d hd => by simp [schB] at hd
theorem schA_check : checkI schA = 0 := by decide +kernel
theorem schB_check : checkI schB = 2 := by decide +kernel
theorem schA_9 : ruleB schA 9 = true := by decide +kernel
theorem schA_10 : ruleB schA 10 = false := by decide +kernel
theorem weak_schA {t1 t2 t3 t4 t5 t6 t7 : Tk} : WeakL [.agg [.slice [.agg [.int .i64 1, .str [81, 117, 101, 114, 121], .slice [] t1, .slice [.agg [.str [97], .slice [] t2, .str [73, 110, 116], .int .i64 0, .int .i64 0, .slice [] t3]] t4, .slice [] t5, .slice [] t6]] t7, .str [81, 117, 101, 114, 121], .str []]] [schA.enc] := by
  refine WeakL.cons (Weak.agg (WeakL.cons (Weak.no (WeakL.cons ?_ (WeakL.refl _))) (WeakL.refl _))) (WeakL.refl _)
  refine Weak.agg (WeakL.cons (Weak.refl _) (WeakL.cons (Weak.refl _) (WeakL.cons (Weak.no (WeakL.refl _)) (WeakL.cons (Weak.no (WeakL.cons ?_ (WeakL.refl _))) (WeakL.cons (Weak.no (WeakL.refl _)) (WeakL.cons (Weak.no (WeakL.refl _)) (WeakL.refl _)))))))
  exact Weak.agg (WeakL.cons (Weak.refl _) (WeakL.cons (Weak.no (WeakL.refl _)) (WeakL.cons (Weak.refl _) (WeakL.cons (Weak.refl _) (WeakL.cons (Weak.refl _) (WeakL.cons (Weak.no (WeakL.refl _)) (WeakL.refl _)))))))
theorem weak_schA9 {n : Int} {t1 t2 t3 t4 t5 t6 t7 : Tk} : WeakL [.agg [.slice [.agg [.int .i64 1, .str [81, 117, 101, 114, 121], .slice [] t1, .slice [.agg [.str [97], .slice [] t2, .str [73, 110, 116], .int .i64 0, .int .i64 0, .slice [] t3]] t4, .slice [] t5, .slice [] t6]] t7, .str [81, 117, 101, 114, 121], .str []], .int .i64 n] [schA.enc, .int .i64 n] := by
  refine WeakL.cons ?_ (WeakL.refl _)
  exact (fun g w v h => by
    obtain ⟨u, r, e, h1, h2⟩ := weak_schA (t1 := t1) (t2 := t2) (t3 := t3) (t4 := t4) (t5 := t5) (t6 := t6) (t7 := t7) g w [v] ⟨v, [], rfl, h, rfl⟩
    cases e
    exact h1)
theorem weak_schB {t : Tk} : WeakL [.agg [.slice [] t, .str [81, 117, 101, 114, 121], .str []]] [schB.enc] := WeakL.cons (Weak.agg (WeakL.cons (Weak.no (WeakL.refl _)) (WeakL.refl _))) (WeakL.refl _)
theorem awake11 : PFn Tryz.prog 7 [] (.bool true) := by
  have h1 := wCheckS schA (by decide) schA_ok
  rw [schA_check] at h1
  have h2 := wCheckS schB (by decide) schB_ok
  rw [schB_check] at h2
  have h3 := wRule schA 9 (by decide) (wNamed schA (by decide) schA_ok)
  rw [schA_9] at h3
  have h4 := wRule schA 10 (by decide) (wNamed schA (by decide) schA_ok)
  rw [schA_10] at h4
  refine AFn.plain rfl rfl (AFn.enter [0] Tryz.func7 rfl rfl rfl rfl rfl (by decide) ?_)
  repeat' first | refine A.call rfl h1 weak_schA ?_ | refine A.call rfl h2 weak_schB ?_ | refine A.call rfl h3 weak_schA9 ?_ | refine A.call rfl h4 weak_schA9 ?_ | refine .seq ?_ | refine .rg ?_ | refine .rd ?_ | refine .block ?_ | refine .scope ?_ | refine .skip ?_ | refine .label ?_ | refine .exit ?_ | refine .ret ?_ | refine .ct ?_ | refine .cf ?_ | refine .cy ?_ | refine .cn ?_ | (refine .cond rfl ?_ ?_ <;> intro hc) | refine A.nil_seq ?_ | refine .nl ?_ | refine .dd ?_ | refine .ys ?_ | refine .no ?_ | (refine A.guard rfl ?_ ?_ <;> intro hc) | refine .lb ?_ | refine .ln ?_ | refine .ls ?_ | refine .pv ?_ | refine .ix ?_ | refine .pt ?_ | refine .pf ?_ | refine .bx ?_ | refine .al ?_ | refine .st ?_ | refine .ad ?_ | refine .sb ?_ | refine .mf ?_ | refine .cl ?_ | refine .cw ?_ | refine .ck ?_ | fail
  exact Fin.ret1 rfl (Weak.refl _)
theorem rStart (c : UInt8) : PFn Tryz.prog 233 [.int .u8 (c.toNat : Int)] (.bool (letC c)) := by
  refine AFn.plain rfl rfl (AFn.enter [2] Tryz.func233 rfl rfl rfl rfl rfl (by decide) ?_)
  repeat' first | refine .s1 ?_ | (refine .cond rfl ?_ ?_ <;> intro hc) | (refine A.guard rfl ?_ ?_ <;> intro hc) | fail
  all_goals
    refine Fin.ret1 rfl (Weak.eq (congrArg AV.bool ?_))
    unfold letC; rw [Bool.eq_iff_iff]; simp at *; omega
theorem rDigit (c : UInt8) : PFn Tryz.prog 234 [.int .u8 (c.toNat : Int)] (.bool (digC c)) := by
  refine AFn.plain rfl rfl (AFn.enter [2] Tryz.func234 rfl rfl rfl rfl rfl (by decide) ?_)
  repeat' first | refine .s1 ?_ | (refine .cond rfl ?_ ?_ <;> intro hc) | (refine A.guard rfl ?_ ?_ <;> intro hc) | fail
  all_goals
    refine Fin.ret1 rfl (Weak.eq (congrArg AV.bool ?_))
    unfold digC; rw [Bool.eq_iff_iff]; simp at *; omega
theorem rName (s : Str) (hs : s.length ≤ 9223372036854775806) : PFn Tryz.prog 191 [.str s] (.bool (nameB s)) := by
  refine AFn.plain rfl rfl (AFn.enter [2] Tryz.func191 rfl rfl rfl rfl rfl (by decide) ?_)
  by_cases h0 : s = []
  · subst h0
    refine .go ?_
    exact Fin.ret1 rfl (Weak.refl _)
  · have e0 : (s == []) = false := by simpa using h0
    have hl : 0 < s.length := List.length_pos_iff.2 h0
    have x0 : s[0]? = some s[0] := get_str hl
    have hst := rStart s[0]
    have hn : nameB s = (letC s[0] && nmC false (s.drop 1)) := by
      cases s with
      | nil => exact absurd rfl h0
      | cons c r => simp [nameB, nmC]
    repeat' first | refine .s1 ?_ | (refine .cond rfl ?_ ?_ <;> intro hc) | (refine A.guard rfl ?_ ?_ <;> intro hc) | refine .is ?_ | fail
    · refine Fin.ret1 rfl (Weak.eq (congrArg AV.bool ?_))
      rw [hn]; simp_all
    · refine HCode.forK (s.length - 1) (fun k => [(3, .int .i64 ((k + 1 : Nat) : Int)), (0, .str s)]) (fun _ => ⟨[], []⟩) (fun k => nameB s = nmC false (s.drop (k + 1))) ⟨rfl, rfl, trivial⟩ rfl (by rw [hn]; simp_all) fun k hk hp => ?_
      by_cases h1 : k + 1 < s.length
      · have d1 : decide (((k + 1 : Nat) : Int) < (s.length : Int)) = true := decide_eq_true (by omega)
        have x1 := get_str h1
        have h2 := rStart s[k + 1]
        have h3 := rDigit s[k + 1]
        have hd := nmC_drop (z := false) h1
        repeat' first | refine .s1 ?_ | (refine .cond rfl ?_ ?_ <;> intro hc) | (refine A.guard rfl ?_ ?_ <;> intro hc) | refine .is ?_ | fail
        all_goals first | (refine Fin.ret1 rfl (Weak.eq (congrArg AV.bool ?_)); rw [hp, hd]; simp_all; done) | (exact ⟨by omega, ⟨rfl, rfl, trivial⟩, by simp [belowS, AV.low], rfl, rfl, by rw [hp, hd]; simp_all⟩)
      · have d1 : decide (((k + 1 : Nat) : Int) < (s.length : Int)) = false := decide_eq_false (by omega)
        refine .go ?_
        refine Fin.ret1 rfl (Weak.eq (congrArg AV.bool ?_))
        rw [hp, List.drop_eq_nil_of_le (by omega), nmC]
theorem rHas (l : List Str) (x : Str) (hl : l.length ≤ 9223372036854775807) : PFn Tryz.prog 135 [.slice (l.map AV.str) .no, .str x] (.bool (decide (x ∈ l))) := by
  refine AFn.plain rfl (by simp [AV.closed, AV.closedL, str_closedL]) (AFn.enter [4] Tryz.func135 rfl rfl rfl rfl rfl (by decide) ?_)
  refine .go ?_
  refine HCode.forK l.length (fun k => [(5, .int .i64 k), (0, .slice (l.map AV.str) .no), (1, .str x)]) (fun _ => ⟨[], []⟩) (fun k => decide (x ∈ l) = decide (x ∈ l.drop k)) ⟨rfl, rfl, rfl, trivial⟩ rfl rfl fun k hk hp => ?_
  by_cases h1 : k < l.length
  · have d1 : decide ((k : Int) < (l.length : Int)) = true := by simp [h1]
    have x1 := map_get' (f := AV.str) h1
    have hd : (x ∈ l.drop k) ↔ (x = l[k] ∨ x ∈ l.drop (k + 1)) := by rw [List.drop_eq_getElem_cons h1, List.mem_cons]
    repeat' first | refine .s1 ?_ | (refine .cond rfl ?_ ?_ <;> intro hc) | (refine A.guard rfl ?_ ?_ <;> intro hc) | fail
    · refine Fin.ret1 rfl (Weak.eq (congrArg AV.bool ?_))
      rw [hp, Eq.comm, decide_eq_true_eq, hd]
      exact .inl (by simpa using Eq.symm (by simpa using hc))
    · exact ⟨h1, ⟨rfl, rfl, rfl, trivial⟩, by simp [belowS, AV.low], rfl, rfl, by
        rw [hp, decide_eq_decide, hd]
        have : ¬ x = l[k] := fun e => by rw [← e] at hc; simp at hc
        simp [this]⟩
  · have d1 : decide ((k : Int) < (l.length : Int)) = false := by simp; omega
    refine .go ?_
    refine Fin.ret1 rfl (Weak.eq (congrArg AV.bool ?_))
    rw [hp, List.drop_eq_nil_of_le (by omega)]; simp
theorem shl_two {l : Int} (h0 : 0 ≤ l) (h4 : l ≤ 4) : IntKind.i64.wrap (2 * 2 ^ min (IntKind.u64.wrap l).toNat IntKind.i64.bits) = 2 ^ (l.toNat + 1) := by
  have e : l = 0 ∨ l = 1 ∨ l = 2 ∨ l = 3 ∨ l = 4 := by omega
  rcases e with rfl | rfl | rfl | rfl | rfl <;> rfl
theorem wrap_u64 {l : Int} (h0 : 0 ≤ l) (h4 : l ≤ 4) : 0 ≤ IntKind.u64.wrap l := by
  have e : l = 0 ∨ l = 1 ∨ l = 2 ∨ l = 3 ∨ l = 4 := by omega
  rcases e with rfl | rfl | rfl | rfl | rfl <;> decide
theorem rRightType (t : Typ) (hs : t.name.length ≤ 9223372036854775806) : PFn Tryz.prog 235 [t.enc] (.bool (rightT t)) := by
  have hn := rName t.name hs
  refine AFn.plain rfl rfl (AFn.enter [2] Tryz.func235 rfl rfl rfl rfl rfl (by decide) ?_)
  by_cases h1 : 0 ≤ t.lists
  · have e1 : decide (0 ≤ t.lists) = true := decide_eq_true h1
    by_cases h2 : t.lists ≤ 4
    · have e2 : decide (t.lists ≤ 4) = true := decide_eq_true h2
      by_cases h3 : 0 ≤ t.musts
      · have e3 : decide (0 ≤ t.musts) = true := decide_eq_true h3
        repeat' first | refine .br ?_ | refine .s1 ?_ | (refine .cond rfl ?_ ?_ <;> intro hc) | (refine A.guard rfl ?_ ?_ <;> intro hc) | refine A.conv rfl rfl rfl rfl rfl ?_ | refine A.shl rfl rfl (wrap_u64 h1 h2) (shl_two h1 h2) ?_ | fail
        all_goals
          refine Fin.ret1 rfl (Weak.eq (congrArg AV.bool ?_))
          unfold rightT
          rw [e1, e2, e3]
          simp_all
      · have e3 : decide (0 ≤ t.musts) = false := decide_eq_false h3
        repeat' first | refine .br ?_ | refine .s1 ?_ | (refine .cond rfl ?_ ?_ <;> intro hc) | (refine A.guard rfl ?_ ?_ <;> intro hc) | fail
        all_goals
          refine Fin.ret1 rfl (Weak.eq (congrArg AV.bool ?_))
          unfold rightT
          rw [e3]; simp_all
    · have e2 : decide (t.lists ≤ 4) = false := decide_eq_false h2
      repeat' first | refine .br ?_ | refine .s1 ?_ | (refine .cond rfl ?_ ?_ <;> intro hc) | (refine A.guard rfl ?_ ?_ <;> intro hc) | fail
      all_goals
        refine Fin.ret1 rfl (Weak.eq (congrArg AV.bool ?_))
        unfold rightT
        rw [e2]; simp_all
  · have e1 : decide (0 ≤ t.lists) = false := decide_eq_false h1
    repeat' first | refine .br ?_ | refine .s1 ?_ | (refine .cond rfl ?_ ?_ <;> intro hc) | (refine A.guard rfl ?_ ?_ <;> intro hc) | fail
    all_goals
      refine Fin.ret1 rfl (Weak.eq (congrArg AV.bool ?_))
      unfold rightT
      rw [e1]; simp_all
theorem rIs (t : Typ) (hs : t.name.length ≤ 9223372036854775806) : PFn Tryz.prog 195 [t.enc] (.bool (isT t)) := by
  have hr := rRightType t hs
  refine AFn.plain rfl rfl (AFn.enter [2] Tryz.func195 rfl rfl rfl rfl rfl (by decide) ?_)
  cases c : rightT t with
  | true =>
    rw [c] at hr
    have h0 := (rightT_iff.1 c).2.2.2.1
    have h5 := musts_lt c
    repeat' first | refine .br ?_ | refine .s1 ?_ | (refine .cond rfl ?_ ?_ <;> intro hc) | (refine A.guard rfl ?_ ?_ <;> intro hc) | refine A.band (m := t.musts.toNat) (n := 1) rfl rfl (by omega) rfl (by omega) (by decide) (and1 _) ?_ | fail
    refine Fin.ret1 rfl (Weak.eq (congrArg AV.bool ?_))
    unfold isT; rw [c, Bool.true_and, Bool.eq_iff_iff, beq_iff_eq, decide_eq_true_eq]; omega
  | false =>
    rw [c] at hr
    refine .gob ?_
    refine Fin.ret1 rfl (Weak.eq (congrArg AV.bool ?_))
    unfold isT; rw [c]; rfl
theorem rItem (t : Typ) (hs : t.name.length ≤ 9223372036854775806) : PFn Tryz.prog 271 [t.enc] (.tup [(itemR t).1.enc, .bool (itemR t).2]) := by
  have hr := rRightType t hs
  refine AFn.plain rfl rfl (AFn.enterR [.cell 2 32, .tmp 3] Tryz.func271 rfl rfl rfl rfl rfl ?_)
  unfold itemR
  cases c : rightT t with
  | true =>
    rw [c] at hr
    obtain ⟨_, q1, q2, q3, q4⟩ := rightT_iff.1 c
    by_cases h0 : t.lists = 0
    · have e0 : (t.lists == 0) = true := by simp [h0]
      rw [if_neg (fun h => h.2 h0)]
      refine .gob ?_
      exact FinR.ret1 rfl (Weak.refl _)
    · have e0 : (t.lists == 0) = false := by simp [h0]
      rw [if_pos ⟨rfl, h0⟩]
      repeat' first | refine .br ?_ | refine .s1 ?_ | (refine .cond rfl ?_ ?_ <;> intro hc) | (refine A.guard rfl ?_ ?_ <;> intro hc) | refine A.shr rfl rfl (by decide) shr_one ?_ | fail
      exact FinR.ret1 rfl (Weak.refl _)
  | false =>
    rw [c] at hr
    rw [if_neg (fun h => by cases h.1)]
    refine .gob ?_
    exact FinR.ret1 rfl (Weak.refl _)
end Go.Proofs.YtgghkkeejagfkaaGreatDoor
namespace Go.Av
open Go
section
variable [Globals]
variable {P : Program} {all : Array Oper} {draw : Bool} {K : AX → Slots → St → Prop} {rest : List Oper} {acc : List Tag} {s : Slots} {σ : St} {d : Tmp} {ty : TypeId} {pos : String} {af : Array Edge}
theorem A.shl6 {x y : Operand} {T U : TypeId} {a : Int} {m : Nat} {k2 : IntKind} (hx : ev? s x = some (.int .i64 a)) (hy : ev? s y = some (.int k2 6)) (ha : a = (m : Int)) (hm : m < 144115188075855872)
    (k' : AOps P all draw K rest (.pure :: acc) ((d, .int .i64 ((m * 64 : Nat) : Int)) :: s) σ) : AOps P all draw K (⟨some d, .binOp .shl T x y U, ty, pos, af, none⟩ :: rest) acc s σ :=
  A.shl hx hy (by decide) (by
    subst ha
    have e : ((m : Int) * 2 ^ min (6 : Int).toNat IntKind.i64.bits) = ((m * 64 : Nat) : Int) := by
      rw [show min (6 : Int).toNat IntKind.i64.bits = 6 from rfl, Int.natCast_mul]; rfl
    rw [e, wrap_nat (by omega)]) k'
end
end Go.Av
namespace Go.Proofs.YtgghkkeejagfkaaGreatDoor
open Go Go.Av
attribute [local irreducible] HCode AOps PFn AFn Av.Step TStep
def finC (c low w : Nat) : Nat × Nat := if c < low ∨ 1114111 < c ∨ (55296 ≤ c ∧ c < 57344) then (0, 0) else (c, w)
def codeP (n b0 b1 b2 b3 : Nat) : Nat × Nat :=
  if b0 < 128 then (b0, 1)
  else if 194 ≤ b0 ∧ b0 < 224 then (if 2 ≤ n ∧ (128 ≤ b1 ∧ b1 ≤ 191) then finC (b0 % 32 * 64 + b1 % 64) 128 2 else (0, 0))
  else if 224 ≤ b0 ∧ b0 < 240 then (if 3 ≤ n ∧ (128 ≤ b1 ∧ b1 ≤ 191) ∧ (128 ≤ b2 ∧ b2 ≤ 191) then finC ((b0 % 16 * 64 + b1 % 64) * 64 + b2 % 64) 2048 3 else (0, 0))
  else if 240 ≤ b0 ∧ b0 < 245 then (if 4 ≤ n ∧ (128 ≤ b1 ∧ b1 ≤ 191) ∧ (128 ≤ b2 ∧ b2 ≤ 191) ∧ (128 ≤ b3 ∧ b3 ≤ 191) then finC (((b0 % 8 * 64 + b1 % 64) * 64 + b2 % 64) * 64 + b3 % 64) 65536 4 else (0, 0))
  else (0, 0)
theorem codeP_eq (n b0 b1 b2 b3 : Nat) (h0 : b0 < 256) (h1 : b1 < 256) (h2 : b2 < 256) (h3 : b3 < 256) :
    codeP n b0 b1 b2 b3 = if Lib.decodeN n b0 b1 b2 b3 = (65533, 1) then (0, 0) else Lib.decodeN n b0 b1 b2 b3 := by
  unfold codeP Lib.decodeN finC
  repeat' split
  all_goals first | rfl | (exfalso; simp only [Prod.mk.injEq] at *; omega) | (simp only [Prod.mk.injEq] at *; omega) | (exfalso; rename_i hx; exact hx rfl) | (exfalso; simp only [Prod.mk.injEq, and_self, and_true, true_and, not_true_eq_false] at *; done) | (exfalso; simp only [Prod.mk.injEq, and_self, and_true, true_and, not_true_eq_false] at *; omega) | (simp only [Prod.mk.injEq, and_self, and_true, true_and] at *; omega)
def codeL (l : Str) : Nat × Nat := if Lib.decodeL l = (65533, 1) then (0, 0) else Lib.decodeL l
theorem codeL_eq (s : Str) (i : Nat) : codeL (s.drop i) = codeP (s.length - i) (s.getD i 0).toNat (s.getD (i + 1) 0).toNat (s.getD (i + 2) 0).toNat (s.getD (i + 3) 0).toNat := by
  unfold codeL
  rw [codeP_eq _ _ _ _ _ (UInt8.toNat_lt _) (UInt8.toNat_lt _) (UInt8.toNat_lt _) (UInt8.toNat_lt _), Lib.decodeL_N, List.length_drop, Lib.getD_dropU, Lib.getD_dropU, Lib.getD_dropU, Lib.getD_dropU, Nat.add_zero]
theorem conv_u8 (c : UInt8) : IntKind.i64.wrap (c.toNat : Int) = (c.toNat : Int) := wrap_nat (by have := UInt8.toNat_lt c; omega)
def cAcc (f : Nat → Nat) (c0 : Nat) : Nat → Nat
  | 0 => c0
  | j + 1 => cAcc f c0 j * 64 + f (j + 1) % 64
theorem cAcc_lt (f : Nat → Nat) {c0 : Nat} (h0 : c0 < 32) : ∀ {j : Nat}, j ≤ 3 → cAcc f c0 j < 8388608
  | 0, _ => by rw [cAcc]; omega
  | 1, _ => by rw [cAcc, cAcc]; omega
  | 2, _ => by rw [cAcc, cAcc, cAcc]; omega
  | 3, _ => by rw [cAcc, cAcc, cAcc, cAcc]; omega
def byteAt (s : Str) (i k : Nat) : Nat := (s.getD (i + k) 0).toNat
theorem byteAt_of {s : Str} {i k : Nat} (h : i + k < s.length) : byteAt s i k = s[i + k].toNat := by unfold byteAt; simp [List.getD, h]
def contB (b : Nat) : Bool := decide (128 ≤ b) && decide (b ≤ 191)
def contAll (s : Str) (i : Nat) : Nat → Nat → Bool
  | _, 0 => true
  | k, n + 1 => contB (byteAt s i k) && contAll s i (k + 1) n
def restC (s : Str) (i N LO c0 : Nat) : Nat × Nat := if N ≤ s.length - i then (if contAll s i 1 (N - 1) = true then finC (cAcc (byteAt s i) c0 (N - 1)) LO N else (0, 0)) else (0, 0)
abbrev pairV (p : Nat × Nat) : AV := .tup [.int .i64 (p.1 : Int), .int .i64 (p.2 : Int)]
attribute [local irreducible] Int.decLt Int.decLe Int.le Int.lt in
theorem codeEnd (N LO c : Nat) : HCode Tryz.prog Tryz.f323.ntmps [] (tailOf 8 (bodyOf Tryz.f323)) (fin [4, 5] (fun e _ => ∃ v, e = .ret v ∧ Weak v (pairV (finC c LO N))))
    [(6, .int .i64 (c : Int)), (7, .int .i64 (N : Int)), (8, .int .i64 (LO : Int))] ⟨[], []⟩ := by
  by_cases w1 : c < LO
  · have v1 : decide ((c : Int) < (LO : Int)) = true := decide_eq_true (by omega)
    repeat' first | refine .seq ?_ | refine .rg ?_ | refine .rd ?_ | refine .block ?_ | refine .scope ?_ | refine .skip ?_ | refine .label ?_ | refine .exit ?_ | refine .ret ?_ | refine .ct ?_ | refine .cf ?_ | refine .cy ?_ | refine .cn ?_ | (refine .cond rfl ?_ ?_ <;> intro hc) | refine A.nil_seq ?_ | refine .nl ?_ | refine .dd ?_ | refine .ys ?_ | refine .no ?_ | (refine A.guard rfl ?_ ?_ <;> intro hc) | refine .lb ?_ | refine .ln ?_ | refine .ls ?_ | refine .pv ?_ | refine .ix ?_ | refine .pt ?_ | refine .pf ?_ | refine .bx ?_ | refine .al ?_ | refine .st ?_ | refine .ad ?_ | refine .sb ?_ | refine .mf ?_ | refine .cl ?_ | refine .cw ?_ | refine .ck ?_ | fail
    refine Fin.two rfl rfl (Weak.eq ?_)
    rw [finC, if_pos (.inl w1)]; rfl
  · have v1 : decide ((c : Int) < (LO : Int)) = false := decide_eq_false (by omega)
    by_cases w2 : 1114111 < c
    · have v2 : decide ((c : Int) > 1114111) = true := decide_eq_true (by omega)
      repeat' first | refine .seq ?_ | refine .rg ?_ | refine .rd ?_ | refine .block ?_ | refine .scope ?_ | refine .skip ?_ | refine .label ?_ | refine .exit ?_ | refine .ret ?_ | refine .ct ?_ | refine .cf ?_ | refine .cy ?_ | refine .cn ?_ | (refine .cond rfl ?_ ?_ <;> intro hc) | refine A.nil_seq ?_ | refine .nl ?_ | refine .dd ?_ | refine .ys ?_ | refine .no ?_ | (refine A.guard rfl ?_ ?_ <;> intro hc) | refine .lb ?_ | refine .ln ?_ | refine .ls ?_ | refine .pv ?_ | refine .ix ?_ | refine .pt ?_ | refine .pf ?_ | refine .bx ?_ | refine .al ?_ | refine .st ?_ | refine .ad ?_ | refine .sb ?_ | refine .mf ?_ | refine .cl ?_ | refine .cw ?_ | refine .ck ?_ | fail
      refine Fin.two rfl rfl (Weak.eq ?_)
      rw [finC, if_pos (.inr (.inl w2))]; rfl
    · have v2 : decide ((c : Int) > 1114111) = false := decide_eq_false (by omega)
      by_cases w3 : 55296 ≤ c
      · have v3 : decide ((c : Int) ≥ 55296) = true := decide_eq_true (by omega)
        by_cases w4 : c < 57344
        · have v4 : decide ((c : Int) < 57344) = true := decide_eq_true (by omega)
          repeat' first | refine .seq ?_ | refine .rg ?_ | refine .rd ?_ | refine .block ?_ | refine .scope ?_ | refine .skip ?_ | refine .label ?_ | refine .exit ?_ | refine .ret ?_ | refine .ct ?_ | refine .cf ?_ | refine .cy ?_ | refine .cn ?_ | (refine .cond rfl ?_ ?_ <;> intro hc) | refine A.nil_seq ?_ | refine .nl ?_ | refine .dd ?_ | refine .ys ?_ | refine .no ?_ | (refine A.guard rfl ?_ ?_ <;> intro hc) | refine .lb ?_ | refine .ln ?_ | refine .ls ?_ | refine .pv ?_ | refine .ix ?_ | refine .pt ?_ | refine .pf ?_ | refine .bx ?_ | refine .al ?_ | refine .st ?_ | refine .ad ?_ | refine .sb ?_ | refine .mf ?_ | refine .cl ?_ | refine .cw ?_ | refine .ck ?_ | fail
          refine Fin.two rfl rfl (Weak.eq ?_)
          rw [finC, if_pos (.inr (.inr ⟨w3, w4⟩))]; rfl
        · have v4 : decide ((c : Int) < 57344) = false := decide_eq_false (by omega)
          repeat' first | refine .seq ?_ | refine .rg ?_ | refine .rd ?_ | refine .block ?_ | refine .scope ?_ | refine .skip ?_ | refine .label ?_ | refine .exit ?_ | refine .ret ?_ | refine .ct ?_ | refine .cf ?_ | refine .cy ?_ | refine .cn ?_ | (refine .cond rfl ?_ ?_ <;> intro hc) | refine A.nil_seq ?_ | refine .nl ?_ | refine .dd ?_ | refine .ys ?_ | refine .no ?_ | (refine A.guard rfl ?_ ?_ <;> intro hc) | refine .lb ?_ | refine .ln ?_ | refine .ls ?_ | refine .pv ?_ | refine .ix ?_ | refine .pt ?_ | refine .pf ?_ | refine .bx ?_ | refine .al ?_ | refine .st ?_ | refine .ad ?_ | refine .sb ?_ | refine .mf ?_ | refine .cl ?_ | refine .cw ?_ | refine .ck ?_ | fail
          refine Fin.two rfl rfl (Weak.eq ?_)
          rw [finC, if_neg (by omega)]
      · have v3 : decide ((c : Int) ≥ 55296) = false := decide_eq_false (by omega)
        repeat' first | refine .seq ?_ | refine .rg ?_ | refine .rd ?_ | refine .block ?_ | refine .scope ?_ | refine .skip ?_ | refine .label ?_ | refine .exit ?_ | refine .ret ?_ | refine .ct ?_ | refine .cf ?_ | refine .cy ?_ | refine .cn ?_ | (refine .cond rfl ?_ ?_ <;> intro hc) | refine A.nil_seq ?_ | refine .nl ?_ | refine .dd ?_ | refine .ys ?_ | refine .no ?_ | (refine A.guard rfl ?_ ?_ <;> intro hc) | refine .lb ?_ | refine .ln ?_ | refine .ls ?_ | refine .pv ?_ | refine .ix ?_ | refine .pt ?_ | refine .pf ?_ | refine .bx ?_ | refine .al ?_ | refine .st ?_ | refine .ad ?_ | refine .sb ?_ | refine .mf ?_ | refine .cl ?_ | refine .cw ?_ | refine .ck ?_ | fail
        refine Fin.two rfl rfl (Weak.eq ?_)
        rw [finC, if_neg (by omega)]
theorem contAll_stop {s : Str} {i : Nat} : ∀ {n k j : Nat}, k ≤ j → j < k + n → contB (byteAt s i j) = false → contAll s i k n = false
  | 0, k, j, h1, h2, _ => by omega
  | n + 1, k, j, h1, h2, h => by
    rw [contAll]
    by_cases e : k = j
    · subst e; rw [h]; rfl
    · rw [contAll_stop (by omega) (by omega) h, Bool.and_false]
theorem contAll_all {s : Str} {i : Nat} : ∀ {n k : Nat}, (∀ j, k ≤ j → j < k + n → contB (byteAt s i j) = true) → contAll s i k n = true
  | 0, _, _ => rfl
  | n + 1, k, h => by
    rw [contAll, h k (Nat.le_refl _) (by omega), contAll_all fun j h1 h2 => h j (by omega) (by omega)]; rfl
attribute [local irreducible] Int.decLt Int.decLe Int.le Int.lt in
theorem codeRest (s : Str) (i N LO c0 : Nat) (hi : i < s.length) (hs : s.length ≤ 4611686018427387904) (hN : 2 ≤ N ∧ N ≤ 4) (hc0 : c0 < 32) :
    HCode Tryz.prog Tryz.f323.ntmps [] (tailOf 6 (bodyOf Tryz.f323)) (fin [4, 5] (fun e _ => ∃ v, e = .ret v ∧ Weak v (pairV (restC s i N LO c0))))
      [(6, .int .i64 (c0 : Int)), (7, .int .i64 (N : Int)), (8, .int .i64 (LO : Int)), (0, .str s), (1, .int .i64 (i : Int))] ⟨[], []⟩ := by
  unfold restC
  by_cases hn : N ≤ s.length - i
  · have d2 : decide ((N : Int) > (s.length : Int) - (i : Int)) = false := decide_eq_false (by omega)
    rw [if_pos hn]
    repeat' first | refine .seq ?_ | refine .rg ?_ | refine .rd ?_ | refine .block ?_ | refine .scope ?_ | refine .skip ?_ | refine .label ?_ | refine .exit ?_ | refine .ret ?_ | refine .ct ?_ | refine .cf ?_ | refine .cy ?_ | refine .cn ?_ | (refine .cond rfl ?_ ?_ <;> intro hc) | refine A.nil_seq ?_ | refine .nl ?_ | refine .dd ?_ | refine .ys ?_ | refine .no ?_ | (refine A.guard rfl ?_ ?_ <;> intro hc) | refine .lb ?_ | refine .ln ?_ | refine .ls ?_ | refine .pv ?_ | refine .ix ?_ | refine .pt ?_ | refine .pf ?_ | refine .bx ?_ | refine .al ?_ | refine .st ?_ | refine .ad ?_ | refine .sb ?_ | refine .mf ?_ | refine .cl ?_ | refine .cw ?_ | refine .ck ?_ | fail
    change HCode _ _ _ _ _ _ _
    refine HCode.loop (fun n σs σ => ∃ j : Nat, n = N - 1 - j ∧ j ≤ N - 1 ∧ (∀ k, 1 ≤ k → k ≤ j → contB (byteAt s i k) = true) ∧ σ = ⟨[], []⟩ ∧
      σs = [(9, .int .i64 ((j + 1 : Nat) : Int)), (7, .int .i64 (N : Int)), (6, .int .i64 ((cAcc (byteAt s i) c0 j : Nat) : Int)), (0, .str s), (1, .int .i64 (i : Int)), (8, .int .i64 (LO : Int))])
      (s0 := [(9, .int .i64 ((0 + 1 : Nat) : Int)), (7, .int .i64 (N : Int)), (6, .int .i64 ((cAcc (byteAt s i) c0 0 : Nat) : Int)), (0, .str s), (1, .int .i64 (i : Int)), (8, .int .i64 (LO : Int))])
      ⟨rfl, rfl, rfl, rfl, rfl, rfl, trivial⟩ ⟨0, rfl, Nat.zero_le _, fun k h1 h2 => by omega, rfl, rfl⟩ ?_
    rintro n σs σ ⟨j, rfl, hj, hcont, rfl, rfl⟩
    have hacc := cAcc_lt (byteAt s i) hc0 (j := j) (by omega)
    by_cases h1 : j + 1 < N
    · have d3 : decide (((j + 1 : Nat) : Int) < (N : Int)) = true := decide_eq_true (by omega)
      have hk : i + (j + 1) < s.length := by omega
      have xk := get_str hk
      have hbk := UInt8.toNat_lt s[i + (j + 1)]
      have gk := byteAt_of (s := s) (i := i) (k := j + 1) hk
      by_cases k1 : s[i + (j + 1)].toNat < 128
      · have d4 : decide ((s[i + (j + 1)].toNat : Int) < 128) = true := decide_eq_true (by omega)
        have hq : contB (byteAt s i (j + 1)) = false := by rw [gk]; unfold contB; rw [decide_eq_false (by omega)]; rfl
        rw [contAll_stop (j := j + 1) (by omega) (by omega) hq, if_neg (by decide)]
        repeat' first | refine .seq ?_ | refine .rg ?_ | refine .rd ?_ | refine .block ?_ | refine .scope ?_ | refine .skip ?_ | refine .label ?_ | refine .exit ?_ | refine .ret ?_ | refine .ct ?_ | refine .cf ?_ | refine .cy ?_ | refine .cn ?_ | (refine .cond rfl ?_ ?_ <;> intro hc) | refine A.nil_seq ?_ | refine .nl ?_ | refine .dd ?_ | refine .ys ?_ | refine .no ?_ | (refine A.guard rfl ?_ ?_ <;> intro hc) | refine .lb ?_ | refine .ln ?_ | refine .ls ?_ | refine .pv ?_ | refine .ix ?_ | refine .pt ?_ | refine .pf ?_ | refine .bx ?_ | refine .al ?_ | refine .st ?_ | refine .ad ?_ | refine .sb ?_ | refine .mf ?_ | refine .cl ?_ | refine .cw ?_ | refine .ck ?_ | refine A.index_s (j := i + (j + 1)) rfl rfl rfl rfl rfl (by assumption) ?_ | refine A.conv rfl rfl rfl rfl (conv_u8 _) ?_ | fail
        exact Fin.two rfl rfl (Weak.refl _)
      · have d4 : decide ((s[i + (j + 1)].toNat : Int) < 128) = false := decide_eq_false (by omega)
        by_cases k2 : 191 < s[i + (j + 1)].toNat
        · have d5 : decide ((s[i + (j + 1)].toNat : Int) > 191) = true := decide_eq_true (by omega)
          have hq : contB (byteAt s i (j + 1)) = false := by rw [gk]; unfold contB; rw [decide_eq_true (by omega), decide_eq_false (by omega)]; rfl
          rw [contAll_stop (j := j + 1) (by omega) (by omega) hq, if_neg (by decide)]
          repeat' first | refine .seq ?_ | refine .rg ?_ | refine .rd ?_ | refine .block ?_ | refine .scope ?_ | refine .skip ?_ | refine .label ?_ | refine .exit ?_ | refine .ret ?_ | refine .ct ?_ | refine .cf ?_ | refine .cy ?_ | refine .cn ?_ | (refine .cond rfl ?_ ?_ <;> intro hc) | refine A.nil_seq ?_ | refine .nl ?_ | refine .dd ?_ | refine .ys ?_ | refine .no ?_ | (refine A.guard rfl ?_ ?_ <;> intro hc) | refine .lb ?_ | refine .ln ?_ | refine .ls ?_ | refine .pv ?_ | refine .ix ?_ | refine .pt ?_ | refine .pf ?_ | refine .bx ?_ | refine .al ?_ | refine .st ?_ | refine .ad ?_ | refine .sb ?_ | refine .mf ?_ | refine .cl ?_ | refine .cw ?_ | refine .ck ?_ | refine A.index_s (j := i + (j + 1)) rfl rfl rfl rfl rfl (by assumption) ?_ | refine A.conv rfl rfl rfl rfl (conv_u8 _) ?_ | fail
          exact Fin.two rfl rfl (Weak.refl _)
        · have d5 : decide ((s[i + (j + 1)].toNat : Int) > 191) = false := decide_eq_false (by omega)
          repeat' first | refine .seq ?_ | refine .rg ?_ | refine .rd ?_ | refine .block ?_ | refine .scope ?_ | refine .skip ?_ | refine .label ?_ | refine .exit ?_ | refine .ret ?_ | refine .ct ?_ | refine .cf ?_ | refine .cy ?_ | refine .cn ?_ | (refine .cond rfl ?_ ?_ <;> intro hc) | refine A.nil_seq ?_ | refine .nl ?_ | refine .dd ?_ | refine .ys ?_ | refine .no ?_ | (refine A.guard rfl ?_ ?_ <;> intro hc) | refine .lb ?_ | refine .ln ?_ | refine .ls ?_ | refine .pv ?_ | refine .ix ?_ | refine .pt ?_ | refine .pf ?_ | refine .bx ?_ | refine .al ?_ | refine .st ?_ | refine .ad ?_ | refine .sb ?_ | refine .mf ?_ | refine .cl ?_ | refine .cw ?_ | refine .ck ?_ | refine A.index_s (j := i + (j + 1)) rfl rfl rfl rfl rfl (by assumption) ?_ | refine A.conv rfl rfl rfl rfl (conv_u8 _) ?_ | refine A.shl6 rfl rfl rfl (by omega) ?_ | refine A.band (n := 63) rfl rfl rfl rfl (by omega) (by decide) (and63 _) ?_ | refine A.bor rfl rfl rfl rfl (by omega) (by omega) (or64 _ _ (by omega)) ?_ | fail
          refine ⟨N - 1 - (j + 1), by omega, [(9, .int .i64 ((j + 1 + 1 : Nat) : Int)), (7, .int .i64 (N : Int)), (6, .int .i64 ((cAcc (byteAt s i) c0 (j + 1) : Nat) : Int)), (0, .str s), (1, .int .i64 (i : Int)), (8, .int .i64 (LO : Int))],
            ⟨rfl, rfl, by rw [cAcc, gk]; rfl, rfl, rfl, rfl, trivial⟩, by simp [belowS, AV.low], rfl, j + 1, rfl, by omega, fun k q1 q2 => ?_, rfl, rfl⟩
          by_cases e : k = j + 1
          · subst e; rw [gk]; unfold contB; rw [decide_eq_true (by omega), decide_eq_true (by omega)]; rfl
          · exact hcont k q1 (by omega)
    · have d3 : decide (((j + 1 : Nat) : Int) < (N : Int)) = false := decide_eq_false (by omega)
      obtain rfl : j = N - 1 := by omega
      rw [contAll_all fun k q1 q2 => hcont k q1 (by omega), if_pos rfl]
      have hend := codeEnd N LO (cAcc (byteAt s i) c0 (N - 1))
      repeat' first | (refine HCode.weaken hend ?_; exact ⟨rfl, rfl, rfl, trivial⟩) | refine .seq ?_ | refine .rg ?_ | refine .rd ?_ | refine .block ?_ | refine .scope ?_ | refine .skip ?_ | refine .label ?_ | refine .exit ?_ | refine .ret ?_ | refine .ct ?_ | refine .cf ?_ | refine .cy ?_ | refine .cn ?_ | (refine .cond rfl ?_ ?_ <;> intro hc) | refine A.nil_seq ?_ | refine .nl ?_ | refine .dd ?_ | refine .ys ?_ | refine .no ?_ | (refine A.guard rfl ?_ ?_ <;> intro hc) | refine .lb ?_ | refine .ln ?_ | refine .ls ?_ | refine .pv ?_ | refine .ix ?_ | refine .pt ?_ | refine .pf ?_ | refine .bx ?_ | refine .al ?_ | refine .st ?_ | refine .ad ?_ | refine .sb ?_ | refine .mf ?_ | refine .cl ?_ | refine .cw ?_ | refine .ck ?_ | fail
  · have d2 : decide ((N : Int) > (s.length : Int) - (i : Int)) = true := decide_eq_true (by omega)
    rw [if_neg hn]
    repeat' first | refine .seq ?_ | refine .rg ?_ | refine .rd ?_ | refine .block ?_ | refine .scope ?_ | refine .skip ?_ | refine .label ?_ | refine .exit ?_ | refine .ret ?_ | refine .ct ?_ | refine .cf ?_ | refine .cy ?_ | refine .cn ?_ | (refine .cond rfl ?_ ?_ <;> intro hc) | refine A.nil_seq ?_ | refine .nl ?_ | refine .dd ?_ | refine .ys ?_ | refine .no ?_ | (refine A.guard rfl ?_ ?_ <;> intro hc) | refine .lb ?_ | refine .ln ?_ | refine .ls ?_ | refine .pv ?_ | refine .ix ?_ | refine .pt ?_ | refine .pf ?_ | refine .bx ?_ | refine .al ?_ | refine .st ?_ | refine .ad ?_ | refine .sb ?_ | refine .mf ?_ | refine .cl ?_ | refine .cw ?_ | refine .ck ?_ | fail
    exact Fin.two rfl rfl (Weak.refl _)
end Go.Proofs.YtgghkkeejagfkaaGreatDoor
