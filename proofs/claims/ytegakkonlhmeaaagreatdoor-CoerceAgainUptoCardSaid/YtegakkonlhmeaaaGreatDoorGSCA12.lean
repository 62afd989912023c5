/-
  Contracts and plain facts for a law, joined.
-/
import Derived.Test.YtegakkonlhmeaaaGreatDoorGSCA11
import Derived.Test.YtegakkonlhmeaaaGreatDoorGSCA5
set_option maxRecDepth 100000
set_option maxHeartbeats 16000000
set_option linter.unusedVariables false
set_option linter.unusedSimpArgs false
set_option linter.unusedSectionVars false
namespace Go.Proofs.YtegakkonlhmeaaaGreatDoor
open Go Go.Av
attribute [local irreducible] HCode AOps PFn AFn Av.Step TStep
def wNmK (mark : Str) (l : List Str) : Nat → WS → WS
  | 0, W => W
  | k + 1, W => wName (l.getD k []) (if k = 0 then wNmK mark l k W else wMark mark (wNmK mark l k W))
def wNames (mark : Str) (l : List Str) (W : WS) : WS := wNmK mark l l.length W
theorem len_nmK (mark : Str) (l : List Str) : ∀ (k : Nat) (W : WS), (wNmK mark l k W).l.length ≤ W.l.length + 2 * k
  | 0, W => by rw [wNmK]; omega
  | k + 1, W => by
    have := len_nmK mark l k W
    rw [wNmK, len_name]
    split
    · omega
    · rw [len_mark]; omega
theorem ok_nmK (mark : Str) (l : List Str) : ∀ (k : Nat) (W : WS), k ≤ l.length → (wNmK mark l k W).ok = (W.ok && (l.take k).all nameB)
  | 0, W, _ => by rw [wNmK]; simp
  | k + 1, W, h => by
    have h1 := ok_nmK mark l k W (by omega)
    have hk : k < l.length := by omega
    rw [List.take_succ_eq_append_getElem hk, List.all_append, ← Bool.and_assoc, ← h1, wNmK]
    have e : l.getD k [] = l[k] := by simp [hk]
    rw [e]
    show ((if k = 0 then wNmK mark l k W else wMark mark (wNmK mark l k W)).ok && nameB l[k]) = _
    simp only [List.all_cons, List.all_nil, Bool.and_true]
    split <;> rfl
theorem ok_names (mark : Str) (l : List Str) (W : WS) : (wNames mark l W).ok = (W.ok && l.all nameB) := by
  unfold wNames
  rw [ok_nmK mark l _ W (Nat.le_refl _), List.take_length]
theorem len_names (mark : Str) (l : List Str) (W : WS) : (wNames mark l W).l.length ≤ W.l.length + 4 * strsSize l := by
  have h1 := len_nmK mark l l.length W
  have h2 := sumSize_length (size := fun s : Str => s.length + 1) (fun _ => by omega) l
  unfold wNames strsSize; omega
theorem cNames (W : WS) (mark : Str) (l : List Str) (hl : strsSize l ≤ 1048640) (hW : W.l.length + 4 * strsSize l + 4 ≤ 1099511627776) : WC 246 (.agg [.ptr 0 0]) [.str mark, .slice (l.map AV.str) .no] W (wNames mark l W) := by
  refine WC.of (AFn.enter [] Tryz.func246 rfl rfl rfl rfl rfl (by decide) ?_)
  have hll : (l.map AV.str).length = l.length := List.length_map ..
  have hL := sumSize_length (size := fun s : Str => s.length + 1) (fun _ => by omega) l
  unfold strsSize at hl hW
  unfold wNames
  repeat' first | refine .seq ?_ | refine .rg ?_ | refine .rd ?_ | refine .block ?_ | refine .scope ?_ | refine .skip ?_ | refine .label ?_ | refine .exit ?_ | refine .ret ?_ | refine .ct ?_ | refine .cf ?_ | refine .cy ?_ | refine .cn ?_ | (refine .cond rfl ?_ ?_ <;> intro hc) | refine A.nil_seq ?_ | refine .nl ?_ | refine .dd ?_ | refine .ys ?_ | refine .no ?_ | (refine A.guard rfl ?_ ?_ <;> intro hc) | refine .lb ?_ | refine .ln ?_ | refine .ls ?_ | refine .pv ?_ | refine .ix ?_ | refine .pt ?_ | refine .pf ?_ | refine .bx ?_ | refine .al ?_ | refine .st ?_ | refine .ad ?_ | refine .sb ?_ | refine .cl ?_ | refine .ck ?_ | fail
  refine HCode.forK l.length (fun k => [(10, .int .i64 k), (9, .int .i64 l.length), (8, .slice (l.map AV.str) .no), (1, .str mark), (3, .ptr 1 0)]) (fun k => wst2 (wNmK mark l k W)) (fun _ => True) ⟨rfl, by rw [← hll]; rfl, rfl, rfl, rfl, trivial⟩ rfl trivial fun k hk _ => ?_
  have hlen := len_nmK mark l k W
  by_cases h1 : k < l.length
  · have d1 : decide ((k : Int) < (l.length : Int)) = true := by simp [h1]
    have x1 := map_get' (f := AV.str) h1
    have hm := sumSize_mem (size := fun s : Str => s.length + 1) (List.getElem_mem h1)
    have hn : wNmK mark l (k + 1) W = wName l[k] (if k = 0 then wNmK mark l k W else wMark mark (wNmK mark l k W)) := by rw [wNmK]; simp [h1]
    generalize hWk : wNmK mark l k W = Wk at *
    by_cases h0 : k = 0
    · have d2 : decide (0 < (k : Int)) = false := decide_eq_false (by omega)
      rw [if_pos h0] at hn
      have c2 := cName Wk l[k] (by omega) (by omega)
      repeat' first | refine .seq ?_ | refine .rg ?_ | refine .rd ?_ | refine .block ?_ | refine .scope ?_ | refine .skip ?_ | refine .label ?_ | refine .exit ?_ | refine .ret ?_ | refine .ct ?_ | refine .cf ?_ | refine .cy ?_ | refine .cn ?_ | (refine .cond rfl ?_ ?_ <;> intro hc) | refine A.nil_seq ?_ | refine .nl ?_ | refine .dd ?_ | refine .ys ?_ | refine .no ?_ | (refine A.guard rfl ?_ ?_ <;> intro hc) | refine .lb ?_ | refine .ln ?_ | refine .ls ?_ | refine .pv ?_ | refine .ix ?_ | refine .pt ?_ | refine .pf ?_ | refine .bx ?_ | refine .al ?_ | refine .st ?_ | refine .ad ?_ | refine .sb ?_ | refine .cl ?_ | refine .ck ?_ | refine A.callWC c2 rfl rfl rfl rfl (WeakL.refl _) ?_ | fail
      exact ⟨h1, ⟨rfl, rfl, rfl, rfl, rfl, trivial⟩, by simp [belowS, AV.low], wst_below2 _, (congrArg wst2 hn).symm, trivial⟩
    · have d2 : decide (0 < (k : Int)) = true := decide_eq_true (by omega)
      rw [if_neg h0] at hn
      have c1 := cMark Wk mark (by omega)
      have c2 := cName (wMark mark Wk) l[k] (by omega) (by rw [len_mark]; omega)
      repeat' first | refine .seq ?_ | refine .rg ?_ | refine .rd ?_ | refine .block ?_ | refine .scope ?_ | refine .skip ?_ | refine .label ?_ | refine .exit ?_ | refine .ret ?_ | refine .ct ?_ | refine .cf ?_ | refine .cy ?_ | refine .cn ?_ | (refine .cond rfl ?_ ?_ <;> intro hc) | refine A.nil_seq ?_ | refine .nl ?_ | refine .dd ?_ | refine .ys ?_ | refine .no ?_ | (refine A.guard rfl ?_ ?_ <;> intro hc) | refine .lb ?_ | refine .ln ?_ | refine .ls ?_ | refine .pv ?_ | refine .ix ?_ | refine .pt ?_ | refine .pf ?_ | refine .bx ?_ | refine .al ?_ | refine .st ?_ | refine .ad ?_ | refine .sb ?_ | refine .cl ?_ | refine .ck ?_ | refine A.callWC c1 rfl rfl rfl rfl weak_full ?_ | refine A.callWC c2 rfl rfl rfl rfl (WeakL.refl _) ?_ | fail
      exact ⟨h1, ⟨rfl, rfl, rfl, rfl, rfl, trivial⟩, by simp [belowS, AV.low], wst_below2 _, (congrArg wst2 hn).symm, trivial⟩
  · have d1 : decide ((k : Int) < (l.length : Int)) = false := by simp; omega
    obtain rfl : k = l.length := by omega
    repeat' first | refine .seq ?_ | refine .rg ?_ | refine .rd ?_ | refine .block ?_ | refine .scope ?_ | refine .skip ?_ | refine .label ?_ | refine .exit ?_ | refine .ret ?_ | refine .ct ?_ | refine .cf ?_ | refine .cy ?_ | refine .cn ?_ | (refine .cond rfl ?_ ?_ <;> intro hc) | refine A.nil_seq ?_ | refine .nl ?_ | refine .dd ?_ | refine .ys ?_ | refine .no ?_ | (refine A.guard rfl ?_ ?_ <;> intro hc) | refine .lb ?_ | refine .ln ?_ | refine .ls ?_ | refine .pv ?_ | refine .ix ?_ | refine .pt ?_ | refine .pf ?_ | refine .bx ?_ | refine .al ?_ | refine .st ?_ | refine .ad ?_ | refine .sb ?_ | refine .cl ?_ | refine .ck ?_ | fail
    exact ⟨rfl, rfl, rfl⟩
def wFldP (f : Fld) (W : WS) : WS := if f.params = [] then W else wMark [41] (wPars f.params (wMark [40] W))
def wFld (W : WS) (f : Fld) : WS := wDirs true f.dirs (wType f.t (wMark [58] (wFldP f (wName f.name W))))
def wFlds (l : List Fld) (W : WS) : WS := l.foldl wFld W
theorem len_fldP (f : Fld) (W : WS) : (wFldP f W).l.length ≤ W.l.length + 4 * sumSize Par.size f.params + 2 := by
  have h := len_pars f.params (wMark [40] W)
  rw [len_mark] at h
  unfold wFldP
  split
  · omega
  · rw [len_mark]; omega
theorem len_fld (W : WS) (f : Fld) : (wFld W f).l.length ≤ W.l.length + 4 * f.size + 4 := by
  have h1 := len_dirs true f.dirs (wType f.t (wMark [58] (wFldP f (wName f.name W))))
  have h2 := len_type f.t (wMark [58] (wFldP f (wName f.name W)))
  have h3 := len_fldP f (wName f.name W)
  rw [len_mark] at h2
  rw [len_name] at h3
  unfold wFld Fld.size Typ.size; omega
theorem len_flds (l : List Fld) (W : WS) : (wFlds l W).l.length ≤ W.l.length + 8 * sumSize Fld.size l := by
  have := fold_len wFld (fun m => 8 * m.size) (fun W f => by have h := len_fld W f; have : 4 ≤ f.size := by unfold Fld.size; omega
                                                             omega) l W
  rwa [sum_mul] at this
theorem ok_fldP (f : Fld) (W : WS) : (wFldP f W).ok = (W.ok && f.params.all parOk) := by
  unfold wFldP
  split
  next e => rw [e]; simp
  · show (wPars f.params (wMark [40] W)).ok = _
    rw [ok_pars]; rfl
theorem ok_flds (l : List Fld) (W : WS) : (wFlds l W).ok = (W.ok && l.all fldOk) :=
  fold_ok _ _ (fun W f => by
    show (wDirs true f.dirs (wType f.t (wMark [58] (wFldP f (wName f.name W))))).ok = _
    rw [ok_dirs, ok_type]
    show (((wFldP f (wName f.name W)).ok && rightT f.t) && f.dirs.all dirOk) = _
    rw [ok_fldP]
    show ((((W.ok && nameB f.name) && f.params.all parOk) && rightT f.t) && f.dirs.all dirOk) = _
    unfold fldOk
    simp only [Bool.and_assoc]) l W
theorem len_pos {α : Type} (l : List α) : decide (0 < (l.length : Int)) = decide (l ≠ []) := by
  cases l <;> simp <;> omega
theorem cFlds (W : WS) (l : List Fld) (hl : sumSize Fld.size l ≤ 1048640) (ho : ∀ f ∈ l, f.ok) (hW : W.l.length + 8 * sumSize Fld.size l + 4 ≤ 1099511627776) : WC 247 (.agg [.ptr 0 0]) [.slice (l.map Fld.enc) .no] W (wFlds l W) := by
  refine WC.of (AFn.enter [] Tryz.func247 rfl rfl rfl rfl rfl (by decide) ?_)
  have hll : (l.map Fld.enc).length = l.length := List.length_map ..
  have hL := sumSize_length (size := Fld.size) (fun d => by unfold Fld.size; omega) l
  unfold wFlds
  repeat' first | refine .seq ?_ | refine .rg ?_ | refine .rd ?_ | refine .block ?_ | refine .scope ?_ | refine .skip ?_ | refine .label ?_ | refine .exit ?_ | refine .ret ?_ | refine .ct ?_ | refine .cf ?_ | refine .cy ?_ | refine .cn ?_ | (refine .cond rfl ?_ ?_ <;> intro hc) | refine A.nil_seq ?_ | refine .nl ?_ | refine .dd ?_ | refine .ys ?_ | refine .no ?_ | (refine A.guard rfl ?_ ?_ <;> intro hc) | refine .lb ?_ | refine .ln ?_ | refine .ls ?_ | refine .pv ?_ | refine .ix ?_ | refine .pt ?_ | refine .pf ?_ | refine .bx ?_ | refine .al ?_ | refine .st ?_ | refine .ad ?_ | refine .sb ?_ | refine .cl ?_ | refine .ck ?_ | fail
  refine HCode.forK l.length (fun k => [(8, .int .i64 k), (7, .int .i64 l.length), (6, .slice (l.map Fld.enc) .no), (2, .ptr 1 0)]) (fun k => wst2 ((l.take k).foldl wFld W)) (fun _ => True) ⟨rfl, by rw [← hll]; rfl, rfl, rfl, trivial⟩ rfl trivial fun k hk _ => ?_
  have hlen := len_flds (l.take k) W
  unfold wFlds at hlen
  by_cases h1 : k < l.length
  · have d1 : decide ((k : Int) < (l.length : Int)) = true := by simp [h1]
    have x1 := map_get' (f := Fld.enc) h1
    have hst := wsum_le Fld.size l k h1
    have hfe : l[k].size = l[k].name.length + sumSize Par.size l[k].params + l[k].t.size + sumSize Dirc.size l[k].dirs + 4 := rfl
    have hte : l[k].t.size = l[k].t.name.length + 4 := rfl
    have hpo := ho l[k] (List.getElem_mem h1)
    have hn := fold_take' wFld h1 W
    have hg := len_pos l[k].params
    generalize hWk : (l.take k).foldl wFld W = Wk at *
    have c2 := cName Wk l[k].name (by omega) (by omega)
    have l2 := len_name l[k].name Wk
    generalize hW2 : wName l[k].name Wk = W2 at *
    have l3 := len_fldP l[k] W2
    have c5 := cMark (wFldP l[k] W2) [58] (by omega)
    have c6 := cType (wMark [58] (wFldP l[k] W2)) l[k].t (by omega) (by rw [len_mark]; omega)
    have l6 := len_type l[k].t (wMark [58] (wFldP l[k] W2))
    rw [len_mark] at l6
    have c7 := cDirs (wType l[k].t (wMark [58] (wFldP l[k] W2))) true l[k].dirs (by omega) hpo.2 (by omega)
    have hn2 : wFld Wk l[k] = wDirs true l[k].dirs (wType l[k].t (wMark [58] (wFldP l[k] W2))) := by rw [← hW2]; rfl
    rw [hn2] at hn
    by_cases h0 : l[k].params = []
    · have d2 : decide (0 < (l[k].params.length : Int)) = false := by rw [hg]; simp [h0]
      rw [show wFldP l[k] W2 = W2 from if_pos h0] at c5 c6 c7 hn
      repeat' first | refine .seq ?_ | refine .rg ?_ | refine .rd ?_ | refine .block ?_ | refine .scope ?_ | refine .skip ?_ | refine .label ?_ | refine .exit ?_ | refine .ret ?_ | refine .ct ?_ | refine .cf ?_ | refine .cy ?_ | refine .cn ?_ | (refine .cond rfl ?_ ?_ <;> intro hc) | refine A.nil_seq ?_ | refine .nl ?_ | refine .dd ?_ | refine .ys ?_ | refine .no ?_ | (refine A.guard rfl ?_ ?_ <;> intro hc) | refine .lb ?_ | refine .ln ?_ | refine .ls ?_ | refine .pv ?_ | refine .ix ?_ | refine .pt ?_ | refine .pf ?_ | refine .bx ?_ | refine .al ?_ | refine .st ?_ | refine .ad ?_ | refine .sb ?_ | refine .cl ?_ | refine .ck ?_ | refine A.callWC c2 rfl rfl rfl rfl (WeakL.refl _) ?_ | refine A.callWC c5 rfl rfl rfl rfl weak_full ?_ | refine A.callWC c6 rfl rfl rfl rfl (WeakL.refl _) ?_ | refine A.callWC c7 rfl rfl rfl (by simp [AV.closedL, AV.closed, Dirc.closedL]) (WeakL.refl _) ?_ | fail
      exact ⟨h1, ⟨rfl, rfl, rfl, rfl, trivial⟩, by simp [belowS, AV.low], wst_below2 _, (congrArg wst2 hn).symm, trivial⟩
    · have d2 : decide (0 < (l[k].params.length : Int)) = true := by rw [hg]; simp [h0]
      rw [show wFldP l[k] W2 = wMark [41] (wPars l[k].params (wMark [40] W2)) from if_neg h0] at c5 c6 c7 hn
      have c3 := cMark W2 [40] (by omega)
      have c4 := cPars (wMark [40] W2) l[k].params (by omega) hpo.1 (by rw [len_mark]; omega)
      have l4 := len_pars l[k].params (wMark [40] W2)
      rw [len_mark] at l4
      have c8 := cMark (wPars l[k].params (wMark [40] W2)) [41] (by omega)
      repeat' first | refine .seq ?_ | refine .rg ?_ | refine .rd ?_ | refine .block ?_ | refine .scope ?_ | refine .skip ?_ | refine .label ?_ | refine .exit ?_ | refine .ret ?_ | refine .ct ?_ | refine .cf ?_ | refine .cy ?_ | refine .cn ?_ | (refine .cond rfl ?_ ?_ <;> intro hc) | refine A.nil_seq ?_ | refine .nl ?_ | refine .dd ?_ | refine .ys ?_ | refine .no ?_ | (refine A.guard rfl ?_ ?_ <;> intro hc) | refine .lb ?_ | refine .ln ?_ | refine .ls ?_ | refine .pv ?_ | refine .ix ?_ | refine .pt ?_ | refine .pf ?_ | refine .bx ?_ | refine .al ?_ | refine .st ?_ | refine .ad ?_ | refine .sb ?_ | refine .cl ?_ | refine .ck ?_ | refine A.callWC c2 rfl rfl rfl rfl (WeakL.refl _) ?_ | refine A.callWC c3 rfl rfl rfl rfl weak_full ?_ | refine A.callWC c4 rfl rfl rfl (by simp [AV.closedL, AV.closed, Par.closedL]) (WeakL.refl _) ?_ | refine A.callWC c8 rfl rfl rfl rfl weak_full ?_ | refine A.callWC c5 rfl rfl rfl rfl weak_full ?_ | refine A.callWC c6 rfl rfl rfl rfl (WeakL.refl _) ?_ | refine A.callWC c7 rfl rfl rfl (by simp [AV.closedL, AV.closed, Dirc.closedL]) (WeakL.refl _) ?_ | fail
      exact ⟨h1, ⟨rfl, rfl, rfl, rfl, trivial⟩, by simp [belowS, AV.low], wst_below2 _, (congrArg wst2 hn).symm, trivial⟩
  · have d1 : decide ((k : Int) < (l.length : Int)) = false := by simp; omega
    obtain rfl : k = l.length := by omega
    rw [List.take_length] at *
    repeat' first | refine .seq ?_ | refine .rg ?_ | refine .rd ?_ | refine .block ?_ | refine .scope ?_ | refine .skip ?_ | refine .label ?_ | refine .exit ?_ | refine .ret ?_ | refine .ct ?_ | refine .cf ?_ | refine .cy ?_ | refine .cn ?_ | (refine .cond rfl ?_ ?_ <;> intro hc) | refine A.nil_seq ?_ | refine .nl ?_ | refine .dd ?_ | refine .ys ?_ | refine .no ?_ | (refine A.guard rfl ?_ ?_ <;> intro hc) | refine .lb ?_ | refine .ln ?_ | refine .ls ?_ | refine .pv ?_ | refine .ix ?_ | refine .pt ?_ | refine .pf ?_ | refine .bx ?_ | refine .al ?_ | refine .st ?_ | refine .ad ?_ | refine .sb ?_ | refine .cl ?_ | refine .ck ?_ | fail
    exact ⟨rfl, rfl, rfl⟩
def sImpl : Str := [105, 109, 112, 108, 101, 109, 101, 110, 116, 115]
def sType : Str := [116, 121, 112, 101]
def sFace : Str := [105, 110, 116, 101, 114, 102, 97, 99, 101]
def sUnion : Str := [117, 110, 105, 111, 110]
def sEnum : Str := [101, 110, 117, 109]
def sInput : Str := [105, 110, 112, 117, 116]
def sSchema : Str := [115, 99, 104, 101, 109, 97]
def sQuery : Str := [113, 117, 101, 114, 121]
def sMut : Str := [109, 117, 116, 97, 116, 105, 111, 110]
theorem nm_sImpl : nameB sImpl = true := by decide
theorem nm_sType : nameB sType = true := by decide
theorem nm_sFace : nameB sFace = true := by decide
theorem nm_sUnion : nameB sUnion = true := by decide
theorem nm_sEnum : nameB sEnum = true := by decide
theorem nm_sInput : nameB sInput = true := by decide
theorem nm_sSchema : nameB sSchema = true := by decide
theorem nm_sQuery : nameB sQuery = true := by decide
theorem nm_sMut : nameB sMut = true := by decide
theorem lens2 {α β : Type} (a : List α) (b : List β) : ((a.length : Int) + (b.length : Int) == 0) = decide (a = [] ∧ b = []) := by
  rw [Bool.eq_iff_iff, beq_iff_eq, decide_eq_true_eq, ← List.length_eq_zero_iff, ← List.length_eq_zero_iff]
  omega
theorem lens3 {α β γ : Type} (a : List α) (b : List β) (c : List γ) : ((a.length : Int) + (b.length : Int) + (c.length : Int) == 0) = decide (a = [] ∧ b = [] ∧ c = []) := by
  rw [Bool.eq_iff_iff, beq_iff_eq, decide_eq_true_eq, ← List.length_eq_zero_iff, ← List.length_eq_zero_iff, ← List.length_eq_zero_iff]
  omega
def wFaces (d : Dfn) (W : WS) : WS := if d.faces = [] then W else wNames [38] d.faces (wName sImpl W)
def wObj0 (d : Dfn) (W : WS) : WS := wMark [125] (wFlds d.fields (wMark [123] (wFaces d W)))
def wObj (word : Str) (d : Dfn) (W : WS) : WS := wObj0 d (wName d.name (wName word (wNeed (decide (d.fields ≠ []) && decide (d.parts = [] ∧ d.params = [])) W)))
theorem len_faces (d : Dfn) (W : WS) : (wFaces d W).l.length ≤ W.l.length + 4 * strsSize d.faces + 1 := by
  have h := len_names [38] d.faces (wName sImpl W)
  rw [len_name] at h
  unfold wFaces
  split <;> omega
theorem len_obj (word : Str) (d : Dfn) (W : WS) : (wObj word d W).l.length ≤ W.l.length + 8 * d.size := by
  have h1 := len_flds d.fields (wMark [123] (wFaces d (wName d.name (wName word (wNeed (decide (d.fields ≠ []) && decide (d.parts = [] ∧ d.params = [])) W)))))
  have h2 := len_faces d (wName d.name (wName word (wNeed (decide (d.fields ≠ []) && decide (d.parts = [] ∧ d.params = [])) W)))
  rw [len_mark] at h1
  rw [len_name, len_name, len_need] at h2
  unfold wObj wObj0 Dfn.size
  rw [len_mark]; omega
theorem ok_faces (d : Dfn) (W : WS) : (wFaces d W).ok = (W.ok && d.faces.all nameB) := by
  unfold wFaces
  split
  next e => rw [e]; simp
  · rw [ok_names]
    show ((W.ok && nameB sImpl) && _) = _
    rw [nm_sImpl, Bool.and_true]
theorem ok_obj (word : Str) (hw : nameB word = true) (d : Dfn) (W : WS) : (wObj word d W).ok = (W.ok && ((decide (d.fields ≠ []) && decide (d.parts = [] ∧ d.params = [])) && (nameB d.name && (d.faces.all nameB && d.fields.all fldOk)))) := by
  show (wFlds d.fields (wMark [123] (wFaces d (wName d.name (wName word (wNeed (decide (d.fields ≠ []) && decide (d.parts = [] ∧ d.params = [])) W)))))).ok = _
  rw [ok_flds]
  show ((wFaces d (wName d.name (wName word (wNeed (decide (d.fields ≠ []) && decide (d.parts = [] ∧ d.params = [])) W)))).ok && _) = _
  rw [ok_faces]
  show (((((W.ok && (decide (d.fields ≠ []) && decide (d.parts = [] ∧ d.params = []))) && nameB word) && nameB d.name) && d.faces.all nameB) && d.fields.all fldOk) = _
  rw [hw, Bool.and_true]
  simp only [Bool.and_assoc]
theorem cObj (W : WS) (word : Str) (d : Dfn) (hw : word.length ≤ 1048640) (hd : d.size ≤ 1048640) (ho : d.ok) (hW : W.l.length + 8 * d.size + 4 ≤ 1099511627776) : WC 230 (.agg [.ptr 0 0]) [.str word, d.enc] W (wObj word d W) := by
  refine WC.of (AFn.enter [] Tryz.func230 rfl rfl rfl rfl rfl (by decide) ?_)
  have hds : d.size = d.name.length + strsSize d.faces + sumSize Fld.size d.fields + strsSize d.parts + sumSize Par.size d.params + 5 := rfl
  have p1 := sumSize_length (size := fun s : Str => s.length + 1) (fun _ => by omega) d.parts
  have p2 := sumSize_length (size := Par.size) (fun d => by unfold Par.size; omega) d.params
  have p3 : strsSize d.parts = sumSize (fun s : Str => s.length + 1) d.parts + 1 := rfl
  have hl := lens2 d.parts d.params
  have hg := len_pos d.fields
  have hf := len_pos d.faces
  unfold wObj
  rw [← hl]
  have main : ∀ b : Bool, b = (decide (d.fields ≠ []) && ((d.parts.length : Int) + (d.params.length : Int) == 0)) → HCode Tryz.prog Tryz.f230.ntmps [] (bodyOf Tryz.f230) (fin [] (fun e σ1 => e = .ret (.tup []) ∧ σ1.B.take 1 = [.cells (wObj0 d (wName d.name (wName word (wNeed b W)))).cs] ∧ σ1.T.take 1 = [.len (wObj0 d (wName d.name (wName word (wNeed b W)))).l.length]))
      (argSlots 0 [.agg [.ptr 0 0], .str word, d.enc]) ⟨[.cells W.cs], [.len W.l.length]⟩ := fun b hb => by
    have c1 := cNeed W b
    have c2 := cName (wNeed b W) word hw (by rw [len_need]; omega)
    have c3 := cName (wName word (wNeed b W)) d.name (by omega) (by rw [len_name, len_need]; omega)
    have l3 : (wName d.name (wName word (wNeed b W))).l.length = W.l.length + 2 := by rw [len_name, len_name, len_need]
    generalize hW2 : wName d.name (wName word (wNeed b W)) = W2 at *
    have l4 := len_faces d W2
    have c6 := cMark (wFaces d W2) [123] (by omega)
    have c7 := cFlds (wMark [123] (wFaces d W2)) d.fields (by omega) ho.1 (by rw [len_mark]; omega)
    have l7 := len_flds d.fields (wMark [123] (wFaces d W2))
    rw [len_mark] at l7
    have c8 := cMark (wFlds d.fields (wMark [123] (wFaces d W2))) [125] (by omega)
    unfold wObj0
    by_cases hpos : decide (d.faces ≠ []) = false
    · have d2 : decide (0 < (d.faces.length : Int)) = false := by rw [hf]; exact hpos
      rw [show wFaces d W2 = _ from if_pos (by simpa using hpos)] at c6 c7 c8 ⊢
      have c4 := cName W2 sImpl (by decide) (by omega)
      have c5 := cNames (wName sImpl W2) [38] d.faces (by omega) (by rw [len_name]; omega)
      cases hB : decide (d.fields ≠ []) with
      | false =>
        have d1 : decide (0 < (d.fields.length : Int)) = false := by rw [hg]; exact hB
        rw [hB] at hb
        obtain rfl : b = false := hb
        repeat' first | refine .br ?_ | refine .seq ?_ | refine .rg ?_ | refine .rd ?_ | refine .block ?_ | refine .scope ?_ | refine .skip ?_ | refine .label ?_ | refine .exit ?_ | refine .ret ?_ | refine .ct ?_ | refine .cf ?_ | refine .cy ?_ | refine .cn ?_ | (refine .cond rfl ?_ ?_ <;> intro hc) | refine A.nil_seq ?_ | refine .nl ?_ | refine .dd ?_ | refine .ys ?_ | refine .no ?_ | (refine A.guard rfl ?_ ?_ <;> intro hc) | refine .lb ?_ | refine .ln ?_ | refine .ls ?_ | refine .pv ?_ | refine .ix ?_ | refine .pt ?_ | refine .pf ?_ | refine .bx ?_ | refine .al ?_ | refine .st ?_ | refine .ad ?_ | refine .sb ?_ | refine .cl ?_ | refine .ck ?_ | refine A.callWC c1 rfl rfl rfl rfl (WeakL.refl _) ?_ | refine A.callWC c2 rfl rfl rfl rfl (WeakL.refl _) ?_ | refine A.callWC c3 rfl rfl rfl rfl (WeakL.refl _) ?_ | refine A.callWC c4 rfl rfl rfl rfl (WeakL.refl _) ?_ | refine A.callWC c5 rfl rfl rfl (by simp [AV.closedL, AV.closed, str_closedL]) (WeakL.refl _) ?_ | refine A.callWC c6 rfl rfl rfl rfl weak_full ?_ | refine A.callWC c7 rfl rfl rfl (by simp [AV.closedL, AV.closed, Fld.closedL]) (WeakL.refl _) ?_ | refine A.callWC c8 rfl rfl rfl rfl weak_full ?_ | fail
        exact ⟨rfl, rfl, rfl⟩
      | true =>
        have d1 : decide (0 < (d.fields.length : Int)) = true := by rw [hg]; exact hB
        rw [hB] at hb
        obtain rfl : b = ((d.parts.length : Int) + (d.params.length : Int) == 0) := hb
        repeat' first | refine .br ?_ | refine .seq ?_ | refine .rg ?_ | refine .rd ?_ | refine .block ?_ | refine .scope ?_ | refine .skip ?_ | refine .label ?_ | refine .exit ?_ | refine .ret ?_ | refine .ct ?_ | refine .cf ?_ | refine .cy ?_ | refine .cn ?_ | (refine .cond rfl ?_ ?_ <;> intro hc) | refine A.nil_seq ?_ | refine .nl ?_ | refine .dd ?_ | refine .ys ?_ | refine .no ?_ | (refine A.guard rfl ?_ ?_ <;> intro hc) | refine .lb ?_ | refine .ln ?_ | refine .ls ?_ | refine .pv ?_ | refine .ix ?_ | refine .pt ?_ | refine .pf ?_ | refine .bx ?_ | refine .al ?_ | refine .st ?_ | refine .ad ?_ | refine .sb ?_ | refine .cl ?_ | refine .ck ?_ | refine A.callWC c1 rfl rfl rfl rfl (WeakL.refl _) ?_ | refine A.callWC c2 rfl rfl rfl rfl (WeakL.refl _) ?_ | refine A.callWC c3 rfl rfl rfl rfl (WeakL.refl _) ?_ | refine A.callWC c4 rfl rfl rfl rfl (WeakL.refl _) ?_ | refine A.callWC c5 rfl rfl rfl (by simp [AV.closedL, AV.closed, str_closedL]) (WeakL.refl _) ?_ | refine A.callWC c6 rfl rfl rfl rfl weak_full ?_ | refine A.callWC c7 rfl rfl rfl (by simp [AV.closedL, AV.closed, Fld.closedL]) (WeakL.refl _) ?_ | refine A.callWC c8 rfl rfl rfl rfl weak_full ?_ | fail
        exact ⟨rfl, rfl, rfl⟩
    by_cases hneg : decide (d.faces ≠ []) = true
    · have d2 : decide (0 < (d.faces.length : Int)) = true := by rw [hf]; exact hneg
      rw [show wFaces d W2 = _ from if_neg (by simpa using hneg)] at c6 c7 c8 ⊢
      have c4 := cName W2 sImpl (by decide) (by omega)
      have c5 := cNames (wName sImpl W2) [38] d.faces (by omega) (by rw [len_name]; omega)
      cases hB : decide (d.fields ≠ []) with
      | false =>
        have d1 : decide (0 < (d.fields.length : Int)) = false := by rw [hg]; exact hB
        rw [hB] at hb
        obtain rfl : b = false := hb
        repeat' first | refine .br ?_ | refine .seq ?_ | refine .rg ?_ | refine .rd ?_ | refine .block ?_ | refine .scope ?_ | refine .skip ?_ | refine .label ?_ | refine .exit ?_ | refine .ret ?_ | refine .ct ?_ | refine .cf ?_ | refine .cy ?_ | refine .cn ?_ | (refine .cond rfl ?_ ?_ <;> intro hc) | refine A.nil_seq ?_ | refine .nl ?_ | refine .dd ?_ | refine .ys ?_ | refine .no ?_ | (refine A.guard rfl ?_ ?_ <;> intro hc) | refine .lb ?_ | refine .ln ?_ | refine .ls ?_ | refine .pv ?_ | refine .ix ?_ | refine .pt ?_ | refine .pf ?_ | refine .bx ?_ | refine .al ?_ | refine .st ?_ | refine .ad ?_ | refine .sb ?_ | refine .cl ?_ | refine .ck ?_ | refine A.callWC c1 rfl rfl rfl rfl (WeakL.refl _) ?_ | refine A.callWC c2 rfl rfl rfl rfl (WeakL.refl _) ?_ | refine A.callWC c3 rfl rfl rfl rfl (WeakL.refl _) ?_ | refine A.callWC c4 rfl rfl rfl rfl (WeakL.refl _) ?_ | refine A.callWC c5 rfl rfl rfl (by simp [AV.closedL, AV.closed, str_closedL]) (WeakL.refl _) ?_ | refine A.callWC c6 rfl rfl rfl rfl weak_full ?_ | refine A.callWC c7 rfl rfl rfl (by simp [AV.closedL, AV.closed, Fld.closedL]) (WeakL.refl _) ?_ | refine A.callWC c8 rfl rfl rfl rfl weak_full ?_ | fail
        exact ⟨rfl, rfl, rfl⟩
      | true =>
        have d1 : decide (0 < (d.fields.length : Int)) = true := by rw [hg]; exact hB
        rw [hB] at hb
        obtain rfl : b = ((d.parts.length : Int) + (d.params.length : Int) == 0) := hb
        repeat' first | refine .br ?_ | refine .seq ?_ | refine .rg ?_ | refine .rd ?_ | refine .block ?_ | refine .scope ?_ | refine .skip ?_ | refine .label ?_ | refine .exit ?_ | refine .ret ?_ | refine .ct ?_ | refine .cf ?_ | refine .cy ?_ | refine .cn ?_ | (refine .cond rfl ?_ ?_ <;> intro hc) | refine A.nil_seq ?_ | refine .nl ?_ | refine .dd ?_ | refine .ys ?_ | refine .no ?_ | (refine A.guard rfl ?_ ?_ <;> intro hc) | refine .lb ?_ | refine .ln ?_ | refine .ls ?_ | refine .pv ?_ | refine .ix ?_ | refine .pt ?_ | refine .pf ?_ | refine .bx ?_ | refine .al ?_ | refine .st ?_ | refine .ad ?_ | refine .sb ?_ | refine .cl ?_ | refine .ck ?_ | refine A.callWC c1 rfl rfl rfl rfl (WeakL.refl _) ?_ | refine A.callWC c2 rfl rfl rfl rfl (WeakL.refl _) ?_ | refine A.callWC c3 rfl rfl rfl rfl (WeakL.refl _) ?_ | refine A.callWC c4 rfl rfl rfl rfl (WeakL.refl _) ?_ | refine A.callWC c5 rfl rfl rfl (by simp [AV.closedL, AV.closed, str_closedL]) (WeakL.refl _) ?_ | refine A.callWC c6 rfl rfl rfl rfl weak_full ?_ | refine A.callWC c7 rfl rfl rfl (by simp [AV.closedL, AV.closed, Fld.closedL]) (WeakL.refl _) ?_ | refine A.callWC c8 rfl rfl rfl rfl weak_full ?_ | fail
        exact ⟨rfl, rfl, rfl⟩
    exfalso
    cases h : decide (d.faces ≠ []) <;> simp_all
  exact main _ rfl
theorem lBare (s : Sch) (name : Str) (v : Val) (hs : s.size ≤ 68719476736) (hv : v.size ≤ 68719476736)
    (ih : ∀ x ∈ v.m, ∀ t : Typ, t.name.length ≤ 68719476736 → PFn Tryz.prog 53 [s.enc, t.enc, x.v.enc, .bool false] (.bool (fitsV s x.v t false))) :
    PFn Tryz.prog 101 [s.enc, .str name, v.enc] (.bool (bareV s name v)) := by
  have hf := dFind s name hs
  have hsz := findR_size (name := name) hs
  have hin := lInput s (findR s name).1.params v hs hsz.1 hsz.2.2.2.2 hv ih
  have hct := sContainsStr (findR s name).1.parts v.s (by omega)
  refine AFn.plain rfl (by simp [AV.closed, AV.closedL, Sch.closed, Val.closed]) (AFn.enter [6] Tryz.func101 rfl rfl rfl rfl rfl (by decide) ?_)
  unfold bareV bareB
  unfold inputB at hin
  cases hfo : findO s name with
  | none =>
    have e : findR s name = (zeroD, false) := by rw [findR, hfo]
    rw [e] at hf
    repeat' first | refine .br ?_ | refine .seq ?_ | refine .rg ?_ | refine .rd ?_ | refine .block ?_ | refine .scope ?_ | refine .skip ?_ | refine .label ?_ | refine .exit ?_ | refine .ret ?_ | refine .ct ?_ | refine .cf ?_ | refine .cy ?_ | refine .cn ?_ | (refine .cond rfl ?_ ?_ <;> intro hc) | refine A.nil_seq ?_ | refine .nl ?_ | refine .dd ?_ | refine .ys ?_ | refine .no ?_ | (refine A.guard rfl ?_ ?_ <;> intro hc) | refine .lb ?_ | refine .ln ?_ | refine .ls ?_ | refine .pv ?_ | refine .ix ?_ | refine .pt ?_ | refine .pf ?_ | refine .bx ?_ | refine .al ?_ | refine .st ?_ | refine .ad ?_ | refine .sb ?_ | refine .mf ?_ | refine .cl ?_ | refine .cw ?_ | refine .ck ?_ | fail
    exact Fin.ret1 rfl (Weak.refl _)
  | some d =>
    have e : findR s name = (d, true) := by rw [findR, hfo]
    rw [e] at hf hin hct
    simp only at hf hin hct ⊢
    by_cases k4 : d.kind = 4
    · have q4 : (d.kind == 4) = true := by rw [k4]; rfl
      rw [if_pos k4]
      repeat' first | refine .br ?_ | refine .seq ?_ | refine .rg ?_ | refine .rd ?_ | refine .block ?_ | refine .scope ?_ | refine .skip ?_ | refine .label ?_ | refine .exit ?_ | refine .ret ?_ | refine .ct ?_ | refine .cf ?_ | refine .cy ?_ | refine .cn ?_ | (refine .cond rfl ?_ ?_ <;> intro hc) | refine A.nil_seq ?_ | refine .nl ?_ | refine .dd ?_ | refine .ys ?_ | refine .no ?_ | (refine A.guard rfl ?_ ?_ <;> intro hc) | refine .lb ?_ | refine .ln ?_ | refine .ls ?_ | refine .pv ?_ | refine .ix ?_ | refine .pt ?_ | refine .pf ?_ | refine .bx ?_ | refine .al ?_ | refine .st ?_ | refine .ad ?_ | refine .sb ?_ | refine .mf ?_ | refine .cl ?_ | refine .cw ?_ | refine .ck ?_ | fail
      all_goals
        refine Fin.ret1 rfl (Weak.eq (congrArg AV.bool ?_))
        simp_all
    · have q4 : (d.kind == 4) = false := by simp [k4]
      rw [if_neg k4]
      by_cases k5 : d.kind = 5
      · have q5 : (d.kind == 5) = true := by rw [k5]; rfl
        rw [if_pos k5]
        repeat' first | refine .br ?_ | refine .seq ?_ | refine .rg ?_ | refine .rd ?_ | refine .block ?_ | refine .scope ?_ | refine .skip ?_ | refine .label ?_ | refine .exit ?_ | refine .ret ?_ | refine .ct ?_ | refine .cf ?_ | refine .cy ?_ | refine .cn ?_ | (refine .cond rfl ?_ ?_ <;> intro hc) | refine A.nil_seq ?_ | refine .nl ?_ | refine .dd ?_ | refine .ys ?_ | refine .no ?_ | (refine A.guard rfl ?_ ?_ <;> intro hc) | refine .lb ?_ | refine .ln ?_ | refine .ls ?_ | refine .pv ?_ | refine .ix ?_ | refine .pt ?_ | refine .pf ?_ | refine .bx ?_ | refine .al ?_ | refine .st ?_ | refine .ad ?_ | refine .sb ?_ | refine .mf ?_ | refine .cl ?_ | refine .cw ?_ | refine .ck ?_ | fail
        exact Fin.ret1 rfl (Weak.refl _)
      · have q5 : (d.kind == 5) = false := by simp [k5]
        rw [if_neg k5]
        by_cases k0 : d.kind = 0
        · have q0 : (d.kind != 0) = false := by simp [k0]
          rw [if_pos k0]
          unfold scalFit
          repeat' first | refine .br ?_ | refine .seq ?_ | refine .rg ?_ | refine .rd ?_ | refine .block ?_ | refine .scope ?_ | refine .skip ?_ | refine .label ?_ | refine .exit ?_ | refine .ret ?_ | refine .ct ?_ | refine .cf ?_ | refine .cy ?_ | refine .cn ?_ | (refine .cond rfl ?_ ?_ <;> intro hc) | refine A.nil_seq ?_ | refine .nl ?_ | refine .dd ?_ | refine .ys ?_ | refine .no ?_ | (refine A.guard rfl ?_ ?_ <;> intro hc) | refine .lb ?_ | refine .ln ?_ | refine .ls ?_ | refine .pv ?_ | refine .ix ?_ | refine .pt ?_ | refine .pf ?_ | refine .bx ?_ | refine .al ?_ | refine .st ?_ | refine .ad ?_ | refine .sb ?_ | refine .mf ?_ | refine .cl ?_ | refine .cw ?_ | refine .ck ?_ | fail
          all_goals
            refine Fin.ret1 rfl (Weak.eq (congrArg AV.bool ?_))
            simp only [sInt, sString, sBoolean, sID]
            first | (simp_all; done) | (simp_all <;> omega)
        · have q0 : (d.kind != 0) = true := by simp [k0]
          rw [if_neg k0]
          repeat' first | refine .br ?_ | refine .seq ?_ | refine .rg ?_ | refine .rd ?_ | refine .block ?_ | refine .scope ?_ | refine .skip ?_ | refine .label ?_ | refine .exit ?_ | refine .ret ?_ | refine .ct ?_ | refine .cf ?_ | refine .cy ?_ | refine .cn ?_ | (refine .cond rfl ?_ ?_ <;> intro hc) | refine A.nil_seq ?_ | refine .nl ?_ | refine .dd ?_ | refine .ys ?_ | refine .no ?_ | (refine A.guard rfl ?_ ?_ <;> intro hc) | refine .lb ?_ | refine .ln ?_ | refine .ls ?_ | refine .pv ?_ | refine .ix ?_ | refine .pt ?_ | refine .pf ?_ | refine .bx ?_ | refine .al ?_ | refine .st ?_ | refine .ad ?_ | refine .sb ?_ | refine .mf ?_ | refine .cl ?_ | refine .cw ?_ | refine .ck ?_ | fail
          exact Fin.ret1 rfl (Weak.refl _)
theorem lFits (s : Sch) (hs : s.size ≤ 68719476736) : ∀ N : Nat, N ≤ 68719476736 → ∀ v : Val, v.size ≤ N → ∀ j : Nat, ∀ t : Typ, t.lists.toNat = j → t.name.length ≤ 68719476736 → ∀ w : Bool,
    PFn Tryz.prog 53 [s.enc, t.enc, v.enc, .bool w] (.bool (fitsV s v t w))
  | 0, _, v, hv => absurd hv (by have := v.size_pos; omega)
  | N + 1, hN, v, hv => by
    have ih := lFits s hs N (by omega)
    have hbare := lBare s
    have hll := v.l_len
    intro j
    induction j with
    | zero =>
      intro t hj ht w
      have hr := wRight t (by omega)
      have his := wIs t (by omega)
      have hit := wItem t (by omega)
      have hb := lBare s t.name v hs (by omega) (fun x hx u hu => ih x.v (by
        obtain ⟨k, hk, rfl⟩ := List.getElem_of_mem hx
        have := Val.size_m hk; omega) _ u rfl hu false)
      refine AFn.plain rfl (by simp [AV.closed, AV.closedL, Sch.closed, Val.closed, Typ.closed]) (AFn.enter [8] Tryz.func53 rfl rfl rfl rfl rfl (by decide) ?_)
      rw [fitsV_eq]
      unfold itemR at hit
      cases c : rightT t with
      | false =>
        rw [c] at hr
        repeat' first | refine .br ?_ | refine .seq ?_ | refine .rg ?_ | refine .rd ?_ | refine .block ?_ | refine .scope ?_ | refine .skip ?_ | refine .label ?_ | refine .exit ?_ | refine .ret ?_ | refine .ct ?_ | refine .cf ?_ | refine .cy ?_ | refine .cn ?_ | (refine .cond rfl ?_ ?_ <;> intro hc) | refine A.nil_seq ?_ | refine .nl ?_ | refine .dd ?_ | refine .ys ?_ | refine .no ?_ | (refine A.guard rfl ?_ ?_ <;> intro hc) | refine .lb ?_ | refine .ln ?_ | refine .ls ?_ | refine .pv ?_ | refine .ix ?_ | refine .pt ?_ | refine .pf ?_ | refine .bx ?_ | refine .al ?_ | refine .st ?_ | refine .ad ?_ | refine .sb ?_ | refine .mf ?_ | refine .cl ?_ | refine .cw ?_ | refine .ck ?_ | fail
        all_goals
          refine Fin.ret1 rfl (Weak.eq (congrArg AV.bool ?_))
          simp_all
      | true =>
        have hl0 : t.lists = 0 := by have := (rightT_iff.1 c).2.1; omega
        rw [c] at hr
        rw [if_neg (fun h => h.2 hl0)] at hit
        rw [if_pos hl0]
        repeat' first | refine .br ?_ | refine .seq ?_ | refine .rg ?_ | refine .rd ?_ | refine .block ?_ | refine .scope ?_ | refine .skip ?_ | refine .label ?_ | refine .exit ?_ | refine .ret ?_ | refine .ct ?_ | refine .cf ?_ | refine .cy ?_ | refine .cn ?_ | (refine .cond rfl ?_ ?_ <;> intro hc) | refine A.nil_seq ?_ | refine .nl ?_ | refine .dd ?_ | refine .ys ?_ | refine .no ?_ | (refine A.guard rfl ?_ ?_ <;> intro hc) | refine .lb ?_ | refine .ln ?_ | refine .ls ?_ | refine .pv ?_ | refine .ix ?_ | refine .pt ?_ | refine .pf ?_ | refine .bx ?_ | refine .al ?_ | refine .st ?_ | refine .ad ?_ | refine .sb ?_ | refine .mf ?_ | refine .cl ?_ | refine .cw ?_ | refine .ck ?_ | fail
        all_goals
          refine Fin.ret1 rfl (Weak.eq (congrArg AV.bool ?_))
          simp_all
    | succ j ihj =>
      intro t hj ht w
      have hr := wRight t (by omega)
      have his := wIs t (by omega)
      have hit := wItem t (by omega)
      have hl0 : t.lists ≠ 0 := by omega
      have hdown := ihj (itemT t) (by show (t.lists - 1).toNat = j; omega) ht false
      refine AFn.plain rfl (by simp [AV.closed, AV.closedL, Sch.closed, Val.closed, Typ.closed]) (AFn.enter [8] Tryz.func53 rfl rfl rfl rfl rfl (by decide) ?_)
      unfold itemR at hit
      cases c : rightT t with
      | false =>
        rw [c] at hr
        rw [fitsV_eq]
        repeat' first | refine .br ?_ | refine .seq ?_ | refine .rg ?_ | refine .rd ?_ | refine .block ?_ | refine .scope ?_ | refine .skip ?_ | refine .label ?_ | refine .exit ?_ | refine .ret ?_ | refine .ct ?_ | refine .cf ?_ | refine .cy ?_ | refine .cn ?_ | (refine .cond rfl ?_ ?_ <;> intro hc) | refine A.nil_seq ?_ | refine .nl ?_ | refine .dd ?_ | refine .ys ?_ | refine .no ?_ | (refine A.guard rfl ?_ ?_ <;> intro hc) | refine .lb ?_ | refine .ln ?_ | refine .ls ?_ | refine .pv ?_ | refine .ix ?_ | refine .pt ?_ | refine .pf ?_ | refine .bx ?_ | refine .al ?_ | refine .st ?_ | refine .ad ?_ | refine .sb ?_ | refine .mf ?_ | refine .cl ?_ | refine .cw ?_ | refine .ck ?_ | fail
        all_goals
          refine Fin.ret1 rfl (Weak.eq (congrArg AV.bool ?_))
          simp_all
      | true =>
        rw [c] at hr
        rw [if_pos ⟨c, hl0⟩] at hit
        by_cases k8 : v.kind = 8
        · have q8 : (v.kind == 8) = true := by simp [k8]
          rw [fitsV_eq, if_pos k8]
          repeat' first | refine .br ?_ | refine .seq ?_ | refine .rg ?_ | refine .rd ?_ | refine .block ?_ | refine .scope ?_ | refine .skip ?_ | refine .label ?_ | refine .exit ?_ | refine .ret ?_ | refine .ct ?_ | refine .cf ?_ | refine .cy ?_ | refine .cn ?_ | (refine .cond rfl ?_ ?_ <;> intro hc) | refine A.nil_seq ?_ | refine .nl ?_ | refine .dd ?_ | refine .ys ?_ | refine .no ?_ | (refine A.guard rfl ?_ ?_ <;> intro hc) | refine .lb ?_ | refine .ln ?_ | refine .ls ?_ | refine .pv ?_ | refine .ix ?_ | refine .pt ?_ | refine .pf ?_ | refine .bx ?_ | refine .al ?_ | refine .st ?_ | refine .ad ?_ | refine .sb ?_ | refine .mf ?_ | refine .cl ?_ | refine .cw ?_ | refine .ck ?_ | fail
          exact Fin.ret1 rfl (Weak.eq (congrArg AV.bool c.symm))
        · have q8 : (v.kind == 8) = false := by simp [k8]
          by_cases k0 : v.kind = 0
          · have q0 : (v.kind == 0) = true := by simp [k0]
            rw [fits_null k0]
            repeat' first | refine .br ?_ | refine .seq ?_ | refine .rg ?_ | refine .rd ?_ | refine .block ?_ | refine .scope ?_ | refine .skip ?_ | refine .label ?_ | refine .exit ?_ | refine .ret ?_ | refine .ct ?_ | refine .cf ?_ | refine .cy ?_ | refine .cn ?_ | (refine .cond rfl ?_ ?_ <;> intro hc) | refine A.nil_seq ?_ | refine .nl ?_ | refine .dd ?_ | refine .ys ?_ | refine .no ?_ | (refine A.guard rfl ?_ ?_ <;> intro hc) | refine .lb ?_ | refine .ln ?_ | refine .ls ?_ | refine .pv ?_ | refine .ix ?_ | refine .pt ?_ | refine .pf ?_ | refine .bx ?_ | refine .al ?_ | refine .st ?_ | refine .ad ?_ | refine .sb ?_ | refine .mf ?_ | refine .cl ?_ | refine .cw ?_ | refine .ck ?_ | fail
            all_goals
              refine Fin.ret1 rfl (Weak.eq (congrArg AV.bool ?_))
              simp_all
          · have q0 : (v.kind == 0) = false := by simp [k0]
            by_cases k6 : v.kind = 6
            · have q6 : (v.kind != 6) = false := by simp [k6]
              rw [fitsV_list k6 c hl0]
              repeat' first | refine .br ?_ | refine .seq ?_ | refine .rg ?_ | refine .rd ?_ | refine .block ?_ | refine .scope ?_ | refine .skip ?_ | refine .label ?_ | refine .exit ?_ | refine .ret ?_ | refine .ct ?_ | refine .cf ?_ | refine .cy ?_ | refine .cn ?_ | (refine .cond rfl ?_ ?_ <;> intro hc) | refine A.nil_seq ?_ | refine .nl ?_ | refine .dd ?_ | refine .ys ?_ | refine .no ?_ | (refine A.guard rfl ?_ ?_ <;> intro hc) | refine .lb ?_ | refine .ln ?_ | refine .ls ?_ | refine .pv ?_ | refine .ix ?_ | refine .pt ?_ | refine .pf ?_ | refine .bx ?_ | refine .al ?_ | refine .st ?_ | refine .ad ?_ | refine .sb ?_ | refine .mf ?_ | refine .cl ?_ | refine .cw ?_ | refine .ck ?_ | fail
              refine HCode.forK v.l.length (fun k => [(59, .int .i64 k), (58, .int .i64 v.lv.length), (57, .slice v.lv .no), (4, .rptr s.enc), (9, .ptr 0 0)])
                (fun _ => ⟨[.cells [.str t.name, .int .i64 (t.lists - 1), .int .i64 (t.musts / 2)]], []⟩) (fun k => fitsL s v.l (itemT t) = fitsL s (v.l.drop k) (itemT t)) ⟨rfl, rfl, rfl, rfl, rfl, trivial⟩ rfl rfl fun k hk hp => ?_
              by_cases h1 : k < v.l.length
              · have d1 : decide ((k : Int) < (v.lv.length : Int)) = true := by rw [v.lv_len]; simp [h1]
                have x1 := Val.lv_get h1
                have hc1 := ih v.l[k] (by have := Val.size_l h1; omega) _ (itemT t) rfl ht true
                have hd := fitsL_drop (s := s) (t := itemT t) h1
                repeat' first | refine .seq ?_ | refine .rg ?_ | refine .rd ?_ | refine .block ?_ | refine .scope ?_ | refine .skip ?_ | refine .label ?_ | refine .exit ?_ | refine .ret ?_ | refine .ct ?_ | refine .cf ?_ | refine .cy ?_ | refine .cn ?_ | (refine .cond rfl ?_ ?_ <;> intro hc) | refine A.nil_seq ?_ | refine .nl ?_ | refine .dd ?_ | refine .ys ?_ | refine .no ?_ | (refine A.guard rfl ?_ ?_ <;> intro hc) | refine .lb ?_ | refine .ln ?_ | refine .ls ?_ | refine .pv ?_ | refine .ix ?_ | refine .pt ?_ | refine .pf ?_ | refine .bx ?_ | refine .al ?_ | refine .st ?_ | refine .ad ?_ | refine .sb ?_ | refine .mf ?_ | refine .cl ?_ | refine .cw ?_ | refine .ck ?_ | fail
                all_goals first | (refine Fin.ret1 rfl (Weak.eq (congrArg AV.bool ?_)); rw [hp, hd]; simp_all; done) | (exact ⟨h1, ⟨rfl, rfl, rfl, rfl, rfl, trivial⟩, by simp [belowS, AV.low], rfl, rfl, by rw [hp, hd]; simp_all⟩)
              · have d1 : decide ((k : Int) < (v.lv.length : Int)) = false := by rw [v.lv_len]; simp; omega
                repeat' first | refine .seq ?_ | refine .rg ?_ | refine .rd ?_ | refine .block ?_ | refine .scope ?_ | refine .skip ?_ | refine .label ?_ | refine .exit ?_ | refine .ret ?_ | refine .ct ?_ | refine .cf ?_ | refine .cy ?_ | refine .cn ?_ | (refine .cond rfl ?_ ?_ <;> intro hc) | refine A.nil_seq ?_ | refine .nl ?_ | refine .dd ?_ | refine .ys ?_ | refine .no ?_ | (refine A.guard rfl ?_ ?_ <;> intro hc) | refine .lb ?_ | refine .ln ?_ | refine .ls ?_ | refine .pv ?_ | refine .ix ?_ | refine .pt ?_ | refine .pf ?_ | refine .bx ?_ | refine .al ?_ | refine .st ?_ | refine .ad ?_ | refine .sb ?_ | refine .mf ?_ | refine .cl ?_ | refine .cw ?_ | refine .ck ?_ | fail
                refine Fin.ret1 rfl (Weak.eq (congrArg AV.bool ?_))
                rw [hp, List.drop_eq_nil_of_le (by omega), fitsL]
            · have q6 : (v.kind != 6) = true := by simp [k6]
              rw [fitsV_down k8 k0 k6 c hl0]
              repeat' first | refine .br ?_ | refine .seq ?_ | refine .rg ?_ | refine .rd ?_ | refine .block ?_ | refine .scope ?_ | refine .skip ?_ | refine .label ?_ | refine .exit ?_ | refine .ret ?_ | refine .ct ?_ | refine .cf ?_ | refine .cy ?_ | refine .cn ?_ | (refine .cond rfl ?_ ?_ <;> intro hc) | refine A.nil_seq ?_ | refine .nl ?_ | refine .dd ?_ | refine .ys ?_ | refine .no ?_ | (refine A.guard rfl ?_ ?_ <;> intro hc) | refine .lb ?_ | refine .ln ?_ | refine .ls ?_ | refine .pv ?_ | refine .ix ?_ | refine .pt ?_ | refine .pf ?_ | refine .bx ?_ | refine .al ?_ | refine .st ?_ | refine .ad ?_ | refine .sb ?_ | refine .mf ?_ | refine .cl ?_ | refine .cw ?_ | refine .ck ?_ | fail
              all_goals
                refine Fin.ret1 rfl (Weak.eq (congrArg AV.bool ?_))
                simp_all
theorem lRight (s : Sch) (t : Typ) (v : Val) (hs : s.size ≤ 68719476736) (ht : t.name.length ≤ 68719476736) (hv : v.size ≤ 68719476736) : PFn Tryz.prog 22 [s.enc, t.enc, v.enc] (.bool (litR s t v)) := by
  have hg := vGood v hv
  have hf := lFits s hs 68719476736 (Nat.le_refl _) v hv _ t rfl ht false
  refine AFn.plain rfl (by simp [AV.closed, AV.closedL, Sch.closed, Val.closed, Typ.closed]) (AFn.enter [6] Tryz.func22 rfl rfl rfl rfl rfl (by decide) ?_)
  unfold litR
  repeat' first | refine .br ?_ | refine .seq ?_ | refine .rg ?_ | refine .rd ?_ | refine .block ?_ | refine .scope ?_ | refine .skip ?_ | refine .label ?_ | refine .exit ?_ | refine .ret ?_ | refine .ct ?_ | refine .cf ?_ | refine .cy ?_ | refine .cn ?_ | (refine .cond rfl ?_ ?_ <;> intro hc) | refine A.nil_seq ?_ | refine .nl ?_ | refine .dd ?_ | refine .ys ?_ | refine .no ?_ | (refine A.guard rfl ?_ ?_ <;> intro hc) | refine .lb ?_ | refine .ln ?_ | refine .ls ?_ | refine .pv ?_ | refine .ix ?_ | refine .pt ?_ | refine .pf ?_ | refine .bx ?_ | refine .al ?_ | refine .st ?_ | refine .ad ?_ | refine .sb ?_ | refine .mf ?_ | refine .cl ?_ | refine .cw ?_ | refine .ck ?_ | fail
  all_goals
    refine Fin.ret1 rfl (Weak.eq (congrArg AV.bool ?_))
    simp_all
end Go.Proofs.YtegakkonlhmeaaaGreatDoor
